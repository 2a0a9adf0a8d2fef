/- Walks, printed by a program of mine: each function of the program computes the typed function of its name. Conditions: none. -/
import Derived.Test.YtjidbmelmcmmhabWWireRowTurned2
namespace Go.Ark
open Go Go.Ab Go.RowKit Go.Lib Go.Proofs

set_option maxRecDepth 20000 in
set_option maxHeartbeats 2000000 in
theorem ct_ref02_Runes (s_0 : ByteArray) (r : Int) (hF : ref02_Runes s_0 = some r) : Ct Try.prog 62 [.g (.d (vS s_0))] (.one (.d (vI r))) := by
  unfold ref02_Runes at hF
  refine Ct.intro Try.func62 rfl Try.ntmps62 rfl rfl fun M w => ?_
  refine G.seq ?_
  refine G.region ?_
  refine G.op1 (op_assign (Ev.c _ rfl) rfl) rfl trivial trivial ?_
  refine G.endOps ?_
  refine G.seq ?_
  refine G.region ?_
  refine G.op1 (op_assign (Ev.c _ rfl) rfl) rfl trivial trivial ?_
  refine G.endOps ?_
  refine G.seq ?_
  refine G.seq ?_
  refine G.region ?_
  refine G.op1 (op_assign (Ev.c _ rfl) rfl) rfl trivial trivial ?_
  refine G.endOps ?_
  refine G.joinC (T := Int) (fun y1 => ⟨[(3, oI y1)], []⟩) (fun y1 => ref02_Runes_k1 y1 = some r) (fun y1 hF => ?_) (fun J2 => ?_)
  · unfold ref02_Runes_k1 at hF
    refine G.seq ?_
    refine G.region ?_
    refine G.op1 (op_move (Ev.t 3 (bI .i64 y1)) rfl) rfl ⟨rfl, trivial⟩ trivial ?_
    refine G.op1 (op_assign (Ev.t 99 (bI .i64 y1)) rfl) rfl ⟨rfl, trivial⟩ trivial ?_
    refine G.endOps ?_
    cases hF
    exact G.ret1 Try.results62 (RVar.tmp 2 _) ⟨rfl, trivial⟩ trivial
  refine G.block ?_
  refine G.keep (sl' := [(0, oS s_0), (3, oI 0), (4, oI 0)]) (hp' := []) ⟨rfl, rfl, rfl, trivial⟩ trivial rfl ?_
  refine G.loopF (fun (v3 : Int × Int) => ⟨[(0, oS s_0), (3, oI v3.1), (4, oI v3.2)], []⟩) hF rfl (fun K6 again5 v3 J4 hF => ?_)
  unfold ref02_Runes_l2 at hF
  refine G.seq ?_
  refine G.seq ?_
  refine G.region ?_
  refine G.op1 (op_move (Ev.t 4 (bI .i64 v3.2)) rfl) rfl ⟨rfl, trivial⟩ trivial ?_
  refine G.op1 (op_move (Ev.t 0 (bS s_0)) rfl) rfl ⟨rfl, trivial⟩ trivial ?_
  refine G.op1 (op_lenS Try.underlying9 (Ev.t 8 (bS s_0)) rfl) rfl ⟨rfl, trivial⟩ trivial ?_
  refine G.op1 (op_lss (Ev.t 7 (bI .i64 v3.2)) (Ev.t 9 (bI .i64 (s_0.size : Int))) rfl) rfl ⟨rfl, rfl, trivial⟩ trivial ?_
  refine G.endOps ?_
  refine ifS hF (fun hc7 hF => ?_) (fun hc7 hF => ?_)
  · refine G.cond rfl (fun _ => ?_) (fun hx => by rw [hc7] at hx; cases hx)
    refine G.skip ?_
    refine G.block ?_
    refine G.seq ?_
    refine G.region ?_
    refine G.op1 (op_move (Ev.t 0 (bS s_0)) rfl) rfl ⟨rfl, trivial⟩ trivial ?_
    refine G.op1 (op_move (Ev.t 4 (bI .i64 v3.2)) rfl) rfl ⟨rfl, trivial⟩ trivial ?_
    obtain ⟨b8, hb8, hF⟩ := bindS hF
    refine G.op1 (op_indexS Try.underlying9 (sidx_ok hb8).1 (sidx_ok hb8).2 (Ev.t 11 (bS s_0)) (Ev.t 12 (bI .i64 v3.2)) rfl) rfl ⟨rfl, rfl, trivial⟩ trivial ?_
    obtain ⟨r9, hr9, hF⟩ := bindS hF
    refine G.op1 (op_callQ (sv := oI r9) cf65 (ct_ref02_long (b8.toNat : Int) r9 hr9) rfl rfl (EvQL.cons (EvQ.g (Ev.t 13 (bI .u8 (b8.toNat : Int)))) EvQL.nil) rfl) rfl ⟨rfl, trivial⟩ trivial ?_
    refine G.op1 (op_assign (Ev.t 14 (bI .i64 r9)) rfl) rfl ⟨rfl, trivial⟩ trivial ?_
    refine G.endOps ?_
    refine G.seq ?_
    refine G.seq ?_
    refine G.joinC (T := Bool) (fun y10 => ⟨[(0, oS s_0), (3, oI v3.1), (4, oI v3.2), (5, oI r9), (24, oB y10)], []⟩) (fun y10 => ref02_Runes_k3 s_0 again5 v3 r9 y10 = some r) (fun y10 hF => ?_) (fun J47 => ?_)
    · unfold ref02_Runes_k3 at hF
      refine ifS hF (fun hc11 hF => ?_) (fun hc11 hF => ?_)
      · refine G.cond rfl (fun _ => ?_) (fun hx => by rw [hc11] at hx; cases hx)
        refine G.seq ?_
        refine G.region ?_
        refine G.op1 (op_assign (Ev.c _ rfl) rfl) rfl trivial trivial ?_
        refine G.endOps ?_
        cases hF
        exact G.ret1 Try.results62 (RVar.tmp 2 _) ⟨rfl, trivial⟩ trivial
      · refine G.cond rfl (fun hx => by rw [hc11] at hx; cases hx) (fun _ => ?_)
        refine G.skip ?_
        refine G.seq ?_
        refine G.seq ?_
        refine G.region ?_
        refine G.op1 (op_assign (Ev.c _ rfl) rfl) rfl trivial trivial ?_
        refine G.endOps ?_
        refine G.joinC (T := Unit) (fun y12 => ⟨[(0, oS s_0), (3, oI v3.1), (4, oI v3.2), (5, oI r9)], []⟩) (fun y12 => ref02_Runes_k4 s_0 again5 v3 r9 y12 = some r) (fun y12 hF => ?_) (fun J37 => ?_)
        · unfold ref02_Runes_k4 at hF
          refine G.seq ?_
          refine G.seq ?_
          refine G.joinC (T := Bool) (fun y13 => ⟨[(0, oS s_0), (3, oI v3.1), (4, oI v3.2), (5, oI r9), (93, oB y13)], []⟩) (fun y13 => ref02_Runes_k5 again5 v3 r9 y13 = some r) (fun y13 hF => ?_) (fun J15 => ?_)
          · unfold ref02_Runes_k5 at hF
            refine ifS hF (fun hc14 hF => ?_) (fun hc14 hF => ?_)
            · refine G.cond rfl (fun _ => ?_) (fun hx => by rw [hc14] at hx; cases hx)
              refine G.seq ?_
              refine G.region ?_
              refine G.op1 (op_assign (Ev.c _ rfl) rfl) rfl trivial trivial ?_
              refine G.endOps ?_
              cases hF
              exact G.ret1 Try.results62 (RVar.tmp 2 _) ⟨rfl, trivial⟩ trivial
            · refine G.cond rfl (fun hx => by rw [hc14] at hx; cases hx) (fun _ => ?_)
              refine G.skip ?_
              refine G.seq ?_
              refine G.region ?_
              refine G.op1 (op_move (Ev.t 4 (bI .i64 v3.2)) rfl) rfl ⟨rfl, trivial⟩ trivial ?_
              refine G.op1 (op_move (Ev.t 5 (bI .i64 r9)) rfl) rfl ⟨rfl, trivial⟩ trivial ?_
              refine G.op1 (op_add (Ev.t 94 (bI .i64 v3.2)) (Ev.t 95 (bI .i64 r9)) rfl) rfl ⟨rfl, rfl, trivial⟩ trivial ?_
              refine G.op1 (op_assign (Ev.t 96 (bI .i64 (IntKind.wrap .i64 (v3.2 + r9)))) rfl) rfl ⟨rfl, trivial⟩ trivial ?_
              refine G.endOps ?_
              refine G.region ?_
              refine G.op1 (op_move (Ev.t 3 (bI .i64 v3.1)) rfl) rfl ⟨rfl, trivial⟩ trivial ?_
              refine G.op1 (op_add (Ev.t 97 (bI .i64 v3.1)) (Ev.c _ rfl) rfl) rfl ⟨rfl, trivial⟩ trivial ?_
              refine G.op1 (op_assign (Ev.t 98 (bI .i64 (IntKind.wrap .i64 (v3.1 + 1)))) rfl) rfl ⟨rfl, trivial⟩ trivial ?_
              refine G.endOps ?_
              refine G.endBlock ?_
              exact G.arr (J4 (IntKind.wrap .i64 (v3.1 + 1), IntKind.wrap .i64 (v3.2 + r9)) hF) ⟨rfl, rfl, rfl, trivial⟩ trivial rfl
          refine G.region ?_
          refine G.op1 (op_move (Ev.t 0 (bS s_0)) rfl) rfl ⟨rfl, trivial⟩ trivial ?_
          refine G.op1 (op_move (Ev.t 4 (bI .i64 v3.2)) rfl) rfl ⟨rfl, trivial⟩ trivial ?_
          obtain ⟨b16, hb16, hF⟩ := bindS hF
          refine G.op1 (op_indexS Try.underlying9 (sidx_ok hb16).1 (sidx_ok hb16).2 (Ev.t 44 (bS s_0)) (Ev.t 45 (bI .i64 v3.2)) rfl) rfl ⟨rfl, rfl, trivial⟩ trivial ?_
          refine G.op1 (op_eqI (Ev.t 46 (bI .u8 (b16.toNat : Int))) (Ev.c _ rfl) rfl) rfl ⟨rfl, trivial⟩ trivial ?_
          refine G.op1 (op_move (Ev.t 47 (bB (decide ((b16.toNat : Int) = 224)))) rfl) rfl ⟨rfl, trivial⟩ trivial ?_
          refine G.joinL (T := Bool) 6 (fun y17 => ⟨[(0, oS s_0), (3, oI v3.1), (4, oI v3.2), (5, oI r9), (54, oB y17)], []⟩) (fun y17 => ref02_Runes_k6 s_0 again5 v3 r9 y17 = some r) (fun y17 hF => ?_) (fun J34 => ?_)
          · unfold ref02_Runes_k6 at hF
            refine G.op1 (op_move (Ev.t 54 (bB y17)) rfl) rfl ⟨rfl, trivial⟩ trivial ?_
            refine G.joinL (T := Bool) 12 (fun y18 => ⟨[(0, oS s_0), (3, oI v3.1), (4, oI v3.2), (5, oI r9), (67, oB y18)], []⟩) (fun y18 => ref02_Runes_k7 s_0 again5 v3 r9 y18 = some r) (fun y18 hF => ?_) (fun J29 => ?_)
            · unfold ref02_Runes_k7 at hF
              refine G.op1 (op_move (Ev.t 67 (bB y18)) rfl) rfl ⟨rfl, trivial⟩ trivial ?_
              refine G.joinL (T := Bool) 12 (fun y19 => ⟨[(0, oS s_0), (3, oI v3.1), (4, oI v3.2), (5, oI r9), (80, oB y19)], []⟩) (fun y19 => ref02_Runes_k8 s_0 again5 v3 r9 y19 = some r) (fun y19 hF => ?_) (fun J24 => ?_)
              · unfold ref02_Runes_k8 at hF
                refine G.op1 (op_move (Ev.t 80 (bB y19)) rfl) rfl ⟨rfl, trivial⟩ trivial ?_
                refine ifS hF (fun hc20 hF => ?_) (fun hc20 hF => ?_)
                · refine G.known (t := 81) hc20 rfl ?_
                  refine G.opN1 rfl rfl rfl rfl rfl ?_
                  refine G.opN1 rfl rfl rfl rfl rfl ?_
                  refine G.opN1 rfl rfl rfl rfl rfl ?_
                  refine G.opN1 rfl rfl rfl rfl rfl ?_
                  refine G.opN1 rfl rfl rfl rfl rfl ?_
                  refine G.opU rfl rfl rfl rfl ?_
                  refine G.opU rfl rfl rfl rfl ?_
                  refine G.opU rfl rfl rfl rfl ?_
                  refine G.opU rfl rfl rfl rfl ?_
                  refine G.opU rfl rfl rfl rfl ?_
                  refine G.opN1 rfl rfl rfl rfl rfl ?_
                  refine G.op1 (op_pickT (Ev.t 81 (bB true)) (Ev.c _ rfl) rfl) rfl ⟨rfl, trivial⟩ trivial ?_
                  refine G.endOps ?_
                  exact G.arr (J15 true hF) ⟨rfl, rfl, rfl, rfl, rfl, trivial⟩ trivial rfl
                · refine G.known (t := 81) hc20 rfl ?_
                  refine G.opG1 (op_move (Ev.t 0 (bS s_0)) rfl) rfl rfl rfl ⟨rfl, trivial⟩ trivial ?_
                  refine G.opG1 (op_move (Ev.t 4 (bI .i64 v3.2)) rfl) rfl rfl rfl ⟨rfl, trivial⟩ trivial ?_
                  obtain ⟨b21, hb21, hF⟩ := bindS hF
                  refine G.opG1 (op_indexS Try.underlying9 (sidx_ok hb21).1 (sidx_ok hb21).2 (Ev.t 82 (bS s_0)) (Ev.t 83 (bI .i64 v3.2)) rfl) rfl rfl rfl ⟨rfl, rfl, trivial⟩ trivial ?_
                  refine G.opG1 (op_eqI (Ev.t 84 (bI .u8 (b21.toNat : Int))) (Ev.c _ rfl) rfl) rfl rfl rfl ⟨rfl, trivial⟩ trivial ?_
                  refine G.opG1 (op_move (Ev.t 85 (bB (decide ((b21.toNat : Int) = 244)))) rfl) rfl rfl rfl ⟨rfl, trivial⟩ trivial ?_
                  refine ifS hF (fun hc22 hF => ?_) (fun hc22 hF => ?_)
                  · refine G.known (t := 86) hc22 rfl ?_
                    refine G.opG1 (op_move (Ev.t 0 (bS s_0)) rfl) rfl rfl rfl ⟨rfl, trivial⟩ trivial ?_
                    refine G.opG1 (op_move (Ev.t 4 (bI .i64 v3.2)) rfl) rfl rfl rfl ⟨rfl, trivial⟩ trivial ?_
                    refine G.opG1 (op_add (Ev.t 88 (bI .i64 v3.2)) (Ev.c _ rfl) rfl) rfl rfl rfl ⟨rfl, trivial⟩ trivial ?_
                    obtain ⟨b23, hb23, hF⟩ := bindS hF
                    refine G.opG1 (op_indexS Try.underlying9 (sidx_ok hb23).1 (sidx_ok hb23).2 (Ev.t 87 (bS s_0)) (Ev.t 89 (bI .i64 (IntKind.wrap .i64 (v3.2 + 1)))) rfl) rfl rfl rfl ⟨rfl, rfl, trivial⟩ trivial ?_
                    refine G.opG1 (op_gtr (Ev.t 90 (bI .u8 (b23.toNat : Int))) (Ev.c _ rfl) rfl) rfl rfl rfl ⟨rfl, trivial⟩ trivial ?_
                    refine G.opG1 (op_pickT (Ev.t 86 (bB true)) (Ev.t 91 (bB (decide (143 < (b23.toNat : Int))))) rfl) rfl rfl rfl ⟨rfl, rfl, trivial⟩ trivial ?_
                    refine G.op1 (op_pickF (Ev.t 81 (bB false)) (Ev.t 92 (bB (decide (143 < (b23.toNat : Int))))) rfl) rfl ⟨rfl, rfl, trivial⟩ trivial ?_
                    refine G.endOps ?_
                    exact G.arr (J15 (decide (143 < (b23.toNat : Int))) hF) ⟨rfl, rfl, rfl, rfl, rfl, trivial⟩ trivial rfl
                  · refine G.known (t := 86) hc22 rfl ?_
                    refine G.opN1 rfl rfl rfl rfl rfl ?_
                    refine G.opN1 rfl rfl rfl rfl rfl ?_
                    refine G.opN1 rfl rfl rfl rfl rfl ?_
                    refine G.opN1 rfl rfl rfl rfl rfl ?_
                    refine G.opN1 rfl rfl rfl rfl rfl ?_
                    refine G.opG1 (op_pickF (Ev.t 86 (bB false)) (Ev.c _ rfl) rfl) rfl rfl rfl ⟨rfl, trivial⟩ trivial ?_
                    refine G.op1 (op_pickF (Ev.t 81 (bB false)) (Ev.t 92 (bB false)) rfl) rfl ⟨rfl, rfl, trivial⟩ trivial ?_
                    refine G.endOps ?_
                    exact G.arr (J15 false hF) ⟨rfl, rfl, rfl, rfl, rfl, trivial⟩ trivial rfl
              refine ifS hF (fun hc25 hF => ?_) (fun hc25 hF => ?_)
              · refine G.known (t := 68) hc25 rfl ?_
                refine G.opN1 rfl rfl rfl rfl rfl ?_
                refine G.opN1 rfl rfl rfl rfl rfl ?_
                refine G.opN1 rfl rfl rfl rfl rfl ?_
                refine G.opN1 rfl rfl rfl rfl rfl ?_
                refine G.opN1 rfl rfl rfl rfl rfl ?_
                refine G.opU rfl rfl rfl rfl ?_
                refine G.opU rfl rfl rfl rfl ?_
                refine G.opU rfl rfl rfl rfl ?_
                refine G.opU rfl rfl rfl rfl ?_
                refine G.opU rfl rfl rfl rfl ?_
                refine G.opN1 rfl rfl rfl rfl rfl ?_
                refine G.op1 (op_pickT (Ev.t 68 (bB true)) (Ev.c _ rfl) rfl) rfl ⟨rfl, trivial⟩ trivial ?_
                exact G.arr (J24 true hF) ⟨rfl, rfl, rfl, rfl, rfl, trivial⟩ trivial rfl
              · refine G.known (t := 68) hc25 rfl ?_
                refine G.opG1 (op_move (Ev.t 0 (bS s_0)) rfl) rfl rfl rfl ⟨rfl, trivial⟩ trivial ?_
                refine G.opG1 (op_move (Ev.t 4 (bI .i64 v3.2)) rfl) rfl rfl rfl ⟨rfl, trivial⟩ trivial ?_
                obtain ⟨b26, hb26, hF⟩ := bindS hF
                refine G.opG1 (op_indexS Try.underlying9 (sidx_ok hb26).1 (sidx_ok hb26).2 (Ev.t 69 (bS s_0)) (Ev.t 70 (bI .i64 v3.2)) rfl) rfl rfl rfl ⟨rfl, rfl, trivial⟩ trivial ?_
                refine G.opG1 (op_eqI (Ev.t 71 (bI .u8 (b26.toNat : Int))) (Ev.c _ rfl) rfl) rfl rfl rfl ⟨rfl, trivial⟩ trivial ?_
                refine G.opG1 (op_move (Ev.t 72 (bB (decide ((b26.toNat : Int) = 240)))) rfl) rfl rfl rfl ⟨rfl, trivial⟩ trivial ?_
                refine ifS hF (fun hc27 hF => ?_) (fun hc27 hF => ?_)
                · refine G.known (t := 73) hc27 rfl ?_
                  refine G.opG1 (op_move (Ev.t 0 (bS s_0)) rfl) rfl rfl rfl ⟨rfl, trivial⟩ trivial ?_
                  refine G.opG1 (op_move (Ev.t 4 (bI .i64 v3.2)) rfl) rfl rfl rfl ⟨rfl, trivial⟩ trivial ?_
                  refine G.opG1 (op_add (Ev.t 75 (bI .i64 v3.2)) (Ev.c _ rfl) rfl) rfl rfl rfl ⟨rfl, trivial⟩ trivial ?_
                  obtain ⟨b28, hb28, hF⟩ := bindS hF
                  refine G.opG1 (op_indexS Try.underlying9 (sidx_ok hb28).1 (sidx_ok hb28).2 (Ev.t 74 (bS s_0)) (Ev.t 76 (bI .i64 (IntKind.wrap .i64 (v3.2 + 1)))) rfl) rfl rfl rfl ⟨rfl, rfl, trivial⟩ trivial ?_
                  refine G.opG1 (op_lss (Ev.t 77 (bI .u8 (b28.toNat : Int))) (Ev.c _ rfl) rfl) rfl rfl rfl ⟨rfl, trivial⟩ trivial ?_
                  refine G.opG1 (op_pickT (Ev.t 73 (bB true)) (Ev.t 78 (bB (decide ((b28.toNat : Int) < 144)))) rfl) rfl rfl rfl ⟨rfl, rfl, trivial⟩ trivial ?_
                  refine G.op1 (op_pickF (Ev.t 68 (bB false)) (Ev.t 79 (bB (decide ((b28.toNat : Int) < 144)))) rfl) rfl ⟨rfl, rfl, trivial⟩ trivial ?_
                  exact G.arr (J24 (decide ((b28.toNat : Int) < 144)) hF) ⟨rfl, rfl, rfl, rfl, rfl, trivial⟩ trivial rfl
                · refine G.known (t := 73) hc27 rfl ?_
                  refine G.opN1 rfl rfl rfl rfl rfl ?_
                  refine G.opN1 rfl rfl rfl rfl rfl ?_
                  refine G.opN1 rfl rfl rfl rfl rfl ?_
                  refine G.opN1 rfl rfl rfl rfl rfl ?_
                  refine G.opN1 rfl rfl rfl rfl rfl ?_
                  refine G.opG1 (op_pickF (Ev.t 73 (bB false)) (Ev.c _ rfl) rfl) rfl rfl rfl ⟨rfl, trivial⟩ trivial ?_
                  refine G.op1 (op_pickF (Ev.t 68 (bB false)) (Ev.t 79 (bB false)) rfl) rfl ⟨rfl, rfl, trivial⟩ trivial ?_
                  exact G.arr (J24 false hF) ⟨rfl, rfl, rfl, rfl, rfl, trivial⟩ trivial rfl
            refine ifS hF (fun hc30 hF => ?_) (fun hc30 hF => ?_)
            · refine G.known (t := 55) hc30 rfl ?_
              refine G.opN1 rfl rfl rfl rfl rfl ?_
              refine G.opN1 rfl rfl rfl rfl rfl ?_
              refine G.opN1 rfl rfl rfl rfl rfl ?_
              refine G.opN1 rfl rfl rfl rfl rfl ?_
              refine G.opN1 rfl rfl rfl rfl rfl ?_
              refine G.opU rfl rfl rfl rfl ?_
              refine G.opU rfl rfl rfl rfl ?_
              refine G.opU rfl rfl rfl rfl ?_
              refine G.opU rfl rfl rfl rfl ?_
              refine G.opU rfl rfl rfl rfl ?_
              refine G.opN1 rfl rfl rfl rfl rfl ?_
              refine G.op1 (op_pickT (Ev.t 55 (bB true)) (Ev.c _ rfl) rfl) rfl ⟨rfl, trivial⟩ trivial ?_
              exact G.arr (J29 true hF) ⟨rfl, rfl, rfl, rfl, rfl, trivial⟩ trivial rfl
            · refine G.known (t := 55) hc30 rfl ?_
              refine G.opG1 (op_move (Ev.t 0 (bS s_0)) rfl) rfl rfl rfl ⟨rfl, trivial⟩ trivial ?_
              refine G.opG1 (op_move (Ev.t 4 (bI .i64 v3.2)) rfl) rfl rfl rfl ⟨rfl, trivial⟩ trivial ?_
              obtain ⟨b31, hb31, hF⟩ := bindS hF
              refine G.opG1 (op_indexS Try.underlying9 (sidx_ok hb31).1 (sidx_ok hb31).2 (Ev.t 56 (bS s_0)) (Ev.t 57 (bI .i64 v3.2)) rfl) rfl rfl rfl ⟨rfl, rfl, trivial⟩ trivial ?_
              refine G.opG1 (op_eqI (Ev.t 58 (bI .u8 (b31.toNat : Int))) (Ev.c _ rfl) rfl) rfl rfl rfl ⟨rfl, trivial⟩ trivial ?_
              refine G.opG1 (op_move (Ev.t 59 (bB (decide ((b31.toNat : Int) = 237)))) rfl) rfl rfl rfl ⟨rfl, trivial⟩ trivial ?_
              refine ifS hF (fun hc32 hF => ?_) (fun hc32 hF => ?_)
              · refine G.known (t := 60) hc32 rfl ?_
                refine G.opG1 (op_move (Ev.t 0 (bS s_0)) rfl) rfl rfl rfl ⟨rfl, trivial⟩ trivial ?_
                refine G.opG1 (op_move (Ev.t 4 (bI .i64 v3.2)) rfl) rfl rfl rfl ⟨rfl, trivial⟩ trivial ?_
                refine G.opG1 (op_add (Ev.t 62 (bI .i64 v3.2)) (Ev.c _ rfl) rfl) rfl rfl rfl ⟨rfl, trivial⟩ trivial ?_
                obtain ⟨b33, hb33, hF⟩ := bindS hF
                refine G.opG1 (op_indexS Try.underlying9 (sidx_ok hb33).1 (sidx_ok hb33).2 (Ev.t 61 (bS s_0)) (Ev.t 63 (bI .i64 (IntKind.wrap .i64 (v3.2 + 1)))) rfl) rfl rfl rfl ⟨rfl, rfl, trivial⟩ trivial ?_
                refine G.opG1 (op_gtr (Ev.t 64 (bI .u8 (b33.toNat : Int))) (Ev.c _ rfl) rfl) rfl rfl rfl ⟨rfl, trivial⟩ trivial ?_
                refine G.opG1 (op_pickT (Ev.t 60 (bB true)) (Ev.t 65 (bB (decide (159 < (b33.toNat : Int))))) rfl) rfl rfl rfl ⟨rfl, rfl, trivial⟩ trivial ?_
                refine G.op1 (op_pickF (Ev.t 55 (bB false)) (Ev.t 66 (bB (decide (159 < (b33.toNat : Int))))) rfl) rfl ⟨rfl, rfl, trivial⟩ trivial ?_
                exact G.arr (J29 (decide (159 < (b33.toNat : Int))) hF) ⟨rfl, rfl, rfl, rfl, rfl, trivial⟩ trivial rfl
              · refine G.known (t := 60) hc32 rfl ?_
                refine G.opN1 rfl rfl rfl rfl rfl ?_
                refine G.opN1 rfl rfl rfl rfl rfl ?_
                refine G.opN1 rfl rfl rfl rfl rfl ?_
                refine G.opN1 rfl rfl rfl rfl rfl ?_
                refine G.opN1 rfl rfl rfl rfl rfl ?_
                refine G.opG1 (op_pickF (Ev.t 60 (bB false)) (Ev.c _ rfl) rfl) rfl rfl rfl ⟨rfl, trivial⟩ trivial ?_
                refine G.op1 (op_pickF (Ev.t 55 (bB false)) (Ev.t 66 (bB false)) rfl) rfl ⟨rfl, rfl, trivial⟩ trivial ?_
                exact G.arr (J29 false hF) ⟨rfl, rfl, rfl, rfl, rfl, trivial⟩ trivial rfl
          refine ifS hF (fun hc35 hF => ?_) (fun hc35 hF => ?_)
          · refine G.known (t := 48) hc35 rfl ?_
            refine G.opG1 (op_move (Ev.t 0 (bS s_0)) rfl) rfl rfl rfl ⟨rfl, trivial⟩ trivial ?_
            refine G.opG1 (op_move (Ev.t 4 (bI .i64 v3.2)) rfl) rfl rfl rfl ⟨rfl, trivial⟩ trivial ?_
            refine G.opG1 (op_add (Ev.t 50 (bI .i64 v3.2)) (Ev.c _ rfl) rfl) rfl rfl rfl ⟨rfl, trivial⟩ trivial ?_
            obtain ⟨b36, hb36, hF⟩ := bindS hF
            refine G.opG1 (op_indexS Try.underlying9 (sidx_ok hb36).1 (sidx_ok hb36).2 (Ev.t 49 (bS s_0)) (Ev.t 51 (bI .i64 (IntKind.wrap .i64 (v3.2 + 1)))) rfl) rfl rfl rfl ⟨rfl, rfl, trivial⟩ trivial ?_
            refine G.opG1 (op_lss (Ev.t 52 (bI .u8 (b36.toNat : Int))) (Ev.c _ rfl) rfl) rfl rfl rfl ⟨rfl, trivial⟩ trivial ?_
            refine G.op1 (op_pickT (Ev.t 48 (bB true)) (Ev.t 53 (bB (decide ((b36.toNat : Int) < 160)))) rfl) rfl ⟨rfl, rfl, trivial⟩ trivial ?_
            exact G.arr (J34 (decide ((b36.toNat : Int) < 160)) hF) ⟨rfl, rfl, rfl, rfl, rfl, trivial⟩ trivial rfl
          · refine G.known (t := 48) hc35 rfl ?_
            refine G.opN1 rfl rfl rfl rfl rfl ?_
            refine G.opN1 rfl rfl rfl rfl rfl ?_
            refine G.opN1 rfl rfl rfl rfl rfl ?_
            refine G.opN1 rfl rfl rfl rfl rfl ?_
            refine G.opN1 rfl rfl rfl rfl rfl ?_
            refine G.op1 (op_pickF (Ev.t 48 (bB false)) (Ev.c _ rfl) rfl) rfl ⟨rfl, trivial⟩ trivial ?_
            exact G.arr (J34 false hF) ⟨rfl, rfl, rfl, rfl, rfl, trivial⟩ trivial rfl
        refine G.block ?_
        refine G.keep (sl' := [(0, oS s_0), (3, oI v3.1), (4, oI v3.2), (5, oI r9), (6, oI 1)]) (hp' := []) ⟨rfl, rfl, rfl, rfl, rfl, trivial⟩ trivial rfl ?_
        refine G.loopF (fun (v38 : Int) => ⟨[(0, oS s_0), (3, oI v3.1), (4, oI v3.2), (5, oI r9), (6, oI v38)], []⟩) hF rfl (fun K41 again40 v38 J39 hF => ?_)
        unfold ref02_Runes_l9 at hF
        refine G.seq ?_
        refine G.seq ?_
        refine G.region ?_
        refine G.op1 (op_move (Ev.t 6 (bI .i64 v38)) rfl) rfl ⟨rfl, trivial⟩ trivial ?_
        refine G.op1 (op_move (Ev.t 5 (bI .i64 r9)) rfl) rfl ⟨rfl, trivial⟩ trivial ?_
        refine G.op1 (op_lss (Ev.t 25 (bI .i64 v38)) (Ev.t 26 (bI .i64 r9)) rfl) rfl ⟨rfl, rfl, trivial⟩ trivial ?_
        refine G.endOps ?_
        refine ifS hF (fun hc42 hF => ?_) (fun hc42 hF => ?_)
        · refine G.cond rfl (fun _ => ?_) (fun hx => by rw [hc42] at hx; cases hx)
          refine G.skip ?_
          refine G.seq ?_
          refine G.block ?_
          refine G.seq ?_
          refine G.region ?_
          refine G.op1 (op_move (Ev.t 0 (bS s_0)) rfl) rfl ⟨rfl, trivial⟩ trivial ?_
          refine G.op1 (op_move (Ev.t 4 (bI .i64 v3.2)) rfl) rfl ⟨rfl, trivial⟩ trivial ?_
          refine G.op1 (op_move (Ev.t 6 (bI .i64 v38)) rfl) rfl ⟨rfl, trivial⟩ trivial ?_
          refine G.op1 (op_add (Ev.t 31 (bI .i64 v3.2)) (Ev.t 32 (bI .i64 v38)) rfl) rfl ⟨rfl, rfl, trivial⟩ trivial ?_
          obtain ⟨b43, hb43, hF⟩ := bindS hF
          refine G.op1 (op_indexS Try.underlying9 (sidx_ok hb43).1 (sidx_ok hb43).2 (Ev.t 30 (bS s_0)) (Ev.t 33 (bI .i64 (IntKind.wrap .i64 (v3.2 + v38)))) rfl) rfl ⟨rfl, rfl, trivial⟩ trivial ?_
          refine G.op1 (op_lss (Ev.t 34 (bI .u8 (b43.toNat : Int))) (Ev.c _ rfl) rfl) rfl ⟨rfl, trivial⟩ trivial ?_
          refine G.op1 (op_move (Ev.t 35 (bB (decide ((b43.toNat : Int) < 128)))) rfl) rfl ⟨rfl, trivial⟩ trivial ?_
          refine ifS hF (fun hc44 hF => ?_) (fun hc44 hF => ?_)
          · refine G.known (t := 36) hc44 rfl ?_
            refine G.opN1 rfl rfl rfl rfl rfl ?_
            refine G.opN1 rfl rfl rfl rfl rfl ?_
            refine G.opN1 rfl rfl rfl rfl rfl ?_
            refine G.opN1 rfl rfl rfl rfl rfl ?_
            refine G.opN1 rfl rfl rfl rfl rfl ?_
            refine G.opN1 rfl rfl rfl rfl rfl ?_
            refine G.op1 (op_pickT (Ev.t 36 (bB true)) (Ev.c _ rfl) rfl) rfl ⟨rfl, trivial⟩ trivial ?_
            refine G.endOps ?_
            refine G.condT rfl ?_
            refine G.seq ?_
            refine G.region ?_
            refine G.op1 (op_assign (Ev.c _ rfl) rfl) rfl trivial trivial ?_
            refine G.endOps ?_
            cases hF
            exact G.ret1 Try.results62 (RVar.tmp 2 _) ⟨rfl, trivial⟩ trivial
          · refine G.known (t := 36) hc44 rfl ?_
            refine G.opG1 (op_move (Ev.t 0 (bS s_0)) rfl) rfl rfl rfl ⟨rfl, trivial⟩ trivial ?_
            refine G.opG1 (op_move (Ev.t 4 (bI .i64 v3.2)) rfl) rfl rfl rfl ⟨rfl, trivial⟩ trivial ?_
            refine G.opG1 (op_move (Ev.t 6 (bI .i64 v38)) rfl) rfl rfl rfl ⟨rfl, trivial⟩ trivial ?_
            refine G.opG1 (op_add (Ev.t 38 (bI .i64 v3.2)) (Ev.t 39 (bI .i64 v38)) rfl) rfl rfl rfl ⟨rfl, rfl, trivial⟩ trivial ?_
            obtain ⟨b45, hb45, hF⟩ := bindS hF
            refine G.opG1 (op_indexS Try.underlying9 (sidx_ok hb45).1 (sidx_ok hb45).2 (Ev.t 37 (bS s_0)) (Ev.t 40 (bI .i64 (IntKind.wrap .i64 (v3.2 + v38)))) rfl) rfl rfl rfl ⟨rfl, rfl, trivial⟩ trivial ?_
            refine G.opG1 (op_gtr (Ev.t 41 (bI .u8 (b45.toNat : Int))) (Ev.c _ rfl) rfl) rfl rfl rfl ⟨rfl, trivial⟩ trivial ?_
            refine G.op1 (op_pickF (Ev.t 36 (bB false)) (Ev.t 42 (bB (decide (191 < (b45.toNat : Int))))) rfl) rfl ⟨rfl, rfl, trivial⟩ trivial ?_
            refine G.endOps ?_
            refine ifS hF (fun hc46 hF => ?_) (fun hc46 hF => ?_)
            · refine G.cond rfl (fun _ => ?_) (fun hx => by rw [hc46] at hx; cases hx)
              refine G.seq ?_
              refine G.region ?_
              refine G.op1 (op_assign (Ev.c _ rfl) rfl) rfl trivial trivial ?_
              refine G.endOps ?_
              cases hF
              exact G.ret1 Try.results62 (RVar.tmp 2 _) ⟨rfl, trivial⟩ trivial
            · refine G.cond rfl (fun hx => by rw [hc46] at hx; cases hx) (fun _ => ?_)
              refine G.skip ?_
              refine G.endBlock ?_
              refine G.region ?_
              refine G.op1 (op_move (Ev.t 6 (bI .i64 v38)) rfl) rfl ⟨rfl, trivial⟩ trivial ?_
              refine G.op1 (op_add (Ev.t 28 (bI .i64 v38)) (Ev.c _ rfl) rfl) rfl ⟨rfl, trivial⟩ trivial ?_
              refine G.op1 (op_assign (Ev.t 29 (bI .i64 (IntKind.wrap .i64 (v38 + 1)))) rfl) rfl ⟨rfl, trivial⟩ trivial ?_
              refine G.endOps ?_
              exact G.arr (J39 (IntKind.wrap .i64 (v38 + 1)) hF) ⟨rfl, rfl, rfl, rfl, rfl, trivial⟩ trivial rfl
        · refine G.cond rfl (fun hx => by rw [hc42] at hx; cases hx) (fun _ => ?_)
          refine G.exit ?_
          refine GX.c ?_
          refine GX.q ?_
          refine GX.bYes ?_
          exact G.arr (J37 () hF) ⟨rfl, rfl, rfl, rfl, trivial⟩ trivial rfl
    refine G.region ?_
    refine G.op1 (op_move (Ev.t 5 (bI .i64 r9)) rfl) rfl ⟨rfl, trivial⟩ trivial ?_
    refine G.op1 (op_eqI (Ev.t 15 (bI .i64 r9)) (Ev.c _ rfl) rfl) rfl ⟨rfl, trivial⟩ trivial ?_
    refine G.op1 (op_move (Ev.t 16 (bB (decide (r9 = 0)))) rfl) rfl ⟨rfl, trivial⟩ trivial ?_
    refine ifS hF (fun hc48 hF => ?_) (fun hc48 hF => ?_)
    · refine G.known (t := 17) hc48 rfl ?_
      refine G.opN1 rfl rfl rfl rfl rfl ?_
      refine G.opN1 rfl rfl rfl rfl rfl ?_
      refine G.opN1 rfl rfl rfl rfl rfl ?_
      refine G.opN1 rfl rfl rfl rfl rfl ?_
      refine G.opN1 rfl rfl rfl rfl rfl ?_
      refine G.opN1 rfl rfl rfl rfl rfl ?_
      refine G.op1 (op_pickT (Ev.t 17 (bB true)) (Ev.c _ rfl) rfl) rfl ⟨rfl, trivial⟩ trivial ?_
      refine G.endOps ?_
      exact G.arr (J47 true hF) ⟨rfl, rfl, rfl, rfl, rfl, trivial⟩ trivial rfl
    · refine G.known (t := 17) hc48 rfl ?_
      refine G.opG1 (op_move (Ev.t 5 (bI .i64 r9)) rfl) rfl rfl rfl ⟨rfl, trivial⟩ trivial ?_
      refine G.opG1 (op_move (Ev.t 0 (bS s_0)) rfl) rfl rfl rfl ⟨rfl, trivial⟩ trivial ?_
      refine G.opG1 (op_lenS Try.underlying9 (Ev.t 19 (bS s_0)) rfl) rfl rfl rfl ⟨rfl, trivial⟩ trivial ?_
      refine G.opG1 (op_move (Ev.t 4 (bI .i64 v3.2)) rfl) rfl rfl rfl ⟨rfl, trivial⟩ trivial ?_
      refine G.opG1 (op_sub (Ev.t 20 (bI .i64 (s_0.size : Int))) (Ev.t 21 (bI .i64 v3.2)) rfl) rfl rfl rfl ⟨rfl, rfl, trivial⟩ trivial ?_
      refine G.opG1 (op_gtr (Ev.t 18 (bI .i64 r9)) (Ev.t 22 (bI .i64 (IntKind.wrap .i64 ((s_0.size : Int) - v3.2)))) rfl) rfl rfl rfl ⟨rfl, rfl, trivial⟩ trivial ?_
      refine G.op1 (op_pickF (Ev.t 17 (bB false)) (Ev.t 23 (bB (decide ((IntKind.wrap .i64 ((s_0.size : Int) - v3.2)) < r9)))) rfl) rfl ⟨rfl, rfl, trivial⟩ trivial ?_
      refine G.endOps ?_
      exact G.arr (J47 (decide ((IntKind.wrap .i64 ((s_0.size : Int) - v3.2)) < r9)) hF) ⟨rfl, rfl, rfl, rfl, rfl, trivial⟩ trivial rfl
  · refine G.cond rfl (fun hx => by rw [hc7] at hx; cases hx) (fun _ => ?_)
    refine G.exit ?_
    refine GX.c ?_
    refine GX.q ?_
    refine GX.bYes ?_
    exact G.arr (J2 v3.1 hF) ⟨rfl, trivial⟩ trivial rfl


set_option maxRecDepth 20000 in
set_option maxHeartbeats 2000000 in
theorem ct_ref02_Check (s_0 : ByteArray) (r : Bool) (hF : ref02_Check s_0 = some r) : Ct Try.prog 54 [.g (.d (vS s_0))] (.one (.d (vB r))) := by
  unfold ref02_Check at hF
  refine Ct.intro Try.func54 rfl Try.ntmps54 rfl rfl fun M w => ?_
  refine G.seq ?_
  refine G.region ?_
  refine G.op1 (op_assign (Ev.c _ rfl) rfl) rfl trivial trivial ?_
  refine G.endOps ?_
  refine G.seq ?_
  refine G.region ?_
  refine G.op1 (op_move (Ev.t 0 (bS s_0)) rfl) rfl ⟨rfl, trivial⟩ trivial ?_
  obtain ⟨r1, hr1, hF⟩ := bindS hF
  refine G.op1 (op_callQ (sv := oI r1) cf62 (ct_ref02_Runes s_0 r1 hr1) rfl rfl (EvQL.cons (EvQ.g (Ev.t 5 (bS s_0))) EvQL.nil) rfl) rfl ⟨rfl, trivial⟩ trivial ?_
  refine G.op1 (op_assign (Ev.t 6 (bI .i64 r1)) rfl) rfl ⟨rfl, trivial⟩ trivial ?_
  refine G.endOps ?_
  refine G.seq ?_
  refine G.seq ?_
  refine G.region ?_
  refine G.op1 (op_assign (Ev.c _ rfl) rfl) rfl trivial trivial ?_
  refine G.endOps ?_
  refine G.joinC (T := Unit) (fun y2 => ⟨[(3, oI r1)], []⟩) (fun y2 => ref02_Check_k1 r1 y2 = some r) (fun y2 hF => ?_) (fun J4 => ?_)
  · unfold ref02_Check_k1 at hF
    refine G.seq ?_
    refine G.region ?_
    refine G.op1 (op_move (Ev.t 3 (bI .i64 r1)) rfl) rfl ⟨rfl, trivial⟩ trivial ?_
    refine G.op1 (op_geq (Ev.t 17 (bI .i64 r1)) (Ev.c _ rfl) rfl) rfl ⟨rfl, trivial⟩ trivial ?_
    refine G.op1 (op_move (Ev.t 18 (bB (decide (1 ≤ r1)))) rfl) rfl ⟨rfl, trivial⟩ trivial ?_
    refine ifS hF (fun hc3 hF => ?_) (fun hc3 hF => ?_)
    · refine G.known (t := 19) hc3 rfl ?_
      refine G.opG1 (op_move (Ev.t 3 (bI .i64 r1)) rfl) rfl rfl rfl ⟨rfl, trivial⟩ trivial ?_
      refine G.opG1 (op_leq (Ev.t 20 (bI .i64 r1)) (Ev.c _ rfl) rfl) rfl rfl rfl ⟨rfl, trivial⟩ trivial ?_
      refine G.op1 (op_pickT (Ev.t 19 (bB true)) (Ev.t 21 (bB (decide (r1 ≤ 8)))) rfl) rfl ⟨rfl, rfl, trivial⟩ trivial ?_
      refine G.op1 (op_assign (Ev.t 22 (bB (decide (r1 ≤ 8)))) rfl) rfl ⟨rfl, trivial⟩ trivial ?_
      refine G.endOps ?_
      cases hF
      exact G.ret1 Try.results54 (RVar.tmp 2 _) ⟨rfl, trivial⟩ trivial
    · refine G.known (t := 19) hc3 rfl ?_
      refine G.opN1 rfl rfl rfl rfl rfl ?_
      refine G.opN1 rfl rfl rfl rfl rfl ?_
      refine G.op1 (op_pickF (Ev.t 19 (bB false)) (Ev.c _ rfl) rfl) rfl ⟨rfl, trivial⟩ trivial ?_
      refine G.op1 (op_assign (Ev.t 22 (bB false)) rfl) rfl ⟨rfl, trivial⟩ trivial ?_
      refine G.endOps ?_
      cases hF
      exact G.ret1 Try.results54 (RVar.tmp 2 _) ⟨rfl, trivial⟩ trivial
  refine G.block ?_
  refine G.keep (sl' := [(0, oS s_0), (3, oI r1), (4, oI 0)]) (hp' := []) ⟨rfl, rfl, rfl, trivial⟩ trivial rfl ?_
  refine G.loopF (fun (v5 : Int) => ⟨[(0, oS s_0), (3, oI r1), (4, oI v5)], []⟩) hF rfl (fun K8 again7 v5 J6 hF => ?_)
  unfold ref02_Check_l2 at hF
  refine G.seq ?_
  refine G.seq ?_
  refine G.region ?_
  refine G.op1 (op_move (Ev.t 4 (bI .i64 v5)) rfl) rfl ⟨rfl, trivial⟩ trivial ?_
  refine G.op1 (op_move (Ev.t 0 (bS s_0)) rfl) rfl ⟨rfl, trivial⟩ trivial ?_
  refine G.op1 (op_lenS Try.underlying9 (Ev.t 8 (bS s_0)) rfl) rfl ⟨rfl, trivial⟩ trivial ?_
  refine G.op1 (op_lss (Ev.t 7 (bI .i64 v5)) (Ev.t 9 (bI .i64 (s_0.size : Int))) rfl) rfl ⟨rfl, rfl, trivial⟩ trivial ?_
  refine G.endOps ?_
  refine ifS hF (fun hc9 hF => ?_) (fun hc9 hF => ?_)
  · refine G.cond rfl (fun _ => ?_) (fun hx => by rw [hc9] at hx; cases hx)
    refine G.skip ?_
    refine G.seq ?_
    refine G.block ?_
    refine G.seq ?_
    refine G.region ?_
    refine G.op1 (op_move (Ev.t 0 (bS s_0)) rfl) rfl ⟨rfl, trivial⟩ trivial ?_
    refine G.op1 (op_move (Ev.t 4 (bI .i64 v5)) rfl) rfl ⟨rfl, trivial⟩ trivial ?_
    obtain ⟨b10, hb10, hF⟩ := bindS hF
    refine G.op1 (op_indexS Try.underlying9 (sidx_ok hb10).1 (sidx_ok hb10).2 (Ev.t 13 (bS s_0)) (Ev.t 14 (bI .i64 v5)) rfl) rfl ⟨rfl, rfl, trivial⟩ trivial ?_
    refine G.op1 (op_lss (Ev.t 15 (bI .u8 (b10.toNat : Int))) (Ev.c _ rfl) rfl) rfl ⟨rfl, trivial⟩ trivial ?_
    refine G.endOps ?_
    refine ifS hF (fun hc11 hF => ?_) (fun hc11 hF => ?_)
    · refine G.cond rfl (fun _ => ?_) (fun hx => by rw [hc11] at hx; cases hx)
      refine G.seq ?_
      refine G.region ?_
      refine G.op1 (op_assign (Ev.c _ rfl) rfl) rfl trivial trivial ?_
      refine G.endOps ?_
      cases hF
      exact G.ret1 Try.results54 (RVar.tmp 2 _) ⟨rfl, trivial⟩ trivial
    · refine G.cond rfl (fun hx => by rw [hc11] at hx; cases hx) (fun _ => ?_)
      refine G.skip ?_
      refine G.endBlock ?_
      refine G.region ?_
      refine G.op1 (op_move (Ev.t 4 (bI .i64 v5)) rfl) rfl ⟨rfl, trivial⟩ trivial ?_
      refine G.op1 (op_add (Ev.t 11 (bI .i64 v5)) (Ev.c _ rfl) rfl) rfl ⟨rfl, trivial⟩ trivial ?_
      refine G.op1 (op_assign (Ev.t 12 (bI .i64 (IntKind.wrap .i64 (v5 + 1)))) rfl) rfl ⟨rfl, trivial⟩ trivial ?_
      refine G.endOps ?_
      exact G.arr (J6 (IntKind.wrap .i64 (v5 + 1)) hF) ⟨rfl, rfl, rfl, trivial⟩ trivial rfl
  · refine G.cond rfl (fun hx => by rw [hc9] at hx; cases hx) (fun _ => ?_)
    refine G.exit ?_
    refine GX.c ?_
    refine GX.q ?_
    refine GX.bYes ?_
    exact G.arr (J4 () hF) ⟨rfl, trivial⟩ trivial rfl


set_option maxRecDepth 20000 in
set_option maxHeartbeats 2000000 in
theorem ct_ref02_Good (r_0 : Api_Range) (r : Bool) (hF : ref02_Good r_0 = some r) : Ct Try.prog 39 [.g (.agg (encApi_Range r_0))] (.one (.d (vB r))) := by
  unfold ref02_Good at hF
  refine Ct.intro Try.func39 rfl Try.ntmps39 rfl rfl fun M w => ?_
  refine G.seq ?_
  refine G.region ?_
  refine G.op2 (op_boxA (k := 1001) (Ev.t 0 (.g (.agg [vS r_0.From, vS r_0.To]))) rfl) rfl ⟨rfl, trivial⟩ ⟨rfl, trivial⟩ ?_
  refine G.op1 (op_assign (Ev.c _ rfl) rfl) rfl trivial trivial ?_
  refine G.endOps ?_
  refine G.seq ?_
  refine G.region ?_
  refine G.op1 (op_fieldP (off' := 0) Try.underlying37 rfl ti9 (by decide) rfl (Ev.t 1 (.ptr 1001 0)) rfl) rfl ⟨rfl, trivial⟩ trivial ?_
  refine G.op1 (op_load1P (c := bS r_0.From) Try.underlying9 rfl rfl (Ev.t 5 (.ptr 1001 0)) rfl) rfl ⟨rfl, trivial⟩ ⟨rfl, trivial⟩ ?_
  obtain ⟨r1, hr1, hF⟩ := bindS hF
  refine G.op1 (op_callQ (sv := oB r1) cf54 (ct_ref02_Check r_0.From r1 hr1) rfl rfl (EvQL.cons (EvQ.g (Ev.t 6 (bS r_0.From))) EvQL.nil) rfl) rfl ⟨rfl, trivial⟩ trivial ?_
  refine G.op1 (op_assign (Ev.t 7 (bB r1)) rfl) rfl ⟨rfl, trivial⟩ trivial ?_
  refine G.endOps ?_
  refine G.seq ?_
  refine G.region ?_
  refine G.op1 (op_fieldP (off' := 1) Try.underlying37 rfl ti9 (by decide) rfl (Ev.t 1 (.ptr 1001 0)) rfl) rfl ⟨rfl, trivial⟩ trivial ?_
  refine G.op1 (op_load1P (c := bS r_0.To) Try.underlying9 rfl rfl (Ev.t 8 (.ptr 1001 1)) rfl) rfl ⟨rfl, trivial⟩ ⟨rfl, trivial⟩ ?_
  obtain ⟨r2, hr2, hF⟩ := bindS hF
  refine G.op1 (op_callQ (sv := oB r2) cf54 (ct_ref02_Check r_0.To r2 hr2) rfl rfl (EvQL.cons (EvQ.g (Ev.t 9 (bS r_0.To))) EvQL.nil) rfl) rfl ⟨rfl, trivial⟩ trivial ?_
  refine G.op1 (op_assign (Ev.t 10 (bB r2)) rfl) rfl ⟨rfl, trivial⟩ trivial ?_
  refine G.endOps ?_
  refine G.seq ?_
  refine G.region ?_
  refine G.op1 (op_fieldP (off' := 0) Try.underlying37 rfl ti9 (by decide) rfl (Ev.t 1 (.ptr 1001 0)) rfl) rfl ⟨rfl, trivial⟩ trivial ?_
  refine G.op1 (op_load1P (c := bS r_0.From) Try.underlying9 rfl rfl (Ev.t 11 (.ptr 1001 0)) rfl) rfl ⟨rfl, trivial⟩ ⟨rfl, trivial⟩ ?_
  refine G.op1 (op_eqS (Ev.t 12 (bS r_0.From)) (Ev.c _ rfl) rfl) rfl ⟨rfl, trivial⟩ trivial ?_
  refine G.op1 (op_move (Ev.t 13 (bB (seq r_0.From ByteArray.empty))) rfl) rfl ⟨rfl, trivial⟩ trivial ?_
  refine G.joinL (T := Bool) 2 (fun y3 => ⟨[(1, .one (.ptr 1001 0)), (4, oB r2), (16, oB y3)], [(1001, some (.blk 37 [bS r_0.From, bS r_0.To]))]⟩) (fun y3 => ref02_Good_k1 r_0 r2 y3 = some r) (fun y3 hF => ?_) (fun J10 => ?_)
  · unfold ref02_Good_k1 at hF
    refine G.op1 (op_move (Ev.t 16 (bB y3)) rfl) rfl ⟨rfl, trivial⟩ trivial ?_
    refine G.joinL (T := Bool) 7 (fun y4 => ⟨[(1, .one (.ptr 1001 0)), (24, oB y4)], [(1001, some (.blk 37 [bS r_0.From, bS r_0.To]))]⟩) (fun y4 => ref02_Good_k2 r_0 y4 = some r) (fun y4 hF => ?_) (fun J7 => ?_)
    · unfold ref02_Good_k2 at hF
      refine G.op1 (op_move (Ev.t 24 (bB y4)) rfl) rfl ⟨rfl, trivial⟩ trivial ?_
      refine ifS hF (fun hc5 hF => ?_) (fun hc5 hF => ?_)
      · refine G.known (t := 25) hc5 rfl ?_
        refine G.opG1 (op_fieldP (off' := 1) Try.underlying37 rfl ti9 (by decide) rfl (Ev.t 1 (.ptr 1001 0)) rfl) rfl rfl rfl ⟨rfl, trivial⟩ trivial ?_
        refine G.opG1 (op_load1P (c := bS r_0.To) Try.underlying9 rfl rfl (Ev.t 26 (.ptr 1001 1)) rfl) rfl rfl rfl ⟨rfl, trivial⟩ ⟨rfl, trivial⟩ ?_
        refine G.opG1 (op_eqS (Ev.t 27 (bS r_0.To)) (Ev.c _ rfl) rfl) rfl rfl rfl ⟨rfl, trivial⟩ trivial ?_
        refine G.opG1 (op_move (Ev.t 28 (bB (seq r_0.To ByteArray.empty))) rfl) rfl rfl rfl ⟨rfl, trivial⟩ trivial ?_
        refine ifS hF (fun hc6 hF => ?_) (fun hc6 hF => ?_)
        · refine G.known (t := 29) hc6 rfl ?_
          refine G.opN1 rfl rfl rfl rfl rfl ?_
          refine G.opN1 rfl rfl rfl rfl rfl ?_
          refine G.opN1 rfl rfl rfl rfl rfl ?_
          refine G.opN1 rfl rfl rfl rfl rfl ?_
          refine G.opN1 rfl rfl rfl rfl rfl ?_
          refine G.opG1 (op_pickT (Ev.t 29 (bB true)) (Ev.c _ rfl) rfl) rfl rfl rfl ⟨rfl, trivial⟩ trivial ?_
          refine G.op1 (op_pickT (Ev.t 25 (bB true)) (Ev.t 35 (bB true)) rfl) rfl ⟨rfl, rfl, trivial⟩ trivial ?_
          refine G.op1 (op_assign (Ev.t 36 (bB true)) rfl) rfl ⟨rfl, trivial⟩ trivial ?_
          refine G.endOps ?_
          cases hF
          exact G.ret1 Try.results39 (RVar.tmp 2 _) ⟨rfl, trivial⟩ trivial
        · refine G.known (t := 29) hc6 rfl ?_
          refine G.opG1 (op_fieldP (off' := 0) Try.underlying37 rfl ti9 (by decide) rfl (Ev.t 1 (.ptr 1001 0)) rfl) rfl rfl rfl ⟨rfl, trivial⟩ trivial ?_
          refine G.opG1 (op_load1P (c := bS r_0.From) Try.underlying9 rfl rfl (Ev.t 30 (.ptr 1001 0)) rfl) rfl rfl rfl ⟨rfl, trivial⟩ ⟨rfl, trivial⟩ ?_
          refine G.opG1 (op_fieldP (off' := 1) Try.underlying37 rfl ti9 (by decide) rfl (Ev.t 1 (.ptr 1001 0)) rfl) rfl rfl rfl ⟨rfl, trivial⟩ trivial ?_
          refine G.opG1 (op_load1P (c := bS r_0.To) Try.underlying9 rfl rfl (Ev.t 32 (.ptr 1001 1)) rfl) rfl rfl rfl ⟨rfl, trivial⟩ ⟨rfl, trivial⟩ ?_
          refine G.opG1 (op_ltS (Ev.t 31 (bS r_0.From)) (Ev.t 33 (bS r_0.To)) rfl) rfl rfl rfl ⟨rfl, rfl, trivial⟩ trivial ?_
          refine G.opG1 (op_pickF (Ev.t 29 (bB false)) (Ev.t 34 (bB (slt r_0.From r_0.To))) rfl) rfl rfl rfl ⟨rfl, rfl, trivial⟩ trivial ?_
          refine G.op1 (op_pickT (Ev.t 25 (bB true)) (Ev.t 35 (bB (slt r_0.From r_0.To))) rfl) rfl ⟨rfl, rfl, trivial⟩ trivial ?_
          refine G.op1 (op_assign (Ev.t 36 (bB (slt r_0.From r_0.To))) rfl) rfl ⟨rfl, trivial⟩ trivial ?_
          refine G.endOps ?_
          cases hF
          exact G.ret1 Try.results39 (RVar.tmp 2 _) ⟨rfl, trivial⟩ trivial
      · refine G.known (t := 25) hc5 rfl ?_
        refine G.opN1 rfl rfl rfl rfl rfl ?_
        refine G.opN1 rfl rfl rfl rfl rfl ?_
        refine G.opN1 rfl rfl rfl rfl rfl ?_
        refine G.opN1 rfl rfl rfl rfl rfl ?_
        refine G.opU rfl rfl rfl rfl ?_
        refine G.opU rfl rfl rfl rfl ?_
        refine G.opU rfl rfl rfl rfl ?_
        refine G.opU rfl rfl rfl rfl ?_
        refine G.opU rfl rfl rfl rfl ?_
        refine G.opN1 rfl rfl rfl rfl rfl ?_
        refine G.op1 (op_pickF (Ev.t 25 (bB false)) (Ev.c _ rfl) rfl) rfl ⟨rfl, trivial⟩ trivial ?_
        refine G.op1 (op_assign (Ev.t 36 (bB false)) rfl) rfl ⟨rfl, trivial⟩ trivial ?_
        refine G.endOps ?_
        cases hF
        exact G.ret1 Try.results39 (RVar.tmp 2 _) ⟨rfl, trivial⟩ trivial
    refine ifS hF (fun hc8 hF => ?_) (fun hc8 hF => ?_)
    · refine G.known (t := 17) hc8 rfl ?_
      refine G.opG1 (op_fieldP (off' := 1) Try.underlying37 rfl ti9 (by decide) rfl (Ev.t 1 (.ptr 1001 0)) rfl) rfl rfl rfl ⟨rfl, trivial⟩ trivial ?_
      refine G.opG1 (op_load1P (c := bS r_0.To) Try.underlying9 rfl rfl (Ev.t 18 (.ptr 1001 1)) rfl) rfl rfl rfl ⟨rfl, trivial⟩ ⟨rfl, trivial⟩ ?_
      refine G.opG1 (op_eqS (Ev.t 19 (bS r_0.To)) (Ev.c _ rfl) rfl) rfl rfl rfl ⟨rfl, trivial⟩ trivial ?_
      refine G.opG1 (op_move (Ev.t 20 (bB (seq r_0.To ByteArray.empty))) rfl) rfl rfl rfl ⟨rfl, trivial⟩ trivial ?_
      refine ifS hF (fun hc9 hF => ?_) (fun hc9 hF => ?_)
      · refine G.known (t := 21) hc9 rfl ?_
        refine G.opN1 rfl rfl rfl rfl rfl ?_
        refine G.opG1 (op_pickT (Ev.t 21 (bB true)) (Ev.c _ rfl) rfl) rfl rfl rfl ⟨rfl, trivial⟩ trivial ?_
        refine G.op1 (op_pickT (Ev.t 17 (bB true)) (Ev.t 23 (bB true)) rfl) rfl ⟨rfl, rfl, trivial⟩ trivial ?_
        exact G.arr (J7 true hF) ⟨rfl, rfl, trivial⟩ ⟨rfl, trivial⟩ rfl
      · refine G.known (t := 21) hc9 rfl ?_
        refine G.opG1 (op_move (Ev.t 4 (bB r2)) rfl) rfl rfl rfl ⟨rfl, trivial⟩ trivial ?_
        refine G.opG1 (op_pickF (Ev.t 21 (bB false)) (Ev.t 22 (bB r2)) rfl) rfl rfl rfl ⟨rfl, rfl, trivial⟩ trivial ?_
        refine G.op1 (op_pickT (Ev.t 17 (bB true)) (Ev.t 23 (bB r2)) rfl) rfl ⟨rfl, rfl, trivial⟩ trivial ?_
        exact G.arr (J7 r2 hF) ⟨rfl, rfl, trivial⟩ ⟨rfl, trivial⟩ rfl
    · refine G.known (t := 17) hc8 rfl ?_
      refine G.opN1 rfl rfl rfl rfl rfl ?_
      refine G.opN1 rfl rfl rfl rfl rfl ?_
      refine G.opN1 rfl rfl rfl rfl rfl ?_
      refine G.opN1 rfl rfl rfl rfl rfl ?_
      refine G.opU rfl rfl rfl rfl ?_
      refine G.opN1 rfl rfl rfl rfl rfl ?_
      refine G.op1 (op_pickF (Ev.t 17 (bB false)) (Ev.c _ rfl) rfl) rfl ⟨rfl, trivial⟩ trivial ?_
      exact G.arr (J7 false hF) ⟨rfl, rfl, trivial⟩ ⟨rfl, trivial⟩ rfl
  refine ifS hF (fun hc11 hF => ?_) (fun hc11 hF => ?_)
  · refine G.known (t := 14) hc11 rfl ?_
    refine G.opN1 rfl rfl rfl rfl rfl ?_
    refine G.op1 (op_pickT (Ev.t 14 (bB true)) (Ev.c _ rfl) rfl) rfl ⟨rfl, trivial⟩ trivial ?_
    exact G.arr (J10 true hF) ⟨rfl, rfl, rfl, trivial⟩ ⟨rfl, trivial⟩ rfl
  · refine G.known (t := 14) hc11 rfl ?_
    refine G.opG1 (op_move (Ev.t 3 (bB r1)) rfl) rfl rfl rfl ⟨rfl, trivial⟩ trivial ?_
    refine G.op1 (op_pickF (Ev.t 14 (bB false)) (Ev.t 15 (bB r1)) rfl) rfl ⟨rfl, rfl, trivial⟩ trivial ?_
    exact G.arr (J10 r1 hF) ⟨rfl, rfl, rfl, trivial⟩ ⟨rfl, trivial⟩ rfl


set_option maxRecDepth 20000 in
set_option maxHeartbeats 2000000 in
theorem ct_ref02_Whole (l_0 : (List Api_Range)) (r : Bool) (hF : ref02_Whole l_0 = some r) : Ct Try.prog 15 [.g (.d (.sl 2 (List.map encApi_Range l_0)))] (.one (.d (vB r))) := by
  unfold ref02_Whole at hF
  refine Ct.intro Try.func15 rfl Try.ntmps15 rfl rfl fun M w => ?_
  refine G.seq ?_
  refine G.region ?_
  refine G.op1 (op_assign (Ev.c _ rfl) rfl) rfl trivial trivial ?_
  refine G.endOps ?_
  refine G.seq ?_
  refine G.seq ?_
  refine G.region ?_
  refine G.op1 (op_assign (Ev.c _ rfl) rfl) rfl trivial trivial ?_
  refine G.endOps ?_
  refine G.joinC (T := Unit) (fun y1 => ⟨[(0, .one (.g (.d (.sl 2 (List.map encApi_Range l_0)))))], []⟩) (fun y1 => ref02_Whole_k1 l_0 y1 = some r) (fun y1 hF => ?_) (fun J4 => ?_)
  · unfold ref02_Whole_k1 at hF
    refine G.seq ?_
    refine G.region ?_
    refine G.op1 (op_move (Ev.t 0 (.g (.d (.sl 2 (List.map encApi_Range l_0))))) rfl) rfl ⟨rfl, trivial⟩ trivial ?_
    refine G.op1 (OpL.cast (op_lenD Try.underlying29 (Ev.t 56 (.g (.d (.sl 2 (List.map encApi_Range l_0))))) rfl) (by rw [List.length_map])) rfl ⟨rfl, trivial⟩ trivial ?_
    refine G.op1 (op_gtr (Ev.t 57 (bI .i64 (l_0.length : Int))) (Ev.c _ rfl) rfl) rfl ⟨rfl, trivial⟩ trivial ?_
    refine G.op1 (op_move (Ev.t 58 (bB (decide (0 < (l_0.length : Int))))) rfl) rfl ⟨rfl, trivial⟩ trivial ?_
    refine ifS hF (fun hc2 hF => ?_) (fun hc2 hF => ?_)
    · refine G.known (t := 59) hc2 rfl ?_
      refine G.opG1 (op_move (Ev.t 0 (.g (.d (.sl 2 (List.map encApi_Range l_0))))) rfl) rfl rfl rfl ⟨rfl, trivial⟩ trivial ?_
      refine G.opG1 (op_move (Ev.t 0 (.g (.d (.sl 2 (List.map encApi_Range l_0))))) rfl) rfl rfl rfl ⟨rfl, trivial⟩ trivial ?_
      refine G.opG1 (OpL.cast (op_lenD Try.underlying29 (Ev.t 61 (.g (.d (.sl 2 (List.map encApi_Range l_0))))) rfl) (by rw [List.length_map])) rfl rfl rfl ⟨rfl, trivial⟩ trivial ?_
      refine G.opG1 (op_sub (Ev.t 62 (bI .i64 (l_0.length : Int))) (Ev.c _ rfl) rfl) rfl rfl rfl ⟨rfl, trivial⟩ trivial ?_
      obtain ⟨x3, hx3, hF⟩ := bindS hF
      refine G.opG1 (op_index (cs := [vS x3.From, vS x3.To]) Try.underlying29 ti37 (idx_ok hx3).1 (idx_get hx3 encApi_Range) (Ev.t 60 (.g (.d (.sl 2 (List.map encApi_Range l_0))))) (Ev.t 63 (bI .i64 (IntKind.wrap .i64 ((l_0.length : Int) - 1)))) rfl) rfl rfl rfl ⟨rfl, rfl, trivial⟩ trivial ?_
      refine G.opG1 (op_fieldE (cs' := [vS x3.To]) Try.underlying37 rfl ti9 (by decide) rfl (Ev.t 64 (.ep [vS x3.From, vS x3.To])) rfl) rfl rfl rfl ⟨rfl, trivial⟩ trivial ?_
      refine G.opG1 (op_load1E (c := vS x3.To) Try.underlying9 rfl rfl (Ev.t 65 (.ep [vS x3.To])) rfl) rfl rfl rfl ⟨rfl, trivial⟩ trivial ?_
      refine G.opG1 (op_eqS (Ev.t 66 (bS x3.To)) (Ev.c _ rfl) rfl) rfl rfl rfl ⟨rfl, trivial⟩ trivial ?_
      refine G.op1 (op_pickT (Ev.t 59 (bB true)) (Ev.t 67 (bB (seq x3.To ByteArray.empty))) rfl) rfl ⟨rfl, rfl, trivial⟩ trivial ?_
      refine G.op1 (op_assign (Ev.t 68 (bB (seq x3.To ByteArray.empty))) rfl) rfl ⟨rfl, trivial⟩ trivial ?_
      refine G.endOps ?_
      cases hF
      exact G.ret1 Try.results15 (RVar.tmp 2 _) ⟨rfl, trivial⟩ trivial
    · refine G.known (t := 59) hc2 rfl ?_
      refine G.opN1 rfl rfl rfl rfl rfl ?_
      refine G.opN1 rfl rfl rfl rfl rfl ?_
      refine G.opN1 rfl rfl rfl rfl rfl ?_
      refine G.opN1 rfl rfl rfl rfl rfl ?_
      refine G.opN1 rfl rfl rfl rfl rfl ?_
      refine G.opN1 rfl rfl rfl rfl rfl ?_
      refine G.opN1 rfl rfl rfl rfl rfl ?_
      refine G.opN1 rfl rfl rfl rfl rfl ?_
      refine G.op1 (op_pickF (Ev.t 59 (bB false)) (Ev.c _ rfl) rfl) rfl ⟨rfl, trivial⟩ trivial ?_
      refine G.op1 (op_assign (Ev.t 68 (bB false)) rfl) rfl ⟨rfl, trivial⟩ trivial ?_
      refine G.endOps ?_
      cases hF
      exact G.ret1 Try.results15 (RVar.tmp 2 _) ⟨rfl, trivial⟩ trivial
  refine G.block ?_
  refine G.keep (sl' := [(0, .one (.g (.d (.sl 2 (List.map encApi_Range l_0))))), (3, oI 0)]) (hp' := []) ⟨rfl, rfl, trivial⟩ trivial rfl ?_
  refine G.loopF (fun (v5 : Int) => ⟨[(0, .one (.g (.d (.sl 2 (List.map encApi_Range l_0))))), (3, oI v5)], []⟩) hF rfl (fun K8 again7 v5 J6 hF => ?_)
  unfold ref02_Whole_l2 at hF
  refine G.seq ?_
  refine G.seq ?_
  refine G.region ?_
  refine G.op1 (op_move (Ev.t 3 (bI .i64 v5)) rfl) rfl ⟨rfl, trivial⟩ trivial ?_
  refine G.op1 (op_move (Ev.t 0 (.g (.d (.sl 2 (List.map encApi_Range l_0))))) rfl) rfl ⟨rfl, trivial⟩ trivial ?_
  refine G.op1 (OpL.cast (op_lenD Try.underlying29 (Ev.t 6 (.g (.d (.sl 2 (List.map encApi_Range l_0))))) rfl) (by rw [List.length_map])) rfl ⟨rfl, trivial⟩ trivial ?_
  refine G.op1 (op_lss (Ev.t 5 (bI .i64 v5)) (Ev.t 7 (bI .i64 (l_0.length : Int))) rfl) rfl ⟨rfl, rfl, trivial⟩ trivial ?_
  refine G.endOps ?_
  refine ifS hF (fun hc9 hF => ?_) (fun hc9 hF => ?_)
  · refine G.cond rfl (fun _ => ?_) (fun hx => by rw [hc9] at hx; cases hx)
    refine G.skip ?_
    refine G.seq ?_
    refine G.block ?_
    refine G.seq ?_
    refine G.region ?_
    refine G.op1 (op_move (Ev.t 0 (.g (.d (.sl 2 (List.map encApi_Range l_0))))) rfl) rfl ⟨rfl, trivial⟩ trivial ?_
    refine G.op1 (op_move (Ev.t 3 (bI .i64 v5)) rfl) rfl ⟨rfl, trivial⟩ trivial ?_
    obtain ⟨x10, hx10, hF⟩ := bindS hF
    refine G.op1 (op_index (cs := [vS x10.From, vS x10.To]) Try.underlying29 ti37 (idx_ok hx10).1 (idx_get hx10 encApi_Range) (Ev.t 11 (.g (.d (.sl 2 (List.map encApi_Range l_0))))) (Ev.t 12 (bI .i64 v5)) rfl) rfl ⟨rfl, rfl, trivial⟩ trivial ?_
    refine G.op1 (op_loadAE (ds := [vS x10.From, vS x10.To]) Try.underlying37 rfl ti37 rfl (Ev.t 13 (.ep [vS x10.From, vS x10.To])) rfl) rfl ⟨rfl, trivial⟩ trivial ?_
    obtain ⟨r11, hr11, hF⟩ := bindS hF
    refine G.op1 (op_callQ (sv := oB r11) cf39 (ct_ref02_Good x10 r11 hr11) rfl rfl (EvQL.cons (EvQ.g (Ev.t 14 (.g (.agg [vS x10.From, vS x10.To])))) EvQL.nil) rfl) rfl ⟨rfl, trivial⟩ trivial ?_
    refine G.op1 (op_assign (Ev.t 15 (bB r11)) rfl) rfl ⟨rfl, trivial⟩ trivial ?_
    refine G.endOps ?_
    refine G.seq ?_
    refine ifS hF (fun hc12 hF => ?_) (fun hc12 hF => ?_)
    · refine G.drawnI (deps := ([] :: [0] :: [0, 1] :: [0, 1, 2] :: [0, 1, 2, 3] :: [0, 1, 2, 3, 4] :: [0, 1, 2, 3, 4, 5] :: [0, 1, 2, 3, 4, 5] :: [0, 1, 2, 3, 4, 5, 6, 7] :: [0, 1, 2, 3, 4, 5, 6, 7, 8] :: [0, 1, 2, 3, 4, 5, 6, 7, 8, 9] :: [0, 1, 2, 3, 4, 5, 6, 7, 8, 9, 10] :: [0, 1, 2, 3, 4, 5, 6, 7, 8, 9, 10, 11] :: [0, 1, 2, 3, 4, 5, 6, 7, 8, 9, 10, 11, 12] :: [0, 1, 2, 3, 4, 5, 6, 7, 8, 9, 10, 11, 12, 13] :: [0, 1, 2, 3, 4, 5, 6, 7, 8, 9, 10, 11, 12, 13, 14] :: [0, 1, 2, 3, 4, 5, 6, 7, 8, 9, 10, 11, 12, 13, 14, 15] :: [0, 1, 2, 3, 4, 5, 6, 7, 8, 9, 10, 11, 12, 13, 14, 15, 16] :: [0, 1, 2, 3, 4, 5, 6, 7, 8, 9, 10, 11, 12, 13, 14, 15, 16, 17] :: [0, 1, 2, 3, 4, 5, 6, 7, 8, 9, 10, 11, 12, 13, 14, 15, 16, 17] :: [0, 1, 2, 3, 4, 5, 6, 7, 8, 9, 10, 11, 12, 13, 14, 15, 16, 17, 18, 19] :: (0 :: 1 :: 2 :: 3 :: 4 :: 5 :: 6 :: 7 :: 8 :: 9 :: 10 :: 11 :: 12 :: 13 :: 14 :: 15 :: 16 :: 17 :: 18 :: 19 :: 20 :: []) :: (0 :: 1 :: 2 :: 3 :: 4 :: 5 :: 6 :: 7 :: 8 :: 9 :: 10 :: 11 :: 12 :: 13 :: 14 :: 15 :: 16 :: 17 :: 18 :: 19 :: 20 :: 21 :: []) :: [0, 1, 2, 3, 4, 5, 6, 7, 8, 9, 10, 11, 12, 13, 14, 15, 16, 17] :: [0, 1, 2, 3, 4, 5, 6, 7, 8, 9, 10, 11, 12, 13, 14, 15, 16, 17] :: [0, 1, 2, 3, 4, 5, 6, 7, 8, 9, 10, 11, 12, 13, 14, 15, 16, 17, 24] :: (0 :: 1 :: 2 :: 3 :: 4 :: 5 :: 6 :: 7 :: 8 :: 9 :: 10 :: 11 :: 12 :: 13 :: 14 :: 15 :: 16 :: 17 :: 23 :: 24 :: 25 :: []) :: (0 :: 1 :: 2 :: 3 :: 4 :: 5 :: 6 :: 7 :: 8 :: 9 :: 10 :: 11 :: 12 :: 13 :: 14 :: 15 :: 16 :: 17 :: 23 :: 24 :: 25 :: 26 :: []) :: (0 :: 1 :: 2 :: 3 :: 4 :: 5 :: 6 :: 7 :: 8 :: 9 :: 10 :: 11 :: 12 :: 13 :: 14 :: 15 :: 16 :: 17 :: 23 :: 24 :: 25 :: 26 :: 27 :: []) :: (0 :: 1 :: 2 :: 3 :: 4 :: 5 :: 6 :: 7 :: 8 :: 9 :: 10 :: 11 :: 12 :: 13 :: 14 :: 15 :: 16 :: 17 :: 18 :: 19 :: 20 :: 21 :: 22 :: 23 :: 24 :: 25 :: 26 :: 27 :: 28 :: []) :: (0 :: 1 :: 2 :: 3 :: 4 :: 5 :: 6 :: 7 :: 8 :: 9 :: 10 :: 11 :: 12 :: 13 :: 14 :: 15 :: 16 :: 17 :: 18 :: 19 :: 20 :: 21 :: 22 :: 23 :: 24 :: 25 :: 26 :: 27 :: 28 :: 29 :: []) :: (0 :: 1 :: 2 :: 3 :: 4 :: 5 :: 6 :: 7 :: 8 :: 9 :: 10 :: 11 :: 12 :: 13 :: 14 :: 15 :: 16 :: 17 :: 18 :: 19 :: 20 :: 21 :: 22 :: 23 :: 24 :: 25 :: 26 :: 27 :: 28 :: 29 :: 30 :: []) :: (0 :: 1 :: 2 :: 3 :: 4 :: 5 :: 6 :: 7 :: 8 :: 9 :: 10 :: 11 :: 12 :: 13 :: 14 :: 15 :: 16 :: 17 :: 18 :: 19 :: 20 :: 21 :: 22 :: 23 :: 24 :: 25 :: 26 :: 27 :: 28 :: 29 :: 30 :: []) :: (0 :: 1 :: 2 :: 3 :: 4 :: 5 :: 6 :: 7 :: 8 :: 9 :: 10 :: 11 :: 12 :: 13 :: 14 :: 15 :: 16 :: 17 :: 18 :: 19 :: 20 :: 21 :: 22 :: 23 :: 24 :: 25 :: 26 :: 27 :: 28 :: 29 :: 30 :: 31 :: 32 :: []) :: (0 :: 1 :: 2 :: 3 :: 4 :: 5 :: 6 :: 7 :: 8 :: 9 :: 10 :: 11 :: 12 :: 13 :: 14 :: 15 :: 16 :: 17 :: 18 :: 19 :: 20 :: 21 :: 22 :: 23 :: 24 :: 25 :: 26 :: 27 :: 28 :: 29 :: 30 :: 31 :: 32 :: 33 :: []) :: (0 :: 1 :: 2 :: 3 :: 4 :: 5 :: 6 :: 7 :: 8 :: 9 :: 10 :: 11 :: 12 :: 13 :: 14 :: 15 :: 16 :: 17 :: 18 :: 19 :: 20 :: 21 :: 22 :: 23 :: 24 :: 25 :: 26 :: 27 :: 28 :: 29 :: 30 :: 31 :: 32 :: 33 :: 34 :: []) :: (0 :: 1 :: 2 :: 3 :: 4 :: 5 :: 6 :: 7 :: 8 :: 9 :: 10 :: 11 :: 12 :: 13 :: 14 :: 15 :: 16 :: 17 :: 18 :: 19 :: 20 :: 21 :: 22 :: 23 :: 24 :: 25 :: 26 :: 27 :: 28 :: 29 :: 30 :: 31 :: 32 :: 33 :: 34 :: 35 :: []) :: (0 :: 1 :: 2 :: 3 :: 4 :: 5 :: 6 :: 7 :: 8 :: 9 :: 10 :: 11 :: 12 :: 13 :: 14 :: 15 :: 16 :: 17 :: 18 :: 19 :: 20 :: 21 :: 22 :: 23 :: 24 :: 25 :: 26 :: 27 :: 28 :: 29 :: 30 :: 31 :: 32 :: 33 :: 34 :: 35 :: 36 :: []) :: (0 :: 1 :: 2 :: 3 :: 4 :: 5 :: 6 :: 7 :: 8 :: 9 :: 10 :: 11 :: 12 :: 13 :: 14 :: 15 :: 16 :: 17 :: 18 :: 19 :: 20 :: 21 :: 22 :: 23 :: 24 :: 25 :: 26 :: 27 :: 28 :: 29 :: 30 :: 31 :: 32 :: 33 :: 34 :: 35 :: 36 :: 37 :: []) :: (0 :: 1 :: 2 :: 3 :: 4 :: 5 :: 6 :: 7 :: 8 :: 9 :: 10 :: 11 :: 12 :: 13 :: 14 :: 15 :: 16 :: 17 :: 18 :: 19 :: 20 :: 21 :: 22 :: 23 :: 24 :: 25 :: 26 :: 27 :: 28 :: 29 :: 30 :: 31 :: 32 :: 33 :: 34 :: 35 :: 36 :: 37 :: 38 :: []) :: [])) (sl' := [(0, .one (.g (.d (.sl 2 (List.map encApi_Range l_0))))), (3, oI v5), (55, oB true)]) (hp' := []) (.c (oP rfl rfl (op_move (Ev.t 4 (bB r11)) rfl)) (.c (oP rfl rfl (OpL.cast (op_not (Ev.t 16 (bB r11)) rfl) (congrArg (fun b => bB b) hc12))) (.c (oP rfl rfl (op_move (Ev.t 17 (bB true)) rfl)) (.c (OpW.no rfl rfl rfl rfl rfl) (.c (OpW.no rfl rfl rfl rfl rfl) (.c (OpW.no rfl rfl rfl rfl rfl) (.c (OpW.un rfl rfl rfl rfl) (.c (OpW.un rfl rfl rfl rfl) (.c (OpW.un rfl rfl rfl rfl) (.c (OpW.un rfl rfl rfl rfl) (.c (OpW.un rfl rfl rfl rfl) (.c (OpW.un rfl rfl rfl rfl) (.c (OpW.no rfl rfl rfl rfl rfl) (.c (oP rfl rfl (op_pickT (Ev.t 18 (bB true)) (Ev.c _ rfl) rfl)) (.c (oP rfl rfl (op_move (Ev.t 29 (bB true)) rfl)) (.c (OpW.no rfl rfl rfl rfl rfl) (.c (OpW.no rfl rfl rfl rfl rfl) (.c (OpW.no rfl rfl rfl rfl rfl) (.c (OpW.un rfl rfl rfl rfl) (.c (OpW.un rfl rfl rfl rfl) (.c (OpW.un rfl rfl rfl rfl) (.c (OpW.un rfl rfl rfl rfl) (.c (OpW.un rfl rfl rfl rfl) (.c (OpW.un rfl rfl rfl rfl) (.c (OpW.un rfl rfl rfl rfl) (.c (OpW.un rfl rfl rfl rfl) (.c (OpW.un rfl rfl rfl rfl) (.c (OpW.un rfl rfl rfl rfl) (.c (OpW.un rfl rfl rfl rfl) (.c (OpW.un rfl rfl rfl rfl) (.c (OpW.un rfl rfl rfl rfl) (.c (OpW.un rfl rfl rfl rfl) (.c (OpW.un rfl rfl rfl rfl) (.c (OpW.un rfl rfl rfl rfl) (.c (OpW.un rfl rfl rfl rfl) (.c (OpW.un rfl rfl rfl rfl) (.c (OpW.un rfl rfl rfl rfl) (.c (OpW.un rfl rfl rfl rfl) (.c (OpW.no rfl rfl rfl rfl rfl) (.c (oP rfl rfl (op_pickT (Ev.t 30 (bB true)) (Ev.c _ rfl) rfl)) .nil)))))))))))))))))))))))))))))))))))))))) follows rfl rfl rfl ⟨⟨rfl, trivial⟩, trivial, ⟨rfl, trivial⟩, trivial, ⟨rfl, trivial⟩, trivial, ⟨rfl, trivial⟩, trivial, ⟨rfl, trivial⟩, trivial, ⟨rfl, trivial⟩, trivial, ⟨rfl, trivial⟩, trivial, ⟨rfl, trivial⟩, trivial, ⟨rfl, trivial⟩, trivial, ⟨rfl, trivial⟩, trivial, ⟨rfl, trivial⟩, trivial, ⟨rfl, trivial⟩, trivial, ⟨rfl, trivial⟩, trivial, ⟨rfl, trivial⟩, trivial, ⟨rfl, trivial⟩, trivial, ⟨rfl, trivial⟩, trivial, ⟨rfl, trivial⟩, trivial, ⟨rfl, trivial⟩, trivial, ⟨rfl, trivial⟩, trivial, ⟨rfl, trivial⟩, trivial, ⟨rfl, trivial⟩, trivial, ⟨rfl, trivial⟩, trivial, ⟨rfl, trivial⟩, trivial, ⟨rfl, trivial⟩, trivial, ⟨rfl, trivial⟩, trivial, ⟨rfl, trivial⟩, trivial, ⟨rfl, trivial⟩, trivial, ⟨rfl, trivial⟩, trivial, ⟨rfl, trivial⟩, trivial, ⟨rfl, trivial⟩, trivial, ⟨rfl, trivial⟩, trivial, ⟨rfl, trivial⟩, trivial, ⟨rfl, trivial⟩, trivial, ⟨rfl, trivial⟩, trivial, ⟨rfl, trivial⟩, trivial, ⟨rfl, trivial⟩, trivial, ⟨rfl, trivial⟩, trivial, ⟨rfl, trivial⟩, trivial, ⟨rfl, trivial⟩, trivial, ⟨rfl, trivial⟩, trivial, trivial⟩ ⟨rfl, rfl, rfl, trivial⟩ trivial rfl ?_
      refine G.condT rfl ?_
      refine G.seq ?_
      refine G.region ?_
      refine G.op1 (op_assign (Ev.c _ rfl) rfl) rfl trivial trivial ?_
      refine G.endOps ?_
      cases hF
      exact G.ret1 Try.results15 (RVar.tmp 2 _) ⟨rfl, trivial⟩ trivial
    · refine ifS hF (fun hc13 hF => ?_) (fun hc13 hF => ?_)
      · obtain ⟨x14, hx14, hF⟩ := bindS hF
        refine ifS hF (fun hc15 hF => ?_) (fun hc15 hF => ?_)
        · refine G.drawnI (deps := ([] :: [0] :: [0, 1] :: [0, 1, 2] :: [0, 1, 2, 3] :: [0, 1, 2, 3, 4] :: [0, 1, 2, 3, 4, 5] :: [0, 1, 2, 3, 4, 5] :: [0, 1, 2, 3, 4, 5, 6, 7] :: [0, 1, 2, 3, 4, 5, 6, 7, 8] :: [0, 1, 2, 3, 4, 5, 6, 7, 8, 9] :: [0, 1, 2, 3, 4, 5, 6, 7, 8, 9, 10] :: [0, 1, 2, 3, 4, 5, 6, 7, 8, 9, 10, 11] :: [0, 1, 2, 3, 4, 5, 6, 7, 8, 9, 10, 11, 12] :: [0, 1, 2, 3, 4, 5, 6, 7, 8, 9, 10, 11, 12, 13] :: [0, 1, 2, 3, 4, 5, 6, 7, 8, 9, 10, 11, 12, 13, 14] :: [0, 1, 2, 3, 4, 5, 6, 7, 8, 9, 10, 11, 12, 13, 14, 15] :: [0, 1, 2, 3, 4, 5, 6, 7, 8, 9, 10, 11, 12, 13, 14, 15, 16] :: [0, 1, 2, 3, 4, 5, 6, 7, 8, 9, 10, 11, 12, 13, 14, 15, 16, 17] :: [0, 1, 2, 3, 4, 5, 6, 7, 8, 9, 10, 11, 12, 13, 14, 15, 16, 17] :: [0, 1, 2, 3, 4, 5, 6, 7, 8, 9, 10, 11, 12, 13, 14, 15, 16, 17, 18, 19] :: (0 :: 1 :: 2 :: 3 :: 4 :: 5 :: 6 :: 7 :: 8 :: 9 :: 10 :: 11 :: 12 :: 13 :: 14 :: 15 :: 16 :: 17 :: 18 :: 19 :: 20 :: []) :: (0 :: 1 :: 2 :: 3 :: 4 :: 5 :: 6 :: 7 :: 8 :: 9 :: 10 :: 11 :: 12 :: 13 :: 14 :: 15 :: 16 :: 17 :: 18 :: 19 :: 20 :: 21 :: []) :: [0, 1, 2, 3, 4, 5, 6, 7, 8, 9, 10, 11, 12, 13, 14, 15, 16, 17] :: [0, 1, 2, 3, 4, 5, 6, 7, 8, 9, 10, 11, 12, 13, 14, 15, 16, 17] :: [0, 1, 2, 3, 4, 5, 6, 7, 8, 9, 10, 11, 12, 13, 14, 15, 16, 17, 24] :: (0 :: 1 :: 2 :: 3 :: 4 :: 5 :: 6 :: 7 :: 8 :: 9 :: 10 :: 11 :: 12 :: 13 :: 14 :: 15 :: 16 :: 17 :: 23 :: 24 :: 25 :: []) :: (0 :: 1 :: 2 :: 3 :: 4 :: 5 :: 6 :: 7 :: 8 :: 9 :: 10 :: 11 :: 12 :: 13 :: 14 :: 15 :: 16 :: 17 :: 23 :: 24 :: 25 :: 26 :: []) :: (0 :: 1 :: 2 :: 3 :: 4 :: 5 :: 6 :: 7 :: 8 :: 9 :: 10 :: 11 :: 12 :: 13 :: 14 :: 15 :: 16 :: 17 :: 23 :: 24 :: 25 :: 26 :: 27 :: []) :: (0 :: 1 :: 2 :: 3 :: 4 :: 5 :: 6 :: 7 :: 8 :: 9 :: 10 :: 11 :: 12 :: 13 :: 14 :: 15 :: 16 :: 17 :: 18 :: 19 :: 20 :: 21 :: 22 :: 23 :: 24 :: 25 :: 26 :: 27 :: 28 :: []) :: (0 :: 1 :: 2 :: 3 :: 4 :: 5 :: 6 :: 7 :: 8 :: 9 :: 10 :: 11 :: 12 :: 13 :: 14 :: 15 :: 16 :: 17 :: 18 :: 19 :: 20 :: 21 :: 22 :: 23 :: 24 :: 25 :: 26 :: 27 :: 28 :: 29 :: []) :: (0 :: 1 :: 2 :: 3 :: 4 :: 5 :: 6 :: 7 :: 8 :: 9 :: 10 :: 11 :: 12 :: 13 :: 14 :: 15 :: 16 :: 17 :: 18 :: 19 :: 20 :: 21 :: 22 :: 23 :: 24 :: 25 :: 26 :: 27 :: 28 :: 29 :: 30 :: []) :: (0 :: 1 :: 2 :: 3 :: 4 :: 5 :: 6 :: 7 :: 8 :: 9 :: 10 :: 11 :: 12 :: 13 :: 14 :: 15 :: 16 :: 17 :: 18 :: 19 :: 20 :: 21 :: 22 :: 23 :: 24 :: 25 :: 26 :: 27 :: 28 :: 29 :: 30 :: []) :: (0 :: 1 :: 2 :: 3 :: 4 :: 5 :: 6 :: 7 :: 8 :: 9 :: 10 :: 11 :: 12 :: 13 :: 14 :: 15 :: 16 :: 17 :: 18 :: 19 :: 20 :: 21 :: 22 :: 23 :: 24 :: 25 :: 26 :: 27 :: 28 :: 29 :: 30 :: 31 :: 32 :: []) :: (0 :: 1 :: 2 :: 3 :: 4 :: 5 :: 6 :: 7 :: 8 :: 9 :: 10 :: 11 :: 12 :: 13 :: 14 :: 15 :: 16 :: 17 :: 18 :: 19 :: 20 :: 21 :: 22 :: 23 :: 24 :: 25 :: 26 :: 27 :: 28 :: 29 :: 30 :: 31 :: 32 :: 33 :: []) :: (0 :: 1 :: 2 :: 3 :: 4 :: 5 :: 6 :: 7 :: 8 :: 9 :: 10 :: 11 :: 12 :: 13 :: 14 :: 15 :: 16 :: 17 :: 18 :: 19 :: 20 :: 21 :: 22 :: 23 :: 24 :: 25 :: 26 :: 27 :: 28 :: 29 :: 30 :: 31 :: 32 :: 33 :: 34 :: []) :: (0 :: 1 :: 2 :: 3 :: 4 :: 5 :: 6 :: 7 :: 8 :: 9 :: 10 :: 11 :: 12 :: 13 :: 14 :: 15 :: 16 :: 17 :: 18 :: 19 :: 20 :: 21 :: 22 :: 23 :: 24 :: 25 :: 26 :: 27 :: 28 :: 29 :: 30 :: 31 :: 32 :: 33 :: 34 :: 35 :: []) :: (0 :: 1 :: 2 :: 3 :: 4 :: 5 :: 6 :: 7 :: 8 :: 9 :: 10 :: 11 :: 12 :: 13 :: 14 :: 15 :: 16 :: 17 :: 18 :: 19 :: 20 :: 21 :: 22 :: 23 :: 24 :: 25 :: 26 :: 27 :: 28 :: 29 :: 30 :: 31 :: 32 :: 33 :: 34 :: 35 :: 36 :: []) :: (0 :: 1 :: 2 :: 3 :: 4 :: 5 :: 6 :: 7 :: 8 :: 9 :: 10 :: 11 :: 12 :: 13 :: 14 :: 15 :: 16 :: 17 :: 18 :: 19 :: 20 :: 21 :: 22 :: 23 :: 24 :: 25 :: 26 :: 27 :: 28 :: 29 :: 30 :: 31 :: 32 :: 33 :: 34 :: 35 :: 36 :: 37 :: []) :: (0 :: 1 :: 2 :: 3 :: 4 :: 5 :: 6 :: 7 :: 8 :: 9 :: 10 :: 11 :: 12 :: 13 :: 14 :: 15 :: 16 :: 17 :: 18 :: 19 :: 20 :: 21 :: 22 :: 23 :: 24 :: 25 :: 26 :: 27 :: 28 :: 29 :: 30 :: 31 :: 32 :: 33 :: 34 :: 35 :: 36 :: 37 :: 38 :: []) :: [])) (sl' := [(0, .one (.g (.d (.sl 2 (List.map encApi_Range l_0))))), (3, oI v5), (55, oB true)]) (hp' := []) (.c (oP rfl rfl (op_move (Ev.t 4 (bB r11)) rfl)) (.c (oP rfl rfl (OpL.cast (op_not (Ev.t 16 (bB r11)) rfl) (congrArg (fun b => bB b) hc12))) (.c (oP rfl rfl (op_move (Ev.t 17 (bB false)) rfl)) (.c (oY rfl rfl rfl (op_move (Ev.t 3 (bI .i64 v5)) rfl)) (.c (oY rfl rfl rfl (OpL.cast (op_eqI (Ev.t 19 (bI .i64 v5)) (Ev.c _ rfl) rfl) (congrArg (fun b => bB b) hc13))) (.c (oY rfl rfl rfl (op_move (Ev.t 20 (bB true)) rfl)) (.c (oY rfl rfl rfl (op_move (Ev.t 0 (.g (.d (.sl 2 (List.map encApi_Range l_0))))) rfl)) (.c (oY rfl rfl rfl (op_move (Ev.t 3 (bI .i64 v5)) rfl)) (.c (oY rfl rfl rfl (op_index (cs := [vS x14.From, vS x14.To]) Try.underlying29 ti37 (idx_ok hx14).1 (idx_get hx14 encApi_Range) (Ev.t 22 (.g (.d (.sl 2 (List.map encApi_Range l_0))))) (Ev.t 23 (bI .i64 v5)) rfl)) (.c (oY rfl rfl rfl (op_fieldE (cs' := [vS x14.From, vS x14.To]) Try.underlying37 rfl ti9 (by decide) rfl (Ev.t 24 (.ep [vS x14.From, vS x14.To])) rfl)) (.c (oY rfl rfl rfl (op_load1E (c := vS x14.From) Try.underlying9 rfl rfl (Ev.t 25 (.ep [vS x14.From, vS x14.To])) rfl)) (.c (oY rfl rfl rfl (OpL.cast (op_neS (Ev.t 26 (bS x14.From)) (Ev.c _ rfl) rfl) (congrArg (fun b => bB b) hc15))) (.c (oY rfl rfl rfl (op_pickT (Ev.t 21 (bB true)) (Ev.t 27 (bB true)) rfl)) (.c (oP rfl rfl (op_pickF (Ev.t 18 (bB false)) (Ev.t 28 (bB true)) rfl)) (.c (oP rfl rfl (op_move (Ev.t 29 (bB true)) rfl)) (.c (OpW.no rfl rfl rfl rfl rfl) (.c (OpW.no rfl rfl rfl rfl rfl) (.c (OpW.no rfl rfl rfl rfl rfl) (.c (OpW.un rfl rfl rfl rfl) (.c (OpW.un rfl rfl rfl rfl) (.c (OpW.un rfl rfl rfl rfl) (.c (OpW.un rfl rfl rfl rfl) (.c (OpW.un rfl rfl rfl rfl) (.c (OpW.un rfl rfl rfl rfl) (.c (OpW.un rfl rfl rfl rfl) (.c (OpW.un rfl rfl rfl rfl) (.c (OpW.un rfl rfl rfl rfl) (.c (OpW.un rfl rfl rfl rfl) (.c (OpW.un rfl rfl rfl rfl) (.c (OpW.un rfl rfl rfl rfl) (.c (OpW.un rfl rfl rfl rfl) (.c (OpW.un rfl rfl rfl rfl) (.c (OpW.un rfl rfl rfl rfl) (.c (OpW.un rfl rfl rfl rfl) (.c (OpW.un rfl rfl rfl rfl) (.c (OpW.un rfl rfl rfl rfl) (.c (OpW.un rfl rfl rfl rfl) (.c (OpW.un rfl rfl rfl rfl) (.c (OpW.no rfl rfl rfl rfl rfl) (.c (oP rfl rfl (op_pickT (Ev.t 30 (bB true)) (Ev.c _ rfl) rfl)) .nil)))))))))))))))))))))))))))))))))))))))) follows rfl rfl rfl ⟨⟨rfl, trivial⟩, trivial, ⟨rfl, trivial⟩, trivial, ⟨rfl, trivial⟩, trivial, ⟨rfl, rfl, trivial⟩, trivial, ⟨rfl, rfl, trivial⟩, trivial, ⟨rfl, rfl, trivial⟩, trivial, ⟨rfl, rfl, trivial⟩, trivial, ⟨rfl, rfl, trivial⟩, trivial, ⟨rfl, rfl, rfl, trivial⟩, trivial, ⟨rfl, rfl, trivial⟩, trivial, ⟨rfl, rfl, trivial⟩, trivial, ⟨rfl, rfl, trivial⟩, trivial, ⟨rfl, rfl, rfl, trivial⟩, trivial, ⟨rfl, rfl, trivial⟩, trivial, ⟨rfl, trivial⟩, trivial, ⟨rfl, trivial⟩, trivial, ⟨rfl, trivial⟩, trivial, ⟨rfl, trivial⟩, trivial, ⟨rfl, trivial⟩, trivial, ⟨rfl, trivial⟩, trivial, ⟨rfl, trivial⟩, trivial, ⟨rfl, trivial⟩, trivial, ⟨rfl, trivial⟩, trivial, ⟨rfl, trivial⟩, trivial, ⟨rfl, trivial⟩, trivial, ⟨rfl, trivial⟩, trivial, ⟨rfl, trivial⟩, trivial, ⟨rfl, trivial⟩, trivial, ⟨rfl, trivial⟩, trivial, ⟨rfl, trivial⟩, trivial, ⟨rfl, trivial⟩, trivial, ⟨rfl, trivial⟩, trivial, ⟨rfl, trivial⟩, trivial, ⟨rfl, trivial⟩, trivial, ⟨rfl, trivial⟩, trivial, ⟨rfl, trivial⟩, trivial, ⟨rfl, trivial⟩, trivial, ⟨rfl, trivial⟩, trivial, ⟨rfl, trivial⟩, trivial, ⟨rfl, trivial⟩, trivial, trivial⟩ ⟨rfl, rfl, rfl, trivial⟩ trivial rfl ?_
          refine G.condT rfl ?_
          refine G.seq ?_
          refine G.region ?_
          refine G.op1 (op_assign (Ev.c _ rfl) rfl) rfl trivial trivial ?_
          refine G.endOps ?_
          cases hF
          exact G.ret1 Try.results15 (RVar.tmp 2 _) ⟨rfl, trivial⟩ trivial
        · refine ifS hF (fun hc16 hF => ?_) (fun hc16 hF => ?_)
          · obtain ⟨x17, hx17, hF⟩ := bindS hF
            obtain ⟨x18, hx18, hF⟩ := bindS hF
            refine ifS hF (fun hc19 hF => ?_) (fun hc19 hF => ?_)
            · refine G.drawnI (deps := ([] :: [0] :: [0, 1] :: [0, 1, 2] :: [0, 1, 2, 3] :: [0, 1, 2, 3, 4] :: [0, 1, 2, 3, 4, 5] :: [0, 1, 2, 3, 4, 5] :: [0, 1, 2, 3, 4, 5, 6, 7] :: [0, 1, 2, 3, 4, 5, 6, 7, 8] :: [0, 1, 2, 3, 4, 5, 6, 7, 8, 9] :: [0, 1, 2, 3, 4, 5, 6, 7, 8, 9, 10] :: [0, 1, 2, 3, 4, 5, 6, 7, 8, 9, 10, 11] :: [0, 1, 2, 3, 4, 5, 6, 7, 8, 9, 10, 11, 12] :: [0, 1, 2, 3, 4, 5, 6, 7, 8, 9, 10, 11, 12, 13] :: [0, 1, 2, 3, 4, 5, 6, 7, 8, 9, 10, 11, 12, 13, 14] :: [0, 1, 2, 3, 4, 5, 6, 7, 8, 9, 10, 11, 12, 13, 14, 15] :: [0, 1, 2, 3, 4, 5, 6, 7, 8, 9, 10, 11, 12, 13, 14, 15, 16] :: [0, 1, 2, 3, 4, 5, 6, 7, 8, 9, 10, 11, 12, 13, 14, 15, 16, 17] :: [0, 1, 2, 3, 4, 5, 6, 7, 8, 9, 10, 11, 12, 13, 14, 15, 16, 17] :: [0, 1, 2, 3, 4, 5, 6, 7, 8, 9, 10, 11, 12, 13, 14, 15, 16, 17, 18, 19] :: (0 :: 1 :: 2 :: 3 :: 4 :: 5 :: 6 :: 7 :: 8 :: 9 :: 10 :: 11 :: 12 :: 13 :: 14 :: 15 :: 16 :: 17 :: 18 :: 19 :: 20 :: []) :: (0 :: 1 :: 2 :: 3 :: 4 :: 5 :: 6 :: 7 :: 8 :: 9 :: 10 :: 11 :: 12 :: 13 :: 14 :: 15 :: 16 :: 17 :: 18 :: 19 :: 20 :: 21 :: []) :: [0, 1, 2, 3, 4, 5, 6, 7, 8, 9, 10, 11, 12, 13, 14, 15, 16, 17] :: [0, 1, 2, 3, 4, 5, 6, 7, 8, 9, 10, 11, 12, 13, 14, 15, 16, 17] :: [0, 1, 2, 3, 4, 5, 6, 7, 8, 9, 10, 11, 12, 13, 14, 15, 16, 17, 24] :: (0 :: 1 :: 2 :: 3 :: 4 :: 5 :: 6 :: 7 :: 8 :: 9 :: 10 :: 11 :: 12 :: 13 :: 14 :: 15 :: 16 :: 17 :: 23 :: 24 :: 25 :: []) :: (0 :: 1 :: 2 :: 3 :: 4 :: 5 :: 6 :: 7 :: 8 :: 9 :: 10 :: 11 :: 12 :: 13 :: 14 :: 15 :: 16 :: 17 :: 23 :: 24 :: 25 :: 26 :: []) :: (0 :: 1 :: 2 :: 3 :: 4 :: 5 :: 6 :: 7 :: 8 :: 9 :: 10 :: 11 :: 12 :: 13 :: 14 :: 15 :: 16 :: 17 :: 23 :: 24 :: 25 :: 26 :: 27 :: []) :: (0 :: 1 :: 2 :: 3 :: 4 :: 5 :: 6 :: 7 :: 8 :: 9 :: 10 :: 11 :: 12 :: 13 :: 14 :: 15 :: 16 :: 17 :: 18 :: 19 :: 20 :: 21 :: 22 :: 23 :: 24 :: 25 :: 26 :: 27 :: 28 :: []) :: (0 :: 1 :: 2 :: 3 :: 4 :: 5 :: 6 :: 7 :: 8 :: 9 :: 10 :: 11 :: 12 :: 13 :: 14 :: 15 :: 16 :: 17 :: 18 :: 19 :: 20 :: 21 :: 22 :: 23 :: 24 :: 25 :: 26 :: 27 :: 28 :: 29 :: []) :: (0 :: 1 :: 2 :: 3 :: 4 :: 5 :: 6 :: 7 :: 8 :: 9 :: 10 :: 11 :: 12 :: 13 :: 14 :: 15 :: 16 :: 17 :: 18 :: 19 :: 20 :: 21 :: 22 :: 23 :: 24 :: 25 :: 26 :: 27 :: 28 :: 29 :: 30 :: []) :: (0 :: 1 :: 2 :: 3 :: 4 :: 5 :: 6 :: 7 :: 8 :: 9 :: 10 :: 11 :: 12 :: 13 :: 14 :: 15 :: 16 :: 17 :: 18 :: 19 :: 20 :: 21 :: 22 :: 23 :: 24 :: 25 :: 26 :: 27 :: 28 :: 29 :: 30 :: []) :: (0 :: 1 :: 2 :: 3 :: 4 :: 5 :: 6 :: 7 :: 8 :: 9 :: 10 :: 11 :: 12 :: 13 :: 14 :: 15 :: 16 :: 17 :: 18 :: 19 :: 20 :: 21 :: 22 :: 23 :: 24 :: 25 :: 26 :: 27 :: 28 :: 29 :: 30 :: 31 :: 32 :: []) :: (0 :: 1 :: 2 :: 3 :: 4 :: 5 :: 6 :: 7 :: 8 :: 9 :: 10 :: 11 :: 12 :: 13 :: 14 :: 15 :: 16 :: 17 :: 18 :: 19 :: 20 :: 21 :: 22 :: 23 :: 24 :: 25 :: 26 :: 27 :: 28 :: 29 :: 30 :: 31 :: 32 :: 33 :: []) :: (0 :: 1 :: 2 :: 3 :: 4 :: 5 :: 6 :: 7 :: 8 :: 9 :: 10 :: 11 :: 12 :: 13 :: 14 :: 15 :: 16 :: 17 :: 18 :: 19 :: 20 :: 21 :: 22 :: 23 :: 24 :: 25 :: 26 :: 27 :: 28 :: 29 :: 30 :: 31 :: 32 :: 33 :: 34 :: []) :: (0 :: 1 :: 2 :: 3 :: 4 :: 5 :: 6 :: 7 :: 8 :: 9 :: 10 :: 11 :: 12 :: 13 :: 14 :: 15 :: 16 :: 17 :: 18 :: 19 :: 20 :: 21 :: 22 :: 23 :: 24 :: 25 :: 26 :: 27 :: 28 :: 29 :: 30 :: 31 :: 32 :: 33 :: 34 :: 35 :: []) :: (0 :: 1 :: 2 :: 3 :: 4 :: 5 :: 6 :: 7 :: 8 :: 9 :: 10 :: 11 :: 12 :: 13 :: 14 :: 15 :: 16 :: 17 :: 18 :: 19 :: 20 :: 21 :: 22 :: 23 :: 24 :: 25 :: 26 :: 27 :: 28 :: 29 :: 30 :: 31 :: 32 :: 33 :: 34 :: 35 :: 36 :: []) :: (0 :: 1 :: 2 :: 3 :: 4 :: 5 :: 6 :: 7 :: 8 :: 9 :: 10 :: 11 :: 12 :: 13 :: 14 :: 15 :: 16 :: 17 :: 18 :: 19 :: 20 :: 21 :: 22 :: 23 :: 24 :: 25 :: 26 :: 27 :: 28 :: 29 :: 30 :: 31 :: 32 :: 33 :: 34 :: 35 :: 36 :: 37 :: []) :: (0 :: 1 :: 2 :: 3 :: 4 :: 5 :: 6 :: 7 :: 8 :: 9 :: 10 :: 11 :: 12 :: 13 :: 14 :: 15 :: 16 :: 17 :: 18 :: 19 :: 20 :: 21 :: 22 :: 23 :: 24 :: 25 :: 26 :: 27 :: 28 :: 29 :: 30 :: 31 :: 32 :: 33 :: 34 :: 35 :: 36 :: 37 :: 38 :: []) :: [])) (sl' := [(0, .one (.g (.d (.sl 2 (List.map encApi_Range l_0))))), (3, oI v5), (55, oB true)]) (hp' := []) (.c (oP rfl rfl (op_move (Ev.t 4 (bB r11)) rfl)) (.c (oP rfl rfl (OpL.cast (op_not (Ev.t 16 (bB r11)) rfl) (congrArg (fun b => bB b) hc12))) (.c (oP rfl rfl (op_move (Ev.t 17 (bB false)) rfl)) (.c (oY rfl rfl rfl (op_move (Ev.t 3 (bI .i64 v5)) rfl)) (.c (oY rfl rfl rfl (OpL.cast (op_eqI (Ev.t 19 (bI .i64 v5)) (Ev.c _ rfl) rfl) (congrArg (fun b => bB b) hc13))) (.c (oY rfl rfl rfl (op_move (Ev.t 20 (bB true)) rfl)) (.c (oY rfl rfl rfl (op_move (Ev.t 0 (.g (.d (.sl 2 (List.map encApi_Range l_0))))) rfl)) (.c (oY rfl rfl rfl (op_move (Ev.t 3 (bI .i64 v5)) rfl)) (.c (oY rfl rfl rfl (op_index (cs := [vS x14.From, vS x14.To]) Try.underlying29 ti37 (idx_ok hx14).1 (idx_get hx14 encApi_Range) (Ev.t 22 (.g (.d (.sl 2 (List.map encApi_Range l_0))))) (Ev.t 23 (bI .i64 v5)) rfl)) (.c (oY rfl rfl rfl (op_fieldE (cs' := [vS x14.From, vS x14.To]) Try.underlying37 rfl ti9 (by decide) rfl (Ev.t 24 (.ep [vS x14.From, vS x14.To])) rfl)) (.c (oY rfl rfl rfl (op_load1E (c := vS x14.From) Try.underlying9 rfl rfl (Ev.t 25 (.ep [vS x14.From, vS x14.To])) rfl)) (.c (oY rfl rfl rfl (OpL.cast (op_neS (Ev.t 26 (bS x14.From)) (Ev.c _ rfl) rfl) (congrArg (fun b => bB b) hc15))) (.c (oY rfl rfl rfl (op_pickT (Ev.t 21 (bB true)) (Ev.t 27 (bB false)) rfl)) (.c (oP rfl rfl (op_pickF (Ev.t 18 (bB false)) (Ev.t 28 (bB false)) rfl)) (.c (oP rfl rfl (op_move (Ev.t 29 (bB false)) rfl)) (.c (oY rfl rfl rfl (op_move (Ev.t 3 (bI .i64 v5)) rfl)) (.c (oY rfl rfl rfl (OpL.cast (op_gtr (Ev.t 31 (bI .i64 v5)) (Ev.c _ rfl) rfl) (congrArg (fun b => bB b) hc16))) (.c (oY rfl rfl rfl (op_move (Ev.t 32 (bB true)) rfl)) (.c (oY rfl rfl rfl (op_move (Ev.t 0 (.g (.d (.sl 2 (List.map encApi_Range l_0))))) rfl)) (.c (oY rfl rfl rfl (op_move (Ev.t 3 (bI .i64 v5)) rfl)) (.c (oY rfl rfl rfl (op_index (cs := [vS x17.From, vS x17.To]) Try.underlying29 ti37 (idx_ok hx17).1 (idx_get hx17 encApi_Range) (Ev.t 34 (.g (.d (.sl 2 (List.map encApi_Range l_0))))) (Ev.t 35 (bI .i64 v5)) rfl)) (.c (oY rfl rfl rfl (op_fieldE (cs' := [vS x17.From, vS x17.To]) Try.underlying37 rfl ti9 (by decide) rfl (Ev.t 36 (.ep [vS x17.From, vS x17.To])) rfl)) (.c (oY rfl rfl rfl (op_load1E (c := vS x17.From) Try.underlying9 rfl rfl (Ev.t 37 (.ep [vS x17.From, vS x17.To])) rfl)) (.c (oY rfl rfl rfl (op_move (Ev.t 0 (.g (.d (.sl 2 (List.map encApi_Range l_0))))) rfl)) (.c (oY rfl rfl rfl (op_move (Ev.t 3 (bI .i64 v5)) rfl)) (.c (oY rfl rfl rfl (op_sub (Ev.t 40 (bI .i64 v5)) (Ev.c _ rfl) rfl)) (.c (oY rfl rfl rfl (op_index (cs := [vS x18.From, vS x18.To]) Try.underlying29 ti37 (idx_ok hx18).1 (idx_get hx18 encApi_Range) (Ev.t 39 (.g (.d (.sl 2 (List.map encApi_Range l_0))))) (Ev.t 41 (bI .i64 (IntKind.wrap .i64 (v5 - 1)))) rfl)) (.c (oY rfl rfl rfl (op_fieldE (cs' := [vS x18.To]) Try.underlying37 rfl ti9 (by decide) rfl (Ev.t 42 (.ep [vS x18.From, vS x18.To])) rfl)) (.c (oY rfl rfl rfl (op_load1E (c := vS x18.To) Try.underlying9 rfl rfl (Ev.t 43 (.ep [vS x18.To])) rfl)) (.c (oY rfl rfl rfl (OpL.cast (op_neS (Ev.t 38 (bS x17.From)) (Ev.t 44 (bS x18.To)) rfl) (congrArg (fun b => bB b) hc19))) (.c (oY rfl rfl rfl (op_move (Ev.t 45 (bB true)) rfl)) (.c (OpW.no rfl rfl rfl rfl rfl) (.c (OpW.no rfl rfl rfl rfl rfl) (.c (OpW.no rfl rfl rfl rfl rfl) (.c (OpW.no rfl rfl rfl rfl rfl) (.c (OpW.no rfl rfl rfl rfl rfl) (.c (OpW.no rfl rfl rfl rfl rfl) (.c (oY rfl rfl rfl (op_pickT (Ev.t 46 (bB true)) (Ev.c _ rfl) rfl)) (.c (oY rfl rfl rfl (op_pickT (Ev.t 33 (bB true)) (Ev.t 53 (bB true)) rfl)) (.c (oP rfl rfl (op_pickF (Ev.t 30 (bB false)) (Ev.t 54 (bB true)) rfl)) .nil)))))))))))))))))))))))))))))))))))))))) follows rfl rfl rfl ⟨⟨rfl, trivial⟩, trivial, ⟨rfl, trivial⟩, trivial, ⟨rfl, trivial⟩, trivial, ⟨rfl, rfl, trivial⟩, trivial, ⟨rfl, rfl, trivial⟩, trivial, ⟨rfl, rfl, trivial⟩, trivial, ⟨rfl, rfl, trivial⟩, trivial, ⟨rfl, rfl, trivial⟩, trivial, ⟨rfl, rfl, rfl, trivial⟩, trivial, ⟨rfl, rfl, trivial⟩, trivial, ⟨rfl, rfl, trivial⟩, trivial, ⟨rfl, rfl, trivial⟩, trivial, ⟨rfl, rfl, rfl, trivial⟩, trivial, ⟨rfl, rfl, trivial⟩, trivial, ⟨rfl, trivial⟩, trivial, ⟨rfl, rfl, trivial⟩, trivial, ⟨rfl, rfl, trivial⟩, trivial, ⟨rfl, rfl, trivial⟩, trivial, ⟨rfl, rfl, trivial⟩, trivial, ⟨rfl, rfl, trivial⟩, trivial, ⟨rfl, rfl, rfl, trivial⟩, trivial, ⟨rfl, rfl, trivial⟩, trivial, ⟨rfl, rfl, trivial⟩, trivial, ⟨rfl, rfl, trivial⟩, trivial, ⟨rfl, rfl, trivial⟩, trivial, ⟨rfl, rfl, trivial⟩, trivial, ⟨rfl, rfl, rfl, trivial⟩, trivial, ⟨rfl, rfl, trivial⟩, trivial, ⟨rfl, rfl, trivial⟩, trivial, ⟨rfl, rfl, rfl, trivial⟩, trivial, ⟨rfl, rfl, trivial⟩, trivial, ⟨rfl, trivial⟩, trivial, ⟨rfl, trivial⟩, trivial, ⟨rfl, trivial⟩, trivial, ⟨rfl, trivial⟩, trivial, ⟨rfl, trivial⟩, trivial, ⟨rfl, trivial⟩, trivial, ⟨rfl, rfl, trivial⟩, trivial, ⟨rfl, rfl, rfl, trivial⟩, trivial, ⟨rfl, rfl, trivial⟩, trivial, trivial⟩ ⟨rfl, rfl, rfl, trivial⟩ trivial rfl ?_
              refine G.condT rfl ?_
              refine G.seq ?_
              refine G.region ?_
              refine G.op1 (op_assign (Ev.c _ rfl) rfl) rfl trivial trivial ?_
              refine G.endOps ?_
              cases hF
              exact G.ret1 Try.results15 (RVar.tmp 2 _) ⟨rfl, trivial⟩ trivial
            · obtain ⟨x20, hx20, hF⟩ := bindS hF
              refine G.drawnI (deps := ([] :: [0] :: [0, 1] :: [0, 1, 2] :: [0, 1, 2, 3] :: [0, 1, 2, 3, 4] :: [0, 1, 2, 3, 4, 5] :: [0, 1, 2, 3, 4, 5] :: [0, 1, 2, 3, 4, 5, 6, 7] :: [0, 1, 2, 3, 4, 5, 6, 7, 8] :: [0, 1, 2, 3, 4, 5, 6, 7, 8, 9] :: [0, 1, 2, 3, 4, 5, 6, 7, 8, 9, 10] :: [0, 1, 2, 3, 4, 5, 6, 7, 8, 9, 10, 11] :: [0, 1, 2, 3, 4, 5, 6, 7, 8, 9, 10, 11, 12] :: [0, 1, 2, 3, 4, 5, 6, 7, 8, 9, 10, 11, 12, 13] :: [0, 1, 2, 3, 4, 5, 6, 7, 8, 9, 10, 11, 12, 13, 14] :: [0, 1, 2, 3, 4, 5, 6, 7, 8, 9, 10, 11, 12, 13, 14, 15] :: [0, 1, 2, 3, 4, 5, 6, 7, 8, 9, 10, 11, 12, 13, 14, 15, 16] :: [0, 1, 2, 3, 4, 5, 6, 7, 8, 9, 10, 11, 12, 13, 14, 15, 16, 17] :: [0, 1, 2, 3, 4, 5, 6, 7, 8, 9, 10, 11, 12, 13, 14, 15, 16, 17] :: [0, 1, 2, 3, 4, 5, 6, 7, 8, 9, 10, 11, 12, 13, 14, 15, 16, 17, 18, 19] :: (0 :: 1 :: 2 :: 3 :: 4 :: 5 :: 6 :: 7 :: 8 :: 9 :: 10 :: 11 :: 12 :: 13 :: 14 :: 15 :: 16 :: 17 :: 18 :: 19 :: 20 :: []) :: (0 :: 1 :: 2 :: 3 :: 4 :: 5 :: 6 :: 7 :: 8 :: 9 :: 10 :: 11 :: 12 :: 13 :: 14 :: 15 :: 16 :: 17 :: 18 :: 19 :: 20 :: 21 :: []) :: [0, 1, 2, 3, 4, 5, 6, 7, 8, 9, 10, 11, 12, 13, 14, 15, 16, 17] :: [0, 1, 2, 3, 4, 5, 6, 7, 8, 9, 10, 11, 12, 13, 14, 15, 16, 17] :: [0, 1, 2, 3, 4, 5, 6, 7, 8, 9, 10, 11, 12, 13, 14, 15, 16, 17, 24] :: (0 :: 1 :: 2 :: 3 :: 4 :: 5 :: 6 :: 7 :: 8 :: 9 :: 10 :: 11 :: 12 :: 13 :: 14 :: 15 :: 16 :: 17 :: 23 :: 24 :: 25 :: []) :: (0 :: 1 :: 2 :: 3 :: 4 :: 5 :: 6 :: 7 :: 8 :: 9 :: 10 :: 11 :: 12 :: 13 :: 14 :: 15 :: 16 :: 17 :: 23 :: 24 :: 25 :: 26 :: []) :: (0 :: 1 :: 2 :: 3 :: 4 :: 5 :: 6 :: 7 :: 8 :: 9 :: 10 :: 11 :: 12 :: 13 :: 14 :: 15 :: 16 :: 17 :: 23 :: 24 :: 25 :: 26 :: 27 :: []) :: (0 :: 1 :: 2 :: 3 :: 4 :: 5 :: 6 :: 7 :: 8 :: 9 :: 10 :: 11 :: 12 :: 13 :: 14 :: 15 :: 16 :: 17 :: 18 :: 19 :: 20 :: 21 :: 22 :: 23 :: 24 :: 25 :: 26 :: 27 :: 28 :: []) :: (0 :: 1 :: 2 :: 3 :: 4 :: 5 :: 6 :: 7 :: 8 :: 9 :: 10 :: 11 :: 12 :: 13 :: 14 :: 15 :: 16 :: 17 :: 18 :: 19 :: 20 :: 21 :: 22 :: 23 :: 24 :: 25 :: 26 :: 27 :: 28 :: 29 :: []) :: (0 :: 1 :: 2 :: 3 :: 4 :: 5 :: 6 :: 7 :: 8 :: 9 :: 10 :: 11 :: 12 :: 13 :: 14 :: 15 :: 16 :: 17 :: 18 :: 19 :: 20 :: 21 :: 22 :: 23 :: 24 :: 25 :: 26 :: 27 :: 28 :: 29 :: 30 :: []) :: (0 :: 1 :: 2 :: 3 :: 4 :: 5 :: 6 :: 7 :: 8 :: 9 :: 10 :: 11 :: 12 :: 13 :: 14 :: 15 :: 16 :: 17 :: 18 :: 19 :: 20 :: 21 :: 22 :: 23 :: 24 :: 25 :: 26 :: 27 :: 28 :: 29 :: 30 :: []) :: (0 :: 1 :: 2 :: 3 :: 4 :: 5 :: 6 :: 7 :: 8 :: 9 :: 10 :: 11 :: 12 :: 13 :: 14 :: 15 :: 16 :: 17 :: 18 :: 19 :: 20 :: 21 :: 22 :: 23 :: 24 :: 25 :: 26 :: 27 :: 28 :: 29 :: 30 :: 31 :: 32 :: []) :: (0 :: 1 :: 2 :: 3 :: 4 :: 5 :: 6 :: 7 :: 8 :: 9 :: 10 :: 11 :: 12 :: 13 :: 14 :: 15 :: 16 :: 17 :: 18 :: 19 :: 20 :: 21 :: 22 :: 23 :: 24 :: 25 :: 26 :: 27 :: 28 :: 29 :: 30 :: 31 :: 32 :: 33 :: []) :: (0 :: 1 :: 2 :: 3 :: 4 :: 5 :: 6 :: 7 :: 8 :: 9 :: 10 :: 11 :: 12 :: 13 :: 14 :: 15 :: 16 :: 17 :: 18 :: 19 :: 20 :: 21 :: 22 :: 23 :: 24 :: 25 :: 26 :: 27 :: 28 :: 29 :: 30 :: 31 :: 32 :: 33 :: 34 :: []) :: (0 :: 1 :: 2 :: 3 :: 4 :: 5 :: 6 :: 7 :: 8 :: 9 :: 10 :: 11 :: 12 :: 13 :: 14 :: 15 :: 16 :: 17 :: 18 :: 19 :: 20 :: 21 :: 22 :: 23 :: 24 :: 25 :: 26 :: 27 :: 28 :: 29 :: 30 :: 31 :: 32 :: 33 :: 34 :: 35 :: []) :: (0 :: 1 :: 2 :: 3 :: 4 :: 5 :: 6 :: 7 :: 8 :: 9 :: 10 :: 11 :: 12 :: 13 :: 14 :: 15 :: 16 :: 17 :: 18 :: 19 :: 20 :: 21 :: 22 :: 23 :: 24 :: 25 :: 26 :: 27 :: 28 :: 29 :: 30 :: 31 :: 32 :: 33 :: 34 :: 35 :: 36 :: []) :: (0 :: 1 :: 2 :: 3 :: 4 :: 5 :: 6 :: 7 :: 8 :: 9 :: 10 :: 11 :: 12 :: 13 :: 14 :: 15 :: 16 :: 17 :: 18 :: 19 :: 20 :: 21 :: 22 :: 23 :: 24 :: 25 :: 26 :: 27 :: 28 :: 29 :: 30 :: 31 :: 32 :: 33 :: 34 :: 35 :: 36 :: 37 :: []) :: (0 :: 1 :: 2 :: 3 :: 4 :: 5 :: 6 :: 7 :: 8 :: 9 :: 10 :: 11 :: 12 :: 13 :: 14 :: 15 :: 16 :: 17 :: 18 :: 19 :: 20 :: 21 :: 22 :: 23 :: 24 :: 25 :: 26 :: 27 :: 28 :: 29 :: 30 :: 31 :: 32 :: 33 :: 34 :: 35 :: 36 :: 37 :: 38 :: []) :: [])) (sl' := [(0, .one (.g (.d (.sl 2 (List.map encApi_Range l_0))))), (3, oI v5), (55, oB (seq x20.From ByteArray.empty))]) (hp' := []) (.c (oP rfl rfl (op_move (Ev.t 4 (bB r11)) rfl)) (.c (oP rfl rfl (OpL.cast (op_not (Ev.t 16 (bB r11)) rfl) (congrArg (fun b => bB b) hc12))) (.c (oP rfl rfl (op_move (Ev.t 17 (bB false)) rfl)) (.c (oY rfl rfl rfl (op_move (Ev.t 3 (bI .i64 v5)) rfl)) (.c (oY rfl rfl rfl (OpL.cast (op_eqI (Ev.t 19 (bI .i64 v5)) (Ev.c _ rfl) rfl) (congrArg (fun b => bB b) hc13))) (.c (oY rfl rfl rfl (op_move (Ev.t 20 (bB true)) rfl)) (.c (oY rfl rfl rfl (op_move (Ev.t 0 (.g (.d (.sl 2 (List.map encApi_Range l_0))))) rfl)) (.c (oY rfl rfl rfl (op_move (Ev.t 3 (bI .i64 v5)) rfl)) (.c (oY rfl rfl rfl (op_index (cs := [vS x14.From, vS x14.To]) Try.underlying29 ti37 (idx_ok hx14).1 (idx_get hx14 encApi_Range) (Ev.t 22 (.g (.d (.sl 2 (List.map encApi_Range l_0))))) (Ev.t 23 (bI .i64 v5)) rfl)) (.c (oY rfl rfl rfl (op_fieldE (cs' := [vS x14.From, vS x14.To]) Try.underlying37 rfl ti9 (by decide) rfl (Ev.t 24 (.ep [vS x14.From, vS x14.To])) rfl)) (.c (oY rfl rfl rfl (op_load1E (c := vS x14.From) Try.underlying9 rfl rfl (Ev.t 25 (.ep [vS x14.From, vS x14.To])) rfl)) (.c (oY rfl rfl rfl (OpL.cast (op_neS (Ev.t 26 (bS x14.From)) (Ev.c _ rfl) rfl) (congrArg (fun b => bB b) hc15))) (.c (oY rfl rfl rfl (op_pickT (Ev.t 21 (bB true)) (Ev.t 27 (bB false)) rfl)) (.c (oP rfl rfl (op_pickF (Ev.t 18 (bB false)) (Ev.t 28 (bB false)) rfl)) (.c (oP rfl rfl (op_move (Ev.t 29 (bB false)) rfl)) (.c (oY rfl rfl rfl (op_move (Ev.t 3 (bI .i64 v5)) rfl)) (.c (oY rfl rfl rfl (OpL.cast (op_gtr (Ev.t 31 (bI .i64 v5)) (Ev.c _ rfl) rfl) (congrArg (fun b => bB b) hc16))) (.c (oY rfl rfl rfl (op_move (Ev.t 32 (bB true)) rfl)) (.c (oY rfl rfl rfl (op_move (Ev.t 0 (.g (.d (.sl 2 (List.map encApi_Range l_0))))) rfl)) (.c (oY rfl rfl rfl (op_move (Ev.t 3 (bI .i64 v5)) rfl)) (.c (oY rfl rfl rfl (op_index (cs := [vS x17.From, vS x17.To]) Try.underlying29 ti37 (idx_ok hx17).1 (idx_get hx17 encApi_Range) (Ev.t 34 (.g (.d (.sl 2 (List.map encApi_Range l_0))))) (Ev.t 35 (bI .i64 v5)) rfl)) (.c (oY rfl rfl rfl (op_fieldE (cs' := [vS x17.From, vS x17.To]) Try.underlying37 rfl ti9 (by decide) rfl (Ev.t 36 (.ep [vS x17.From, vS x17.To])) rfl)) (.c (oY rfl rfl rfl (op_load1E (c := vS x17.From) Try.underlying9 rfl rfl (Ev.t 37 (.ep [vS x17.From, vS x17.To])) rfl)) (.c (oY rfl rfl rfl (op_move (Ev.t 0 (.g (.d (.sl 2 (List.map encApi_Range l_0))))) rfl)) (.c (oY rfl rfl rfl (op_move (Ev.t 3 (bI .i64 v5)) rfl)) (.c (oY rfl rfl rfl (op_sub (Ev.t 40 (bI .i64 v5)) (Ev.c _ rfl) rfl)) (.c (oY rfl rfl rfl (op_index (cs := [vS x18.From, vS x18.To]) Try.underlying29 ti37 (idx_ok hx18).1 (idx_get hx18 encApi_Range) (Ev.t 39 (.g (.d (.sl 2 (List.map encApi_Range l_0))))) (Ev.t 41 (bI .i64 (IntKind.wrap .i64 (v5 - 1)))) rfl)) (.c (oY rfl rfl rfl (op_fieldE (cs' := [vS x18.To]) Try.underlying37 rfl ti9 (by decide) rfl (Ev.t 42 (.ep [vS x18.From, vS x18.To])) rfl)) (.c (oY rfl rfl rfl (op_load1E (c := vS x18.To) Try.underlying9 rfl rfl (Ev.t 43 (.ep [vS x18.To])) rfl)) (.c (oY rfl rfl rfl (OpL.cast (op_neS (Ev.t 38 (bS x17.From)) (Ev.t 44 (bS x18.To)) rfl) (congrArg (fun b => bB b) hc19))) (.c (oY rfl rfl rfl (op_move (Ev.t 45 (bB false)) rfl)) (.c (oY rfl rfl rfl (op_move (Ev.t 0 (.g (.d (.sl 2 (List.map encApi_Range l_0))))) rfl)) (.c (oY rfl rfl rfl (op_move (Ev.t 3 (bI .i64 v5)) rfl)) (.c (oY rfl rfl rfl (op_index (cs := [vS x20.From, vS x20.To]) Try.underlying29 ti37 (idx_ok hx20).1 (idx_get hx20 encApi_Range) (Ev.t 47 (.g (.d (.sl 2 (List.map encApi_Range l_0))))) (Ev.t 48 (bI .i64 v5)) rfl)) (.c (oY rfl rfl rfl (op_fieldE (cs' := [vS x20.From, vS x20.To]) Try.underlying37 rfl ti9 (by decide) rfl (Ev.t 49 (.ep [vS x20.From, vS x20.To])) rfl)) (.c (oY rfl rfl rfl (op_load1E (c := vS x20.From) Try.underlying9 rfl rfl (Ev.t 50 (.ep [vS x20.From, vS x20.To])) rfl)) (.c (oY rfl rfl rfl (op_eqS (Ev.t 51 (bS x20.From)) (Ev.c _ rfl) rfl)) (.c (oY rfl rfl rfl (op_pickF (Ev.t 46 (bB false)) (Ev.t 52 (bB (seq x20.From ByteArray.empty))) rfl)) (.c (oY rfl rfl rfl (op_pickT (Ev.t 33 (bB true)) (Ev.t 53 (bB (seq x20.From ByteArray.empty))) rfl)) (.c (oP rfl rfl (op_pickF (Ev.t 30 (bB false)) (Ev.t 54 (bB (seq x20.From ByteArray.empty))) rfl)) .nil)))))))))))))))))))))))))))))))))))))))) follows rfl rfl rfl ⟨⟨rfl, trivial⟩, trivial, ⟨rfl, trivial⟩, trivial, ⟨rfl, trivial⟩, trivial, ⟨rfl, rfl, trivial⟩, trivial, ⟨rfl, rfl, trivial⟩, trivial, ⟨rfl, rfl, trivial⟩, trivial, ⟨rfl, rfl, trivial⟩, trivial, ⟨rfl, rfl, trivial⟩, trivial, ⟨rfl, rfl, rfl, trivial⟩, trivial, ⟨rfl, rfl, trivial⟩, trivial, ⟨rfl, rfl, trivial⟩, trivial, ⟨rfl, rfl, trivial⟩, trivial, ⟨rfl, rfl, rfl, trivial⟩, trivial, ⟨rfl, rfl, trivial⟩, trivial, ⟨rfl, trivial⟩, trivial, ⟨rfl, rfl, trivial⟩, trivial, ⟨rfl, rfl, trivial⟩, trivial, ⟨rfl, rfl, trivial⟩, trivial, ⟨rfl, rfl, trivial⟩, trivial, ⟨rfl, rfl, trivial⟩, trivial, ⟨rfl, rfl, rfl, trivial⟩, trivial, ⟨rfl, rfl, trivial⟩, trivial, ⟨rfl, rfl, trivial⟩, trivial, ⟨rfl, rfl, trivial⟩, trivial, ⟨rfl, rfl, trivial⟩, trivial, ⟨rfl, rfl, trivial⟩, trivial, ⟨rfl, rfl, rfl, trivial⟩, trivial, ⟨rfl, rfl, trivial⟩, trivial, ⟨rfl, rfl, trivial⟩, trivial, ⟨rfl, rfl, rfl, trivial⟩, trivial, ⟨rfl, rfl, trivial⟩, trivial, ⟨rfl, rfl, trivial⟩, trivial, ⟨rfl, rfl, trivial⟩, trivial, ⟨rfl, rfl, rfl, trivial⟩, trivial, ⟨rfl, rfl, trivial⟩, trivial, ⟨rfl, rfl, trivial⟩, trivial, ⟨rfl, rfl, trivial⟩, trivial, ⟨rfl, rfl, rfl, trivial⟩, trivial, ⟨rfl, rfl, rfl, trivial⟩, trivial, ⟨rfl, rfl, trivial⟩, trivial, trivial⟩ ⟨rfl, rfl, rfl, trivial⟩ trivial rfl ?_
              refine ifS hF (fun hc21 hF => ?_) (fun hc21 hF => ?_)
              · refine G.cond rfl (fun _ => ?_) (fun hx => by rw [hc21] at hx; cases hx)
                refine G.seq ?_
                refine G.region ?_
                refine G.op1 (op_assign (Ev.c _ rfl) rfl) rfl trivial trivial ?_
                refine G.endOps ?_
                cases hF
                exact G.ret1 Try.results15 (RVar.tmp 2 _) ⟨rfl, trivial⟩ trivial
              · refine G.cond rfl (fun hx => by rw [hc21] at hx; cases hx) (fun _ => ?_)
                refine G.skip ?_
                refine G.endBlock ?_
                refine G.region ?_
                refine G.op1 (op_move (Ev.t 3 (bI .i64 v5)) rfl) rfl ⟨rfl, trivial⟩ trivial ?_
                refine G.op1 (op_add (Ev.t 9 (bI .i64 v5)) (Ev.c _ rfl) rfl) rfl ⟨rfl, trivial⟩ trivial ?_
                refine G.op1 (op_assign (Ev.t 10 (bI .i64 (IntKind.wrap .i64 (v5 + 1)))) rfl) rfl ⟨rfl, trivial⟩ trivial ?_
                refine G.endOps ?_
                exact G.arr (J6 (IntKind.wrap .i64 (v5 + 1)) hF) ⟨rfl, rfl, trivial⟩ trivial rfl
          · refine G.drawnI (deps := ([] :: [0] :: [0, 1] :: [0, 1, 2] :: [0, 1, 2, 3] :: [0, 1, 2, 3, 4] :: [0, 1, 2, 3, 4, 5] :: [0, 1, 2, 3, 4, 5] :: [0, 1, 2, 3, 4, 5, 6, 7] :: [0, 1, 2, 3, 4, 5, 6, 7, 8] :: [0, 1, 2, 3, 4, 5, 6, 7, 8, 9] :: [0, 1, 2, 3, 4, 5, 6, 7, 8, 9, 10] :: [0, 1, 2, 3, 4, 5, 6, 7, 8, 9, 10, 11] :: [0, 1, 2, 3, 4, 5, 6, 7, 8, 9, 10, 11, 12] :: [0, 1, 2, 3, 4, 5, 6, 7, 8, 9, 10, 11, 12, 13] :: [0, 1, 2, 3, 4, 5, 6, 7, 8, 9, 10, 11, 12, 13, 14] :: [0, 1, 2, 3, 4, 5, 6, 7, 8, 9, 10, 11, 12, 13, 14, 15] :: [0, 1, 2, 3, 4, 5, 6, 7, 8, 9, 10, 11, 12, 13, 14, 15, 16] :: [0, 1, 2, 3, 4, 5, 6, 7, 8, 9, 10, 11, 12, 13, 14, 15, 16, 17] :: [0, 1, 2, 3, 4, 5, 6, 7, 8, 9, 10, 11, 12, 13, 14, 15, 16, 17] :: [0, 1, 2, 3, 4, 5, 6, 7, 8, 9, 10, 11, 12, 13, 14, 15, 16, 17, 18, 19] :: (0 :: 1 :: 2 :: 3 :: 4 :: 5 :: 6 :: 7 :: 8 :: 9 :: 10 :: 11 :: 12 :: 13 :: 14 :: 15 :: 16 :: 17 :: 18 :: 19 :: 20 :: []) :: (0 :: 1 :: 2 :: 3 :: 4 :: 5 :: 6 :: 7 :: 8 :: 9 :: 10 :: 11 :: 12 :: 13 :: 14 :: 15 :: 16 :: 17 :: 18 :: 19 :: 20 :: 21 :: []) :: [0, 1, 2, 3, 4, 5, 6, 7, 8, 9, 10, 11, 12, 13, 14, 15, 16, 17] :: [0, 1, 2, 3, 4, 5, 6, 7, 8, 9, 10, 11, 12, 13, 14, 15, 16, 17] :: [0, 1, 2, 3, 4, 5, 6, 7, 8, 9, 10, 11, 12, 13, 14, 15, 16, 17, 24] :: (0 :: 1 :: 2 :: 3 :: 4 :: 5 :: 6 :: 7 :: 8 :: 9 :: 10 :: 11 :: 12 :: 13 :: 14 :: 15 :: 16 :: 17 :: 23 :: 24 :: 25 :: []) :: (0 :: 1 :: 2 :: 3 :: 4 :: 5 :: 6 :: 7 :: 8 :: 9 :: 10 :: 11 :: 12 :: 13 :: 14 :: 15 :: 16 :: 17 :: 23 :: 24 :: 25 :: 26 :: []) :: (0 :: 1 :: 2 :: 3 :: 4 :: 5 :: 6 :: 7 :: 8 :: 9 :: 10 :: 11 :: 12 :: 13 :: 14 :: 15 :: 16 :: 17 :: 23 :: 24 :: 25 :: 26 :: 27 :: []) :: (0 :: 1 :: 2 :: 3 :: 4 :: 5 :: 6 :: 7 :: 8 :: 9 :: 10 :: 11 :: 12 :: 13 :: 14 :: 15 :: 16 :: 17 :: 18 :: 19 :: 20 :: 21 :: 22 :: 23 :: 24 :: 25 :: 26 :: 27 :: 28 :: []) :: (0 :: 1 :: 2 :: 3 :: 4 :: 5 :: 6 :: 7 :: 8 :: 9 :: 10 :: 11 :: 12 :: 13 :: 14 :: 15 :: 16 :: 17 :: 18 :: 19 :: 20 :: 21 :: 22 :: 23 :: 24 :: 25 :: 26 :: 27 :: 28 :: 29 :: []) :: (0 :: 1 :: 2 :: 3 :: 4 :: 5 :: 6 :: 7 :: 8 :: 9 :: 10 :: 11 :: 12 :: 13 :: 14 :: 15 :: 16 :: 17 :: 18 :: 19 :: 20 :: 21 :: 22 :: 23 :: 24 :: 25 :: 26 :: 27 :: 28 :: 29 :: 30 :: []) :: (0 :: 1 :: 2 :: 3 :: 4 :: 5 :: 6 :: 7 :: 8 :: 9 :: 10 :: 11 :: 12 :: 13 :: 14 :: 15 :: 16 :: 17 :: 18 :: 19 :: 20 :: 21 :: 22 :: 23 :: 24 :: 25 :: 26 :: 27 :: 28 :: 29 :: 30 :: []) :: (0 :: 1 :: 2 :: 3 :: 4 :: 5 :: 6 :: 7 :: 8 :: 9 :: 10 :: 11 :: 12 :: 13 :: 14 :: 15 :: 16 :: 17 :: 18 :: 19 :: 20 :: 21 :: 22 :: 23 :: 24 :: 25 :: 26 :: 27 :: 28 :: 29 :: 30 :: 31 :: 32 :: []) :: (0 :: 1 :: 2 :: 3 :: 4 :: 5 :: 6 :: 7 :: 8 :: 9 :: 10 :: 11 :: 12 :: 13 :: 14 :: 15 :: 16 :: 17 :: 18 :: 19 :: 20 :: 21 :: 22 :: 23 :: 24 :: 25 :: 26 :: 27 :: 28 :: 29 :: 30 :: 31 :: 32 :: 33 :: []) :: (0 :: 1 :: 2 :: 3 :: 4 :: 5 :: 6 :: 7 :: 8 :: 9 :: 10 :: 11 :: 12 :: 13 :: 14 :: 15 :: 16 :: 17 :: 18 :: 19 :: 20 :: 21 :: 22 :: 23 :: 24 :: 25 :: 26 :: 27 :: 28 :: 29 :: 30 :: 31 :: 32 :: 33 :: 34 :: []) :: (0 :: 1 :: 2 :: 3 :: 4 :: 5 :: 6 :: 7 :: 8 :: 9 :: 10 :: 11 :: 12 :: 13 :: 14 :: 15 :: 16 :: 17 :: 18 :: 19 :: 20 :: 21 :: 22 :: 23 :: 24 :: 25 :: 26 :: 27 :: 28 :: 29 :: 30 :: 31 :: 32 :: 33 :: 34 :: 35 :: []) :: (0 :: 1 :: 2 :: 3 :: 4 :: 5 :: 6 :: 7 :: 8 :: 9 :: 10 :: 11 :: 12 :: 13 :: 14 :: 15 :: 16 :: 17 :: 18 :: 19 :: 20 :: 21 :: 22 :: 23 :: 24 :: 25 :: 26 :: 27 :: 28 :: 29 :: 30 :: 31 :: 32 :: 33 :: 34 :: 35 :: 36 :: []) :: (0 :: 1 :: 2 :: 3 :: 4 :: 5 :: 6 :: 7 :: 8 :: 9 :: 10 :: 11 :: 12 :: 13 :: 14 :: 15 :: 16 :: 17 :: 18 :: 19 :: 20 :: 21 :: 22 :: 23 :: 24 :: 25 :: 26 :: 27 :: 28 :: 29 :: 30 :: 31 :: 32 :: 33 :: 34 :: 35 :: 36 :: 37 :: []) :: (0 :: 1 :: 2 :: 3 :: 4 :: 5 :: 6 :: 7 :: 8 :: 9 :: 10 :: 11 :: 12 :: 13 :: 14 :: 15 :: 16 :: 17 :: 18 :: 19 :: 20 :: 21 :: 22 :: 23 :: 24 :: 25 :: 26 :: 27 :: 28 :: 29 :: 30 :: 31 :: 32 :: 33 :: 34 :: 35 :: 36 :: 37 :: 38 :: []) :: [])) (sl' := [(0, .one (.g (.d (.sl 2 (List.map encApi_Range l_0))))), (3, oI v5), (55, oB false)]) (hp' := []) (.c (oP rfl rfl (op_move (Ev.t 4 (bB r11)) rfl)) (.c (oP rfl rfl (OpL.cast (op_not (Ev.t 16 (bB r11)) rfl) (congrArg (fun b => bB b) hc12))) (.c (oP rfl rfl (op_move (Ev.t 17 (bB false)) rfl)) (.c (oY rfl rfl rfl (op_move (Ev.t 3 (bI .i64 v5)) rfl)) (.c (oY rfl rfl rfl (OpL.cast (op_eqI (Ev.t 19 (bI .i64 v5)) (Ev.c _ rfl) rfl) (congrArg (fun b => bB b) hc13))) (.c (oY rfl rfl rfl (op_move (Ev.t 20 (bB true)) rfl)) (.c (oY rfl rfl rfl (op_move (Ev.t 0 (.g (.d (.sl 2 (List.map encApi_Range l_0))))) rfl)) (.c (oY rfl rfl rfl (op_move (Ev.t 3 (bI .i64 v5)) rfl)) (.c (oY rfl rfl rfl (op_index (cs := [vS x14.From, vS x14.To]) Try.underlying29 ti37 (idx_ok hx14).1 (idx_get hx14 encApi_Range) (Ev.t 22 (.g (.d (.sl 2 (List.map encApi_Range l_0))))) (Ev.t 23 (bI .i64 v5)) rfl)) (.c (oY rfl rfl rfl (op_fieldE (cs' := [vS x14.From, vS x14.To]) Try.underlying37 rfl ti9 (by decide) rfl (Ev.t 24 (.ep [vS x14.From, vS x14.To])) rfl)) (.c (oY rfl rfl rfl (op_load1E (c := vS x14.From) Try.underlying9 rfl rfl (Ev.t 25 (.ep [vS x14.From, vS x14.To])) rfl)) (.c (oY rfl rfl rfl (OpL.cast (op_neS (Ev.t 26 (bS x14.From)) (Ev.c _ rfl) rfl) (congrArg (fun b => bB b) hc15))) (.c (oY rfl rfl rfl (op_pickT (Ev.t 21 (bB true)) (Ev.t 27 (bB false)) rfl)) (.c (oP rfl rfl (op_pickF (Ev.t 18 (bB false)) (Ev.t 28 (bB false)) rfl)) (.c (oP rfl rfl (op_move (Ev.t 29 (bB false)) rfl)) (.c (oY rfl rfl rfl (op_move (Ev.t 3 (bI .i64 v5)) rfl)) (.c (oY rfl rfl rfl (OpL.cast (op_gtr (Ev.t 31 (bI .i64 v5)) (Ev.c _ rfl) rfl) (congrArg (fun b => bB b) hc16))) (.c (oY rfl rfl rfl (op_move (Ev.t 32 (bB false)) rfl)) (.c (OpW.no rfl rfl rfl rfl rfl) (.c (OpW.no rfl rfl rfl rfl rfl) (.c (OpW.no rfl rfl rfl rfl rfl) (.c (OpW.no rfl rfl rfl rfl rfl) (.c (OpW.no rfl rfl rfl rfl rfl) (.c (OpW.no rfl rfl rfl rfl rfl) (.c (OpW.no rfl rfl rfl rfl rfl) (.c (OpW.no rfl rfl rfl rfl rfl) (.c (OpW.no rfl rfl rfl rfl rfl) (.c (OpW.no rfl rfl rfl rfl rfl) (.c (OpW.no rfl rfl rfl rfl rfl) (.c (OpW.no rfl rfl rfl rfl rfl) (.c (OpW.no rfl rfl rfl rfl rfl) (.c (OpW.un rfl rfl rfl rfl) (.c (OpW.un rfl rfl rfl rfl) (.c (OpW.un rfl rfl rfl rfl) (.c (OpW.un rfl rfl rfl rfl) (.c (OpW.un rfl rfl rfl rfl) (.c (OpW.un rfl rfl rfl rfl) (.c (OpW.no rfl rfl rfl rfl rfl) (.c (oY rfl rfl rfl (op_pickF (Ev.t 33 (bB false)) (Ev.c _ rfl) rfl)) (.c (oP rfl rfl (op_pickF (Ev.t 30 (bB false)) (Ev.t 54 (bB false)) rfl)) .nil)))))))))))))))))))))))))))))))))))))))) follows rfl rfl rfl ⟨⟨rfl, trivial⟩, trivial, ⟨rfl, trivial⟩, trivial, ⟨rfl, trivial⟩, trivial, ⟨rfl, rfl, trivial⟩, trivial, ⟨rfl, rfl, trivial⟩, trivial, ⟨rfl, rfl, trivial⟩, trivial, ⟨rfl, rfl, trivial⟩, trivial, ⟨rfl, rfl, trivial⟩, trivial, ⟨rfl, rfl, rfl, trivial⟩, trivial, ⟨rfl, rfl, trivial⟩, trivial, ⟨rfl, rfl, trivial⟩, trivial, ⟨rfl, rfl, trivial⟩, trivial, ⟨rfl, rfl, rfl, trivial⟩, trivial, ⟨rfl, rfl, trivial⟩, trivial, ⟨rfl, trivial⟩, trivial, ⟨rfl, rfl, trivial⟩, trivial, ⟨rfl, rfl, trivial⟩, trivial, ⟨rfl, rfl, trivial⟩, trivial, ⟨rfl, trivial⟩, trivial, ⟨rfl, trivial⟩, trivial, ⟨rfl, trivial⟩, trivial, ⟨rfl, trivial⟩, trivial, ⟨rfl, trivial⟩, trivial, ⟨rfl, trivial⟩, trivial, ⟨rfl, trivial⟩, trivial, ⟨rfl, trivial⟩, trivial, ⟨rfl, trivial⟩, trivial, ⟨rfl, trivial⟩, trivial, ⟨rfl, trivial⟩, trivial, ⟨rfl, trivial⟩, trivial, ⟨rfl, trivial⟩, trivial, ⟨rfl, trivial⟩, trivial, ⟨rfl, trivial⟩, trivial, ⟨rfl, trivial⟩, trivial, ⟨rfl, trivial⟩, trivial, ⟨rfl, trivial⟩, trivial, ⟨rfl, trivial⟩, trivial, ⟨rfl, trivial⟩, trivial, ⟨rfl, rfl, trivial⟩, trivial, ⟨rfl, rfl, trivial⟩, trivial, trivial⟩ ⟨rfl, rfl, rfl, trivial⟩ trivial rfl ?_
            refine G.condF rfl ?_
            refine G.skip ?_
            refine G.endBlock ?_
            refine G.region ?_
            refine G.op1 (op_move (Ev.t 3 (bI .i64 v5)) rfl) rfl ⟨rfl, trivial⟩ trivial ?_
            refine G.op1 (op_add (Ev.t 9 (bI .i64 v5)) (Ev.c _ rfl) rfl) rfl ⟨rfl, trivial⟩ trivial ?_
            refine G.op1 (op_assign (Ev.t 10 (bI .i64 (IntKind.wrap .i64 (v5 + 1)))) rfl) rfl ⟨rfl, trivial⟩ trivial ?_
            refine G.endOps ?_
            exact G.arr (J6 (IntKind.wrap .i64 (v5 + 1)) hF) ⟨rfl, rfl, trivial⟩ trivial rfl
      · refine ifS hF (fun hc22 hF => ?_) (fun hc22 hF => ?_)
        · obtain ⟨x23, hx23, hF⟩ := bindS hF
          obtain ⟨x24, hx24, hF⟩ := bindS hF
          refine ifS hF (fun hc25 hF => ?_) (fun hc25 hF => ?_)
          · refine G.drawnI (deps := ([] :: [0] :: [0, 1] :: [0, 1, 2] :: [0, 1, 2, 3] :: [0, 1, 2, 3, 4] :: [0, 1, 2, 3, 4, 5] :: [0, 1, 2, 3, 4, 5] :: [0, 1, 2, 3, 4, 5, 6, 7] :: [0, 1, 2, 3, 4, 5, 6, 7, 8] :: [0, 1, 2, 3, 4, 5, 6, 7, 8, 9] :: [0, 1, 2, 3, 4, 5, 6, 7, 8, 9, 10] :: [0, 1, 2, 3, 4, 5, 6, 7, 8, 9, 10, 11] :: [0, 1, 2, 3, 4, 5, 6, 7, 8, 9, 10, 11, 12] :: [0, 1, 2, 3, 4, 5, 6, 7, 8, 9, 10, 11, 12, 13] :: [0, 1, 2, 3, 4, 5, 6, 7, 8, 9, 10, 11, 12, 13, 14] :: [0, 1, 2, 3, 4, 5, 6, 7, 8, 9, 10, 11, 12, 13, 14, 15] :: [0, 1, 2, 3, 4, 5, 6, 7, 8, 9, 10, 11, 12, 13, 14, 15, 16] :: [0, 1, 2, 3, 4, 5, 6, 7, 8, 9, 10, 11, 12, 13, 14, 15, 16, 17] :: [0, 1, 2, 3, 4, 5, 6, 7, 8, 9, 10, 11, 12, 13, 14, 15, 16, 17] :: [0, 1, 2, 3, 4, 5, 6, 7, 8, 9, 10, 11, 12, 13, 14, 15, 16, 17, 18, 19] :: (0 :: 1 :: 2 :: 3 :: 4 :: 5 :: 6 :: 7 :: 8 :: 9 :: 10 :: 11 :: 12 :: 13 :: 14 :: 15 :: 16 :: 17 :: 18 :: 19 :: 20 :: []) :: (0 :: 1 :: 2 :: 3 :: 4 :: 5 :: 6 :: 7 :: 8 :: 9 :: 10 :: 11 :: 12 :: 13 :: 14 :: 15 :: 16 :: 17 :: 18 :: 19 :: 20 :: 21 :: []) :: [0, 1, 2, 3, 4, 5, 6, 7, 8, 9, 10, 11, 12, 13, 14, 15, 16, 17] :: [0, 1, 2, 3, 4, 5, 6, 7, 8, 9, 10, 11, 12, 13, 14, 15, 16, 17] :: [0, 1, 2, 3, 4, 5, 6, 7, 8, 9, 10, 11, 12, 13, 14, 15, 16, 17, 24] :: (0 :: 1 :: 2 :: 3 :: 4 :: 5 :: 6 :: 7 :: 8 :: 9 :: 10 :: 11 :: 12 :: 13 :: 14 :: 15 :: 16 :: 17 :: 23 :: 24 :: 25 :: []) :: (0 :: 1 :: 2 :: 3 :: 4 :: 5 :: 6 :: 7 :: 8 :: 9 :: 10 :: 11 :: 12 :: 13 :: 14 :: 15 :: 16 :: 17 :: 23 :: 24 :: 25 :: 26 :: []) :: (0 :: 1 :: 2 :: 3 :: 4 :: 5 :: 6 :: 7 :: 8 :: 9 :: 10 :: 11 :: 12 :: 13 :: 14 :: 15 :: 16 :: 17 :: 23 :: 24 :: 25 :: 26 :: 27 :: []) :: (0 :: 1 :: 2 :: 3 :: 4 :: 5 :: 6 :: 7 :: 8 :: 9 :: 10 :: 11 :: 12 :: 13 :: 14 :: 15 :: 16 :: 17 :: 18 :: 19 :: 20 :: 21 :: 22 :: 23 :: 24 :: 25 :: 26 :: 27 :: 28 :: []) :: (0 :: 1 :: 2 :: 3 :: 4 :: 5 :: 6 :: 7 :: 8 :: 9 :: 10 :: 11 :: 12 :: 13 :: 14 :: 15 :: 16 :: 17 :: 18 :: 19 :: 20 :: 21 :: 22 :: 23 :: 24 :: 25 :: 26 :: 27 :: 28 :: 29 :: []) :: (0 :: 1 :: 2 :: 3 :: 4 :: 5 :: 6 :: 7 :: 8 :: 9 :: 10 :: 11 :: 12 :: 13 :: 14 :: 15 :: 16 :: 17 :: 18 :: 19 :: 20 :: 21 :: 22 :: 23 :: 24 :: 25 :: 26 :: 27 :: 28 :: 29 :: 30 :: []) :: (0 :: 1 :: 2 :: 3 :: 4 :: 5 :: 6 :: 7 :: 8 :: 9 :: 10 :: 11 :: 12 :: 13 :: 14 :: 15 :: 16 :: 17 :: 18 :: 19 :: 20 :: 21 :: 22 :: 23 :: 24 :: 25 :: 26 :: 27 :: 28 :: 29 :: 30 :: []) :: (0 :: 1 :: 2 :: 3 :: 4 :: 5 :: 6 :: 7 :: 8 :: 9 :: 10 :: 11 :: 12 :: 13 :: 14 :: 15 :: 16 :: 17 :: 18 :: 19 :: 20 :: 21 :: 22 :: 23 :: 24 :: 25 :: 26 :: 27 :: 28 :: 29 :: 30 :: 31 :: 32 :: []) :: (0 :: 1 :: 2 :: 3 :: 4 :: 5 :: 6 :: 7 :: 8 :: 9 :: 10 :: 11 :: 12 :: 13 :: 14 :: 15 :: 16 :: 17 :: 18 :: 19 :: 20 :: 21 :: 22 :: 23 :: 24 :: 25 :: 26 :: 27 :: 28 :: 29 :: 30 :: 31 :: 32 :: 33 :: []) :: (0 :: 1 :: 2 :: 3 :: 4 :: 5 :: 6 :: 7 :: 8 :: 9 :: 10 :: 11 :: 12 :: 13 :: 14 :: 15 :: 16 :: 17 :: 18 :: 19 :: 20 :: 21 :: 22 :: 23 :: 24 :: 25 :: 26 :: 27 :: 28 :: 29 :: 30 :: 31 :: 32 :: 33 :: 34 :: []) :: (0 :: 1 :: 2 :: 3 :: 4 :: 5 :: 6 :: 7 :: 8 :: 9 :: 10 :: 11 :: 12 :: 13 :: 14 :: 15 :: 16 :: 17 :: 18 :: 19 :: 20 :: 21 :: 22 :: 23 :: 24 :: 25 :: 26 :: 27 :: 28 :: 29 :: 30 :: 31 :: 32 :: 33 :: 34 :: 35 :: []) :: (0 :: 1 :: 2 :: 3 :: 4 :: 5 :: 6 :: 7 :: 8 :: 9 :: 10 :: 11 :: 12 :: 13 :: 14 :: 15 :: 16 :: 17 :: 18 :: 19 :: 20 :: 21 :: 22 :: 23 :: 24 :: 25 :: 26 :: 27 :: 28 :: 29 :: 30 :: 31 :: 32 :: 33 :: 34 :: 35 :: 36 :: []) :: (0 :: 1 :: 2 :: 3 :: 4 :: 5 :: 6 :: 7 :: 8 :: 9 :: 10 :: 11 :: 12 :: 13 :: 14 :: 15 :: 16 :: 17 :: 18 :: 19 :: 20 :: 21 :: 22 :: 23 :: 24 :: 25 :: 26 :: 27 :: 28 :: 29 :: 30 :: 31 :: 32 :: 33 :: 34 :: 35 :: 36 :: 37 :: []) :: (0 :: 1 :: 2 :: 3 :: 4 :: 5 :: 6 :: 7 :: 8 :: 9 :: 10 :: 11 :: 12 :: 13 :: 14 :: 15 :: 16 :: 17 :: 18 :: 19 :: 20 :: 21 :: 22 :: 23 :: 24 :: 25 :: 26 :: 27 :: 28 :: 29 :: 30 :: 31 :: 32 :: 33 :: 34 :: 35 :: 36 :: 37 :: 38 :: []) :: [])) (sl' := [(0, .one (.g (.d (.sl 2 (List.map encApi_Range l_0))))), (3, oI v5), (55, oB true)]) (hp' := []) (.c (oP rfl rfl (op_move (Ev.t 4 (bB r11)) rfl)) (.c (oP rfl rfl (OpL.cast (op_not (Ev.t 16 (bB r11)) rfl) (congrArg (fun b => bB b) hc12))) (.c (oP rfl rfl (op_move (Ev.t 17 (bB false)) rfl)) (.c (oY rfl rfl rfl (op_move (Ev.t 3 (bI .i64 v5)) rfl)) (.c (oY rfl rfl rfl (OpL.cast (op_eqI (Ev.t 19 (bI .i64 v5)) (Ev.c _ rfl) rfl) (congrArg (fun b => bB b) hc13))) (.c (oY rfl rfl rfl (op_move (Ev.t 20 (bB false)) rfl)) (.c (OpW.no rfl rfl rfl rfl rfl) (.c (OpW.no rfl rfl rfl rfl rfl) (.c (OpW.no rfl rfl rfl rfl rfl) (.c (OpW.no rfl rfl rfl rfl rfl) (.c (OpW.no rfl rfl rfl rfl rfl) (.c (OpW.no rfl rfl rfl rfl rfl) (.c (oY rfl rfl rfl (op_pickF (Ev.t 21 (bB false)) (Ev.c _ rfl) rfl)) (.c (oP rfl rfl (op_pickF (Ev.t 18 (bB false)) (Ev.t 28 (bB false)) rfl)) (.c (oP rfl rfl (op_move (Ev.t 29 (bB false)) rfl)) (.c (oY rfl rfl rfl (op_move (Ev.t 3 (bI .i64 v5)) rfl)) (.c (oY rfl rfl rfl (OpL.cast (op_gtr (Ev.t 31 (bI .i64 v5)) (Ev.c _ rfl) rfl) (congrArg (fun b => bB b) hc22))) (.c (oY rfl rfl rfl (op_move (Ev.t 32 (bB true)) rfl)) (.c (oY rfl rfl rfl (op_move (Ev.t 0 (.g (.d (.sl 2 (List.map encApi_Range l_0))))) rfl)) (.c (oY rfl rfl rfl (op_move (Ev.t 3 (bI .i64 v5)) rfl)) (.c (oY rfl rfl rfl (op_index (cs := [vS x23.From, vS x23.To]) Try.underlying29 ti37 (idx_ok hx23).1 (idx_get hx23 encApi_Range) (Ev.t 34 (.g (.d (.sl 2 (List.map encApi_Range l_0))))) (Ev.t 35 (bI .i64 v5)) rfl)) (.c (oY rfl rfl rfl (op_fieldE (cs' := [vS x23.From, vS x23.To]) Try.underlying37 rfl ti9 (by decide) rfl (Ev.t 36 (.ep [vS x23.From, vS x23.To])) rfl)) (.c (oY rfl rfl rfl (op_load1E (c := vS x23.From) Try.underlying9 rfl rfl (Ev.t 37 (.ep [vS x23.From, vS x23.To])) rfl)) (.c (oY rfl rfl rfl (op_move (Ev.t 0 (.g (.d (.sl 2 (List.map encApi_Range l_0))))) rfl)) (.c (oY rfl rfl rfl (op_move (Ev.t 3 (bI .i64 v5)) rfl)) (.c (oY rfl rfl rfl (op_sub (Ev.t 40 (bI .i64 v5)) (Ev.c _ rfl) rfl)) (.c (oY rfl rfl rfl (op_index (cs := [vS x24.From, vS x24.To]) Try.underlying29 ti37 (idx_ok hx24).1 (idx_get hx24 encApi_Range) (Ev.t 39 (.g (.d (.sl 2 (List.map encApi_Range l_0))))) (Ev.t 41 (bI .i64 (IntKind.wrap .i64 (v5 - 1)))) rfl)) (.c (oY rfl rfl rfl (op_fieldE (cs' := [vS x24.To]) Try.underlying37 rfl ti9 (by decide) rfl (Ev.t 42 (.ep [vS x24.From, vS x24.To])) rfl)) (.c (oY rfl rfl rfl (op_load1E (c := vS x24.To) Try.underlying9 rfl rfl (Ev.t 43 (.ep [vS x24.To])) rfl)) (.c (oY rfl rfl rfl (OpL.cast (op_neS (Ev.t 38 (bS x23.From)) (Ev.t 44 (bS x24.To)) rfl) (congrArg (fun b => bB b) hc25))) (.c (oY rfl rfl rfl (op_move (Ev.t 45 (bB true)) rfl)) (.c (OpW.no rfl rfl rfl rfl rfl) (.c (OpW.no rfl rfl rfl rfl rfl) (.c (OpW.no rfl rfl rfl rfl rfl) (.c (OpW.no rfl rfl rfl rfl rfl) (.c (OpW.no rfl rfl rfl rfl rfl) (.c (OpW.no rfl rfl rfl rfl rfl) (.c (oY rfl rfl rfl (op_pickT (Ev.t 46 (bB true)) (Ev.c _ rfl) rfl)) (.c (oY rfl rfl rfl (op_pickT (Ev.t 33 (bB true)) (Ev.t 53 (bB true)) rfl)) (.c (oP rfl rfl (op_pickF (Ev.t 30 (bB false)) (Ev.t 54 (bB true)) rfl)) .nil)))))))))))))))))))))))))))))))))))))))) follows rfl rfl rfl ⟨⟨rfl, trivial⟩, trivial, ⟨rfl, trivial⟩, trivial, ⟨rfl, trivial⟩, trivial, ⟨rfl, rfl, trivial⟩, trivial, ⟨rfl, rfl, trivial⟩, trivial, ⟨rfl, rfl, trivial⟩, trivial, ⟨rfl, trivial⟩, trivial, ⟨rfl, trivial⟩, trivial, ⟨rfl, trivial⟩, trivial, ⟨rfl, trivial⟩, trivial, ⟨rfl, trivial⟩, trivial, ⟨rfl, trivial⟩, trivial, ⟨rfl, rfl, trivial⟩, trivial, ⟨rfl, rfl, trivial⟩, trivial, ⟨rfl, trivial⟩, trivial, ⟨rfl, rfl, trivial⟩, trivial, ⟨rfl, rfl, trivial⟩, trivial, ⟨rfl, rfl, trivial⟩, trivial, ⟨rfl, rfl, trivial⟩, trivial, ⟨rfl, rfl, trivial⟩, trivial, ⟨rfl, rfl, rfl, trivial⟩, trivial, ⟨rfl, rfl, trivial⟩, trivial, ⟨rfl, rfl, trivial⟩, trivial, ⟨rfl, rfl, trivial⟩, trivial, ⟨rfl, rfl, trivial⟩, trivial, ⟨rfl, rfl, trivial⟩, trivial, ⟨rfl, rfl, rfl, trivial⟩, trivial, ⟨rfl, rfl, trivial⟩, trivial, ⟨rfl, rfl, trivial⟩, trivial, ⟨rfl, rfl, rfl, trivial⟩, trivial, ⟨rfl, rfl, trivial⟩, trivial, ⟨rfl, trivial⟩, trivial, ⟨rfl, trivial⟩, trivial, ⟨rfl, trivial⟩, trivial, ⟨rfl, trivial⟩, trivial, ⟨rfl, trivial⟩, trivial, ⟨rfl, trivial⟩, trivial, ⟨rfl, rfl, trivial⟩, trivial, ⟨rfl, rfl, rfl, trivial⟩, trivial, ⟨rfl, rfl, trivial⟩, trivial, trivial⟩ ⟨rfl, rfl, rfl, trivial⟩ trivial rfl ?_
            refine G.condT rfl ?_
            refine G.seq ?_
            refine G.region ?_
            refine G.op1 (op_assign (Ev.c _ rfl) rfl) rfl trivial trivial ?_
            refine G.endOps ?_
            cases hF
            exact G.ret1 Try.results15 (RVar.tmp 2 _) ⟨rfl, trivial⟩ trivial
          · obtain ⟨x26, hx26, hF⟩ := bindS hF
            refine G.drawnI (deps := ([] :: [0] :: [0, 1] :: [0, 1, 2] :: [0, 1, 2, 3] :: [0, 1, 2, 3, 4] :: [0, 1, 2, 3, 4, 5] :: [0, 1, 2, 3, 4, 5] :: [0, 1, 2, 3, 4, 5, 6, 7] :: [0, 1, 2, 3, 4, 5, 6, 7, 8] :: [0, 1, 2, 3, 4, 5, 6, 7, 8, 9] :: [0, 1, 2, 3, 4, 5, 6, 7, 8, 9, 10] :: [0, 1, 2, 3, 4, 5, 6, 7, 8, 9, 10, 11] :: [0, 1, 2, 3, 4, 5, 6, 7, 8, 9, 10, 11, 12] :: [0, 1, 2, 3, 4, 5, 6, 7, 8, 9, 10, 11, 12, 13] :: [0, 1, 2, 3, 4, 5, 6, 7, 8, 9, 10, 11, 12, 13, 14] :: [0, 1, 2, 3, 4, 5, 6, 7, 8, 9, 10, 11, 12, 13, 14, 15] :: [0, 1, 2, 3, 4, 5, 6, 7, 8, 9, 10, 11, 12, 13, 14, 15, 16] :: [0, 1, 2, 3, 4, 5, 6, 7, 8, 9, 10, 11, 12, 13, 14, 15, 16, 17] :: [0, 1, 2, 3, 4, 5, 6, 7, 8, 9, 10, 11, 12, 13, 14, 15, 16, 17] :: [0, 1, 2, 3, 4, 5, 6, 7, 8, 9, 10, 11, 12, 13, 14, 15, 16, 17, 18, 19] :: (0 :: 1 :: 2 :: 3 :: 4 :: 5 :: 6 :: 7 :: 8 :: 9 :: 10 :: 11 :: 12 :: 13 :: 14 :: 15 :: 16 :: 17 :: 18 :: 19 :: 20 :: []) :: (0 :: 1 :: 2 :: 3 :: 4 :: 5 :: 6 :: 7 :: 8 :: 9 :: 10 :: 11 :: 12 :: 13 :: 14 :: 15 :: 16 :: 17 :: 18 :: 19 :: 20 :: 21 :: []) :: [0, 1, 2, 3, 4, 5, 6, 7, 8, 9, 10, 11, 12, 13, 14, 15, 16, 17] :: [0, 1, 2, 3, 4, 5, 6, 7, 8, 9, 10, 11, 12, 13, 14, 15, 16, 17] :: [0, 1, 2, 3, 4, 5, 6, 7, 8, 9, 10, 11, 12, 13, 14, 15, 16, 17, 24] :: (0 :: 1 :: 2 :: 3 :: 4 :: 5 :: 6 :: 7 :: 8 :: 9 :: 10 :: 11 :: 12 :: 13 :: 14 :: 15 :: 16 :: 17 :: 23 :: 24 :: 25 :: []) :: (0 :: 1 :: 2 :: 3 :: 4 :: 5 :: 6 :: 7 :: 8 :: 9 :: 10 :: 11 :: 12 :: 13 :: 14 :: 15 :: 16 :: 17 :: 23 :: 24 :: 25 :: 26 :: []) :: (0 :: 1 :: 2 :: 3 :: 4 :: 5 :: 6 :: 7 :: 8 :: 9 :: 10 :: 11 :: 12 :: 13 :: 14 :: 15 :: 16 :: 17 :: 23 :: 24 :: 25 :: 26 :: 27 :: []) :: (0 :: 1 :: 2 :: 3 :: 4 :: 5 :: 6 :: 7 :: 8 :: 9 :: 10 :: 11 :: 12 :: 13 :: 14 :: 15 :: 16 :: 17 :: 18 :: 19 :: 20 :: 21 :: 22 :: 23 :: 24 :: 25 :: 26 :: 27 :: 28 :: []) :: (0 :: 1 :: 2 :: 3 :: 4 :: 5 :: 6 :: 7 :: 8 :: 9 :: 10 :: 11 :: 12 :: 13 :: 14 :: 15 :: 16 :: 17 :: 18 :: 19 :: 20 :: 21 :: 22 :: 23 :: 24 :: 25 :: 26 :: 27 :: 28 :: 29 :: []) :: (0 :: 1 :: 2 :: 3 :: 4 :: 5 :: 6 :: 7 :: 8 :: 9 :: 10 :: 11 :: 12 :: 13 :: 14 :: 15 :: 16 :: 17 :: 18 :: 19 :: 20 :: 21 :: 22 :: 23 :: 24 :: 25 :: 26 :: 27 :: 28 :: 29 :: 30 :: []) :: (0 :: 1 :: 2 :: 3 :: 4 :: 5 :: 6 :: 7 :: 8 :: 9 :: 10 :: 11 :: 12 :: 13 :: 14 :: 15 :: 16 :: 17 :: 18 :: 19 :: 20 :: 21 :: 22 :: 23 :: 24 :: 25 :: 26 :: 27 :: 28 :: 29 :: 30 :: []) :: (0 :: 1 :: 2 :: 3 :: 4 :: 5 :: 6 :: 7 :: 8 :: 9 :: 10 :: 11 :: 12 :: 13 :: 14 :: 15 :: 16 :: 17 :: 18 :: 19 :: 20 :: 21 :: 22 :: 23 :: 24 :: 25 :: 26 :: 27 :: 28 :: 29 :: 30 :: 31 :: 32 :: []) :: (0 :: 1 :: 2 :: 3 :: 4 :: 5 :: 6 :: 7 :: 8 :: 9 :: 10 :: 11 :: 12 :: 13 :: 14 :: 15 :: 16 :: 17 :: 18 :: 19 :: 20 :: 21 :: 22 :: 23 :: 24 :: 25 :: 26 :: 27 :: 28 :: 29 :: 30 :: 31 :: 32 :: 33 :: []) :: (0 :: 1 :: 2 :: 3 :: 4 :: 5 :: 6 :: 7 :: 8 :: 9 :: 10 :: 11 :: 12 :: 13 :: 14 :: 15 :: 16 :: 17 :: 18 :: 19 :: 20 :: 21 :: 22 :: 23 :: 24 :: 25 :: 26 :: 27 :: 28 :: 29 :: 30 :: 31 :: 32 :: 33 :: 34 :: []) :: (0 :: 1 :: 2 :: 3 :: 4 :: 5 :: 6 :: 7 :: 8 :: 9 :: 10 :: 11 :: 12 :: 13 :: 14 :: 15 :: 16 :: 17 :: 18 :: 19 :: 20 :: 21 :: 22 :: 23 :: 24 :: 25 :: 26 :: 27 :: 28 :: 29 :: 30 :: 31 :: 32 :: 33 :: 34 :: 35 :: []) :: (0 :: 1 :: 2 :: 3 :: 4 :: 5 :: 6 :: 7 :: 8 :: 9 :: 10 :: 11 :: 12 :: 13 :: 14 :: 15 :: 16 :: 17 :: 18 :: 19 :: 20 :: 21 :: 22 :: 23 :: 24 :: 25 :: 26 :: 27 :: 28 :: 29 :: 30 :: 31 :: 32 :: 33 :: 34 :: 35 :: 36 :: []) :: (0 :: 1 :: 2 :: 3 :: 4 :: 5 :: 6 :: 7 :: 8 :: 9 :: 10 :: 11 :: 12 :: 13 :: 14 :: 15 :: 16 :: 17 :: 18 :: 19 :: 20 :: 21 :: 22 :: 23 :: 24 :: 25 :: 26 :: 27 :: 28 :: 29 :: 30 :: 31 :: 32 :: 33 :: 34 :: 35 :: 36 :: 37 :: []) :: (0 :: 1 :: 2 :: 3 :: 4 :: 5 :: 6 :: 7 :: 8 :: 9 :: 10 :: 11 :: 12 :: 13 :: 14 :: 15 :: 16 :: 17 :: 18 :: 19 :: 20 :: 21 :: 22 :: 23 :: 24 :: 25 :: 26 :: 27 :: 28 :: 29 :: 30 :: 31 :: 32 :: 33 :: 34 :: 35 :: 36 :: 37 :: 38 :: []) :: [])) (sl' := [(0, .one (.g (.d (.sl 2 (List.map encApi_Range l_0))))), (3, oI v5), (55, oB (seq x26.From ByteArray.empty))]) (hp' := []) (.c (oP rfl rfl (op_move (Ev.t 4 (bB r11)) rfl)) (.c (oP rfl rfl (OpL.cast (op_not (Ev.t 16 (bB r11)) rfl) (congrArg (fun b => bB b) hc12))) (.c (oP rfl rfl (op_move (Ev.t 17 (bB false)) rfl)) (.c (oY rfl rfl rfl (op_move (Ev.t 3 (bI .i64 v5)) rfl)) (.c (oY rfl rfl rfl (OpL.cast (op_eqI (Ev.t 19 (bI .i64 v5)) (Ev.c _ rfl) rfl) (congrArg (fun b => bB b) hc13))) (.c (oY rfl rfl rfl (op_move (Ev.t 20 (bB false)) rfl)) (.c (OpW.no rfl rfl rfl rfl rfl) (.c (OpW.no rfl rfl rfl rfl rfl) (.c (OpW.no rfl rfl rfl rfl rfl) (.c (OpW.no rfl rfl rfl rfl rfl) (.c (OpW.no rfl rfl rfl rfl rfl) (.c (OpW.no rfl rfl rfl rfl rfl) (.c (oY rfl rfl rfl (op_pickF (Ev.t 21 (bB false)) (Ev.c _ rfl) rfl)) (.c (oP rfl rfl (op_pickF (Ev.t 18 (bB false)) (Ev.t 28 (bB false)) rfl)) (.c (oP rfl rfl (op_move (Ev.t 29 (bB false)) rfl)) (.c (oY rfl rfl rfl (op_move (Ev.t 3 (bI .i64 v5)) rfl)) (.c (oY rfl rfl rfl (OpL.cast (op_gtr (Ev.t 31 (bI .i64 v5)) (Ev.c _ rfl) rfl) (congrArg (fun b => bB b) hc22))) (.c (oY rfl rfl rfl (op_move (Ev.t 32 (bB true)) rfl)) (.c (oY rfl rfl rfl (op_move (Ev.t 0 (.g (.d (.sl 2 (List.map encApi_Range l_0))))) rfl)) (.c (oY rfl rfl rfl (op_move (Ev.t 3 (bI .i64 v5)) rfl)) (.c (oY rfl rfl rfl (op_index (cs := [vS x23.From, vS x23.To]) Try.underlying29 ti37 (idx_ok hx23).1 (idx_get hx23 encApi_Range) (Ev.t 34 (.g (.d (.sl 2 (List.map encApi_Range l_0))))) (Ev.t 35 (bI .i64 v5)) rfl)) (.c (oY rfl rfl rfl (op_fieldE (cs' := [vS x23.From, vS x23.To]) Try.underlying37 rfl ti9 (by decide) rfl (Ev.t 36 (.ep [vS x23.From, vS x23.To])) rfl)) (.c (oY rfl rfl rfl (op_load1E (c := vS x23.From) Try.underlying9 rfl rfl (Ev.t 37 (.ep [vS x23.From, vS x23.To])) rfl)) (.c (oY rfl rfl rfl (op_move (Ev.t 0 (.g (.d (.sl 2 (List.map encApi_Range l_0))))) rfl)) (.c (oY rfl rfl rfl (op_move (Ev.t 3 (bI .i64 v5)) rfl)) (.c (oY rfl rfl rfl (op_sub (Ev.t 40 (bI .i64 v5)) (Ev.c _ rfl) rfl)) (.c (oY rfl rfl rfl (op_index (cs := [vS x24.From, vS x24.To]) Try.underlying29 ti37 (idx_ok hx24).1 (idx_get hx24 encApi_Range) (Ev.t 39 (.g (.d (.sl 2 (List.map encApi_Range l_0))))) (Ev.t 41 (bI .i64 (IntKind.wrap .i64 (v5 - 1)))) rfl)) (.c (oY rfl rfl rfl (op_fieldE (cs' := [vS x24.To]) Try.underlying37 rfl ti9 (by decide) rfl (Ev.t 42 (.ep [vS x24.From, vS x24.To])) rfl)) (.c (oY rfl rfl rfl (op_load1E (c := vS x24.To) Try.underlying9 rfl rfl (Ev.t 43 (.ep [vS x24.To])) rfl)) (.c (oY rfl rfl rfl (OpL.cast (op_neS (Ev.t 38 (bS x23.From)) (Ev.t 44 (bS x24.To)) rfl) (congrArg (fun b => bB b) hc25))) (.c (oY rfl rfl rfl (op_move (Ev.t 45 (bB false)) rfl)) (.c (oY rfl rfl rfl (op_move (Ev.t 0 (.g (.d (.sl 2 (List.map encApi_Range l_0))))) rfl)) (.c (oY rfl rfl rfl (op_move (Ev.t 3 (bI .i64 v5)) rfl)) (.c (oY rfl rfl rfl (op_index (cs := [vS x26.From, vS x26.To]) Try.underlying29 ti37 (idx_ok hx26).1 (idx_get hx26 encApi_Range) (Ev.t 47 (.g (.d (.sl 2 (List.map encApi_Range l_0))))) (Ev.t 48 (bI .i64 v5)) rfl)) (.c (oY rfl rfl rfl (op_fieldE (cs' := [vS x26.From, vS x26.To]) Try.underlying37 rfl ti9 (by decide) rfl (Ev.t 49 (.ep [vS x26.From, vS x26.To])) rfl)) (.c (oY rfl rfl rfl (op_load1E (c := vS x26.From) Try.underlying9 rfl rfl (Ev.t 50 (.ep [vS x26.From, vS x26.To])) rfl)) (.c (oY rfl rfl rfl (op_eqS (Ev.t 51 (bS x26.From)) (Ev.c _ rfl) rfl)) (.c (oY rfl rfl rfl (op_pickF (Ev.t 46 (bB false)) (Ev.t 52 (bB (seq x26.From ByteArray.empty))) rfl)) (.c (oY rfl rfl rfl (op_pickT (Ev.t 33 (bB true)) (Ev.t 53 (bB (seq x26.From ByteArray.empty))) rfl)) (.c (oP rfl rfl (op_pickF (Ev.t 30 (bB false)) (Ev.t 54 (bB (seq x26.From ByteArray.empty))) rfl)) .nil)))))))))))))))))))))))))))))))))))))))) follows rfl rfl rfl ⟨⟨rfl, trivial⟩, trivial, ⟨rfl, trivial⟩, trivial, ⟨rfl, trivial⟩, trivial, ⟨rfl, rfl, trivial⟩, trivial, ⟨rfl, rfl, trivial⟩, trivial, ⟨rfl, rfl, trivial⟩, trivial, ⟨rfl, trivial⟩, trivial, ⟨rfl, trivial⟩, trivial, ⟨rfl, trivial⟩, trivial, ⟨rfl, trivial⟩, trivial, ⟨rfl, trivial⟩, trivial, ⟨rfl, trivial⟩, trivial, ⟨rfl, rfl, trivial⟩, trivial, ⟨rfl, rfl, trivial⟩, trivial, ⟨rfl, trivial⟩, trivial, ⟨rfl, rfl, trivial⟩, trivial, ⟨rfl, rfl, trivial⟩, trivial, ⟨rfl, rfl, trivial⟩, trivial, ⟨rfl, rfl, trivial⟩, trivial, ⟨rfl, rfl, trivial⟩, trivial, ⟨rfl, rfl, rfl, trivial⟩, trivial, ⟨rfl, rfl, trivial⟩, trivial, ⟨rfl, rfl, trivial⟩, trivial, ⟨rfl, rfl, trivial⟩, trivial, ⟨rfl, rfl, trivial⟩, trivial, ⟨rfl, rfl, trivial⟩, trivial, ⟨rfl, rfl, rfl, trivial⟩, trivial, ⟨rfl, rfl, trivial⟩, trivial, ⟨rfl, rfl, trivial⟩, trivial, ⟨rfl, rfl, rfl, trivial⟩, trivial, ⟨rfl, rfl, trivial⟩, trivial, ⟨rfl, rfl, trivial⟩, trivial, ⟨rfl, rfl, trivial⟩, trivial, ⟨rfl, rfl, rfl, trivial⟩, trivial, ⟨rfl, rfl, trivial⟩, trivial, ⟨rfl, rfl, trivial⟩, trivial, ⟨rfl, rfl, trivial⟩, trivial, ⟨rfl, rfl, rfl, trivial⟩, trivial, ⟨rfl, rfl, rfl, trivial⟩, trivial, ⟨rfl, rfl, trivial⟩, trivial, trivial⟩ ⟨rfl, rfl, rfl, trivial⟩ trivial rfl ?_
            refine ifS hF (fun hc27 hF => ?_) (fun hc27 hF => ?_)
            · refine G.cond rfl (fun _ => ?_) (fun hx => by rw [hc27] at hx; cases hx)
              refine G.seq ?_
              refine G.region ?_
              refine G.op1 (op_assign (Ev.c _ rfl) rfl) rfl trivial trivial ?_
              refine G.endOps ?_
              cases hF
              exact G.ret1 Try.results15 (RVar.tmp 2 _) ⟨rfl, trivial⟩ trivial
            · refine G.cond rfl (fun hx => by rw [hc27] at hx; cases hx) (fun _ => ?_)
              refine G.skip ?_
              refine G.endBlock ?_
              refine G.region ?_
              refine G.op1 (op_move (Ev.t 3 (bI .i64 v5)) rfl) rfl ⟨rfl, trivial⟩ trivial ?_
              refine G.op1 (op_add (Ev.t 9 (bI .i64 v5)) (Ev.c _ rfl) rfl) rfl ⟨rfl, trivial⟩ trivial ?_
              refine G.op1 (op_assign (Ev.t 10 (bI .i64 (IntKind.wrap .i64 (v5 + 1)))) rfl) rfl ⟨rfl, trivial⟩ trivial ?_
              refine G.endOps ?_
              exact G.arr (J6 (IntKind.wrap .i64 (v5 + 1)) hF) ⟨rfl, rfl, trivial⟩ trivial rfl
        · refine G.drawnI (deps := ([] :: [0] :: [0, 1] :: [0, 1, 2] :: [0, 1, 2, 3] :: [0, 1, 2, 3, 4] :: [0, 1, 2, 3, 4, 5] :: [0, 1, 2, 3, 4, 5] :: [0, 1, 2, 3, 4, 5, 6, 7] :: [0, 1, 2, 3, 4, 5, 6, 7, 8] :: [0, 1, 2, 3, 4, 5, 6, 7, 8, 9] :: [0, 1, 2, 3, 4, 5, 6, 7, 8, 9, 10] :: [0, 1, 2, 3, 4, 5, 6, 7, 8, 9, 10, 11] :: [0, 1, 2, 3, 4, 5, 6, 7, 8, 9, 10, 11, 12] :: [0, 1, 2, 3, 4, 5, 6, 7, 8, 9, 10, 11, 12, 13] :: [0, 1, 2, 3, 4, 5, 6, 7, 8, 9, 10, 11, 12, 13, 14] :: [0, 1, 2, 3, 4, 5, 6, 7, 8, 9, 10, 11, 12, 13, 14, 15] :: [0, 1, 2, 3, 4, 5, 6, 7, 8, 9, 10, 11, 12, 13, 14, 15, 16] :: [0, 1, 2, 3, 4, 5, 6, 7, 8, 9, 10, 11, 12, 13, 14, 15, 16, 17] :: [0, 1, 2, 3, 4, 5, 6, 7, 8, 9, 10, 11, 12, 13, 14, 15, 16, 17] :: [0, 1, 2, 3, 4, 5, 6, 7, 8, 9, 10, 11, 12, 13, 14, 15, 16, 17, 18, 19] :: (0 :: 1 :: 2 :: 3 :: 4 :: 5 :: 6 :: 7 :: 8 :: 9 :: 10 :: 11 :: 12 :: 13 :: 14 :: 15 :: 16 :: 17 :: 18 :: 19 :: 20 :: []) :: (0 :: 1 :: 2 :: 3 :: 4 :: 5 :: 6 :: 7 :: 8 :: 9 :: 10 :: 11 :: 12 :: 13 :: 14 :: 15 :: 16 :: 17 :: 18 :: 19 :: 20 :: 21 :: []) :: [0, 1, 2, 3, 4, 5, 6, 7, 8, 9, 10, 11, 12, 13, 14, 15, 16, 17] :: [0, 1, 2, 3, 4, 5, 6, 7, 8, 9, 10, 11, 12, 13, 14, 15, 16, 17] :: [0, 1, 2, 3, 4, 5, 6, 7, 8, 9, 10, 11, 12, 13, 14, 15, 16, 17, 24] :: (0 :: 1 :: 2 :: 3 :: 4 :: 5 :: 6 :: 7 :: 8 :: 9 :: 10 :: 11 :: 12 :: 13 :: 14 :: 15 :: 16 :: 17 :: 23 :: 24 :: 25 :: []) :: (0 :: 1 :: 2 :: 3 :: 4 :: 5 :: 6 :: 7 :: 8 :: 9 :: 10 :: 11 :: 12 :: 13 :: 14 :: 15 :: 16 :: 17 :: 23 :: 24 :: 25 :: 26 :: []) :: (0 :: 1 :: 2 :: 3 :: 4 :: 5 :: 6 :: 7 :: 8 :: 9 :: 10 :: 11 :: 12 :: 13 :: 14 :: 15 :: 16 :: 17 :: 23 :: 24 :: 25 :: 26 :: 27 :: []) :: (0 :: 1 :: 2 :: 3 :: 4 :: 5 :: 6 :: 7 :: 8 :: 9 :: 10 :: 11 :: 12 :: 13 :: 14 :: 15 :: 16 :: 17 :: 18 :: 19 :: 20 :: 21 :: 22 :: 23 :: 24 :: 25 :: 26 :: 27 :: 28 :: []) :: (0 :: 1 :: 2 :: 3 :: 4 :: 5 :: 6 :: 7 :: 8 :: 9 :: 10 :: 11 :: 12 :: 13 :: 14 :: 15 :: 16 :: 17 :: 18 :: 19 :: 20 :: 21 :: 22 :: 23 :: 24 :: 25 :: 26 :: 27 :: 28 :: 29 :: []) :: (0 :: 1 :: 2 :: 3 :: 4 :: 5 :: 6 :: 7 :: 8 :: 9 :: 10 :: 11 :: 12 :: 13 :: 14 :: 15 :: 16 :: 17 :: 18 :: 19 :: 20 :: 21 :: 22 :: 23 :: 24 :: 25 :: 26 :: 27 :: 28 :: 29 :: 30 :: []) :: (0 :: 1 :: 2 :: 3 :: 4 :: 5 :: 6 :: 7 :: 8 :: 9 :: 10 :: 11 :: 12 :: 13 :: 14 :: 15 :: 16 :: 17 :: 18 :: 19 :: 20 :: 21 :: 22 :: 23 :: 24 :: 25 :: 26 :: 27 :: 28 :: 29 :: 30 :: []) :: (0 :: 1 :: 2 :: 3 :: 4 :: 5 :: 6 :: 7 :: 8 :: 9 :: 10 :: 11 :: 12 :: 13 :: 14 :: 15 :: 16 :: 17 :: 18 :: 19 :: 20 :: 21 :: 22 :: 23 :: 24 :: 25 :: 26 :: 27 :: 28 :: 29 :: 30 :: 31 :: 32 :: []) :: (0 :: 1 :: 2 :: 3 :: 4 :: 5 :: 6 :: 7 :: 8 :: 9 :: 10 :: 11 :: 12 :: 13 :: 14 :: 15 :: 16 :: 17 :: 18 :: 19 :: 20 :: 21 :: 22 :: 23 :: 24 :: 25 :: 26 :: 27 :: 28 :: 29 :: 30 :: 31 :: 32 :: 33 :: []) :: (0 :: 1 :: 2 :: 3 :: 4 :: 5 :: 6 :: 7 :: 8 :: 9 :: 10 :: 11 :: 12 :: 13 :: 14 :: 15 :: 16 :: 17 :: 18 :: 19 :: 20 :: 21 :: 22 :: 23 :: 24 :: 25 :: 26 :: 27 :: 28 :: 29 :: 30 :: 31 :: 32 :: 33 :: 34 :: []) :: (0 :: 1 :: 2 :: 3 :: 4 :: 5 :: 6 :: 7 :: 8 :: 9 :: 10 :: 11 :: 12 :: 13 :: 14 :: 15 :: 16 :: 17 :: 18 :: 19 :: 20 :: 21 :: 22 :: 23 :: 24 :: 25 :: 26 :: 27 :: 28 :: 29 :: 30 :: 31 :: 32 :: 33 :: 34 :: 35 :: []) :: (0 :: 1 :: 2 :: 3 :: 4 :: 5 :: 6 :: 7 :: 8 :: 9 :: 10 :: 11 :: 12 :: 13 :: 14 :: 15 :: 16 :: 17 :: 18 :: 19 :: 20 :: 21 :: 22 :: 23 :: 24 :: 25 :: 26 :: 27 :: 28 :: 29 :: 30 :: 31 :: 32 :: 33 :: 34 :: 35 :: 36 :: []) :: (0 :: 1 :: 2 :: 3 :: 4 :: 5 :: 6 :: 7 :: 8 :: 9 :: 10 :: 11 :: 12 :: 13 :: 14 :: 15 :: 16 :: 17 :: 18 :: 19 :: 20 :: 21 :: 22 :: 23 :: 24 :: 25 :: 26 :: 27 :: 28 :: 29 :: 30 :: 31 :: 32 :: 33 :: 34 :: 35 :: 36 :: 37 :: []) :: (0 :: 1 :: 2 :: 3 :: 4 :: 5 :: 6 :: 7 :: 8 :: 9 :: 10 :: 11 :: 12 :: 13 :: 14 :: 15 :: 16 :: 17 :: 18 :: 19 :: 20 :: 21 :: 22 :: 23 :: 24 :: 25 :: 26 :: 27 :: 28 :: 29 :: 30 :: 31 :: 32 :: 33 :: 34 :: 35 :: 36 :: 37 :: 38 :: []) :: [])) (sl' := [(0, .one (.g (.d (.sl 2 (List.map encApi_Range l_0))))), (3, oI v5), (55, oB false)]) (hp' := []) (.c (oP rfl rfl (op_move (Ev.t 4 (bB r11)) rfl)) (.c (oP rfl rfl (OpL.cast (op_not (Ev.t 16 (bB r11)) rfl) (congrArg (fun b => bB b) hc12))) (.c (oP rfl rfl (op_move (Ev.t 17 (bB false)) rfl)) (.c (oY rfl rfl rfl (op_move (Ev.t 3 (bI .i64 v5)) rfl)) (.c (oY rfl rfl rfl (OpL.cast (op_eqI (Ev.t 19 (bI .i64 v5)) (Ev.c _ rfl) rfl) (congrArg (fun b => bB b) hc13))) (.c (oY rfl rfl rfl (op_move (Ev.t 20 (bB false)) rfl)) (.c (OpW.no rfl rfl rfl rfl rfl) (.c (OpW.no rfl rfl rfl rfl rfl) (.c (OpW.no rfl rfl rfl rfl rfl) (.c (OpW.no rfl rfl rfl rfl rfl) (.c (OpW.no rfl rfl rfl rfl rfl) (.c (OpW.no rfl rfl rfl rfl rfl) (.c (oY rfl rfl rfl (op_pickF (Ev.t 21 (bB false)) (Ev.c _ rfl) rfl)) (.c (oP rfl rfl (op_pickF (Ev.t 18 (bB false)) (Ev.t 28 (bB false)) rfl)) (.c (oP rfl rfl (op_move (Ev.t 29 (bB false)) rfl)) (.c (oY rfl rfl rfl (op_move (Ev.t 3 (bI .i64 v5)) rfl)) (.c (oY rfl rfl rfl (OpL.cast (op_gtr (Ev.t 31 (bI .i64 v5)) (Ev.c _ rfl) rfl) (congrArg (fun b => bB b) hc22))) (.c (oY rfl rfl rfl (op_move (Ev.t 32 (bB false)) rfl)) (.c (OpW.no rfl rfl rfl rfl rfl) (.c (OpW.no rfl rfl rfl rfl rfl) (.c (OpW.no rfl rfl rfl rfl rfl) (.c (OpW.no rfl rfl rfl rfl rfl) (.c (OpW.no rfl rfl rfl rfl rfl) (.c (OpW.no rfl rfl rfl rfl rfl) (.c (OpW.no rfl rfl rfl rfl rfl) (.c (OpW.no rfl rfl rfl rfl rfl) (.c (OpW.no rfl rfl rfl rfl rfl) (.c (OpW.no rfl rfl rfl rfl rfl) (.c (OpW.no rfl rfl rfl rfl rfl) (.c (OpW.no rfl rfl rfl rfl rfl) (.c (OpW.no rfl rfl rfl rfl rfl) (.c (OpW.un rfl rfl rfl rfl) (.c (OpW.un rfl rfl rfl rfl) (.c (OpW.un rfl rfl rfl rfl) (.c (OpW.un rfl rfl rfl rfl) (.c (OpW.un rfl rfl rfl rfl) (.c (OpW.un rfl rfl rfl rfl) (.c (OpW.no rfl rfl rfl rfl rfl) (.c (oY rfl rfl rfl (op_pickF (Ev.t 33 (bB false)) (Ev.c _ rfl) rfl)) (.c (oP rfl rfl (op_pickF (Ev.t 30 (bB false)) (Ev.t 54 (bB false)) rfl)) .nil)))))))))))))))))))))))))))))))))))))))) follows rfl rfl rfl ⟨⟨rfl, trivial⟩, trivial, ⟨rfl, trivial⟩, trivial, ⟨rfl, trivial⟩, trivial, ⟨rfl, rfl, trivial⟩, trivial, ⟨rfl, rfl, trivial⟩, trivial, ⟨rfl, rfl, trivial⟩, trivial, ⟨rfl, trivial⟩, trivial, ⟨rfl, trivial⟩, trivial, ⟨rfl, trivial⟩, trivial, ⟨rfl, trivial⟩, trivial, ⟨rfl, trivial⟩, trivial, ⟨rfl, trivial⟩, trivial, ⟨rfl, rfl, trivial⟩, trivial, ⟨rfl, rfl, trivial⟩, trivial, ⟨rfl, trivial⟩, trivial, ⟨rfl, rfl, trivial⟩, trivial, ⟨rfl, rfl, trivial⟩, trivial, ⟨rfl, rfl, trivial⟩, trivial, ⟨rfl, trivial⟩, trivial, ⟨rfl, trivial⟩, trivial, ⟨rfl, trivial⟩, trivial, ⟨rfl, trivial⟩, trivial, ⟨rfl, trivial⟩, trivial, ⟨rfl, trivial⟩, trivial, ⟨rfl, trivial⟩, trivial, ⟨rfl, trivial⟩, trivial, ⟨rfl, trivial⟩, trivial, ⟨rfl, trivial⟩, trivial, ⟨rfl, trivial⟩, trivial, ⟨rfl, trivial⟩, trivial, ⟨rfl, trivial⟩, trivial, ⟨rfl, trivial⟩, trivial, ⟨rfl, trivial⟩, trivial, ⟨rfl, trivial⟩, trivial, ⟨rfl, trivial⟩, trivial, ⟨rfl, trivial⟩, trivial, ⟨rfl, trivial⟩, trivial, ⟨rfl, trivial⟩, trivial, ⟨rfl, rfl, trivial⟩, trivial, ⟨rfl, rfl, trivial⟩, trivial, trivial⟩ ⟨rfl, rfl, rfl, trivial⟩ trivial rfl ?_
          refine G.condF rfl ?_
          refine G.skip ?_
          refine G.endBlock ?_
          refine G.region ?_
          refine G.op1 (op_move (Ev.t 3 (bI .i64 v5)) rfl) rfl ⟨rfl, trivial⟩ trivial ?_
          refine G.op1 (op_add (Ev.t 9 (bI .i64 v5)) (Ev.c _ rfl) rfl) rfl ⟨rfl, trivial⟩ trivial ?_
          refine G.op1 (op_assign (Ev.t 10 (bI .i64 (IntKind.wrap .i64 (v5 + 1)))) rfl) rfl ⟨rfl, trivial⟩ trivial ?_
          refine G.endOps ?_
          exact G.arr (J6 (IntKind.wrap .i64 (v5 + 1)) hF) ⟨rfl, rfl, trivial⟩ trivial rfl
  · refine G.cond rfl (fun hx => by rw [hc9] at hx; cases hx) (fun _ => ?_)
    refine G.exit ?_
    refine GX.c ?_
    refine GX.q ?_
    refine GX.bYes ?_
    exact G.arr (J4 () hF) ⟨rfl, trivial⟩ trivial rfl


set_option maxRecDepth 20000 in
set_option maxHeartbeats 2000000 in
theorem ct_law06_same (a_0 : Api_Row) (b_1 : Api_Row) (r : Bool) (hF : law06_same a_0 b_1 = some r) : Ct Try.prog 16 [.g (.agg (encApi_Row a_0)), .g (.agg (encApi_Row b_1))] (.one (.d (vB r))) := by
  unfold law06_same at hF
  refine Ct.intro Try.func16 rfl Try.ntmps16 rfl rfl fun M w => ?_
  refine G.seq ?_
  refine G.region ?_
  refine G.op2 (op_boxA (k := 1002) (Ev.t 0 (.g (.agg [.sl 2 (List.map encApi_Range a_0.Ranges), .sl 1 (List.map encI_i64 a_0.Owners), .sl 1 (List.map encI_i64 a_0.Parents)]))) rfl) rfl ⟨rfl, trivial⟩ ⟨rfl, trivial⟩ ?_
  refine G.op2 (op_boxA (k := 1003) (Ev.t 1 (.g (.agg [.sl 2 (List.map encApi_Range b_1.Ranges), .sl 1 (List.map encI_i64 b_1.Owners), .sl 1 (List.map encI_i64 b_1.Parents)]))) rfl) rfl ⟨rfl, trivial⟩ ⟨rfl, trivial⟩ ?_
  refine G.op1 (op_assign (Ev.c _ rfl) rfl) rfl trivial trivial ?_
  refine G.endOps ?_
  refine G.seq ?_
  refine G.seq ?_
  refine G.joinC (T := Bool) (fun y1 => ⟨[(2, .one (.ptr 1002 0)), (3, .one (.ptr 1003 0)), (31, oB y1)], [(1002, some (.blk 31 [.g (.d (.sl 2 (List.map encApi_Range a_0.Ranges))), .g (.d (.sl 1 (List.map encI_i64 a_0.Owners))), .g (.d (.sl 1 (List.map encI_i64 a_0.Parents)))])), (1003, some (.blk 31 [.g (.d (.sl 2 (List.map encApi_Range b_1.Ranges))), .g (.d (.sl 1 (List.map encI_i64 b_1.Owners))), .g (.d (.sl 1 (List.map encI_i64 b_1.Parents)))]))]⟩) (fun y1 => law06_same_k1 a_0 b_1 y1 = some r) (fun y1 hF => ?_) (fun J27 => ?_)
  · unfold law06_same_k1 at hF
    refine ifS hF (fun hc2 hF => ?_) (fun hc2 hF => ?_)
    · refine G.cond rfl (fun _ => ?_) (fun hx => by rw [hc2] at hx; cases hx)
      refine G.seq ?_
      refine G.region ?_
      refine G.op1 (op_assign (Ev.c _ rfl) rfl) rfl trivial trivial ?_
      refine G.endOps ?_
      cases hF
      exact G.ret1 Try.results16 (RVar.tmp 4 _) ⟨rfl, trivial⟩ trivial
    · refine G.cond rfl (fun hx => by rw [hc2] at hx; cases hx) (fun _ => ?_)
      refine G.skip ?_
      refine G.seq ?_
      refine G.seq ?_
      refine G.region ?_
      refine G.op1 (op_assign (Ev.c _ rfl) rfl) rfl trivial trivial ?_
      refine G.endOps ?_
      refine G.joinC (T := Unit) (fun y3 => ⟨[(2, .one (.ptr 1002 0)), (3, .one (.ptr 1003 0))], [(1002, some (.blk 31 [.g (.d (.sl 2 (List.map encApi_Range a_0.Ranges))), .g (.d (.sl 1 (List.map encI_i64 a_0.Owners))), .g (.d (.sl 1 (List.map encI_i64 a_0.Parents)))])), (1003, some (.blk 31 [.g (.d (.sl 2 (List.map encApi_Range b_1.Ranges))), .g (.d (.sl 1 (List.map encI_i64 b_1.Owners))), .g (.d (.sl 1 (List.map encI_i64 b_1.Parents)))]))]⟩) (fun y3 => law06_same_k2 a_0 b_1 y3 = some r) (fun y3 hF => ?_) (fun J14 => ?_)
      · unfold law06_same_k2 at hF
        refine G.seq ?_
        refine G.seq ?_
        refine G.region ?_
        refine G.op1 (op_assign (Ev.c _ rfl) rfl) rfl trivial trivial ?_
        refine G.endOps ?_
        refine G.joinC (T := Unit) (fun y4 => ⟨[], []⟩) (fun y4 => law06_same_k3 y4 = some r) (fun y4 hF => ?_) (fun J5 => ?_)
        · unfold law06_same_k3 at hF
          refine G.seq ?_
          refine G.region ?_
          refine G.op1 (op_assign (Ev.c _ rfl) rfl) rfl trivial trivial ?_
          refine G.endOps ?_
          cases hF
          exact G.ret1 Try.results16 (RVar.tmp 4 _) ⟨rfl, trivial⟩ trivial
        refine G.block ?_
        refine G.keep (sl' := [(2, .one (.ptr 1002 0)), (3, .one (.ptr 1003 0)), (6, oI 0)]) (hp' := [(1002, some (.blk 31 [.g (.d (.sl 2 (List.map encApi_Range a_0.Ranges))), .g (.d (.sl 1 (List.map encI_i64 a_0.Owners))), .g (.d (.sl 1 (List.map encI_i64 a_0.Parents)))])), (1003, some (.blk 31 [.g (.d (.sl 2 (List.map encApi_Range b_1.Ranges))), .g (.d (.sl 1 (List.map encI_i64 b_1.Owners))), .g (.d (.sl 1 (List.map encI_i64 b_1.Parents)))]))]) ⟨rfl, rfl, rfl, trivial⟩ ⟨rfl, rfl, trivial⟩ rfl ?_
        refine G.loopF (fun (v6 : Int) => ⟨[(2, .one (.ptr 1002 0)), (3, .one (.ptr 1003 0)), (6, oI v6)], [(1002, some (.blk 31 [.g (.d (.sl 2 (List.map encApi_Range a_0.Ranges))), .g (.d (.sl 1 (List.map encI_i64 a_0.Owners))), .g (.d (.sl 1 (List.map encI_i64 a_0.Parents)))])), (1003, some (.blk 31 [.g (.d (.sl 2 (List.map encApi_Range b_1.Ranges))), .g (.d (.sl 1 (List.map encI_i64 b_1.Owners))), .g (.d (.sl 1 (List.map encI_i64 b_1.Parents)))]))]⟩) hF rfl (fun K9 again8 v6 J7 hF => ?_)
        unfold law06_same_l4 at hF
        refine G.seq ?_
        refine G.seq ?_
        refine G.region ?_
        refine G.op1 (op_move (Ev.t 6 (bI .i64 v6)) rfl) rfl ⟨rfl, trivial⟩ trivial ?_
        refine G.op1 (op_fieldP (off' := 2) Try.underlying31 rfl ti22 (by decide) rfl (Ev.t 2 (.ptr 1002 0)) rfl) rfl ⟨rfl, trivial⟩ trivial ?_
        refine G.op1 (op_load1P (c := .g (.d (.sl 1 (List.map encI_i64 a_0.Parents)))) Try.underlying22 rfl rfl (Ev.t 71 (.ptr 1002 2)) rfl) rfl ⟨rfl, trivial⟩ ⟨rfl, trivial⟩ ?_
        refine G.op1 (OpL.cast (op_lenD Try.underlying22 (Ev.t 72 (.g (.d (.sl 1 (List.map encI_i64 a_0.Parents))))) rfl) (by rw [List.length_map])) rfl ⟨rfl, trivial⟩ trivial ?_
        refine G.op1 (op_lss (Ev.t 70 (bI .i64 v6)) (Ev.t 73 (bI .i64 (a_0.Parents.length : Int))) rfl) rfl ⟨rfl, rfl, trivial⟩ trivial ?_
        refine G.endOps ?_
        refine ifS hF (fun hc10 hF => ?_) (fun hc10 hF => ?_)
        · refine G.cond rfl (fun _ => ?_) (fun hx => by rw [hc10] at hx; cases hx)
          refine G.skip ?_
          refine G.seq ?_
          refine G.block ?_
          refine G.seq ?_
          obtain ⟨x11, hx11, hF⟩ := bindS hF
          obtain ⟨x12, hx12, hF⟩ := bindS hF
          refine G.drawnI (deps := [[], [0], [], [0, 1, 2], [0, 1, 2, 3], [], [5], [], [5, 6, 7], [5, 6, 7, 8], [0, 1, 2, 3, 4, 5, 6, 7, 8, 9]]) (sl' := [(2, .one (.ptr 1002 0)), (3, .one (.ptr 1003 0)), (6, oI v6), (87, oB (!decide (x11 = x12)))]) (hp' := [(1002, some (.blk 31 [.g (.d (.sl 2 (List.map encApi_Range a_0.Ranges))), .g (.d (.sl 1 (List.map encI_i64 a_0.Owners))), .g (.d (.sl 1 (List.map encI_i64 a_0.Parents)))])), (1003, some (.blk 31 [.g (.d (.sl 2 (List.map encApi_Range b_1.Ranges))), .g (.d (.sl 1 (List.map encI_i64 b_1.Owners))), .g (.d (.sl 1 (List.map encI_i64 b_1.Parents)))]))]) (.c (oP rfl rfl (op_fieldP (off' := 2) Try.underlying31 rfl ti22 (by decide) rfl (Ev.t 2 (.ptr 1002 0)) rfl)) (.c (oP rfl rfl (op_load1P (c := .g (.d (.sl 1 (List.map encI_i64 a_0.Parents)))) Try.underlying22 rfl rfl (Ev.t 77 (.ptr 1002 2)) rfl)) (.c (oP rfl rfl (op_move (Ev.t 6 (bI .i64 v6)) rfl)) (.c (oP rfl rfl (op_index (cs := [vI x11]) Try.underlying22 ti3 (idx_ok hx11).1 (idx_get hx11 encI_i64) (Ev.t 78 (.g (.d (.sl 1 (List.map encI_i64 a_0.Parents))))) (Ev.t 79 (bI .i64 v6)) rfl)) (.c (oP rfl rfl (op_load1E (c := vI x11) Try.underlying3 rfl rfl (Ev.t 80 (.ep [vI x11])) rfl)) (.c (oP rfl rfl (op_fieldP (off' := 2) Try.underlying31 rfl ti22 (by decide) rfl (Ev.t 3 (.ptr 1003 0)) rfl)) (.c (oP rfl rfl (op_load1P (c := .g (.d (.sl 1 (List.map encI_i64 b_1.Parents)))) Try.underlying22 rfl rfl (Ev.t 82 (.ptr 1003 2)) rfl)) (.c (oP rfl rfl (op_move (Ev.t 6 (bI .i64 v6)) rfl)) (.c (oP rfl rfl (op_index (cs := [vI x12]) Try.underlying22 ti3 (idx_ok hx12).1 (idx_get hx12 encI_i64) (Ev.t 83 (.g (.d (.sl 1 (List.map encI_i64 b_1.Parents))))) (Ev.t 84 (bI .i64 v6)) rfl)) (.c (oP rfl rfl (op_load1E (c := vI x12) Try.underlying3 rfl rfl (Ev.t 85 (.ep [vI x12])) rfl)) (.c (oP rfl rfl (op_neI (Ev.t 81 (bI .i64 x11)) (Ev.t 86 (bI .i64 x12)) rfl)) .nil))))))))))) follows rfl rfl rfl ⟨⟨rfl, trivial⟩, trivial, ⟨rfl, trivial⟩, ⟨⟨rfl, rfl⟩, trivial⟩, ⟨rfl, trivial⟩, trivial, ⟨rfl, rfl, trivial⟩, trivial, ⟨rfl, trivial⟩, trivial, ⟨rfl, trivial⟩, trivial, ⟨rfl, trivial⟩, ⟨⟨rfl, rfl⟩, trivial⟩, ⟨rfl, trivial⟩, trivial, ⟨rfl, rfl, trivial⟩, trivial, ⟨rfl, trivial⟩, trivial, ⟨rfl, rfl, trivial⟩, trivial, trivial⟩ ⟨rfl, rfl, rfl, rfl, trivial⟩ ⟨rfl, rfl, trivial⟩ rfl ?_
          refine ifS hF (fun hc13 hF => ?_) (fun hc13 hF => ?_)
          · refine G.cond rfl (fun _ => ?_) (fun hx => by rw [hc13] at hx; cases hx)
            refine G.seq ?_
            refine G.region ?_
            refine G.op1 (op_assign (Ev.c _ rfl) rfl) rfl trivial trivial ?_
            refine G.endOps ?_
            cases hF
            exact G.ret1 Try.results16 (RVar.tmp 4 _) ⟨rfl, trivial⟩ trivial
          · refine G.cond rfl (fun hx => by rw [hc13] at hx; cases hx) (fun _ => ?_)
            refine G.skip ?_
            refine G.endBlock ?_
            refine G.region ?_
            refine G.op1 (op_move (Ev.t 6 (bI .i64 v6)) rfl) rfl ⟨rfl, trivial⟩ trivial ?_
            refine G.op1 (op_add (Ev.t 75 (bI .i64 v6)) (Ev.c _ rfl) rfl) rfl ⟨rfl, trivial⟩ trivial ?_
            refine G.op1 (op_assign (Ev.t 76 (bI .i64 (IntKind.wrap .i64 (v6 + 1)))) rfl) rfl ⟨rfl, trivial⟩ trivial ?_
            refine G.endOps ?_
            exact G.arr (J7 (IntKind.wrap .i64 (v6 + 1)) hF) ⟨rfl, rfl, rfl, trivial⟩ ⟨rfl, rfl, trivial⟩ rfl
        · refine G.cond rfl (fun hx => by rw [hc10] at hx; cases hx) (fun _ => ?_)
          refine G.exit ?_
          refine GX.c ?_
          refine GX.q ?_
          refine GX.bYes ?_
          exact G.arr (J5 () hF) trivial trivial rfl
      refine G.block ?_
      refine G.keep (sl' := [(2, .one (.ptr 1002 0)), (3, .one (.ptr 1003 0)), (5, oI 0)]) (hp' := [(1002, some (.blk 31 [.g (.d (.sl 2 (List.map encApi_Range a_0.Ranges))), .g (.d (.sl 1 (List.map encI_i64 a_0.Owners))), .g (.d (.sl 1 (List.map encI_i64 a_0.Parents)))])), (1003, some (.blk 31 [.g (.d (.sl 2 (List.map encApi_Range b_1.Ranges))), .g (.d (.sl 1 (List.map encI_i64 b_1.Owners))), .g (.d (.sl 1 (List.map encI_i64 b_1.Parents)))]))]) ⟨rfl, rfl, rfl, trivial⟩ ⟨rfl, rfl, trivial⟩ rfl ?_
      refine G.loopF (fun (v15 : Int) => ⟨[(2, .one (.ptr 1002 0)), (3, .one (.ptr 1003 0)), (5, oI v15)], [(1002, some (.blk 31 [.g (.d (.sl 2 (List.map encApi_Range a_0.Ranges))), .g (.d (.sl 1 (List.map encI_i64 a_0.Owners))), .g (.d (.sl 1 (List.map encI_i64 a_0.Parents)))])), (1003, some (.blk 31 [.g (.d (.sl 2 (List.map encApi_Range b_1.Ranges))), .g (.d (.sl 1 (List.map encI_i64 b_1.Owners))), .g (.d (.sl 1 (List.map encI_i64 b_1.Parents)))]))]⟩) hF rfl (fun K18 again17 v15 J16 hF => ?_)
      unfold law06_same_l5 at hF
      refine G.seq ?_
      refine G.seq ?_
      refine G.region ?_
      refine G.op1 (op_move (Ev.t 5 (bI .i64 v15)) rfl) rfl ⟨rfl, trivial⟩ trivial ?_
      refine G.op1 (op_fieldP (off' := 0) Try.underlying31 rfl ti29 (by decide) rfl (Ev.t 2 (.ptr 1002 0)) rfl) rfl ⟨rfl, trivial⟩ trivial ?_
      refine G.op1 (op_load1P (c := .g (.d (.sl 2 (List.map encApi_Range a_0.Ranges)))) Try.underlying29 rfl rfl (Ev.t 33 (.ptr 1002 0)) rfl) rfl ⟨rfl, trivial⟩ ⟨rfl, trivial⟩ ?_
      refine G.op1 (OpL.cast (op_lenD Try.underlying29 (Ev.t 34 (.g (.d (.sl 2 (List.map encApi_Range a_0.Ranges))))) rfl) (by rw [List.length_map])) rfl ⟨rfl, trivial⟩ trivial ?_
      refine G.op1 (op_lss (Ev.t 32 (bI .i64 v15)) (Ev.t 35 (bI .i64 (a_0.Ranges.length : Int))) rfl) rfl ⟨rfl, rfl, trivial⟩ trivial ?_
      refine G.endOps ?_
      refine ifS hF (fun hc19 hF => ?_) (fun hc19 hF => ?_)
      · refine G.cond rfl (fun _ => ?_) (fun hx => by rw [hc19] at hx; cases hx)
        refine G.skip ?_
        refine G.seq ?_
        refine G.block ?_
        refine G.seq ?_
        obtain ⟨x20, hx20, hF⟩ := bindS hF
        obtain ⟨x21, hx21, hF⟩ := bindS hF
        refine ifS hF (fun hc22 hF => ?_) (fun hc22 hF => ?_)
        · refine G.drawnI (deps := ([] :: [0] :: [] :: [0, 1, 2] :: [0, 1, 2, 3] :: [] :: [5] :: [] :: [5, 6, 7] :: [5, 6, 7, 8] :: [0, 1, 2, 3, 4, 5, 6, 7, 8, 9] :: [0, 1, 2, 3, 4, 5, 6, 7, 8, 9, 10] :: [0, 1, 2, 3, 4, 5, 6, 7, 8, 9, 10, 11] :: [0, 1, 2, 3, 4, 5, 6, 7, 8, 9, 10, 11] :: [0, 1, 2, 3, 4, 5, 6, 7, 8, 9, 10, 11, 13] :: [0, 1, 2, 3, 4, 5, 6, 7, 8, 9, 10, 11, 13, 14] :: [0, 1, 2, 3, 4, 5, 6, 7, 8, 9, 10, 11, 12, 13, 14, 15] :: [0, 1, 2, 3, 4, 5, 6, 7, 8, 9, 10, 11, 12, 13, 14, 15, 16] :: [0, 1, 2, 3, 4, 5, 6, 7, 8, 9, 10, 11, 12, 13, 14, 15, 16, 17] :: [0, 1, 2, 3, 4, 5, 6, 7, 8, 9, 10, 11, 12, 13, 14, 15, 16, 17, 18] :: [0, 1, 2, 3, 4, 5, 6, 7, 8, 9, 10, 11, 12, 13, 14, 15, 16, 17] :: (0 :: 1 :: 2 :: 3 :: 4 :: 5 :: 6 :: 7 :: 8 :: 9 :: 10 :: 11 :: 12 :: 13 :: 14 :: 15 :: 16 :: 17 :: 18 :: 19 :: 20 :: []) :: (0 :: 1 :: 2 :: 3 :: 4 :: 5 :: 6 :: 7 :: 8 :: 9 :: 10 :: 11 :: 12 :: 13 :: 14 :: 15 :: 16 :: 17 :: 18 :: 19 :: 20 :: 21 :: []) :: [0, 1, 2, 3, 4, 5, 6, 7, 8, 9, 10, 11, 12, 13, 14, 15, 16, 17] :: [0, 1, 2, 3, 4, 5, 6, 7, 8, 9, 10, 11, 12, 13, 14, 15, 16, 17, 23] :: [0, 1, 2, 3, 4, 5, 6, 7, 8, 9, 10, 11, 12, 13, 14, 15, 16, 17] :: (0 :: 1 :: 2 :: 3 :: 4 :: 5 :: 6 :: 7 :: 8 :: 9 :: 10 :: 11 :: 12 :: 13 :: 14 :: 15 :: 16 :: 17 :: 23 :: 24 :: 25 :: []) :: (0 :: 1 :: 2 :: 3 :: 4 :: 5 :: 6 :: 7 :: 8 :: 9 :: 10 :: 11 :: 12 :: 13 :: 14 :: 15 :: 16 :: 17 :: 23 :: 24 :: 25 :: 26 :: []) :: (0 :: 1 :: 2 :: 3 :: 4 :: 5 :: 6 :: 7 :: 8 :: 9 :: 10 :: 11 :: 12 :: 13 :: 14 :: 15 :: 16 :: 17 :: 18 :: 19 :: 20 :: 21 :: 22 :: 23 :: 24 :: 25 :: 26 :: 27 :: []) :: (0 :: 1 :: 2 :: 3 :: 4 :: 5 :: 6 :: 7 :: 8 :: 9 :: 10 :: 11 :: 12 :: 13 :: 14 :: 15 :: 16 :: 17 :: 18 :: 19 :: 20 :: 21 :: 22 :: 23 :: 24 :: 25 :: 26 :: 27 :: 28 :: []) :: (0 :: 1 :: 2 :: 3 :: 4 :: 5 :: 6 :: 7 :: 8 :: 9 :: 10 :: 11 :: 12 :: 13 :: 14 :: 15 :: 16 :: 17 :: 18 :: 19 :: 20 :: 21 :: 22 :: 23 :: 24 :: 25 :: 26 :: 27 :: 28 :: 29 :: []) :: [])) (sl' := [(2, .one (.ptr 1002 0)), (3, .one (.ptr 1003 0)), (5, oI v15), (69, oB true)]) (hp' := [(1002, some (.blk 31 [.g (.d (.sl 2 (List.map encApi_Range a_0.Ranges))), .g (.d (.sl 1 (List.map encI_i64 a_0.Owners))), .g (.d (.sl 1 (List.map encI_i64 a_0.Parents)))])), (1003, some (.blk 31 [.g (.d (.sl 2 (List.map encApi_Range b_1.Ranges))), .g (.d (.sl 1 (List.map encI_i64 b_1.Owners))), .g (.d (.sl 1 (List.map encI_i64 b_1.Parents)))]))]) (.c (oP rfl rfl (op_fieldP (off' := 0) Try.underlying31 rfl ti29 (by decide) rfl (Ev.t 2 (.ptr 1002 0)) rfl)) (.c (oP rfl rfl (op_load1P (c := .g (.d (.sl 2 (List.map encApi_Range a_0.Ranges)))) Try.underlying29 rfl rfl (Ev.t 39 (.ptr 1002 0)) rfl)) (.c (oP rfl rfl (op_move (Ev.t 5 (bI .i64 v15)) rfl)) (.c (oP rfl rfl (op_index (cs := [vS x20.From, vS x20.To]) Try.underlying29 ti37 (idx_ok hx20).1 (idx_get hx20 encApi_Range) (Ev.t 40 (.g (.d (.sl 2 (List.map encApi_Range a_0.Ranges))))) (Ev.t 41 (bI .i64 v15)) rfl)) (.c (oP rfl rfl (op_loadAE (ds := [vS x20.From, vS x20.To]) Try.underlying37 rfl ti37 rfl (Ev.t 42 (.ep [vS x20.From, vS x20.To])) rfl)) (.c (oP rfl rfl (op_fieldP (off' := 0) Try.underlying31 rfl ti29 (by decide) rfl (Ev.t 3 (.ptr 1003 0)) rfl)) (.c (oP rfl rfl (op_load1P (c := .g (.d (.sl 2 (List.map encApi_Range b_1.Ranges)))) Try.underlying29 rfl rfl (Ev.t 44 (.ptr 1003 0)) rfl)) (.c (oP rfl rfl (op_move (Ev.t 5 (bI .i64 v15)) rfl)) (.c (oP rfl rfl (op_index (cs := [vS x21.From, vS x21.To]) Try.underlying29 ti37 (idx_ok hx21).1 (idx_get hx21 encApi_Range) (Ev.t 45 (.g (.d (.sl 2 (List.map encApi_Range b_1.Ranges))))) (Ev.t 46 (bI .i64 v15)) rfl)) (.c (oP rfl rfl (op_loadAE (ds := [vS x21.From, vS x21.To]) Try.underlying37 rfl ti37 rfl (Ev.t 47 (.ep [vS x21.From, vS x21.To])) rfl)) (.c (oP rfl rfl (OpL.cast (op_eqA (us := [.string x20.From, .string x20.To]) (vs := [.string x21.From, .string x21.To]) rfl rfl Try.eqGuardType37 (fun w => ne37 x20.From x20.To x21.From x21.To w) (Ev.t 43 (.g (.agg [vS x20.From, vS x20.To]))) (Ev.t 48 (.g (.agg [vS x21.From, vS x21.To]))) rfl) (congrArg (fun b => bB b) hc22))) (.c (oP rfl rfl (op_move (Ev.t 49 (bB true)) rfl)) (.c (OpW.no rfl rfl rfl rfl rfl) (.c (OpW.no rfl rfl rfl rfl rfl) (.c (OpW.no rfl rfl rfl rfl rfl) (.c (OpW.no rfl rfl rfl rfl rfl) (.c (OpW.no rfl rfl rfl rfl rfl) (.c (OpW.no rfl rfl rfl rfl rfl) (.c (OpW.un rfl rfl rfl rfl) (.c (OpW.un rfl rfl rfl rfl) (.c (OpW.un rfl rfl rfl rfl) (.c (OpW.un rfl rfl rfl rfl) (.c (OpW.un rfl rfl rfl rfl) (.c (OpW.un rfl rfl rfl rfl) (.c (OpW.un rfl rfl rfl rfl) (.c (OpW.un rfl rfl rfl rfl) (.c (OpW.un rfl rfl rfl rfl) (.c (OpW.un rfl rfl rfl rfl) (.c (OpW.un rfl rfl rfl rfl) (.c (OpW.no rfl rfl rfl rfl rfl) (.c (oP rfl rfl (op_pickT (Ev.t 50 (bB true)) (Ev.c _ rfl) rfl)) .nil))))))))))))))))))))))))))))))) follows rfl rfl rfl ⟨⟨rfl, trivial⟩, trivial, ⟨rfl, trivial⟩, ⟨⟨rfl, rfl⟩, trivial⟩, ⟨rfl, trivial⟩, trivial, ⟨rfl, rfl, trivial⟩, trivial, ⟨rfl, trivial⟩, trivial, ⟨rfl, trivial⟩, trivial, ⟨rfl, trivial⟩, ⟨⟨rfl, rfl⟩, trivial⟩, ⟨rfl, trivial⟩, trivial, ⟨rfl, rfl, trivial⟩, trivial, ⟨rfl, trivial⟩, trivial, ⟨rfl, rfl, trivial⟩, trivial, ⟨rfl, trivial⟩, trivial, ⟨rfl, trivial⟩, trivial, ⟨rfl, trivial⟩, trivial, ⟨rfl, trivial⟩, trivial, ⟨rfl, trivial⟩, trivial, ⟨rfl, trivial⟩, trivial, ⟨rfl, trivial⟩, trivial, ⟨rfl, trivial⟩, trivial, ⟨rfl, trivial⟩, trivial, ⟨rfl, trivial⟩, trivial, ⟨rfl, trivial⟩, trivial, ⟨rfl, trivial⟩, trivial, ⟨rfl, trivial⟩, trivial, ⟨rfl, trivial⟩, trivial, ⟨rfl, trivial⟩, trivial, ⟨rfl, trivial⟩, trivial, ⟨rfl, trivial⟩, trivial, ⟨rfl, trivial⟩, trivial, ⟨rfl, trivial⟩, trivial, ⟨rfl, trivial⟩, trivial, trivial⟩ ⟨rfl, rfl, rfl, rfl, trivial⟩ ⟨rfl, rfl, trivial⟩ rfl ?_
          refine G.condT rfl ?_
          refine G.seq ?_
          refine G.region ?_
          refine G.op1 (op_assign (Ev.c _ rfl) rfl) rfl trivial trivial ?_
          refine G.endOps ?_
          cases hF
          exact G.ret1 Try.results16 (RVar.tmp 4 _) ⟨rfl, trivial⟩ trivial
        · refine ifS hF (fun hc23 hF => ?_) (fun hc23 hF => ?_)
          · obtain ⟨x24, hx24, hF⟩ := bindS hF
            obtain ⟨x25, hx25, hF⟩ := bindS hF
            refine G.drawnI (deps := ([] :: [0] :: [] :: [0, 1, 2] :: [0, 1, 2, 3] :: [] :: [5] :: [] :: [5, 6, 7] :: [5, 6, 7, 8] :: [0, 1, 2, 3, 4, 5, 6, 7, 8, 9] :: [0, 1, 2, 3, 4, 5, 6, 7, 8, 9, 10] :: [0, 1, 2, 3, 4, 5, 6, 7, 8, 9, 10, 11] :: [0, 1, 2, 3, 4, 5, 6, 7, 8, 9, 10, 11] :: [0, 1, 2, 3, 4, 5, 6, 7, 8, 9, 10, 11, 13] :: [0, 1, 2, 3, 4, 5, 6, 7, 8, 9, 10, 11, 13, 14] :: [0, 1, 2, 3, 4, 5, 6, 7, 8, 9, 10, 11, 12, 13, 14, 15] :: [0, 1, 2, 3, 4, 5, 6, 7, 8, 9, 10, 11, 12, 13, 14, 15, 16] :: [0, 1, 2, 3, 4, 5, 6, 7, 8, 9, 10, 11, 12, 13, 14, 15, 16, 17] :: [0, 1, 2, 3, 4, 5, 6, 7, 8, 9, 10, 11, 12, 13, 14, 15, 16, 17, 18] :: [0, 1, 2, 3, 4, 5, 6, 7, 8, 9, 10, 11, 12, 13, 14, 15, 16, 17] :: (0 :: 1 :: 2 :: 3 :: 4 :: 5 :: 6 :: 7 :: 8 :: 9 :: 10 :: 11 :: 12 :: 13 :: 14 :: 15 :: 16 :: 17 :: 18 :: 19 :: 20 :: []) :: (0 :: 1 :: 2 :: 3 :: 4 :: 5 :: 6 :: 7 :: 8 :: 9 :: 10 :: 11 :: 12 :: 13 :: 14 :: 15 :: 16 :: 17 :: 18 :: 19 :: 20 :: 21 :: []) :: [0, 1, 2, 3, 4, 5, 6, 7, 8, 9, 10, 11, 12, 13, 14, 15, 16, 17] :: [0, 1, 2, 3, 4, 5, 6, 7, 8, 9, 10, 11, 12, 13, 14, 15, 16, 17, 23] :: [0, 1, 2, 3, 4, 5, 6, 7, 8, 9, 10, 11, 12, 13, 14, 15, 16, 17] :: (0 :: 1 :: 2 :: 3 :: 4 :: 5 :: 6 :: 7 :: 8 :: 9 :: 10 :: 11 :: 12 :: 13 :: 14 :: 15 :: 16 :: 17 :: 23 :: 24 :: 25 :: []) :: (0 :: 1 :: 2 :: 3 :: 4 :: 5 :: 6 :: 7 :: 8 :: 9 :: 10 :: 11 :: 12 :: 13 :: 14 :: 15 :: 16 :: 17 :: 23 :: 24 :: 25 :: 26 :: []) :: (0 :: 1 :: 2 :: 3 :: 4 :: 5 :: 6 :: 7 :: 8 :: 9 :: 10 :: 11 :: 12 :: 13 :: 14 :: 15 :: 16 :: 17 :: 18 :: 19 :: 20 :: 21 :: 22 :: 23 :: 24 :: 25 :: 26 :: 27 :: []) :: (0 :: 1 :: 2 :: 3 :: 4 :: 5 :: 6 :: 7 :: 8 :: 9 :: 10 :: 11 :: 12 :: 13 :: 14 :: 15 :: 16 :: 17 :: 18 :: 19 :: 20 :: 21 :: 22 :: 23 :: 24 :: 25 :: 26 :: 27 :: 28 :: []) :: (0 :: 1 :: 2 :: 3 :: 4 :: 5 :: 6 :: 7 :: 8 :: 9 :: 10 :: 11 :: 12 :: 13 :: 14 :: 15 :: 16 :: 17 :: 18 :: 19 :: 20 :: 21 :: 22 :: 23 :: 24 :: 25 :: 26 :: 27 :: 28 :: 29 :: []) :: [])) (sl' := [(2, .one (.ptr 1002 0)), (3, .one (.ptr 1003 0)), (5, oI v15), (69, oB (!decide (x24 = x25)))]) (hp' := [(1002, some (.blk 31 [.g (.d (.sl 2 (List.map encApi_Range a_0.Ranges))), .g (.d (.sl 1 (List.map encI_i64 a_0.Owners))), .g (.d (.sl 1 (List.map encI_i64 a_0.Parents)))])), (1003, some (.blk 31 [.g (.d (.sl 2 (List.map encApi_Range b_1.Ranges))), .g (.d (.sl 1 (List.map encI_i64 b_1.Owners))), .g (.d (.sl 1 (List.map encI_i64 b_1.Parents)))]))]) (.c (oP rfl rfl (op_fieldP (off' := 0) Try.underlying31 rfl ti29 (by decide) rfl (Ev.t 2 (.ptr 1002 0)) rfl)) (.c (oP rfl rfl (op_load1P (c := .g (.d (.sl 2 (List.map encApi_Range a_0.Ranges)))) Try.underlying29 rfl rfl (Ev.t 39 (.ptr 1002 0)) rfl)) (.c (oP rfl rfl (op_move (Ev.t 5 (bI .i64 v15)) rfl)) (.c (oP rfl rfl (op_index (cs := [vS x20.From, vS x20.To]) Try.underlying29 ti37 (idx_ok hx20).1 (idx_get hx20 encApi_Range) (Ev.t 40 (.g (.d (.sl 2 (List.map encApi_Range a_0.Ranges))))) (Ev.t 41 (bI .i64 v15)) rfl)) (.c (oP rfl rfl (op_loadAE (ds := [vS x20.From, vS x20.To]) Try.underlying37 rfl ti37 rfl (Ev.t 42 (.ep [vS x20.From, vS x20.To])) rfl)) (.c (oP rfl rfl (op_fieldP (off' := 0) Try.underlying31 rfl ti29 (by decide) rfl (Ev.t 3 (.ptr 1003 0)) rfl)) (.c (oP rfl rfl (op_load1P (c := .g (.d (.sl 2 (List.map encApi_Range b_1.Ranges)))) Try.underlying29 rfl rfl (Ev.t 44 (.ptr 1003 0)) rfl)) (.c (oP rfl rfl (op_move (Ev.t 5 (bI .i64 v15)) rfl)) (.c (oP rfl rfl (op_index (cs := [vS x21.From, vS x21.To]) Try.underlying29 ti37 (idx_ok hx21).1 (idx_get hx21 encApi_Range) (Ev.t 45 (.g (.d (.sl 2 (List.map encApi_Range b_1.Ranges))))) (Ev.t 46 (bI .i64 v15)) rfl)) (.c (oP rfl rfl (op_loadAE (ds := [vS x21.From, vS x21.To]) Try.underlying37 rfl ti37 rfl (Ev.t 47 (.ep [vS x21.From, vS x21.To])) rfl)) (.c (oP rfl rfl (OpL.cast (op_eqA (us := [.string x20.From, .string x20.To]) (vs := [.string x21.From, .string x21.To]) rfl rfl Try.eqGuardType37 (fun w => ne37 x20.From x20.To x21.From x21.To w) (Ev.t 43 (.g (.agg [vS x20.From, vS x20.To]))) (Ev.t 48 (.g (.agg [vS x21.From, vS x21.To]))) rfl) (congrArg (fun b => bB b) hc22))) (.c (oP rfl rfl (op_move (Ev.t 49 (bB false)) rfl)) (.c (oY rfl rfl rfl (op_move (Ev.t 5 (bI .i64 v15)) rfl)) (.c (oY rfl rfl rfl (op_fieldP (off' := 1) Try.underlying31 rfl ti22 (by decide) rfl (Ev.t 2 (.ptr 1002 0)) rfl)) (.c (oY rfl rfl rfl (op_load1P (c := .g (.d (.sl 1 (List.map encI_i64 a_0.Owners)))) Try.underlying22 rfl rfl (Ev.t 52 (.ptr 1002 1)) rfl)) (.c (oY rfl rfl rfl (OpL.cast (op_lenD Try.underlying22 (Ev.t 53 (.g (.d (.sl 1 (List.map encI_i64 a_0.Owners))))) rfl) (by rw [List.length_map]))) (.c (oY rfl rfl rfl (OpL.cast (op_lss (Ev.t 51 (bI .i64 v15)) (Ev.t 54 (bI .i64 (a_0.Owners.length : Int))) rfl) (congrArg (fun b => bB b) hc23))) (.c (oY rfl rfl rfl (op_move (Ev.t 55 (bB true)) rfl)) (.c (oY rfl rfl rfl (op_fieldP (off' := 1) Try.underlying31 rfl ti22 (by decide) rfl (Ev.t 2 (.ptr 1002 0)) rfl)) (.c (oY rfl rfl rfl (op_load1P (c := .g (.d (.sl 1 (List.map encI_i64 a_0.Owners)))) Try.underlying22 rfl rfl (Ev.t 57 (.ptr 1002 1)) rfl)) (.c (oY rfl rfl rfl (op_move (Ev.t 5 (bI .i64 v15)) rfl)) (.c (oY rfl rfl rfl (op_index (cs := [vI x24]) Try.underlying22 ti3 (idx_ok hx24).1 (idx_get hx24 encI_i64) (Ev.t 58 (.g (.d (.sl 1 (List.map encI_i64 a_0.Owners))))) (Ev.t 59 (bI .i64 v15)) rfl)) (.c (oY rfl rfl rfl (op_load1E (c := vI x24) Try.underlying3 rfl rfl (Ev.t 60 (.ep [vI x24])) rfl)) (.c (oY rfl rfl rfl (op_fieldP (off' := 1) Try.underlying31 rfl ti22 (by decide) rfl (Ev.t 3 (.ptr 1003 0)) rfl)) (.c (oY rfl rfl rfl (op_load1P (c := .g (.d (.sl 1 (List.map encI_i64 b_1.Owners)))) Try.underlying22 rfl rfl (Ev.t 62 (.ptr 1003 1)) rfl)) (.c (oY rfl rfl rfl (op_move (Ev.t 5 (bI .i64 v15)) rfl)) (.c (oY rfl rfl rfl (op_index (cs := [vI x25]) Try.underlying22 ti3 (idx_ok hx25).1 (idx_get hx25 encI_i64) (Ev.t 63 (.g (.d (.sl 1 (List.map encI_i64 b_1.Owners))))) (Ev.t 64 (bI .i64 v15)) rfl)) (.c (oY rfl rfl rfl (op_load1E (c := vI x25) Try.underlying3 rfl rfl (Ev.t 65 (.ep [vI x25])) rfl)) (.c (oY rfl rfl rfl (op_neI (Ev.t 61 (bI .i64 x24)) (Ev.t 66 (bI .i64 x25)) rfl)) (.c (oY rfl rfl rfl (op_pickT (Ev.t 56 (bB true)) (Ev.t 67 (bB (!decide (x24 = x25)))) rfl)) (.c (oP rfl rfl (op_pickF (Ev.t 50 (bB false)) (Ev.t 68 (bB (!decide (x24 = x25)))) rfl)) .nil))))))))))))))))))))))))))))))) follows rfl rfl rfl ⟨⟨rfl, trivial⟩, trivial, ⟨rfl, trivial⟩, ⟨⟨rfl, rfl⟩, trivial⟩, ⟨rfl, trivial⟩, trivial, ⟨rfl, rfl, trivial⟩, trivial, ⟨rfl, trivial⟩, trivial, ⟨rfl, trivial⟩, trivial, ⟨rfl, trivial⟩, ⟨⟨rfl, rfl⟩, trivial⟩, ⟨rfl, trivial⟩, trivial, ⟨rfl, rfl, trivial⟩, trivial, ⟨rfl, trivial⟩, trivial, ⟨rfl, rfl, trivial⟩, trivial, ⟨rfl, trivial⟩, trivial, ⟨rfl, rfl, trivial⟩, trivial, ⟨rfl, rfl, trivial⟩, trivial, ⟨rfl, rfl, trivial⟩, ⟨⟨rfl, rfl⟩, trivial⟩, ⟨rfl, rfl, trivial⟩, trivial, ⟨rfl, rfl, rfl, trivial⟩, trivial, ⟨rfl, rfl, trivial⟩, trivial, ⟨rfl, rfl, trivial⟩, trivial, ⟨rfl, rfl, trivial⟩, ⟨⟨rfl, rfl⟩, trivial⟩, ⟨rfl, rfl, trivial⟩, trivial, ⟨rfl, rfl, rfl, trivial⟩, trivial, ⟨rfl, rfl, trivial⟩, trivial, ⟨rfl, rfl, trivial⟩, trivial, ⟨rfl, rfl, trivial⟩, ⟨⟨rfl, rfl⟩, trivial⟩, ⟨rfl, rfl, trivial⟩, trivial, ⟨rfl, rfl, rfl, trivial⟩, trivial, ⟨rfl, rfl, trivial⟩, trivial, ⟨rfl, rfl, rfl, trivial⟩, trivial, ⟨rfl, rfl, rfl, trivial⟩, trivial, ⟨rfl, rfl, trivial⟩, trivial, trivial⟩ ⟨rfl, rfl, rfl, rfl, trivial⟩ ⟨rfl, rfl, trivial⟩ rfl ?_
            refine ifS hF (fun hc26 hF => ?_) (fun hc26 hF => ?_)
            · refine G.cond rfl (fun _ => ?_) (fun hx => by rw [hc26] at hx; cases hx)
              refine G.seq ?_
              refine G.region ?_
              refine G.op1 (op_assign (Ev.c _ rfl) rfl) rfl trivial trivial ?_
              refine G.endOps ?_
              cases hF
              exact G.ret1 Try.results16 (RVar.tmp 4 _) ⟨rfl, trivial⟩ trivial
            · refine G.cond rfl (fun hx => by rw [hc26] at hx; cases hx) (fun _ => ?_)
              refine G.skip ?_
              refine G.endBlock ?_
              refine G.region ?_
              refine G.op1 (op_move (Ev.t 5 (bI .i64 v15)) rfl) rfl ⟨rfl, trivial⟩ trivial ?_
              refine G.op1 (op_add (Ev.t 37 (bI .i64 v15)) (Ev.c _ rfl) rfl) rfl ⟨rfl, trivial⟩ trivial ?_
              refine G.op1 (op_assign (Ev.t 38 (bI .i64 (IntKind.wrap .i64 (v15 + 1)))) rfl) rfl ⟨rfl, trivial⟩ trivial ?_
              refine G.endOps ?_
              exact G.arr (J16 (IntKind.wrap .i64 (v15 + 1)) hF) ⟨rfl, rfl, rfl, trivial⟩ ⟨rfl, rfl, trivial⟩ rfl
          · refine G.drawnI (deps := ([] :: [0] :: [] :: [0, 1, 2] :: [0, 1, 2, 3] :: [] :: [5] :: [] :: [5, 6, 7] :: [5, 6, 7, 8] :: [0, 1, 2, 3, 4, 5, 6, 7, 8, 9] :: [0, 1, 2, 3, 4, 5, 6, 7, 8, 9, 10] :: [0, 1, 2, 3, 4, 5, 6, 7, 8, 9, 10, 11] :: [0, 1, 2, 3, 4, 5, 6, 7, 8, 9, 10, 11] :: [0, 1, 2, 3, 4, 5, 6, 7, 8, 9, 10, 11, 13] :: [0, 1, 2, 3, 4, 5, 6, 7, 8, 9, 10, 11, 13, 14] :: [0, 1, 2, 3, 4, 5, 6, 7, 8, 9, 10, 11, 12, 13, 14, 15] :: [0, 1, 2, 3, 4, 5, 6, 7, 8, 9, 10, 11, 12, 13, 14, 15, 16] :: [0, 1, 2, 3, 4, 5, 6, 7, 8, 9, 10, 11, 12, 13, 14, 15, 16, 17] :: [0, 1, 2, 3, 4, 5, 6, 7, 8, 9, 10, 11, 12, 13, 14, 15, 16, 17, 18] :: [0, 1, 2, 3, 4, 5, 6, 7, 8, 9, 10, 11, 12, 13, 14, 15, 16, 17] :: (0 :: 1 :: 2 :: 3 :: 4 :: 5 :: 6 :: 7 :: 8 :: 9 :: 10 :: 11 :: 12 :: 13 :: 14 :: 15 :: 16 :: 17 :: 18 :: 19 :: 20 :: []) :: (0 :: 1 :: 2 :: 3 :: 4 :: 5 :: 6 :: 7 :: 8 :: 9 :: 10 :: 11 :: 12 :: 13 :: 14 :: 15 :: 16 :: 17 :: 18 :: 19 :: 20 :: 21 :: []) :: [0, 1, 2, 3, 4, 5, 6, 7, 8, 9, 10, 11, 12, 13, 14, 15, 16, 17] :: [0, 1, 2, 3, 4, 5, 6, 7, 8, 9, 10, 11, 12, 13, 14, 15, 16, 17, 23] :: [0, 1, 2, 3, 4, 5, 6, 7, 8, 9, 10, 11, 12, 13, 14, 15, 16, 17] :: (0 :: 1 :: 2 :: 3 :: 4 :: 5 :: 6 :: 7 :: 8 :: 9 :: 10 :: 11 :: 12 :: 13 :: 14 :: 15 :: 16 :: 17 :: 23 :: 24 :: 25 :: []) :: (0 :: 1 :: 2 :: 3 :: 4 :: 5 :: 6 :: 7 :: 8 :: 9 :: 10 :: 11 :: 12 :: 13 :: 14 :: 15 :: 16 :: 17 :: 23 :: 24 :: 25 :: 26 :: []) :: (0 :: 1 :: 2 :: 3 :: 4 :: 5 :: 6 :: 7 :: 8 :: 9 :: 10 :: 11 :: 12 :: 13 :: 14 :: 15 :: 16 :: 17 :: 18 :: 19 :: 20 :: 21 :: 22 :: 23 :: 24 :: 25 :: 26 :: 27 :: []) :: (0 :: 1 :: 2 :: 3 :: 4 :: 5 :: 6 :: 7 :: 8 :: 9 :: 10 :: 11 :: 12 :: 13 :: 14 :: 15 :: 16 :: 17 :: 18 :: 19 :: 20 :: 21 :: 22 :: 23 :: 24 :: 25 :: 26 :: 27 :: 28 :: []) :: (0 :: 1 :: 2 :: 3 :: 4 :: 5 :: 6 :: 7 :: 8 :: 9 :: 10 :: 11 :: 12 :: 13 :: 14 :: 15 :: 16 :: 17 :: 18 :: 19 :: 20 :: 21 :: 22 :: 23 :: 24 :: 25 :: 26 :: 27 :: 28 :: 29 :: []) :: [])) (sl' := [(2, .one (.ptr 1002 0)), (3, .one (.ptr 1003 0)), (5, oI v15), (69, oB false)]) (hp' := [(1002, some (.blk 31 [.g (.d (.sl 2 (List.map encApi_Range a_0.Ranges))), .g (.d (.sl 1 (List.map encI_i64 a_0.Owners))), .g (.d (.sl 1 (List.map encI_i64 a_0.Parents)))])), (1003, some (.blk 31 [.g (.d (.sl 2 (List.map encApi_Range b_1.Ranges))), .g (.d (.sl 1 (List.map encI_i64 b_1.Owners))), .g (.d (.sl 1 (List.map encI_i64 b_1.Parents)))]))]) (.c (oP rfl rfl (op_fieldP (off' := 0) Try.underlying31 rfl ti29 (by decide) rfl (Ev.t 2 (.ptr 1002 0)) rfl)) (.c (oP rfl rfl (op_load1P (c := .g (.d (.sl 2 (List.map encApi_Range a_0.Ranges)))) Try.underlying29 rfl rfl (Ev.t 39 (.ptr 1002 0)) rfl)) (.c (oP rfl rfl (op_move (Ev.t 5 (bI .i64 v15)) rfl)) (.c (oP rfl rfl (op_index (cs := [vS x20.From, vS x20.To]) Try.underlying29 ti37 (idx_ok hx20).1 (idx_get hx20 encApi_Range) (Ev.t 40 (.g (.d (.sl 2 (List.map encApi_Range a_0.Ranges))))) (Ev.t 41 (bI .i64 v15)) rfl)) (.c (oP rfl rfl (op_loadAE (ds := [vS x20.From, vS x20.To]) Try.underlying37 rfl ti37 rfl (Ev.t 42 (.ep [vS x20.From, vS x20.To])) rfl)) (.c (oP rfl rfl (op_fieldP (off' := 0) Try.underlying31 rfl ti29 (by decide) rfl (Ev.t 3 (.ptr 1003 0)) rfl)) (.c (oP rfl rfl (op_load1P (c := .g (.d (.sl 2 (List.map encApi_Range b_1.Ranges)))) Try.underlying29 rfl rfl (Ev.t 44 (.ptr 1003 0)) rfl)) (.c (oP rfl rfl (op_move (Ev.t 5 (bI .i64 v15)) rfl)) (.c (oP rfl rfl (op_index (cs := [vS x21.From, vS x21.To]) Try.underlying29 ti37 (idx_ok hx21).1 (idx_get hx21 encApi_Range) (Ev.t 45 (.g (.d (.sl 2 (List.map encApi_Range b_1.Ranges))))) (Ev.t 46 (bI .i64 v15)) rfl)) (.c (oP rfl rfl (op_loadAE (ds := [vS x21.From, vS x21.To]) Try.underlying37 rfl ti37 rfl (Ev.t 47 (.ep [vS x21.From, vS x21.To])) rfl)) (.c (oP rfl rfl (OpL.cast (op_eqA (us := [.string x20.From, .string x20.To]) (vs := [.string x21.From, .string x21.To]) rfl rfl Try.eqGuardType37 (fun w => ne37 x20.From x20.To x21.From x21.To w) (Ev.t 43 (.g (.agg [vS x20.From, vS x20.To]))) (Ev.t 48 (.g (.agg [vS x21.From, vS x21.To]))) rfl) (congrArg (fun b => bB b) hc22))) (.c (oP rfl rfl (op_move (Ev.t 49 (bB false)) rfl)) (.c (oY rfl rfl rfl (op_move (Ev.t 5 (bI .i64 v15)) rfl)) (.c (oY rfl rfl rfl (op_fieldP (off' := 1) Try.underlying31 rfl ti22 (by decide) rfl (Ev.t 2 (.ptr 1002 0)) rfl)) (.c (oY rfl rfl rfl (op_load1P (c := .g (.d (.sl 1 (List.map encI_i64 a_0.Owners)))) Try.underlying22 rfl rfl (Ev.t 52 (.ptr 1002 1)) rfl)) (.c (oY rfl rfl rfl (OpL.cast (op_lenD Try.underlying22 (Ev.t 53 (.g (.d (.sl 1 (List.map encI_i64 a_0.Owners))))) rfl) (by rw [List.length_map]))) (.c (oY rfl rfl rfl (OpL.cast (op_lss (Ev.t 51 (bI .i64 v15)) (Ev.t 54 (bI .i64 (a_0.Owners.length : Int))) rfl) (congrArg (fun b => bB b) hc23))) (.c (oY rfl rfl rfl (op_move (Ev.t 55 (bB false)) rfl)) (.c (OpW.no rfl rfl rfl rfl rfl) (.c (OpW.no rfl rfl rfl rfl rfl) (.c (OpW.no rfl rfl rfl rfl rfl) (.c (OpW.no rfl rfl rfl rfl rfl) (.c (OpW.no rfl rfl rfl rfl rfl) (.c (OpW.no rfl rfl rfl rfl rfl) (.c (OpW.no rfl rfl rfl rfl rfl) (.c (OpW.no rfl rfl rfl rfl rfl) (.c (OpW.no rfl rfl rfl rfl rfl) (.c (OpW.no rfl rfl rfl rfl rfl) (.c (OpW.no rfl rfl rfl rfl rfl) (.c (oY rfl rfl rfl (op_pickF (Ev.t 56 (bB false)) (Ev.c _ rfl) rfl)) (.c (oP rfl rfl (op_pickF (Ev.t 50 (bB false)) (Ev.t 68 (bB false)) rfl)) .nil))))))))))))))))))))))))))))))) follows rfl rfl rfl ⟨⟨rfl, trivial⟩, trivial, ⟨rfl, trivial⟩, ⟨⟨rfl, rfl⟩, trivial⟩, ⟨rfl, trivial⟩, trivial, ⟨rfl, rfl, trivial⟩, trivial, ⟨rfl, trivial⟩, trivial, ⟨rfl, trivial⟩, trivial, ⟨rfl, trivial⟩, ⟨⟨rfl, rfl⟩, trivial⟩, ⟨rfl, trivial⟩, trivial, ⟨rfl, rfl, trivial⟩, trivial, ⟨rfl, trivial⟩, trivial, ⟨rfl, rfl, trivial⟩, trivial, ⟨rfl, trivial⟩, trivial, ⟨rfl, rfl, trivial⟩, trivial, ⟨rfl, rfl, trivial⟩, trivial, ⟨rfl, rfl, trivial⟩, ⟨⟨rfl, rfl⟩, trivial⟩, ⟨rfl, rfl, trivial⟩, trivial, ⟨rfl, rfl, rfl, trivial⟩, trivial, ⟨rfl, rfl, trivial⟩, trivial, ⟨rfl, trivial⟩, trivial, ⟨rfl, trivial⟩, trivial, ⟨rfl, trivial⟩, trivial, ⟨rfl, trivial⟩, trivial, ⟨rfl, trivial⟩, trivial, ⟨rfl, trivial⟩, trivial, ⟨rfl, trivial⟩, trivial, ⟨rfl, trivial⟩, trivial, ⟨rfl, trivial⟩, trivial, ⟨rfl, trivial⟩, trivial, ⟨rfl, trivial⟩, trivial, ⟨rfl, rfl, trivial⟩, trivial, ⟨rfl, rfl, trivial⟩, trivial, trivial⟩ ⟨rfl, rfl, rfl, rfl, trivial⟩ ⟨rfl, rfl, trivial⟩ rfl ?_
            refine G.condF rfl ?_
            refine G.skip ?_
            refine G.endBlock ?_
            refine G.region ?_
            refine G.op1 (op_move (Ev.t 5 (bI .i64 v15)) rfl) rfl ⟨rfl, trivial⟩ trivial ?_
            refine G.op1 (op_add (Ev.t 37 (bI .i64 v15)) (Ev.c _ rfl) rfl) rfl ⟨rfl, trivial⟩ trivial ?_
            refine G.op1 (op_assign (Ev.t 38 (bI .i64 (IntKind.wrap .i64 (v15 + 1)))) rfl) rfl ⟨rfl, trivial⟩ trivial ?_
            refine G.endOps ?_
            exact G.arr (J16 (IntKind.wrap .i64 (v15 + 1)) hF) ⟨rfl, rfl, rfl, trivial⟩ ⟨rfl, rfl, trivial⟩ rfl
      · refine G.cond rfl (fun hx => by rw [hc19] at hx; cases hx) (fun _ => ?_)
        refine G.exit ?_
        refine GX.c ?_
        refine GX.q ?_
        refine GX.bYes ?_
        exact G.arr (J14 () hF) ⟨rfl, rfl, trivial⟩ ⟨rfl, rfl, trivial⟩ rfl
  refine G.region ?_
  refine G.op1 (op_fieldP (off' := 0) Try.underlying31 rfl ti29 (by decide) rfl (Ev.t 2 (.ptr 1002 0)) rfl) rfl ⟨rfl, trivial⟩ trivial ?_
  refine G.op1 (op_load1P (c := .g (.d (.sl 2 (List.map encApi_Range a_0.Ranges)))) Try.underlying29 rfl rfl (Ev.t 7 (.ptr 1002 0)) rfl) rfl ⟨rfl, trivial⟩ ⟨rfl, trivial⟩ ?_
  refine G.op1 (OpL.cast (op_lenD Try.underlying29 (Ev.t 8 (.g (.d (.sl 2 (List.map encApi_Range a_0.Ranges))))) rfl) (by rw [List.length_map])) rfl ⟨rfl, trivial⟩ trivial ?_
  refine G.op1 (op_fieldP (off' := 0) Try.underlying31 rfl ti29 (by decide) rfl (Ev.t 3 (.ptr 1003 0)) rfl) rfl ⟨rfl, trivial⟩ trivial ?_
  refine G.op1 (op_load1P (c := .g (.d (.sl 2 (List.map encApi_Range b_1.Ranges)))) Try.underlying29 rfl rfl (Ev.t 10 (.ptr 1003 0)) rfl) rfl ⟨rfl, trivial⟩ ⟨rfl, trivial⟩ ?_
  refine G.op1 (OpL.cast (op_lenD Try.underlying29 (Ev.t 11 (.g (.d (.sl 2 (List.map encApi_Range b_1.Ranges))))) rfl) (by rw [List.length_map])) rfl ⟨rfl, trivial⟩ trivial ?_
  refine G.op1 (op_neI (Ev.t 9 (bI .i64 (a_0.Ranges.length : Int))) (Ev.t 12 (bI .i64 (b_1.Ranges.length : Int))) rfl) rfl ⟨rfl, rfl, trivial⟩ trivial ?_
  refine G.op1 (op_move (Ev.t 13 (bB (!decide ((a_0.Ranges.length : Int) = (b_1.Ranges.length : Int))))) rfl) rfl ⟨rfl, trivial⟩ trivial ?_
  refine G.joinL (T := Bool) 8 (fun y28 => ⟨[(2, .one (.ptr 1002 0)), (3, .one (.ptr 1003 0)), (22, oB y28)], [(1002, some (.blk 31 [.g (.d (.sl 2 (List.map encApi_Range a_0.Ranges))), .g (.d (.sl 1 (List.map encI_i64 a_0.Owners))), .g (.d (.sl 1 (List.map encI_i64 a_0.Parents)))])), (1003, some (.blk 31 [.g (.d (.sl 2 (List.map encApi_Range b_1.Ranges))), .g (.d (.sl 1 (List.map encI_i64 b_1.Owners))), .g (.d (.sl 1 (List.map encI_i64 b_1.Parents)))]))]⟩) (fun y28 => law06_same_k6 a_0 b_1 y28 = some r) (fun y28 hF => ?_) (fun J30 => ?_)
  · unfold law06_same_k6 at hF
    refine G.op1 (op_move (Ev.t 22 (bB y28)) rfl) rfl ⟨rfl, trivial⟩ trivial ?_
    refine ifS hF (fun hc29 hF => ?_) (fun hc29 hF => ?_)
    · refine G.known (t := 23) hc29 rfl ?_
      refine G.opN1 rfl rfl rfl rfl rfl ?_
      refine G.opN1 rfl rfl rfl rfl rfl ?_
      refine G.opN1 rfl rfl rfl rfl rfl ?_
      refine G.opN1 rfl rfl rfl rfl rfl ?_
      refine G.opN1 rfl rfl rfl rfl rfl ?_
      refine G.opN1 rfl rfl rfl rfl rfl ?_
      refine G.opN1 rfl rfl rfl rfl rfl ?_
      refine G.op1 (op_pickT (Ev.t 23 (bB true)) (Ev.c _ rfl) rfl) rfl ⟨rfl, trivial⟩ trivial ?_
      refine G.endOps ?_
      exact G.arr (J27 true hF) ⟨rfl, rfl, rfl, trivial⟩ ⟨rfl, rfl, trivial⟩ rfl
    · refine G.known (t := 23) hc29 rfl ?_
      refine G.opG1 (op_fieldP (off' := 2) Try.underlying31 rfl ti22 (by decide) rfl (Ev.t 2 (.ptr 1002 0)) rfl) rfl rfl rfl ⟨rfl, trivial⟩ trivial ?_
      refine G.opG1 (op_load1P (c := .g (.d (.sl 1 (List.map encI_i64 a_0.Parents)))) Try.underlying22 rfl rfl (Ev.t 24 (.ptr 1002 2)) rfl) rfl rfl rfl ⟨rfl, trivial⟩ ⟨rfl, trivial⟩ ?_
      refine G.opG1 (OpL.cast (op_lenD Try.underlying22 (Ev.t 25 (.g (.d (.sl 1 (List.map encI_i64 a_0.Parents))))) rfl) (by rw [List.length_map])) rfl rfl rfl ⟨rfl, trivial⟩ trivial ?_
      refine G.opG1 (op_fieldP (off' := 2) Try.underlying31 rfl ti22 (by decide) rfl (Ev.t 3 (.ptr 1003 0)) rfl) rfl rfl rfl ⟨rfl, trivial⟩ trivial ?_
      refine G.opG1 (op_load1P (c := .g (.d (.sl 1 (List.map encI_i64 b_1.Parents)))) Try.underlying22 rfl rfl (Ev.t 27 (.ptr 1003 2)) rfl) rfl rfl rfl ⟨rfl, trivial⟩ ⟨rfl, trivial⟩ ?_
      refine G.opG1 (OpL.cast (op_lenD Try.underlying22 (Ev.t 28 (.g (.d (.sl 1 (List.map encI_i64 b_1.Parents))))) rfl) (by rw [List.length_map])) rfl rfl rfl ⟨rfl, trivial⟩ trivial ?_
      refine G.opG1 (op_neI (Ev.t 26 (bI .i64 (a_0.Parents.length : Int))) (Ev.t 29 (bI .i64 (b_1.Parents.length : Int))) rfl) rfl rfl rfl ⟨rfl, rfl, trivial⟩ trivial ?_
      refine G.op1 (op_pickF (Ev.t 23 (bB false)) (Ev.t 30 (bB (!decide ((a_0.Parents.length : Int) = (b_1.Parents.length : Int))))) rfl) rfl ⟨rfl, rfl, trivial⟩ trivial ?_
      refine G.endOps ?_
      exact G.arr (J27 (!decide ((a_0.Parents.length : Int) = (b_1.Parents.length : Int))) hF) ⟨rfl, rfl, rfl, trivial⟩ ⟨rfl, rfl, trivial⟩ rfl
  refine ifS hF (fun hc31 hF => ?_) (fun hc31 hF => ?_)
  · refine G.known (t := 14) hc31 rfl ?_
    refine G.opN1 rfl rfl rfl rfl rfl ?_
    refine G.opN1 rfl rfl rfl rfl rfl ?_
    refine G.opN1 rfl rfl rfl rfl rfl ?_
    refine G.opN1 rfl rfl rfl rfl rfl ?_
    refine G.opN1 rfl rfl rfl rfl rfl ?_
    refine G.opN1 rfl rfl rfl rfl rfl ?_
    refine G.opN1 rfl rfl rfl rfl rfl ?_
    refine G.op1 (op_pickT (Ev.t 14 (bB true)) (Ev.c _ rfl) rfl) rfl ⟨rfl, trivial⟩ trivial ?_
    exact G.arr (J30 true hF) ⟨rfl, rfl, rfl, trivial⟩ ⟨rfl, rfl, trivial⟩ rfl
  · refine G.known (t := 14) hc31 rfl ?_
    refine G.opG1 (op_fieldP (off' := 1) Try.underlying31 rfl ti22 (by decide) rfl (Ev.t 2 (.ptr 1002 0)) rfl) rfl rfl rfl ⟨rfl, trivial⟩ trivial ?_
    refine G.opG1 (op_load1P (c := .g (.d (.sl 1 (List.map encI_i64 a_0.Owners)))) Try.underlying22 rfl rfl (Ev.t 15 (.ptr 1002 1)) rfl) rfl rfl rfl ⟨rfl, trivial⟩ ⟨rfl, trivial⟩ ?_
    refine G.opG1 (OpL.cast (op_lenD Try.underlying22 (Ev.t 16 (.g (.d (.sl 1 (List.map encI_i64 a_0.Owners))))) rfl) (by rw [List.length_map])) rfl rfl rfl ⟨rfl, trivial⟩ trivial ?_
    refine G.opG1 (op_fieldP (off' := 1) Try.underlying31 rfl ti22 (by decide) rfl (Ev.t 3 (.ptr 1003 0)) rfl) rfl rfl rfl ⟨rfl, trivial⟩ trivial ?_
    refine G.opG1 (op_load1P (c := .g (.d (.sl 1 (List.map encI_i64 b_1.Owners)))) Try.underlying22 rfl rfl (Ev.t 18 (.ptr 1003 1)) rfl) rfl rfl rfl ⟨rfl, trivial⟩ ⟨rfl, trivial⟩ ?_
    refine G.opG1 (OpL.cast (op_lenD Try.underlying22 (Ev.t 19 (.g (.d (.sl 1 (List.map encI_i64 b_1.Owners))))) rfl) (by rw [List.length_map])) rfl rfl rfl ⟨rfl, trivial⟩ trivial ?_
    refine G.opG1 (op_neI (Ev.t 17 (bI .i64 (a_0.Owners.length : Int))) (Ev.t 20 (bI .i64 (b_1.Owners.length : Int))) rfl) rfl rfl rfl ⟨rfl, rfl, trivial⟩ trivial ?_
    refine G.op1 (op_pickF (Ev.t 14 (bB false)) (Ev.t 21 (bB (!decide ((a_0.Owners.length : Int) = (b_1.Owners.length : Int))))) rfl) rfl ⟨rfl, rfl, trivial⟩ trivial ?_
    exact G.arr (J30 (!decide ((a_0.Owners.length : Int) = (b_1.Owners.length : Int))) hF) ⟨rfl, rfl, rfl, trivial⟩ ⟨rfl, rfl, trivial⟩ rfl


set_option maxRecDepth 20000 in
set_option maxHeartbeats 2000000 in
theorem ct_wire_RowBytes (c_0 : Api_Row) (r : ByteArray) (hF : wire_RowBytes c_0 = some r) : Ct Try.prog 9 [.g (.agg (encApi_Row c_0))] (.one (.d (vS r))) := by
  unfold wire_RowBytes at hF
  refine Ct.intro Try.func9 rfl Try.ntmps9 rfl rfl fun M w => ?_
  refine G.seq ?_
  refine G.region ?_
  refine G.op2 (op_boxA (k := 1001) (Ev.t 0 (.g (.agg [.sl 2 (List.map encApi_Range c_0.Ranges), .sl 1 (List.map encI_i64 c_0.Owners), .sl 1 (List.map encI_i64 c_0.Parents)]))) rfl) rfl ⟨rfl, trivial⟩ ⟨rfl, trivial⟩ ?_
  refine G.op1 (op_assign (Ev.c _ rfl) rfl) rfl trivial trivial ?_
  refine G.endOps ?_
  refine G.seq ?_
  refine G.seq ?_
  refine G.region ?_
  refine G.op1 (op_loadAP (ds := [.sl 2 (List.map encApi_Range c_0.Ranges), .sl 1 (List.map encI_i64 c_0.Owners), .sl 1 (List.map encI_i64 c_0.Parents)]) Try.underlying31 rfl ti31 rfl (Ev.t 1 (.ptr 1001 0)) rfl) rfl ⟨rfl, trivial⟩ ⟨rfl, trivial⟩ ?_
  obtain ⟨r1, hr1, hF⟩ := bindS hF
  refine G.op1 (op_callQ (sv := oB r1) cf21 (ct_wire_written c_0 r1 hr1) rfl rfl (EvQL.cons (EvQ.g (Ev.t 12 (.g (.agg [.sl 2 (List.map encApi_Range c_0.Ranges), .sl 1 (List.map encI_i64 c_0.Owners), .sl 1 (List.map encI_i64 c_0.Parents)])))) EvQL.nil) rfl) rfl ⟨rfl, trivial⟩ trivial ?_
  refine G.op1 (op_not (Ev.t 13 (bB r1)) rfl) rfl ⟨rfl, trivial⟩ trivial ?_
  refine G.endOps ?_
  refine ifS hF (fun hc2 hF => ?_) (fun hc2 hF => ?_)
  · refine G.cond rfl (fun _ => ?_) (fun hx => by rw [hc2] at hx; cases hx)
    refine G.seq ?_
    refine G.region ?_
    refine G.op1 (op_assign (Ev.c _ rfl) rfl) rfl trivial trivial ?_
    refine G.endOps ?_
    cases hF
    exact G.ret1 Try.results9 (RVar.tmp 2 _) ⟨rfl, trivial⟩ trivial
  · refine G.cond rfl (fun hx => by rw [hc2] at hx; cases hx) (fun _ => ?_)
    refine G.skip ?_
    refine G.seq ?_
    refine G.region ?_
    refine G.op1 (op_fieldP (off' := 0) Try.underlying31 rfl ti29 (by decide) rfl (Ev.t 1 (.ptr 1001 0)) rfl) rfl ⟨rfl, trivial⟩ trivial ?_
    refine G.op1 (op_load1P (c := .g (.d (.sl 2 (List.map encApi_Range c_0.Ranges)))) Try.underlying29 rfl rfl (Ev.t 15 (.ptr 1001 0)) rfl) rfl ⟨rfl, trivial⟩ ⟨rfl, trivial⟩ ?_
    refine G.op1 (OpL.cast (op_lenD Try.underlying29 (Ev.t 16 (.g (.d (.sl 2 (List.map encApi_Range c_0.Ranges))))) rfl) (by rw [List.length_map])) rfl ⟨rfl, trivial⟩ trivial ?_
    refine G.op1 (op_assign (Ev.t 17 (bI .i64 (c_0.Ranges.length : Int))) rfl) rfl ⟨rfl, trivial⟩ trivial ?_
    refine G.endOps ?_
    refine G.seq ?_
    refine G.region ?_
    refine G.opM (op_allocB (T := 61) (E := 5) (k := 1004) (kk := 3004) ti61 rfl rfl rfl) rfl trivial ⟨rfl, rfl, trivial⟩ ?_
    refine G.endOps ?_
    refine G.seq ?_
    refine G.region ?_
    refine G.op1 (op_move (Ev.t 3 (bI .i64 (c_0.Ranges.length : Int))) rfl) rfl ⟨rfl, trivial⟩ trivial ?_
    refine G.op1 (op_convI Try.underlying3 Try.underlying55 (Ev.t 18 (bI .i64 (c_0.Ranges.length : Int))) rfl) rfl ⟨rfl, trivial⟩ trivial ?_
    obtain ⟨r3, hr3, hF⟩ := bindS hF
    refine G.op1 (op_callQ (sv := oS r3) cf23 (ct_vary_Number (IntKind.wrap .u64 (c_0.Ranges.length : Int)) r3 hr3) rfl rfl (EvQL.cons (EvQ.g (Ev.t 19 (bI .u64 (IntKind.wrap .u64 (c_0.Ranges.length : Int))))) EvQL.nil) rfl) rfl ⟨rfl, trivial⟩ trivial ?_
    obtain ⟨r4, hr4, hF⟩ := bindS hF
    refine G.opM (op_callM (k := 1004) (h := .bld 61 5 ByteArray.empty) (h' := .bld 61 5 r4) 3004 (sv := .tup [bI .i64 (r3.size : Int), .g (.d (.v .nilIface))]) cf22 (ct_bld_WriteString ByteArray.empty r3 r4 hr4) rfl rfl (EvM.pt (Ev.t 4 (.ptr 1004 0)) (EvM.g (Ev.t 20 (bS r3)) EvM.nil)) rfl) rfl ⟨rfl, rfl, trivial⟩ ⟨rfl, rfl, trivial⟩ ?_
    refine G.endOps ?_
    refine G.seq ?_
    refine G.seq ?_
    refine G.region ?_
    refine G.op1 (op_fieldP (off' := 0) Try.underlying31 rfl ti29 (by decide) rfl (Ev.t 1 (.ptr 1001 0)) rfl) rfl ⟨rfl, trivial⟩ trivial ?_
    refine G.op1 (op_load1P (c := .g (.d (.sl 2 (List.map encApi_Range c_0.Ranges)))) Try.underlying29 rfl rfl (Ev.t 22 (.ptr 1001 0)) rfl) rfl ⟨rfl, trivial⟩ ⟨rfl, trivial⟩ ?_
    refine G.op1 (op_move (Ev.t 3 (bI .i64 (c_0.Ranges.length : Int))) rfl) rfl ⟨rfl, trivial⟩ trivial ?_
    refine G.op1 (op_sub (Ev.t 24 (bI .i64 (c_0.Ranges.length : Int))) (Ev.c _ rfl) rfl) rfl ⟨rfl, trivial⟩ trivial ?_
    obtain ⟨l5, hl5, hF⟩ := bindS hF
    refine G.op1 (op_sliceD (lo := none) (hi := some (IntKind.wrap .i64 ((c_0.Ranges.length : Int) - 1))) Try.underlying29 ti37 (sub_ok hl5 encApi_Range).1 (sub_ok hl5 encApi_Range).2.1 (sub_ok hl5 encApi_Range).2.2.1 (sub_ok hl5 encApi_Range).2.2.2 (Ev.t 23 (.g (.d (.sl 2 (List.map encApi_Range c_0.Ranges))))) EvO.none (EvO.some (Ev.t 25 (bI .i64 (IntKind.wrap .i64 ((c_0.Ranges.length : Int) - 1))))) rfl) rfl ⟨rfl, rfl, trivial⟩ trivial ?_
    refine G.op1 (OpL.cast (op_lenD Try.underlying29 (Ev.t 26 (.g (.d (.sl 2 (List.map encApi_Range l5))))) rfl) (by rw [List.length_map])) rfl ⟨rfl, trivial⟩ trivial ?_
    refine G.op1 (op_move (Ev.c _ rfl) rfl) rfl trivial trivial ?_
    refine G.endOps ?_
    refine G.joinC (T := ByteArray) (fun y6 => ⟨[(1, .one (.ptr 1001 0)), (4, .one (.ptr 1004 0))], [(1001, some (.blk 31 [.g (.d (.sl 2 (List.map encApi_Range c_0.Ranges))), .g (.d (.sl 1 (List.map encI_i64 c_0.Owners))), .g (.d (.sl 1 (List.map encI_i64 c_0.Parents)))])), (1004, some (.bld 61 5 3004 y6)), (3004, some (.hid true 1004))]⟩) (fun y6 => wire_RowBytes_k1 c_0 y6 = some r) (fun y6 hF => ?_) (fun J29 => ?_)
    · unfold wire_RowBytes_k1 at hF
      refine G.seq ?_
      refine G.region ?_
      refine G.op2 (op_assignRow (E := 55) (size := 1) (k := 2007) (ex := false) rfl rfl) rfl trivial ⟨rfl, trivial⟩ ?_
      refine G.endOps ?_
      refine G.seq ?_
      refine G.seq ?_
      refine G.region ?_
      refine G.op1 (op_fieldP (off' := 1) Try.underlying31 rfl ti22 (by decide) rfl (Ev.t 1 (.ptr 1001 0)) rfl) rfl ⟨rfl, trivial⟩ trivial ?_
      refine G.op1 (op_load1P (c := .g (.d (.sl 1 (List.map encI_i64 c_0.Owners)))) Try.underlying22 rfl rfl (Ev.t 37 (.ptr 1001 1)) rfl) rfl ⟨rfl, trivial⟩ ⟨rfl, trivial⟩ ?_
      refine G.op1 (OpL.cast (op_lenD Try.underlying22 (Ev.t 38 (.g (.d (.sl 1 (List.map encI_i64 c_0.Owners))))) rfl) (by rw [List.length_map])) rfl ⟨rfl, trivial⟩ trivial ?_
      refine G.op1 (op_move (Ev.c _ rfl) rfl) rfl trivial trivial ?_
      refine G.endOps ?_
      refine G.joinC (T := (List Int)) (fun y7 => ⟨[(1, .one (.ptr 1001 0)), (4, .one (.ptr 1004 0)), (7, .one (.own 2007 (List.map encI_u64 y7)))], [(1001, some (.blk 31 [.g (.d (.sl 2 (List.map encApi_Range c_0.Ranges))), .g (.d (.sl 1 (List.map encI_i64 c_0.Owners))), .g (.d (.sl 1 (List.map encI_i64 c_0.Parents)))])), (1004, some (.bld 61 5 3004 y6)), (2007, some (.row 55 1 (List.map encI_u64 y7) false)), (3004, some (.hid true 1004))]⟩) (fun y7 => wire_RowBytes_k2 c_0 y6 y7 = some r) (fun y7 hF => ?_) (fun J21 => ?_)
      · unfold wire_RowBytes_k2 at hF
        refine G.seq ?_
        refine G.region ?_
        refine G.op1 (op_move (Ev.t 7 (.own 2007 (List.map encI_u64 y7))) rfl) rfl ⟨rfl, trivial⟩ trivial ?_
        refine G.op1 (op_fieldP (off' := 2) Try.underlying31 rfl ti22 (by decide) rfl (Ev.t 1 (.ptr 1001 0)) rfl) rfl ⟨rfl, trivial⟩ trivial ?_
        refine G.op1 (op_load1P (c := .g (.d (.sl 1 (List.map encI_i64 c_0.Parents)))) Try.underlying22 rfl rfl (Ev.t 51 (.ptr 1001 2)) rfl) rfl ⟨rfl, trivial⟩ ⟨rfl, trivial⟩ ?_
        refine G.op1 (OpL.cast (op_lenD Try.underlying22 (Ev.t 52 (.g (.d (.sl 1 (List.map encI_i64 c_0.Parents))))) rfl) (by rw [List.length_map])) rfl ⟨rfl, trivial⟩ trivial ?_
        refine G.op1 (op_convI Try.underlying3 Try.underlying55 (Ev.t 53 (bI .i64 (c_0.Parents.length : Int))) rfl) rfl ⟨rfl, trivial⟩ trivial ?_
        refine G.op1 (op_buildSlice (es := List.map encI_u64 [IntKind.wrap .u64 (c_0.Parents.length : Int)]) Try.underlying68 ti55 rfl rfl (EvP.cons (Ev.t 54 (bI .u64 (IntKind.wrap .u64 (c_0.Parents.length : Int)))) EvP.nil) rfl rfl (by simp [encI_u64]) rfl) rfl ⟨rfl, trivial⟩ trivial ?_
        obtain ⟨l8, hl8, hF⟩ := bindS hF
        refine G.op2 (op_appendO Try.underlying68 ti55 rfl (app_map hl8 encI_u64) (app_b1 hl8 encI_u64) (app_b2 hl8 encI_u64) (Ev.t 50 (.own 2007 (List.map encI_u64 y7))) (Ev.t 55 (.g (.d (.sl 1 (List.map encI_u64 ([IntKind.wrap .u64 (c_0.Parents.length : Int)])))))) rfl) rfl ⟨rfl, rfl, trivial⟩ ⟨rfl, trivial⟩ ?_
        refine G.op1 (op_assign (Ev.t 56 (.own 2007 (List.map encI_u64 l8))) rfl) rfl ⟨rfl, trivial⟩ trivial ?_
        refine G.endOps ?_
        refine G.seq ?_
        refine G.seq ?_
        refine G.region ?_
        refine G.op1 (op_fieldP (off' := 2) Try.underlying31 rfl ti22 (by decide) rfl (Ev.t 1 (.ptr 1001 0)) rfl) rfl ⟨rfl, trivial⟩ trivial ?_
        refine G.op1 (op_load1P (c := .g (.d (.sl 1 (List.map encI_i64 c_0.Parents)))) Try.underlying22 rfl rfl (Ev.t 57 (.ptr 1001 2)) rfl) rfl ⟨rfl, trivial⟩ ⟨rfl, trivial⟩ ?_
        refine G.op1 (OpL.cast (op_lenD Try.underlying22 (Ev.t 58 (.g (.d (.sl 1 (List.map encI_i64 c_0.Parents))))) rfl) (by rw [List.length_map])) rfl ⟨rfl, trivial⟩ trivial ?_
        refine G.op1 (op_move (Ev.c _ rfl) rfl) rfl trivial trivial ?_
        refine G.endOps ?_
        refine G.joinC (T := (List Int)) (fun y9 => ⟨[(4, .one (.ptr 1004 0)), (7, .one (.own 2007 (List.map encI_u64 y9)))], [(1004, some (.bld 61 5 3004 y6)), (2007, some (.row 55 1 (List.map encI_u64 y9) false)), (3004, some (.hid true 1004))]⟩) (fun y9 => wire_RowBytes_k3 y6 y9 = some r) (fun y9 hF => ?_) (fun J13 => ?_)
        · unfold wire_RowBytes_k3 at hF
          refine G.seq ?_
          refine G.region ?_
          obtain ⟨r10, hr10, hF⟩ := bindS hF
          refine G.opM (op_callM (k := 1004) (h := .bld 61 5 y6) (h' := .gone) 3004 (sv := oS r10) cf25 (ct_bld_String y6 r10 hr10) rfl rfl (EvM.pt (Ev.t 4 (.ptr 1004 0)) EvM.nil) rfl) rfl ⟨rfl, trivial⟩ ⟨rfl, rfl, trivial⟩ ?_
          refine G.op1 (op_move (Ev.t 7 (.own 2007 (List.map encI_u64 y9))) rfl) rfl ⟨rfl, trivial⟩ trivial ?_
          obtain ⟨r11, hr11, hF⟩ := bindS hF
          refine G.op1 (op_callQ (sv := oS r11) cf26 (ct_vary_Join y9 r11 hr11) rfl rfl (EvQL.cons (EvQ.own (Ev.t 72 (.own 2007 (List.map encI_u64 y9)))) EvQL.nil) rfl) rfl ⟨rfl, trivial⟩ ⟨rfl, trivial⟩ ?_
          obtain ⟨s12, hs12, hF⟩ := bindS hF
          refine G.op1 (OpL.cast (op_cat (scat_ok hs12).1 (Ev.t 71 (bS r10)) (Ev.t 73 (bS r11)) rfl) (by rw [(scat_ok hs12).2])) rfl ⟨rfl, rfl, trivial⟩ trivial ?_
          refine G.op1 (op_assign (Ev.t 74 (bS s12)) rfl) rfl ⟨rfl, trivial⟩ trivial ?_
          refine G.endOps ?_
          cases hF
          exact G.ret1 Try.results9 (RVar.tmp 2 _) ⟨rfl, trivial⟩ trivial
        refine G.block ?_
        refine G.keep (sl' := [(4, .one (.ptr 1004 0)), (7, .one (.own 2007 (List.map encI_u64 l8))), (58, .one (.g (.d (.sl 1 (List.map encI_i64 c_0.Parents))))), (59, oI (c_0.Parents.length : Int)), (60, oI 0)]) (hp' := [(1004, some (.bld 61 5 3004 y6)), (2007, some (.row 55 1 (List.map encI_u64 l8) false)), (3004, some (.hid true 1004))]) ⟨rfl, rfl, rfl, rfl, rfl, trivial⟩ ⟨rfl, rfl, rfl, trivial⟩ rfl ?_
        refine G.loopF (fun (v14 : Int × (List Int)) => ⟨[(4, .one (.ptr 1004 0)), (7, .one (.own 2007 (List.map encI_u64 v14.2))), (58, .one (.g (.d (.sl 1 (List.map encI_i64 c_0.Parents))))), (59, oI (c_0.Parents.length : Int)), (60, oI v14.1)], [(1004, some (.bld 61 5 3004 y6)), (2007, some (.row 55 1 (List.map encI_u64 v14.2) false)), (3004, some (.hid true 1004))]⟩) hF rfl (fun K17 again16 v14 J15 hF => ?_)
        unfold wire_RowBytes_l4 at hF
        refine G.seq ?_
        refine G.region ?_
        refine G.op1 (op_lss (Ev.t 60 (bI .i64 v14.1)) (Ev.t 59 (bI .i64 (c_0.Parents.length : Int))) rfl) rfl ⟨rfl, rfl, trivial⟩ trivial ?_
        refine G.endOps ?_
        refine G.seq ?_
        refine ifS hF (fun hc18 hF => ?_) (fun hc18 hF => ?_)
        · refine G.cond rfl (fun _ => ?_) (fun hx => by rw [hc18] at hx; cases hx)
          refine G.skip ?_
          refine G.seq ?_
          refine G.block ?_
          refine G.seq ?_
          refine G.region ?_
          obtain ⟨x19, hx19, hF⟩ := bindS hF
          refine G.op1 (op_index (cs := [vI x19]) Try.underlying22 ti3 (idx_ok hx19).1 (idx_get hx19 encI_i64) (Ev.t 58 (.g (.d (.sl 1 (List.map encI_i64 c_0.Parents))))) (Ev.t 60 (bI .i64 v14.1)) rfl) rfl ⟨rfl, rfl, trivial⟩ trivial ?_
          refine G.op1 (op_load1E (c := vI x19) Try.underlying3 rfl rfl (Ev.t 62 (.ep [vI x19])) rfl) rfl ⟨rfl, trivial⟩ trivial ?_
          refine G.op1 (op_assign (Ev.t 63 (bI .i64 x19)) rfl) rfl ⟨rfl, trivial⟩ trivial ?_
          refine G.endOps ?_
          refine G.region ?_
          refine G.op1 (op_move (Ev.t 7 (.own 2007 (List.map encI_u64 v14.2))) rfl) rfl ⟨rfl, trivial⟩ trivial ?_
          refine G.op1 (op_move (Ev.t 11 (bI .i64 x19)) rfl) rfl ⟨rfl, trivial⟩ trivial ?_
          refine G.op1 (op_add (Ev.t 65 (bI .i64 x19)) (Ev.c _ rfl) rfl) rfl ⟨rfl, trivial⟩ trivial ?_
          refine G.op1 (op_convI Try.underlying3 Try.underlying55 (Ev.t 66 (bI .i64 (IntKind.wrap .i64 (x19 + 1)))) rfl) rfl ⟨rfl, trivial⟩ trivial ?_
          refine G.op1 (op_buildSlice (es := List.map encI_u64 [IntKind.wrap .u64 (IntKind.wrap .i64 (x19 + 1))]) Try.underlying68 ti55 rfl rfl (EvP.cons (Ev.t 67 (bI .u64 (IntKind.wrap .u64 (IntKind.wrap .i64 (x19 + 1))))) EvP.nil) rfl rfl (by simp [encI_u64]) rfl) rfl ⟨rfl, trivial⟩ trivial ?_
          obtain ⟨l20, hl20, hF⟩ := bindS hF
          refine G.op2 (op_appendO Try.underlying68 ti55 rfl (app_map hl20 encI_u64) (app_b1 hl20 encI_u64) (app_b2 hl20 encI_u64) (Ev.t 64 (.own 2007 (List.map encI_u64 v14.2))) (Ev.t 68 (.g (.d (.sl 1 (List.map encI_u64 ([IntKind.wrap .u64 (IntKind.wrap .i64 (x19 + 1))])))))) rfl) rfl ⟨rfl, rfl, trivial⟩ ⟨rfl, trivial⟩ ?_
          refine G.op1 (op_assign (Ev.t 69 (.own 2007 (List.map encI_u64 l20))) rfl) rfl ⟨rfl, trivial⟩ trivial ?_
          refine G.endOps ?_
          refine G.endBlock ?_
          refine G.region ?_
          refine G.op1 (op_add (Ev.t 60 (bI .i64 v14.1)) (Ev.c _ rfl) rfl) rfl ⟨rfl, trivial⟩ trivial ?_
          refine G.op1 (op_move (Ev.t 70 (bI .i64 (IntKind.wrap .i64 (v14.1 + 1)))) rfl) rfl ⟨rfl, trivial⟩ trivial ?_
          refine G.endOps ?_
          exact G.arr (J15 (IntKind.wrap .i64 (v14.1 + 1), l20) hF) ⟨rfl, rfl, rfl, rfl, rfl, trivial⟩ ⟨rfl, rfl, rfl, trivial⟩ rfl
        · refine G.cond rfl (fun hx => by rw [hc18] at hx; cases hx) (fun _ => ?_)
          refine G.exit ?_
          refine GX.c ?_
          refine GX.q ?_
          refine GX.bYes ?_
          exact G.arr (J13 v14.2 hF) ⟨rfl, rfl, trivial⟩ ⟨rfl, rfl, rfl, trivial⟩ rfl
      refine G.block ?_
      refine G.keep (sl' := [(1, .one (.ptr 1001 0)), (4, .one (.ptr 1004 0)), (7, .one (.own 2007 (List.map encI_u64 ([] : (List Int))))), (38, .one (.g (.d (.sl 1 (List.map encI_i64 c_0.Owners))))), (39, oI (c_0.Owners.length : Int)), (40, oI 0)]) (hp' := [(1001, some (.blk 31 [.g (.d (.sl 2 (List.map encApi_Range c_0.Ranges))), .g (.d (.sl 1 (List.map encI_i64 c_0.Owners))), .g (.d (.sl 1 (List.map encI_i64 c_0.Parents)))])), (1004, some (.bld 61 5 3004 y6)), (2007, some (.row 55 1 (List.map encI_u64 ([] : (List Int))) false)), (3004, some (.hid true 1004))]) ⟨rfl, rfl, rfl, rfl, rfl, rfl, trivial⟩ ⟨rfl, rfl, rfl, rfl, trivial⟩ rfl ?_
      refine G.loopF (fun (v22 : Int × (List Int)) => ⟨[(1, .one (.ptr 1001 0)), (4, .one (.ptr 1004 0)), (7, .one (.own 2007 (List.map encI_u64 v22.2))), (38, .one (.g (.d (.sl 1 (List.map encI_i64 c_0.Owners))))), (39, oI (c_0.Owners.length : Int)), (40, oI v22.1)], [(1001, some (.blk 31 [.g (.d (.sl 2 (List.map encApi_Range c_0.Ranges))), .g (.d (.sl 1 (List.map encI_i64 c_0.Owners))), .g (.d (.sl 1 (List.map encI_i64 c_0.Parents)))])), (1004, some (.bld 61 5 3004 y6)), (2007, some (.row 55 1 (List.map encI_u64 v22.2) false)), (3004, some (.hid true 1004))]⟩) hF rfl (fun K25 again24 v22 J23 hF => ?_)
      unfold wire_RowBytes_l5 at hF
      refine G.seq ?_
      refine G.region ?_
      refine G.op1 (op_lss (Ev.t 40 (bI .i64 v22.1)) (Ev.t 39 (bI .i64 (c_0.Owners.length : Int))) rfl) rfl ⟨rfl, rfl, trivial⟩ trivial ?_
      refine G.endOps ?_
      refine G.seq ?_
      refine ifS hF (fun hc26 hF => ?_) (fun hc26 hF => ?_)
      · refine G.cond rfl (fun _ => ?_) (fun hx => by rw [hc26] at hx; cases hx)
        refine G.skip ?_
        refine G.seq ?_
        refine G.block ?_
        refine G.seq ?_
        refine G.region ?_
        obtain ⟨x27, hx27, hF⟩ := bindS hF
        refine G.op1 (op_index (cs := [vI x27]) Try.underlying22 ti3 (idx_ok hx27).1 (idx_get hx27 encI_i64) (Ev.t 38 (.g (.d (.sl 1 (List.map encI_i64 c_0.Owners))))) (Ev.t 40 (bI .i64 v22.1)) rfl) rfl ⟨rfl, rfl, trivial⟩ trivial ?_
        refine G.op1 (op_load1E (c := vI x27) Try.underlying3 rfl rfl (Ev.t 42 (.ep [vI x27])) rfl) rfl ⟨rfl, trivial⟩ trivial ?_
        refine G.op1 (op_assign (Ev.t 43 (bI .i64 x27)) rfl) rfl ⟨rfl, trivial⟩ trivial ?_
        refine G.endOps ?_
        refine G.region ?_
        refine G.op1 (op_move (Ev.t 7 (.own 2007 (List.map encI_u64 v22.2))) rfl) rfl ⟨rfl, trivial⟩ trivial ?_
        refine G.op1 (op_move (Ev.t 9 (bI .i64 x27)) rfl) rfl ⟨rfl, trivial⟩ trivial ?_
        refine G.op1 (op_convI Try.underlying3 Try.underlying55 (Ev.t 45 (bI .i64 x27)) rfl) rfl ⟨rfl, trivial⟩ trivial ?_
        refine G.op1 (op_buildSlice (es := List.map encI_u64 [IntKind.wrap .u64 x27]) Try.underlying68 ti55 rfl rfl (EvP.cons (Ev.t 46 (bI .u64 (IntKind.wrap .u64 x27))) EvP.nil) rfl rfl (by simp [encI_u64]) rfl) rfl ⟨rfl, trivial⟩ trivial ?_
        obtain ⟨l28, hl28, hF⟩ := bindS hF
        refine G.op2 (op_appendO Try.underlying68 ti55 rfl (app_map hl28 encI_u64) (app_b1 hl28 encI_u64) (app_b2 hl28 encI_u64) (Ev.t 44 (.own 2007 (List.map encI_u64 v22.2))) (Ev.t 47 (.g (.d (.sl 1 (List.map encI_u64 ([IntKind.wrap .u64 x27])))))) rfl) rfl ⟨rfl, rfl, trivial⟩ ⟨rfl, trivial⟩ ?_
        refine G.op1 (op_assign (Ev.t 48 (.own 2007 (List.map encI_u64 l28))) rfl) rfl ⟨rfl, trivial⟩ trivial ?_
        refine G.endOps ?_
        refine G.endBlock ?_
        refine G.region ?_
        refine G.op1 (op_add (Ev.t 40 (bI .i64 v22.1)) (Ev.c _ rfl) rfl) rfl ⟨rfl, trivial⟩ trivial ?_
        refine G.op1 (op_move (Ev.t 49 (bI .i64 (IntKind.wrap .i64 (v22.1 + 1)))) rfl) rfl ⟨rfl, trivial⟩ trivial ?_
        refine G.endOps ?_
        exact G.arr (J23 (IntKind.wrap .i64 (v22.1 + 1), l28) hF) ⟨rfl, rfl, rfl, rfl, rfl, rfl, trivial⟩ ⟨rfl, rfl, rfl, rfl, trivial⟩ rfl
      · refine G.cond rfl (fun hx => by rw [hc26] at hx; cases hx) (fun _ => ?_)
        refine G.exit ?_
        refine GX.c ?_
        refine GX.q ?_
        refine GX.bYes ?_
        exact G.arr (J21 v22.2 hF) ⟨rfl, rfl, rfl, trivial⟩ ⟨rfl, rfl, rfl, rfl, trivial⟩ rfl
    refine G.block ?_
    refine G.keep (sl' := [(1, .one (.ptr 1001 0)), (4, .one (.ptr 1004 0)), (26, .one (.g (.d (.sl 2 (List.map encApi_Range l5))))), (27, oI (l5.length : Int)), (28, oI 0)]) (hp' := [(1001, some (.blk 31 [.g (.d (.sl 2 (List.map encApi_Range c_0.Ranges))), .g (.d (.sl 1 (List.map encI_i64 c_0.Owners))), .g (.d (.sl 1 (List.map encI_i64 c_0.Parents)))])), (1004, some (.bld 61 5 3004 r4)), (3004, some (.hid true 1004))]) ⟨rfl, rfl, rfl, rfl, rfl, trivial⟩ ⟨rfl, rfl, rfl, trivial⟩ rfl ?_
    refine G.loopF (fun (v30 : Int × ByteArray) => ⟨[(1, .one (.ptr 1001 0)), (4, .one (.ptr 1004 0)), (26, .one (.g (.d (.sl 2 (List.map encApi_Range l5))))), (27, oI (l5.length : Int)), (28, oI v30.1)], [(1001, some (.blk 31 [.g (.d (.sl 2 (List.map encApi_Range c_0.Ranges))), .g (.d (.sl 1 (List.map encI_i64 c_0.Owners))), .g (.d (.sl 1 (List.map encI_i64 c_0.Parents)))])), (1004, some (.bld 61 5 3004 v30.2)), (3004, some (.hid true 1004))]⟩) hF rfl (fun K33 again32 v30 J31 hF => ?_)
    unfold wire_RowBytes_l6 at hF
    refine G.seq ?_
    refine G.region ?_
    refine G.op1 (op_lss (Ev.t 28 (bI .i64 v30.1)) (Ev.t 27 (bI .i64 (l5.length : Int))) rfl) rfl ⟨rfl, rfl, trivial⟩ trivial ?_
    refine G.endOps ?_
    refine G.seq ?_
    refine ifS hF (fun hc34 hF => ?_) (fun hc34 hF => ?_)
    · refine G.cond rfl (fun _ => ?_) (fun hx => by rw [hc34] at hx; cases hx)
      refine G.skip ?_
      refine G.seq ?_
      refine G.block ?_
      refine G.seq ?_
      refine G.region ?_
      obtain ⟨x35, hx35, hF⟩ := bindS hF
      refine G.op1 (op_index (cs := [vS x35.From, vS x35.To]) Try.underlying29 ti37 (idx_ok hx35).1 (idx_get hx35 encApi_Range) (Ev.t 26 (.g (.d (.sl 2 (List.map encApi_Range l5))))) (Ev.t 28 (bI .i64 v30.1)) rfl) rfl ⟨rfl, rfl, trivial⟩ trivial ?_
      refine G.op1 (op_loadAE (ds := [vS x35.From, vS x35.To]) Try.underlying37 rfl ti37 rfl (Ev.t 30 (.ep [vS x35.From, vS x35.To])) rfl) rfl ⟨rfl, trivial⟩ trivial ?_
      refine G.op2 (op_alloc (k := 1006) (cs := [bS ByteArray.empty, bS ByteArray.empty]) ti37 ⟨.v _ rfl, .v _ rfl, trivial⟩ rfl) rfl trivial ⟨rfl, trivial⟩ ?_
      refine G.op3 (op_storeA (cs' := [bS x35.From, bS x35.To]) ti37 rfl rfl (Ev.t 6 (.ptr 1006 0)) (Ev.t 31 (.g (.agg [vS x35.From, vS x35.To])))) rfl ⟨rfl, rfl, trivial⟩ ⟨rfl, trivial⟩ ?_
      refine G.endOps ?_
      refine G.region ?_
      refine G.op1 (op_fieldP (off' := 1) Try.underlying37 rfl ti9 (by decide) rfl (Ev.t 6 (.ptr 1006 0)) rfl) rfl ⟨rfl, trivial⟩ trivial ?_
      refine G.op1 (op_load1P (c := bS x35.To) Try.underlying9 rfl rfl (Ev.t 32 (.ptr 1006 1)) rfl) rfl ⟨rfl, trivial⟩ ⟨rfl, trivial⟩ ?_
      obtain ⟨r36, hr36, hF⟩ := bindS hF
      refine G.op1 (op_callQ (sv := oS r36) cf24 (ct_vary_Text x35.To r36 hr36) rfl rfl (EvQL.cons (EvQ.g (Ev.t 33 (bS x35.To))) EvQL.nil) rfl) rfl ⟨rfl, trivial⟩ trivial ?_
      obtain ⟨r37, hr37, hF⟩ := bindS hF
      refine G.opM (op_callM (k := 1004) (h := .bld 61 5 v30.2) (h' := .bld 61 5 r37) 3004 (sv := .tup [bI .i64 (r36.size : Int), .g (.d (.v .nilIface))]) cf22 (ct_bld_WriteString v30.2 r36 r37 hr37) rfl rfl (EvM.pt (Ev.t 4 (.ptr 1004 0)) (EvM.g (Ev.t 34 (bS r36)) EvM.nil)) rfl) rfl ⟨rfl, rfl, trivial⟩ ⟨rfl, rfl, trivial⟩ ?_
      refine G.endOps ?_
      refine G.endBlock ?_
      refine G.region ?_
      refine G.op1 (op_add (Ev.t 28 (bI .i64 v30.1)) (Ev.c _ rfl) rfl) rfl ⟨rfl, trivial⟩ trivial ?_
      refine G.op1 (op_move (Ev.t 36 (bI .i64 (IntKind.wrap .i64 (v30.1 + 1)))) rfl) rfl ⟨rfl, trivial⟩ trivial ?_
      refine G.endOps ?_
      exact G.arr (J31 (IntKind.wrap .i64 (v30.1 + 1), r37) hF) ⟨rfl, rfl, rfl, rfl, rfl, trivial⟩ ⟨rfl, rfl, rfl, trivial⟩ rfl
    · refine G.cond rfl (fun hx => by rw [hc34] at hx; cases hx) (fun _ => ?_)
      refine G.exit ?_
      refine GX.c ?_
      refine GX.q ?_
      refine GX.bYes ?_
      exact G.arr (J29 v30.2 hF) ⟨rfl, rfl, trivial⟩ ⟨rfl, rfl, rfl, trivial⟩ rfl


set_option maxRecDepth 20000 in
set_option maxHeartbeats 2000000 in
theorem ct_law06_turned (q_0 : Law06_Spec) (at_1 : Int) (by_2 : Int) (cut_3 : Bool) (r : Bool) (hF : law06_turned q_0 at_1 by_2 cut_3 = some r) : Ct Try.prog 6 [.g (.agg (encLaw06_Spec q_0)), .g (.d (vI at_1)), .g (.d (.v (.int .u8 by_2))), .g (.d (vB cut_3))] (.one (.d (vB r))) := by
  unfold law06_turned at hF
  refine Ct.intro Try.func6 rfl Try.ntmps6 rfl rfl fun M w => ?_
  refine G.seq ?_
  refine G.region ?_
  refine G.op2 (op_boxA (k := 1004) (Ev.t 0 (.g (.agg [.sl 1 (List.map encI_i64 q_0.Ends), .sl 1 (List.map encI_i64 q_0.Owners), .sl 1 (List.map encI_i64 q_0.Parents)]))) rfl) rfl ⟨rfl, trivial⟩ ⟨rfl, trivial⟩ ?_
  refine G.op1 (op_assign (Ev.c _ rfl) rfl) rfl trivial trivial ?_
  refine G.endOps ?_
  refine G.seq ?_
  refine G.region ?_
  refine G.op1 (op_loadAP (ds := [.sl 1 (List.map encI_i64 q_0.Ends), .sl 1 (List.map encI_i64 q_0.Owners), .sl 1 (List.map encI_i64 q_0.Parents)]) Try.underlying24 rfl ti24 rfl (Ev.t 4 (.ptr 1004 0)) rfl) rfl ⟨rfl, trivial⟩ ⟨rfl, trivial⟩ ?_
  obtain ⟨r1, hr1, hF⟩ := bindS hF
  refine G.op1 (op_call (sv := .one (.g (.agg [.sl 2 (List.map encApi_Range r1.Ranges), .sl 1 (List.map encI_i64 r1.Owners), .sl 1 (List.map encI_i64 r1.Parents)]))) cf7 (ct_law06_Spec_row q_0 r1 hr1) rfl (EvL.cons (Ev.t 23 (.g (.agg [.sl 1 (List.map encI_i64 q_0.Ends), .sl 1 (List.map encI_i64 q_0.Owners), .sl 1 (List.map encI_i64 q_0.Parents)]))) EvL.nil) rfl) rfl ⟨rfl, trivial⟩ trivial ?_
  obtain ⟨r2, hr2, hF⟩ := bindS hF
  refine G.op1 (op_callQ (sv := oS r2) cf13 (ct_ref06_RowBytes r1 r2 hr2) rfl rfl (EvQL.cons (EvQ.g (Ev.t 24 (.g (.agg [.sl 2 (List.map encApi_Range r1.Ranges), .sl 1 (List.map encI_i64 r1.Owners), .sl 1 (List.map encI_i64 r1.Parents)])))) EvQL.nil) rfl) rfl ⟨rfl, trivial⟩ trivial ?_
  obtain ⟨hz3, hF⟩ := chkS hF
  refine G.op2 (op_toBytes (k := 2026) Try.underlying9 Try.underlying48 Try.underlying5 (of_decide_eq_true hz3) (Ev.t 25 (bS r2)) rfl) rfl ⟨rfl, trivial⟩ ⟨rfl, trivial⟩ ?_
  refine G.op1 (op_assign (Ev.t 26 (.pv 2026 (bytV r2.size))) rfl) rfl ⟨rfl, trivial⟩ trivial ?_
  refine G.endOps ?_
  refine G.seq ?_
  refine G.region ?_
  refine G.op1 (op_move (Ev.t 1 (bI .i64 at_1)) rfl) rfl ⟨rfl, trivial⟩ trivial ?_
  refine G.op1 (op_move (Ev.t 9 (.pv 2026 (bytV r2.size))) rfl) rfl ⟨rfl, trivial⟩ trivial ?_
  refine G.op1 (op_lenB Try.underlying48 (Ev.t 28 (.pv 2026 (bytV r2.size))) rfl) rfl ⟨rfl, trivial⟩ trivial ?_
  obtain ⟨hz4, hF⟩ := chkS hF
  refine G.op1 (op_rem (by simpa using hz4) (Ev.t 27 (bI .i64 at_1)) (Ev.t 29 (bI .i64 (r2.size : Int))) rfl) rfl ⟨rfl, rfl, trivial⟩ trivial ?_
  refine G.op1 (op_move (Ev.t 9 (.pv 2026 (bytV r2.size))) rfl) rfl ⟨rfl, trivial⟩ trivial ?_
  refine G.op1 (op_lenB Try.underlying48 (Ev.t 31 (.pv 2026 (bytV r2.size))) rfl) rfl ⟨rfl, trivial⟩ trivial ?_
  refine G.op1 (op_add (Ev.t 30 (bI .i64 (Int.tmod at_1 (r2.size : Int)))) (Ev.t 32 (bI .i64 (r2.size : Int))) rfl) rfl ⟨rfl, rfl, trivial⟩ trivial ?_
  refine G.op1 (op_move (Ev.t 9 (.pv 2026 (bytV r2.size))) rfl) rfl ⟨rfl, trivial⟩ trivial ?_
  refine G.op1 (op_lenB Try.underlying48 (Ev.t 34 (.pv 2026 (bytV r2.size))) rfl) rfl ⟨rfl, trivial⟩ trivial ?_
  obtain ⟨hz5, hF⟩ := chkS hF
  refine G.op1 (op_rem (by simpa using hz5) (Ev.t 33 (bI .i64 (IntKind.wrap .i64 ((Int.tmod at_1 (r2.size : Int)) + (r2.size : Int))))) (Ev.t 35 (bI .i64 (r2.size : Int))) rfl) rfl ⟨rfl, rfl, trivial⟩ trivial ?_
  refine G.op1 (op_assign (Ev.t 36 (bI .i64 (Int.tmod (IntKind.wrap .i64 ((Int.tmod at_1 (r2.size : Int)) + (r2.size : Int))) (r2.size : Int)))) rfl) rfl ⟨rfl, trivial⟩ trivial ?_
  refine G.endOps ?_
  refine G.seq ?_
  refine G.region ?_
  refine G.op1 (op_move (Ev.t 9 (.pv 2026 (bytV r2.size))) rfl) rfl ⟨rfl, trivial⟩ trivial ?_
  refine G.op1 (op_move (Ev.t 10 (bI .i64 (Int.tmod (IntKind.wrap .i64 ((Int.tmod at_1 (r2.size : Int)) + (r2.size : Int))) (r2.size : Int)))) rfl) rfl ⟨rfl, trivial⟩ trivial ?_
  refine G.op1 (op_move (Ev.t 9 (.pv 2026 (bytV r2.size))) rfl) rfl ⟨rfl, trivial⟩ trivial ?_
  refine G.op1 (op_move (Ev.t 10 (bI .i64 (Int.tmod (IntKind.wrap .i64 ((Int.tmod at_1 (r2.size : Int)) + (r2.size : Int))) (r2.size : Int)))) rfl) rfl ⟨rfl, trivial⟩ trivial ?_
  obtain ⟨hz6, hF⟩ := chkS hF
  refine G.op1 (op_indexB Try.underlying48 ti5 (of_decide_eq_true hz6) (Ev.t 39 (.pv 2026 (bytV r2.size))) (Ev.t 40 (bI .i64 (Int.tmod (IntKind.wrap .i64 ((Int.tmod at_1 (r2.size : Int)) + (r2.size : Int))) (r2.size : Int)))) rfl) rfl ⟨rfl, rfl, trivial⟩ trivial ?_
  refine G.op1 (op_loadB (i := (Int.tmod (IntKind.wrap .i64 ((Int.tmod at_1 (r2.size : Int)) + (r2.size : Int))) (r2.size : Int))) Try.underlying5 rfl (bytI (of_decide_eq_true hz6) rfl) (Ev.t 41 (.ptr 2026 (Int.toNat (Int.tmod (IntKind.wrap .i64 ((Int.tmod at_1 (r2.size : Int)) + (r2.size : Int))) (r2.size : Int))))) rfl) rfl ⟨rfl, trivial⟩ ⟨rfl, trivial⟩ ?_
  refine G.op1 (op_move (Ev.t 2 (bI .u8 by_2)) rfl) rfl ⟨rfl, trivial⟩ trivial ?_
  refine G.op1 (op_xor (Ev.t 42 (bI .u8 (((ByteArray.data r2).getD (Int.toNat (Int.tmod (IntKind.wrap .i64 ((Int.tmod at_1 (r2.size : Int)) + (r2.size : Int))) (r2.size : Int))) 0).toNat : Int))) (Ev.t 43 (bI .u8 by_2)) rfl) rfl ⟨rfl, rfl, trivial⟩ trivial ?_
  obtain ⟨hz7, hF⟩ := chkS hF
  refine G.op1 (op_indexB Try.underlying48 ti5 (of_decide_eq_true hz7) (Ev.t 37 (.pv 2026 (bytV r2.size))) (Ev.t 38 (bI .i64 (Int.tmod (IntKind.wrap .i64 ((Int.tmod at_1 (r2.size : Int)) + (r2.size : Int))) (r2.size : Int)))) rfl) rfl ⟨rfl, rfl, trivial⟩ trivial ?_
  obtain ⟨hz8, hF⟩ := chkS hF
  refine G.op3 (op_storeB (i := (Int.tmod (IntKind.wrap .i64 ((Int.tmod at_1 (r2.size : Int)) + (r2.size : Int))) (r2.size : Int))) (v := (IntKind.wrap .u8 (BitVec.ofInt (IntKind.bits .u8) (((ByteArray.data r2).getD (Int.toNat (Int.tmod (IntKind.wrap .i64 ((Int.tmod at_1 (r2.size : Int)) + (r2.size : Int))) (r2.size : Int))) 0).toNat : Int) ^^^ BitVec.ofInt (IntKind.bits .u8) by_2).toNat)) ti5 (bytI (of_decide_eq_true hz7) rfl) (of_decide_eq_true hz8) (Ev.t 45 (.ptr 2026 (Int.toNat (Int.tmod (IntKind.wrap .i64 ((Int.tmod at_1 (r2.size : Int)) + (r2.size : Int))) (r2.size : Int))))) (Ev.t 44 (bI .u8 (IntKind.wrap .u8 (BitVec.ofInt (IntKind.bits .u8) (((ByteArray.data r2).getD (Int.toNat (Int.tmod (IntKind.wrap .i64 ((Int.tmod at_1 (r2.size : Int)) + (r2.size : Int))) (r2.size : Int))) 0).toNat : Int) ^^^ BitVec.ofInt (IntKind.bits .u8) by_2).toNat)))) rfl ⟨rfl, rfl, trivial⟩ ⟨rfl, trivial⟩ ?_
  refine G.endOps ?_
  refine G.seq ?_
  refine G.region ?_
  refine G.op1 (op_move (Ev.t 9 (.pv 2026 (bytV r2.size))) rfl) rfl ⟨rfl, trivial⟩ trivial ?_
  refine G.op1 (op_fromBytes Try.underlying48 Try.underlying5 Try.underlying9 (by simp only [bset_size]) (Ev.t 46 (.pv 2026 (bytV r2.size))) rfl) rfl ⟨rfl, trivial⟩ ⟨rfl, trivial⟩ ?_
  refine G.op1 (op_assign (Ev.t 47 (bS (bset r2 (Int.tmod (IntKind.wrap .i64 ((Int.tmod at_1 (r2.size : Int)) + (r2.size : Int))) (r2.size : Int)) (IntKind.wrap .u8 (BitVec.ofInt (IntKind.bits .u8) (((ByteArray.data r2).getD (Int.toNat (Int.tmod (IntKind.wrap .i64 ((Int.tmod at_1 (r2.size : Int)) + (r2.size : Int))) (r2.size : Int))) 0).toNat : Int) ^^^ BitVec.ofInt (IntKind.bits .u8) by_2).toNat)))) rfl) rfl ⟨rfl, trivial⟩ trivial ?_
  refine G.endOps ?_
  refine G.seq ?_
  refine G.seq ?_
  refine G.region ?_
  refine G.op1 (op_move (Ev.t 3 (bB cut_3)) rfl) rfl ⟨rfl, trivial⟩ trivial ?_
  refine G.endOps ?_
  refine G.joinC (T := ByteArray) (fun y9 => ⟨[(11, oS y9)], []⟩) (fun y9 => law06_turned_k1 y9 = some r) (fun y9 hF => ?_) (fun J56 => ?_)
  · unfold law06_turned_k1 at hF
    refine G.seq ?_
    refine G.region ?_
    refine G.op1 (op_move (Ev.t 11 (bS y9)) rfl) rfl ⟨rfl, trivial⟩ trivial ?_
    obtain ⟨r10, hr10, hF⟩ := bindS hF
    refine G.op1 (op_call (sv := .tup [.g (.agg [.sl 2 (List.map encApi_Range r10.1.Ranges), .sl 1 (List.map encI_i64 r10.1.Owners), .sl 1 (List.map encI_i64 r10.1.Parents)]), bB r10.2]) cf8 (ct_wire_ReadRow y9 r10 hr10) rfl (EvL.cons (Ev.t 53 (bS y9)) EvL.nil) rfl) rfl ⟨rfl, trivial⟩ trivial ?_
    refine G.op1 (op_moveS (t := 54) (sv := .tup [.g (.agg [.sl 2 (List.map encApi_Range r10.1.Ranges), .sl 1 (List.map encI_i64 r10.1.Owners), .sl 1 (List.map encI_i64 r10.1.Parents)]), bB r10.2]) rfl) rfl ⟨rfl, trivial⟩ trivial ?_
    refine G.op1 (op_extract (l := [.g (.agg [.sl 2 (List.map encApi_Range r10.1.Ranges), .sl 1 (List.map encI_i64 r10.1.Owners), .sl 1 (List.map encI_i64 r10.1.Parents)]), bB r10.2]) (c := .g (.agg [.sl 2 (List.map encApi_Range r10.1.Ranges), .sl 1 (List.map encI_i64 r10.1.Owners), .sl 1 (List.map encI_i64 r10.1.Parents)])) rfl rfl) rfl ⟨rfl, trivial⟩ trivial ?_
    refine G.op1 (op_extract (l := [.g (.agg [.sl 2 (List.map encApi_Range r10.1.Ranges), .sl 1 (List.map encI_i64 r10.1.Owners), .sl 1 (List.map encI_i64 r10.1.Parents)]), bB r10.2]) (c := bB r10.2) rfl rfl) rfl ⟨rfl, trivial⟩ trivial ?_
    refine G.op2 (op_alloc (k := 1012) (cs := [.g (.d (.sl 2 (List.map encApi_Range ([] : (List Api_Range))))), .g (.d (.sl 1 (List.map encI_i64 ([] : (List Int))))), .g (.d (.sl 1 (List.map encI_i64 ([] : (List Int)))))]) ti31 ⟨.n 2, .n 1, .n 1, trivial⟩ rfl) rfl trivial ⟨rfl, trivial⟩ ?_
    refine G.op3 (op_storeA (cs' := [.g (.d (.sl 2 (List.map encApi_Range r10.1.Ranges))), .g (.d (.sl 1 (List.map encI_i64 r10.1.Owners))), .g (.d (.sl 1 (List.map encI_i64 r10.1.Parents)))]) ti31 rfl rfl (Ev.t 12 (.ptr 1012 0)) (Ev.t 55 (.g (.agg [.sl 2 (List.map encApi_Range r10.1.Ranges), .sl 1 (List.map encI_i64 r10.1.Owners), .sl 1 (List.map encI_i64 r10.1.Parents)])))) rfl ⟨rfl, rfl, trivial⟩ ⟨rfl, trivial⟩ ?_
    refine G.op1 (op_assign (Ev.t 56 (bB r10.2)) rfl) rfl ⟨rfl, trivial⟩ trivial ?_
    refine G.endOps ?_
    refine G.seq ?_
    refine G.region ?_
    refine G.op1 (op_move (Ev.t 11 (bS y9)) rfl) rfl ⟨rfl, trivial⟩ trivial ?_
    obtain ⟨r11, hr11, hF⟩ := bindS hF
    refine G.op1 (op_call (sv := .tup [.g (.agg [.sl 2 (List.map encApi_Range r11.1.Ranges), .sl 1 (List.map encI_i64 r11.1.Owners), .sl 1 (List.map encI_i64 r11.1.Parents)]), bB r11.2]) cf14 (ct_ref06_ReadRow y9 r11 hr11) rfl (EvL.cons (Ev.t 58 (bS y9)) EvL.nil) rfl) rfl ⟨rfl, trivial⟩ trivial ?_
    refine G.op1 (op_moveS (t := 59) (sv := .tup [.g (.agg [.sl 2 (List.map encApi_Range r11.1.Ranges), .sl 1 (List.map encI_i64 r11.1.Owners), .sl 1 (List.map encI_i64 r11.1.Parents)]), bB r11.2]) rfl) rfl ⟨rfl, trivial⟩ trivial ?_
    refine G.op1 (op_extract (l := [.g (.agg [.sl 2 (List.map encApi_Range r11.1.Ranges), .sl 1 (List.map encI_i64 r11.1.Owners), .sl 1 (List.map encI_i64 r11.1.Parents)]), bB r11.2]) (c := .g (.agg [.sl 2 (List.map encApi_Range r11.1.Ranges), .sl 1 (List.map encI_i64 r11.1.Owners), .sl 1 (List.map encI_i64 r11.1.Parents)])) rfl rfl) rfl ⟨rfl, trivial⟩ trivial ?_
    refine G.op1 (op_extract (l := [.g (.agg [.sl 2 (List.map encApi_Range r11.1.Ranges), .sl 1 (List.map encI_i64 r11.1.Owners), .sl 1 (List.map encI_i64 r11.1.Parents)]), bB r11.2]) (c := bB r11.2) rfl rfl) rfl ⟨rfl, trivial⟩ trivial ?_
    refine G.op2 (op_alloc (k := 1014) (cs := [.g (.d (.sl 2 (List.map encApi_Range ([] : (List Api_Range))))), .g (.d (.sl 1 (List.map encI_i64 ([] : (List Int))))), .g (.d (.sl 1 (List.map encI_i64 ([] : (List Int)))))]) ti31 ⟨.n 2, .n 1, .n 1, trivial⟩ rfl) rfl trivial ⟨rfl, trivial⟩ ?_
    refine G.op3 (op_storeA (cs' := [.g (.d (.sl 2 (List.map encApi_Range r11.1.Ranges))), .g (.d (.sl 1 (List.map encI_i64 r11.1.Owners))), .g (.d (.sl 1 (List.map encI_i64 r11.1.Parents)))]) ti31 rfl rfl (Ev.t 14 (.ptr 1014 0)) (Ev.t 60 (.g (.agg [.sl 2 (List.map encApi_Range r11.1.Ranges), .sl 1 (List.map encI_i64 r11.1.Owners), .sl 1 (List.map encI_i64 r11.1.Parents)])))) rfl ⟨rfl, rfl, trivial⟩ ⟨rfl, trivial⟩ ?_
    refine G.op1 (op_assign (Ev.t 61 (bB r11.2)) rfl) rfl ⟨rfl, trivial⟩ trivial ?_
    refine G.endOps ?_
    refine G.seq ?_
    refine G.seq ?_
    refine G.region ?_
    refine G.op1 (op_move (Ev.t 13 (bB r10.2)) rfl) rfl ⟨rfl, trivial⟩ trivial ?_
    refine G.op1 (op_not (Ev.t 62 (bB r10.2)) rfl) rfl ⟨rfl, trivial⟩ trivial ?_
    refine G.endOps ?_
    refine ifS hF (fun hc12 hF => ?_) (fun hc12 hF => ?_)
    · refine G.cond rfl (fun _ => ?_) (fun hx => by rw [hc12] at hx; cases hx)
      refine G.seq ?_
      refine G.seq ?_
      refine G.region ?_
      refine G.op1 (op_move (Ev.t 15 (bB r11.2)) rfl) rfl ⟨rfl, trivial⟩ trivial ?_
      refine G.op1 (op_not (Ev.t 64 (bB r11.2)) rfl) rfl ⟨rfl, trivial⟩ trivial ?_
      refine G.endOps ?_
      refine ifS hF (fun hc13 hF => ?_) (fun hc13 hF => ?_)
      · refine G.cond rfl (fun _ => ?_) (fun hx => by rw [hc13] at hx; cases hx)
        refine G.seq ?_
        refine G.region ?_
        refine G.op1 (op_fieldP (off' := 0) Try.underlying31 rfl ti29 (by decide) rfl (Ev.t 12 (.ptr 1012 0)) rfl) rfl ⟨rfl, trivial⟩ trivial ?_
        refine G.op1 (op_load1P (c := .g (.d (.sl 2 (List.map encApi_Range r10.1.Ranges)))) Try.underlying29 rfl rfl (Ev.t 66 (.ptr 1012 0)) rfl) rfl ⟨rfl, trivial⟩ ⟨rfl, trivial⟩ ?_
        refine G.op1 (OpL.cast (op_lenD Try.underlying29 (Ev.t 67 (.g (.d (.sl 2 (List.map encApi_Range r10.1.Ranges))))) rfl) (by rw [List.length_map])) rfl ⟨rfl, trivial⟩ trivial ?_
        refine G.op1 (op_eqI (Ev.t 68 (bI .i64 (r10.1.Ranges.length : Int))) (Ev.c _ rfl) rfl) rfl ⟨rfl, trivial⟩ trivial ?_
        refine G.op1 (op_assign (Ev.t 69 (bB (decide ((r10.1.Ranges.length : Int) = 0)))) rfl) rfl ⟨rfl, trivial⟩ trivial ?_
        refine G.endOps ?_
        cases hF
        exact G.ret1 Try.results6 (RVar.tmp 8 _) ⟨rfl, trivial⟩ trivial
      · refine G.cond rfl (fun hx => by rw [hc13] at hx; cases hx) (fun _ => ?_)
        refine G.skip ?_
        refine G.seq ?_
        refine G.region ?_
        refine G.op1 (op_fieldP (off' := 0) Try.underlying31 rfl ti29 (by decide) rfl (Ev.t 14 (.ptr 1014 0)) rfl) rfl ⟨rfl, trivial⟩ trivial ?_
        refine G.op1 (op_load1P (c := .g (.d (.sl 2 (List.map encApi_Range r11.1.Ranges)))) Try.underlying29 rfl rfl (Ev.t 70 (.ptr 1014 0)) rfl) rfl ⟨rfl, trivial⟩ ⟨rfl, trivial⟩ ?_
        obtain ⟨r14, hr14, hF⟩ := bindS hF
        refine G.op1 (op_callQ (sv := oB r14) cf15 (ct_ref02_Whole r11.1.Ranges r14 hr14) rfl rfl (EvQL.cons (EvQ.g (Ev.t 71 (.g (.d (.sl 2 (List.map encApi_Range r11.1.Ranges)))))) EvQL.nil) rfl) rfl ⟨rfl, trivial⟩ trivial ?_
        refine G.op1 (op_assign (Ev.t 72 (bB r14)) rfl) rfl ⟨rfl, trivial⟩ trivial ?_
        refine G.endOps ?_
        refine G.seq ?_
        refine G.region ?_
        refine G.op1 (op_fieldP (off' := 2) Try.underlying31 rfl ti22 (by decide) rfl (Ev.t 14 (.ptr 1014 0)) rfl) rfl ⟨rfl, trivial⟩ trivial ?_
        refine G.op1 (op_load1P (c := .g (.d (.sl 1 (List.map encI_i64 r11.1.Parents)))) Try.underlying22 rfl rfl (Ev.t 73 (.ptr 1014 2)) rfl) rfl ⟨rfl, trivial⟩ ⟨rfl, trivial⟩ ?_
        refine G.op1 (OpL.cast (op_lenD Try.underlying22 (Ev.t 74 (.g (.d (.sl 1 (List.map encI_i64 r11.1.Parents))))) rfl) (by rw [List.length_map])) rfl ⟨rfl, trivial⟩ trivial ?_
        refine G.op1 (op_assign (Ev.t 75 (bI .i64 (r11.1.Parents.length : Int))) rfl) rfl ⟨rfl, trivial⟩ trivial ?_
        refine G.endOps ?_
        refine G.seq ?_
        refine G.joinC (T := Bool) (fun y15 => ⟨[(12, .one (.ptr 1012 0)), (14, .one (.ptr 1014 0)), (17, oI (r11.1.Parents.length : Int)), (18, oB y15)], [(1012, some (.blk 31 [.g (.d (.sl 2 (List.map encApi_Range r10.1.Ranges))), .g (.d (.sl 1 (List.map encI_i64 r10.1.Owners))), .g (.d (.sl 1 (List.map encI_i64 r10.1.Parents)))])), (1014, some (.blk 31 [.g (.d (.sl 2 (List.map encApi_Range r11.1.Ranges))), .g (.d (.sl 1 (List.map encI_i64 r11.1.Owners))), .g (.d (.sl 1 (List.map encI_i64 r11.1.Parents)))]))]⟩) (fun y15 => law06_turned_k2 r10 r11 y15 = some r) (fun y15 hF => ?_) (fun J48 => ?_)
        · unfold law06_turned_k2 at hF
          refine G.seq ?_
          refine G.region ?_
          refine G.op1 (op_assign (Ev.c _ rfl) rfl) rfl trivial trivial ?_
          refine G.endOps ?_
          refine G.seq ?_
          refine G.seq ?_
          refine G.region ?_
          refine G.op1 (op_assign (Ev.c _ rfl) rfl) rfl trivial trivial ?_
          refine G.endOps ?_
          refine G.joinC (T := Int) (fun y16 => ⟨[(12, .one (.ptr 1012 0)), (14, .one (.ptr 1014 0)), (17, oI (r11.1.Parents.length : Int)), (18, oB y15), (19, oI y16)], [(1012, some (.blk 31 [.g (.d (.sl 2 (List.map encApi_Range r10.1.Ranges))), .g (.d (.sl 1 (List.map encI_i64 r10.1.Owners))), .g (.d (.sl 1 (List.map encI_i64 r10.1.Parents)))])), (1014, some (.blk 31 [.g (.d (.sl 2 (List.map encApi_Range r11.1.Ranges))), .g (.d (.sl 1 (List.map encI_i64 r11.1.Owners))), .g (.d (.sl 1 (List.map encI_i64 r11.1.Parents)))]))]⟩) (fun y16 => law06_turned_k3 r10 r11 y15 y16 = some r) (fun y16 hF => ?_) (fun J42 => ?_)
          · unfold law06_turned_k3 at hF
            refine G.seq ?_
            refine G.seq ?_
            refine G.region ?_
            refine G.op1 (op_assign (Ev.c _ rfl) rfl) rfl trivial trivial ?_
            refine G.endOps ?_
            refine G.joinC (T := Bool) (fun y17 => ⟨[(12, .one (.ptr 1012 0)), (14, .one (.ptr 1014 0)), (17, oI (r11.1.Parents.length : Int)), (18, oB y17)], [(1012, some (.blk 31 [.g (.d (.sl 2 (List.map encApi_Range r10.1.Ranges))), .g (.d (.sl 1 (List.map encI_i64 r10.1.Owners))), .g (.d (.sl 1 (List.map encI_i64 r10.1.Parents)))])), (1014, some (.blk 31 [.g (.d (.sl 2 (List.map encApi_Range r11.1.Ranges))), .g (.d (.sl 1 (List.map encI_i64 r11.1.Owners))), .g (.d (.sl 1 (List.map encI_i64 r11.1.Parents)))]))]⟩) (fun y17 => law06_turned_k4 r10 r11 y17 = some r) (fun y17 hF => ?_) (fun J30 => ?_)
            · unfold law06_turned_k4 at hF
              refine G.seq ?_
              refine G.seq ?_
              refine G.region ?_
              refine G.op1 (op_assign (Ev.c _ rfl) rfl) rfl trivial trivial ?_
              refine G.endOps ?_
              refine G.joinC (T := Bool) (fun y18 => ⟨[(12, .one (.ptr 1012 0)), (18, oB y18)], [(1012, some (.blk 31 [.g (.d (.sl 2 (List.map encApi_Range r10.1.Ranges))), .g (.d (.sl 1 (List.map encI_i64 r10.1.Owners))), .g (.d (.sl 1 (List.map encI_i64 r10.1.Parents)))]))]⟩) (fun y18 => law06_turned_k5 r10 y18 = some r) (fun y18 hF => ?_) (fun J22 => ?_)
              · unfold law06_turned_k5 at hF
                refine G.seq ?_
                refine G.joinC (T := Bool) (fun y19 => ⟨[(8, oB y19)], []⟩) (fun y19 => law06_turned_k6 y19 = some r) (fun y19 hF => ?_) (fun J20 => ?_)
                · unfold law06_turned_k6 at hF
                  cases hF
                  exact G.ret1 Try.results6 (RVar.tmp 8 _) ⟨rfl, trivial⟩ trivial
                refine G.region ?_
                refine G.op1 (op_move (Ev.t 18 (bB y18)) rfl) rfl ⟨rfl, trivial⟩ trivial ?_
                refine G.op1 (op_not (Ev.t 127 (bB y18)) rfl) rfl ⟨rfl, trivial⟩ trivial ?_
                refine G.op1 (op_move (Ev.t 128 (bB (!y18))) rfl) rfl ⟨rfl, trivial⟩ trivial ?_
                refine ifS hF (fun hc21 hF => ?_) (fun hc21 hF => ?_)
                · refine G.known (t := 129) hc21 rfl ?_
                  refine G.opG1 (op_fieldP (off' := 0) Try.underlying31 rfl ti29 (by decide) rfl (Ev.t 12 (.ptr 1012 0)) rfl) rfl rfl rfl ⟨rfl, trivial⟩ trivial ?_
                  refine G.opG1 (op_load1P (c := .g (.d (.sl 2 (List.map encApi_Range r10.1.Ranges)))) Try.underlying29 rfl rfl (Ev.t 130 (.ptr 1012 0)) rfl) rfl rfl rfl ⟨rfl, trivial⟩ ⟨rfl, trivial⟩ ?_
                  refine G.opG1 (OpL.cast (op_lenD Try.underlying29 (Ev.t 131 (.g (.d (.sl 2 (List.map encApi_Range r10.1.Ranges))))) rfl) (by rw [List.length_map])) rfl rfl rfl ⟨rfl, trivial⟩ trivial ?_
                  refine G.opG1 (op_eqI (Ev.t 132 (bI .i64 (r10.1.Ranges.length : Int))) (Ev.c _ rfl) rfl) rfl rfl rfl ⟨rfl, trivial⟩ trivial ?_
                  refine G.op1 (op_pickT (Ev.t 129 (bB true)) (Ev.t 133 (bB (decide ((r10.1.Ranges.length : Int) = 0)))) rfl) rfl ⟨rfl, rfl, trivial⟩ trivial ?_
                  refine G.op1 (op_assign (Ev.t 134 (bB (decide ((r10.1.Ranges.length : Int) = 0)))) rfl) rfl ⟨rfl, trivial⟩ trivial ?_
                  refine G.endOps ?_
                  exact G.arr (J20 (decide ((r10.1.Ranges.length : Int) = 0)) hF) ⟨rfl, trivial⟩ trivial rfl
                · refine G.known (t := 129) hc21 rfl ?_
                  refine G.opN1 rfl rfl rfl rfl rfl ?_
                  refine G.opN1 rfl rfl rfl rfl rfl ?_
                  refine G.opN1 rfl rfl rfl rfl rfl ?_
                  refine G.opN1 rfl rfl rfl rfl rfl ?_
                  refine G.op1 (op_pickF (Ev.t 129 (bB false)) (Ev.c _ rfl) rfl) rfl ⟨rfl, trivial⟩ trivial ?_
                  refine G.op1 (op_assign (Ev.t 134 (bB false)) rfl) rfl ⟨rfl, trivial⟩ trivial ?_
                  refine G.endOps ?_
                  exact G.arr (J20 false hF) ⟨rfl, trivial⟩ trivial rfl
              refine G.block ?_
              refine G.keep (sl' := [(12, .one (.ptr 1012 0)), (14, .one (.ptr 1014 0)), (17, oI (r11.1.Parents.length : Int)), (18, oB y17), (22, oI 0)]) (hp' := [(1012, some (.blk 31 [.g (.d (.sl 2 (List.map encApi_Range r10.1.Ranges))), .g (.d (.sl 1 (List.map encI_i64 r10.1.Owners))), .g (.d (.sl 1 (List.map encI_i64 r10.1.Parents)))])), (1014, some (.blk 31 [.g (.d (.sl 2 (List.map encApi_Range r11.1.Ranges))), .g (.d (.sl 1 (List.map encI_i64 r11.1.Owners))), .g (.d (.sl 1 (List.map encI_i64 r11.1.Parents)))]))]) ⟨rfl, rfl, rfl, rfl, rfl, trivial⟩ ⟨rfl, rfl, trivial⟩ rfl ?_
              refine G.loopF (fun (v23 : Bool × Int) => ⟨[(12, .one (.ptr 1012 0)), (14, .one (.ptr 1014 0)), (17, oI (r11.1.Parents.length : Int)), (18, oB v23.1), (22, oI v23.2)], [(1012, some (.blk 31 [.g (.d (.sl 2 (List.map encApi_Range r10.1.Ranges))), .g (.d (.sl 1 (List.map encI_i64 r10.1.Owners))), .g (.d (.sl 1 (List.map encI_i64 r10.1.Parents)))])), (1014, some (.blk 31 [.g (.d (.sl 2 (List.map encApi_Range r11.1.Ranges))), .g (.d (.sl 1 (List.map encI_i64 r11.1.Owners))), .g (.d (.sl 1 (List.map encI_i64 r11.1.Parents)))]))]⟩) hF rfl (fun K26 again25 v23 J24 hF => ?_)
              unfold law06_turned_l7 at hF
              refine G.seq ?_
              refine G.seq ?_
              refine G.region ?_
              refine G.op1 (op_move (Ev.t 22 (bI .i64 v23.2)) rfl) rfl ⟨rfl, trivial⟩ trivial ?_
              refine G.op1 (op_move (Ev.t 17 (bI .i64 (r11.1.Parents.length : Int))) rfl) rfl ⟨rfl, trivial⟩ trivial ?_
              refine G.op1 (op_lss (Ev.t 113 (bI .i64 v23.2)) (Ev.t 114 (bI .i64 (r11.1.Parents.length : Int))) rfl) rfl ⟨rfl, rfl, trivial⟩ trivial ?_
              refine G.endOps ?_
              refine ifS hF (fun hc27 hF => ?_) (fun hc27 hF => ?_)
              · refine G.cond rfl (fun _ => ?_) (fun hx => by rw [hc27] at hx; cases hx)
                refine G.skip ?_
                refine G.seq ?_
                refine G.block ?_
                refine G.region ?_
                refine G.op1 (op_move (Ev.t 18 (bB v23.1)) rfl) rfl ⟨rfl, trivial⟩ trivial ?_
                refine G.op1 (op_move (Ev.t 118 (bB v23.1)) rfl) rfl ⟨rfl, trivial⟩ trivial ?_
                refine ifS hF (fun hc28 hF => ?_) (fun hc28 hF => ?_)
                · refine G.known (t := 119) hc28 rfl ?_
                  refine G.opG1 (op_fieldP (off' := 2) Try.underlying31 rfl ti22 (by decide) rfl (Ev.t 14 (.ptr 1014 0)) rfl) rfl rfl rfl ⟨rfl, trivial⟩ trivial ?_
                  refine G.opG1 (op_load1P (c := .g (.d (.sl 1 (List.map encI_i64 r11.1.Parents)))) Try.underlying22 rfl rfl (Ev.t 120 (.ptr 1014 2)) rfl) rfl rfl rfl ⟨rfl, trivial⟩ ⟨rfl, trivial⟩ ?_
                  refine G.opG1 (op_move (Ev.t 22 (bI .i64 v23.2)) rfl) rfl rfl rfl ⟨rfl, trivial⟩ trivial ?_
                  obtain ⟨x29, hx29, hF⟩ := bindS hF
                  refine G.opG1 (op_index (cs := [vI x29]) Try.underlying22 ti3 (idx_ok hx29).1 (idx_get hx29 encI_i64) (Ev.t 121 (.g (.d (.sl 1 (List.map encI_i64 r11.1.Parents))))) (Ev.t 122 (bI .i64 v23.2)) rfl) rfl rfl rfl ⟨rfl, rfl, trivial⟩ trivial ?_
                  refine G.opG1 (op_load1E (c := vI x29) Try.underlying3 rfl rfl (Ev.t 123 (.ep [vI x29])) rfl) rfl rfl rfl ⟨rfl, trivial⟩ trivial ?_
                  refine G.opG1 (op_leq (Ev.t 124 (bI .i64 x29)) (Ev.c _ rfl) rfl) rfl rfl rfl ⟨rfl, trivial⟩ trivial ?_
                  refine G.op1 (op_pickT (Ev.t 119 (bB true)) (Ev.t 125 (bB (decide (x29 ≤ 5)))) rfl) rfl ⟨rfl, rfl, trivial⟩ trivial ?_
                  refine G.op1 (op_assign (Ev.t 126 (bB (decide (x29 ≤ 5)))) rfl) rfl ⟨rfl, trivial⟩ trivial ?_
                  refine G.endOps ?_
                  refine G.endBlock ?_
                  refine G.region ?_
                  refine G.op1 (op_move (Ev.t 22 (bI .i64 v23.2)) rfl) rfl ⟨rfl, trivial⟩ trivial ?_
                  refine G.op1 (op_add (Ev.t 116 (bI .i64 v23.2)) (Ev.c _ rfl) rfl) rfl ⟨rfl, trivial⟩ trivial ?_
                  refine G.op1 (op_assign (Ev.t 117 (bI .i64 (IntKind.wrap .i64 (v23.2 + 1)))) rfl) rfl ⟨rfl, trivial⟩ trivial ?_
                  refine G.endOps ?_
                  exact G.arr (J24 (decide (x29 ≤ 5), IntKind.wrap .i64 (v23.2 + 1)) hF) ⟨rfl, rfl, rfl, rfl, rfl, trivial⟩ ⟨rfl, rfl, trivial⟩ rfl
                · refine G.known (t := 119) hc28 rfl ?_
                  refine G.opN1 rfl rfl rfl rfl rfl ?_
                  refine G.opN1 rfl rfl rfl rfl rfl ?_
                  refine G.opN1 rfl rfl rfl rfl rfl ?_
                  refine G.opN1 rfl rfl rfl rfl rfl ?_
                  refine G.opN1 rfl rfl rfl rfl rfl ?_
                  refine G.opN1 rfl rfl rfl rfl rfl ?_
                  refine G.op1 (op_pickF (Ev.t 119 (bB false)) (Ev.c _ rfl) rfl) rfl ⟨rfl, trivial⟩ trivial ?_
                  refine G.op1 (op_assign (Ev.t 126 (bB false)) rfl) rfl ⟨rfl, trivial⟩ trivial ?_
                  refine G.endOps ?_
                  refine G.endBlock ?_
                  refine G.region ?_
                  refine G.op1 (op_move (Ev.t 22 (bI .i64 v23.2)) rfl) rfl ⟨rfl, trivial⟩ trivial ?_
                  refine G.op1 (op_add (Ev.t 116 (bI .i64 v23.2)) (Ev.c _ rfl) rfl) rfl ⟨rfl, trivial⟩ trivial ?_
                  refine G.op1 (op_assign (Ev.t 117 (bI .i64 (IntKind.wrap .i64 (v23.2 + 1)))) rfl) rfl ⟨rfl, trivial⟩ trivial ?_
                  refine G.endOps ?_
                  exact G.arr (J24 (false, IntKind.wrap .i64 (v23.2 + 1)) hF) ⟨rfl, rfl, rfl, rfl, rfl, trivial⟩ ⟨rfl, rfl, trivial⟩ rfl
              · refine G.cond rfl (fun hx => by rw [hc27] at hx; cases hx) (fun _ => ?_)
                refine G.exit ?_
                refine GX.c ?_
                refine GX.q ?_
                refine GX.bYes ?_
                exact G.arr (J22 v23.1 hF) ⟨rfl, rfl, trivial⟩ ⟨rfl, trivial⟩ rfl
            refine G.block ?_
            refine G.keep (sl' := [(12, .one (.ptr 1012 0)), (14, .one (.ptr 1014 0)), (17, oI (r11.1.Parents.length : Int)), (18, oB y15), (19, oI y16), (21, oI 0)]) (hp' := [(1012, some (.blk 31 [.g (.d (.sl 2 (List.map encApi_Range r10.1.Ranges))), .g (.d (.sl 1 (List.map encI_i64 r10.1.Owners))), .g (.d (.sl 1 (List.map encI_i64 r10.1.Parents)))])), (1014, some (.blk 31 [.g (.d (.sl 2 (List.map encApi_Range r11.1.Ranges))), .g (.d (.sl 1 (List.map encI_i64 r11.1.Owners))), .g (.d (.sl 1 (List.map encI_i64 r11.1.Parents)))]))]) ⟨rfl, rfl, rfl, rfl, rfl, rfl, trivial⟩ ⟨rfl, rfl, trivial⟩ rfl ?_
            refine G.loopF (fun (v31 : Bool × Int) => ⟨[(12, .one (.ptr 1012 0)), (14, .one (.ptr 1014 0)), (17, oI (r11.1.Parents.length : Int)), (18, oB v31.1), (19, oI y16), (21, oI v31.2)], [(1012, some (.blk 31 [.g (.d (.sl 2 (List.map encApi_Range r10.1.Ranges))), .g (.d (.sl 1 (List.map encI_i64 r10.1.Owners))), .g (.d (.sl 1 (List.map encI_i64 r10.1.Parents)))])), (1014, some (.blk 31 [.g (.d (.sl 2 (List.map encApi_Range r11.1.Ranges))), .g (.d (.sl 1 (List.map encI_i64 r11.1.Owners))), .g (.d (.sl 1 (List.map encI_i64 r11.1.Parents)))]))]⟩) hF rfl (fun K34 again33 v31 J32 hF => ?_)
            unfold law06_turned_l8 at hF
            refine G.seq ?_
            refine G.seq ?_
            refine G.region ?_
            refine G.op1 (op_move (Ev.t 21 (bI .i64 v31.2)) rfl) rfl ⟨rfl, trivial⟩ trivial ?_
            refine G.op1 (op_fieldP (off' := 1) Try.underlying31 rfl ti22 (by decide) rfl (Ev.t 14 (.ptr 1014 0)) rfl) rfl ⟨rfl, trivial⟩ trivial ?_
            refine G.op1 (op_load1P (c := .g (.d (.sl 1 (List.map encI_i64 r11.1.Owners)))) Try.underlying22 rfl rfl (Ev.t 89 (.ptr 1014 1)) rfl) rfl ⟨rfl, trivial⟩ ⟨rfl, trivial⟩ ?_
            refine G.op1 (OpL.cast (op_lenD Try.underlying22 (Ev.t 90 (.g (.d (.sl 1 (List.map encI_i64 r11.1.Owners))))) rfl) (by rw [List.length_map])) rfl ⟨rfl, trivial⟩ trivial ?_
            refine G.op1 (op_lss (Ev.t 88 (bI .i64 v31.2)) (Ev.t 91 (bI .i64 (r11.1.Owners.length : Int))) rfl) rfl ⟨rfl, rfl, trivial⟩ trivial ?_
            refine G.endOps ?_
            refine ifS hF (fun hc35 hF => ?_) (fun hc35 hF => ?_)
            · refine G.cond rfl (fun _ => ?_) (fun hx => by rw [hc35] at hx; cases hx)
              refine G.skip ?_
              refine G.seq ?_
              refine G.block ?_
              refine G.region ?_
              refine G.op1 (op_move (Ev.t 18 (bB v31.1)) rfl) rfl ⟨rfl, trivial⟩ trivial ?_
              refine G.op1 (op_move (Ev.t 95 (bB v31.1)) rfl) rfl ⟨rfl, trivial⟩ trivial ?_
              refine G.joinL (T := Bool) 7 (fun y36 => ⟨[(12, .one (.ptr 1012 0)), (14, .one (.ptr 1014 0)), (17, oI (r11.1.Parents.length : Int)), (19, oI y16), (21, oI v31.2), (103, oB y36)], [(1012, some (.blk 31 [.g (.d (.sl 2 (List.map encApi_Range r10.1.Ranges))), .g (.d (.sl 1 (List.map encI_i64 r10.1.Owners))), .g (.d (.sl 1 (List.map encI_i64 r10.1.Parents)))])), (1014, some (.blk 31 [.g (.d (.sl 2 (List.map encApi_Range r11.1.Ranges))), .g (.d (.sl 1 (List.map encI_i64 r11.1.Owners))), .g (.d (.sl 1 (List.map encI_i64 r11.1.Parents)))]))]⟩) (fun y36 => law06_turned_k9 r11 y16 again33 v31 y36 = some r) (fun y36 hF => ?_) (fun J39 => ?_)
              · unfold law06_turned_k9 at hF
                refine G.op1 (op_move (Ev.t 103 (bB y36)) rfl) rfl ⟨rfl, trivial⟩ trivial ?_
                refine ifS hF (fun hc37 hF => ?_) (fun hc37 hF => ?_)
                · refine G.known (t := 104) hc37 rfl ?_
                  refine G.opG1 (op_fieldP (off' := 1) Try.underlying31 rfl ti22 (by decide) rfl (Ev.t 14 (.ptr 1014 0)) rfl) rfl rfl rfl ⟨rfl, trivial⟩ trivial ?_
                  refine G.opG1 (op_load1P (c := .g (.d (.sl 1 (List.map encI_i64 r11.1.Owners)))) Try.underlying22 rfl rfl (Ev.t 105 (.ptr 1014 1)) rfl) rfl rfl rfl ⟨rfl, trivial⟩ ⟨rfl, trivial⟩ ?_
                  refine G.opG1 (op_move (Ev.t 21 (bI .i64 v31.2)) rfl) rfl rfl rfl ⟨rfl, trivial⟩ trivial ?_
                  obtain ⟨x38, hx38, hF⟩ := bindS hF
                  refine G.opG1 (op_index (cs := [vI x38]) Try.underlying22 ti3 (idx_ok hx38).1 (idx_get hx38 encI_i64) (Ev.t 106 (.g (.d (.sl 1 (List.map encI_i64 r11.1.Owners))))) (Ev.t 107 (bI .i64 v31.2)) rfl) rfl rfl rfl ⟨rfl, rfl, trivial⟩ trivial ?_
                  refine G.opG1 (op_load1E (c := vI x38) Try.underlying3 rfl rfl (Ev.t 108 (.ep [vI x38])) rfl) rfl rfl rfl ⟨rfl, trivial⟩ trivial ?_
                  refine G.opG1 (op_move (Ev.t 19 (bI .i64 y16)) rfl) rfl rfl rfl ⟨rfl, trivial⟩ trivial ?_
                  refine G.opG1 (op_lss (Ev.t 109 (bI .i64 x38)) (Ev.t 110 (bI .i64 y16)) rfl) rfl rfl rfl ⟨rfl, rfl, trivial⟩ trivial ?_
                  refine G.op1 (op_pickT (Ev.t 104 (bB true)) (Ev.t 111 (bB (decide (x38 < y16)))) rfl) rfl ⟨rfl, rfl, trivial⟩ trivial ?_
                  refine G.op1 (op_assign (Ev.t 112 (bB (decide (x38 < y16)))) rfl) rfl ⟨rfl, trivial⟩ trivial ?_
                  refine G.endOps ?_
                  refine G.endBlock ?_
                  refine G.region ?_
                  refine G.op1 (op_move (Ev.t 21 (bI .i64 v31.2)) rfl) rfl ⟨rfl, trivial⟩ trivial ?_
                  refine G.op1 (op_add (Ev.t 93 (bI .i64 v31.2)) (Ev.c _ rfl) rfl) rfl ⟨rfl, trivial⟩ trivial ?_
                  refine G.op1 (op_assign (Ev.t 94 (bI .i64 (IntKind.wrap .i64 (v31.2 + 1)))) rfl) rfl ⟨rfl, trivial⟩ trivial ?_
                  refine G.endOps ?_
                  exact G.arr (J32 (decide (x38 < y16), IntKind.wrap .i64 (v31.2 + 1)) hF) ⟨rfl, rfl, rfl, rfl, rfl, rfl, trivial⟩ ⟨rfl, rfl, trivial⟩ rfl
                · refine G.known (t := 104) hc37 rfl ?_
                  refine G.opN1 rfl rfl rfl rfl rfl ?_
                  refine G.opN1 rfl rfl rfl rfl rfl ?_
                  refine G.opN1 rfl rfl rfl rfl rfl ?_
                  refine G.opN1 rfl rfl rfl rfl rfl ?_
                  refine G.opN1 rfl rfl rfl rfl rfl ?_
                  refine G.opN1 rfl rfl rfl rfl rfl ?_
                  refine G.opN1 rfl rfl rfl rfl rfl ?_
                  refine G.op1 (op_pickF (Ev.t 104 (bB false)) (Ev.c _ rfl) rfl) rfl ⟨rfl, trivial⟩ trivial ?_
                  refine G.op1 (op_assign (Ev.t 112 (bB false)) rfl) rfl ⟨rfl, trivial⟩ trivial ?_
                  refine G.endOps ?_
                  refine G.endBlock ?_
                  refine G.region ?_
                  refine G.op1 (op_move (Ev.t 21 (bI .i64 v31.2)) rfl) rfl ⟨rfl, trivial⟩ trivial ?_
                  refine G.op1 (op_add (Ev.t 93 (bI .i64 v31.2)) (Ev.c _ rfl) rfl) rfl ⟨rfl, trivial⟩ trivial ?_
                  refine G.op1 (op_assign (Ev.t 94 (bI .i64 (IntKind.wrap .i64 (v31.2 + 1)))) rfl) rfl ⟨rfl, trivial⟩ trivial ?_
                  refine G.endOps ?_
                  exact G.arr (J32 (false, IntKind.wrap .i64 (v31.2 + 1)) hF) ⟨rfl, rfl, rfl, rfl, rfl, rfl, trivial⟩ ⟨rfl, rfl, trivial⟩ rfl
              refine ifS hF (fun hc40 hF => ?_) (fun hc40 hF => ?_)
              · refine G.known (t := 96) hc40 rfl ?_
                refine G.opG1 (op_fieldP (off' := 1) Try.underlying31 rfl ti22 (by decide) rfl (Ev.t 14 (.ptr 1014 0)) rfl) rfl rfl rfl ⟨rfl, trivial⟩ trivial ?_
                refine G.opG1 (op_load1P (c := .g (.d (.sl 1 (List.map encI_i64 r11.1.Owners)))) Try.underlying22 rfl rfl (Ev.t 97 (.ptr 1014 1)) rfl) rfl rfl rfl ⟨rfl, trivial⟩ ⟨rfl, trivial⟩ ?_
                refine G.opG1 (op_move (Ev.t 21 (bI .i64 v31.2)) rfl) rfl rfl rfl ⟨rfl, trivial⟩ trivial ?_
                obtain ⟨x41, hx41, hF⟩ := bindS hF
                refine G.opG1 (op_index (cs := [vI x41]) Try.underlying22 ti3 (idx_ok hx41).1 (idx_get hx41 encI_i64) (Ev.t 98 (.g (.d (.sl 1 (List.map encI_i64 r11.1.Owners))))) (Ev.t 99 (bI .i64 v31.2)) rfl) rfl rfl rfl ⟨rfl, rfl, trivial⟩ trivial ?_
                refine G.opG1 (op_load1E (c := vI x41) Try.underlying3 rfl rfl (Ev.t 100 (.ep [vI x41])) rfl) rfl rfl rfl ⟨rfl, trivial⟩ trivial ?_
                refine G.opG1 (op_geq (Ev.t 101 (bI .i64 x41)) (Ev.c _ rfl) rfl) rfl rfl rfl ⟨rfl, trivial⟩ trivial ?_
                refine G.op1 (op_pickT (Ev.t 96 (bB true)) (Ev.t 102 (bB (decide (1 ≤ x41)))) rfl) rfl ⟨rfl, rfl, trivial⟩ trivial ?_
                exact G.arr (J39 (decide (1 ≤ x41)) hF) ⟨rfl, rfl, rfl, rfl, rfl, rfl, trivial⟩ ⟨rfl, rfl, trivial⟩ rfl
              · refine G.known (t := 96) hc40 rfl ?_
                refine G.opN1 rfl rfl rfl rfl rfl ?_
                refine G.opN1 rfl rfl rfl rfl rfl ?_
                refine G.opN1 rfl rfl rfl rfl rfl ?_
                refine G.opN1 rfl rfl rfl rfl rfl ?_
                refine G.opN1 rfl rfl rfl rfl rfl ?_
                refine G.opN1 rfl rfl rfl rfl rfl ?_
                refine G.op1 (op_pickF (Ev.t 96 (bB false)) (Ev.c _ rfl) rfl) rfl ⟨rfl, trivial⟩ trivial ?_
                exact G.arr (J39 false hF) ⟨rfl, rfl, rfl, rfl, rfl, rfl, trivial⟩ ⟨rfl, rfl, trivial⟩ rfl
            · refine G.cond rfl (fun hx => by rw [hc35] at hx; cases hx) (fun _ => ?_)
              refine G.exit ?_
              refine GX.c ?_
              refine GX.q ?_
              refine GX.bYes ?_
              exact G.arr (J30 v31.1 hF) ⟨rfl, rfl, rfl, rfl, trivial⟩ ⟨rfl, rfl, trivial⟩ rfl
          refine G.block ?_
          refine G.keep (sl' := [(12, .one (.ptr 1012 0)), (14, .one (.ptr 1014 0)), (17, oI (r11.1.Parents.length : Int)), (18, oB y15), (19, oI 1), (20, oI 0)]) (hp' := [(1012, some (.blk 31 [.g (.d (.sl 2 (List.map encApi_Range r10.1.Ranges))), .g (.d (.sl 1 (List.map encI_i64 r10.1.Owners))), .g (.d (.sl 1 (List.map encI_i64 r10.1.Parents)))])), (1014, some (.blk 31 [.g (.d (.sl 2 (List.map encApi_Range r11.1.Ranges))), .g (.d (.sl 1 (List.map encI_i64 r11.1.Owners))), .g (.d (.sl 1 (List.map encI_i64 r11.1.Parents)))]))]) ⟨rfl, rfl, rfl, rfl, rfl, rfl, trivial⟩ ⟨rfl, rfl, trivial⟩ rfl ?_
          refine G.loopF (fun (v43 : Int × Int) => ⟨[(12, .one (.ptr 1012 0)), (14, .one (.ptr 1014 0)), (17, oI (r11.1.Parents.length : Int)), (18, oB y15), (19, oI v43.1), (20, oI v43.2)], [(1012, some (.blk 31 [.g (.d (.sl 2 (List.map encApi_Range r10.1.Ranges))), .g (.d (.sl 1 (List.map encI_i64 r10.1.Owners))), .g (.d (.sl 1 (List.map encI_i64 r10.1.Parents)))])), (1014, some (.blk 31 [.g (.d (.sl 2 (List.map encApi_Range r11.1.Ranges))), .g (.d (.sl 1 (List.map encI_i64 r11.1.Owners))), .g (.d (.sl 1 (List.map encI_i64 r11.1.Parents)))]))]⟩) hF rfl (fun K46 again45 v43 J44 hF => ?_)
          unfold law06_turned_l10 at hF
          refine G.seq ?_
          refine G.seq ?_
          refine G.region ?_
          refine G.op1 (op_move (Ev.t 20 (bI .i64 v43.2)) rfl) rfl ⟨rfl, trivial⟩ trivial ?_
          refine G.op1 (op_move (Ev.t 17 (bI .i64 (r11.1.Parents.length : Int))) rfl) rfl ⟨rfl, trivial⟩ trivial ?_
          refine G.op1 (op_lss (Ev.t 81 (bI .i64 v43.2)) (Ev.t 82 (bI .i64 (r11.1.Parents.length : Int))) rfl) rfl ⟨rfl, rfl, trivial⟩ trivial ?_
          refine G.endOps ?_
          refine ifS hF (fun hc47 hF => ?_) (fun hc47 hF => ?_)
          · refine G.cond rfl (fun _ => ?_) (fun hx => by rw [hc47] at hx; cases hx)
            refine G.skip ?_
            refine G.seq ?_
            refine G.block ?_
            refine G.region ?_
            refine G.op1 (op_move (Ev.t 19 (bI .i64 v43.1)) rfl) rfl ⟨rfl, trivial⟩ trivial ?_
            refine G.op1 (op_mul (Ev.t 86 (bI .i64 v43.1)) (Ev.c _ rfl) rfl) rfl ⟨rfl, trivial⟩ trivial ?_
            refine G.op1 (op_assign (Ev.t 87 (bI .i64 (IntKind.wrap .i64 (v43.1 * 2)))) rfl) rfl ⟨rfl, trivial⟩ trivial ?_
            refine G.endOps ?_
            refine G.endBlock ?_
            refine G.region ?_
            refine G.op1 (op_move (Ev.t 20 (bI .i64 v43.2)) rfl) rfl ⟨rfl, trivial⟩ trivial ?_
            refine G.op1 (op_add (Ev.t 84 (bI .i64 v43.2)) (Ev.c _ rfl) rfl) rfl ⟨rfl, trivial⟩ trivial ?_
            refine G.op1 (op_assign (Ev.t 85 (bI .i64 (IntKind.wrap .i64 (v43.2 + 1)))) rfl) rfl ⟨rfl, trivial⟩ trivial ?_
            refine G.endOps ?_
            exact G.arr (J44 (IntKind.wrap .i64 (v43.1 * 2), IntKind.wrap .i64 (v43.2 + 1)) hF) ⟨rfl, rfl, rfl, rfl, rfl, rfl, trivial⟩ ⟨rfl, rfl, trivial⟩ rfl
          · refine G.cond rfl (fun hx => by rw [hc47] at hx; cases hx) (fun _ => ?_)
            refine G.exit ?_
            refine GX.c ?_
            refine GX.q ?_
            refine GX.bYes ?_
            exact G.arr (J42 v43.1 hF) ⟨rfl, rfl, rfl, rfl, rfl, trivial⟩ ⟨rfl, rfl, trivial⟩ rfl
        refine G.region ?_
        refine G.op1 (op_move (Ev.t 16 (bB r14)) rfl) rfl ⟨rfl, trivial⟩ trivial ?_
        refine G.op1 (op_move (Ev.t 76 (bB r14)) rfl) rfl ⟨rfl, trivial⟩ trivial ?_
        refine ifS hF (fun hc49 hF => ?_) (fun hc49 hF => ?_)
        · refine G.known (t := 77) hc49 rfl ?_
          refine G.opG1 (op_move (Ev.t 17 (bI .i64 (r11.1.Parents.length : Int))) rfl) rfl rfl rfl ⟨rfl, trivial⟩ trivial ?_
          refine G.opG1 (op_geq (Ev.t 78 (bI .i64 (r11.1.Parents.length : Int))) (Ev.c _ rfl) rfl) rfl rfl rfl ⟨rfl, trivial⟩ trivial ?_
          refine G.op1 (op_pickT (Ev.t 77 (bB true)) (Ev.t 79 (bB (decide (1 ≤ (r11.1.Parents.length : Int))))) rfl) rfl ⟨rfl, rfl, trivial⟩ trivial ?_
          refine G.op1 (op_assign (Ev.t 80 (bB (decide (1 ≤ (r11.1.Parents.length : Int))))) rfl) rfl ⟨rfl, trivial⟩ trivial ?_
          refine G.endOps ?_
          exact G.arr (J48 (decide (1 ≤ (r11.1.Parents.length : Int))) hF) ⟨rfl, rfl, rfl, rfl, trivial⟩ ⟨rfl, rfl, trivial⟩ rfl
        · refine G.known (t := 77) hc49 rfl ?_
          refine G.opN1 rfl rfl rfl rfl rfl ?_
          refine G.opN1 rfl rfl rfl rfl rfl ?_
          refine G.op1 (op_pickF (Ev.t 77 (bB false)) (Ev.c _ rfl) rfl) rfl ⟨rfl, trivial⟩ trivial ?_
          refine G.op1 (op_assign (Ev.t 80 (bB false)) rfl) rfl ⟨rfl, trivial⟩ trivial ?_
          refine G.endOps ?_
          exact G.arr (J48 false hF) ⟨rfl, rfl, rfl, rfl, trivial⟩ ⟨rfl, rfl, trivial⟩ rfl
    · refine G.cond rfl (fun hx => by rw [hc12] at hx; cases hx) (fun _ => ?_)
      refine G.skip ?_
      refine G.seq ?_
      refine G.region ?_
      refine G.op1 (op_move (Ev.t 15 (bB r11.2)) rfl) rfl ⟨rfl, trivial⟩ trivial ?_
      refine G.op1 (op_move (Ev.t 135 (bB r11.2)) rfl) rfl ⟨rfl, trivial⟩ trivial ?_
      refine G.joinL (T := Bool) 4 (fun y50 => ⟨[(11, oS y9), (12, .one (.ptr 1012 0)), (140, oB y50)], [(1012, some (.blk 31 [.g (.d (.sl 2 (List.map encApi_Range r10.1.Ranges))), .g (.d (.sl 1 (List.map encI_i64 r10.1.Owners))), .g (.d (.sl 1 (List.map encI_i64 r10.1.Parents)))]))]⟩) (fun y50 => law06_turned_k11 y9 r10 y50 = some r) (fun y50 hF => ?_) (fun J53 => ?_)
      · unfold law06_turned_k11 at hF
        refine G.op1 (op_move (Ev.t 140 (bB y50)) rfl) rfl ⟨rfl, trivial⟩ trivial ?_
        refine ifS hF (fun hc51 hF => ?_) (fun hc51 hF => ?_)
        · refine G.known (t := 141) hc51 rfl ?_
          refine G.opG1 (op_loadAP (ds := [.sl 2 (List.map encApi_Range r10.1.Ranges), .sl 1 (List.map encI_i64 r10.1.Owners), .sl 1 (List.map encI_i64 r10.1.Parents)]) Try.underlying31 rfl ti31 rfl (Ev.t 12 (.ptr 1012 0)) rfl) rfl rfl rfl ⟨rfl, trivial⟩ ⟨rfl, trivial⟩ ?_
          obtain ⟨r52, hr52, hF⟩ := bindS hF
          refine G.opG1 (op_callQ (sv := oS r52) cf9 (ct_wire_RowBytes r10.1 r52 hr52) rfl rfl (EvQL.cons (EvQ.g (Ev.t 142 (.g (.agg [.sl 2 (List.map encApi_Range r10.1.Ranges), .sl 1 (List.map encI_i64 r10.1.Owners), .sl 1 (List.map encI_i64 r10.1.Parents)])))) EvQL.nil) rfl) rfl rfl rfl ⟨rfl, trivial⟩ trivial ?_
          refine G.opG1 (op_move (Ev.t 11 (bS y9)) rfl) rfl rfl rfl ⟨rfl, trivial⟩ trivial ?_
          refine G.opG1 (op_eqS (Ev.t 143 (bS r52)) (Ev.t 144 (bS y9)) rfl) rfl rfl rfl ⟨rfl, rfl, trivial⟩ trivial ?_
          refine G.op1 (op_pickT (Ev.t 141 (bB true)) (Ev.t 145 (bB (seq r52 y9))) rfl) rfl ⟨rfl, rfl, trivial⟩ trivial ?_
          refine G.op1 (op_assign (Ev.t 146 (bB (seq r52 y9))) rfl) rfl ⟨rfl, trivial⟩ trivial ?_
          refine G.endOps ?_
          cases hF
          exact G.ret1 Try.results6 (RVar.tmp 8 _) ⟨rfl, trivial⟩ trivial
        · refine G.known (t := 141) hc51 rfl ?_
          refine G.opN1 rfl rfl rfl rfl rfl ?_
          refine G.opN1 rfl rfl rfl rfl rfl ?_
          refine G.opN1 rfl rfl rfl rfl rfl ?_
          refine G.opN1 rfl rfl rfl rfl rfl ?_
          refine G.op1 (op_pickF (Ev.t 141 (bB false)) (Ev.c _ rfl) rfl) rfl ⟨rfl, trivial⟩ trivial ?_
          refine G.op1 (op_assign (Ev.t 146 (bB false)) rfl) rfl ⟨rfl, trivial⟩ trivial ?_
          refine G.endOps ?_
          cases hF
          exact G.ret1 Try.results6 (RVar.tmp 8 _) ⟨rfl, trivial⟩ trivial
      refine ifS hF (fun hc54 hF => ?_) (fun hc54 hF => ?_)
      · refine G.known (t := 136) hc54 rfl ?_
        refine G.opG1 (op_loadAP (ds := [.sl 2 (List.map encApi_Range r10.1.Ranges), .sl 1 (List.map encI_i64 r10.1.Owners), .sl 1 (List.map encI_i64 r10.1.Parents)]) Try.underlying31 rfl ti31 rfl (Ev.t 12 (.ptr 1012 0)) rfl) rfl rfl rfl ⟨rfl, trivial⟩ ⟨rfl, trivial⟩ ?_
        refine G.opG1 (op_loadAP (ds := [.sl 2 (List.map encApi_Range r11.1.Ranges), .sl 1 (List.map encI_i64 r11.1.Owners), .sl 1 (List.map encI_i64 r11.1.Parents)]) Try.underlying31 rfl ti31 rfl (Ev.t 14 (.ptr 1014 0)) rfl) rfl rfl rfl ⟨rfl, trivial⟩ ⟨rfl, trivial⟩ ?_
        obtain ⟨r55, hr55, hF⟩ := bindS hF
        refine G.opG1 (op_callQ (sv := oB r55) cf16 (ct_law06_same r10.1 r11.1 r55 hr55) rfl rfl (EvQL.cons (EvQ.g (Ev.t 137 (.g (.agg [.sl 2 (List.map encApi_Range r10.1.Ranges), .sl 1 (List.map encI_i64 r10.1.Owners), .sl 1 (List.map encI_i64 r10.1.Parents)])))) (EvQL.cons (EvQ.g (Ev.t 138 (.g (.agg [.sl 2 (List.map encApi_Range r11.1.Ranges), .sl 1 (List.map encI_i64 r11.1.Owners), .sl 1 (List.map encI_i64 r11.1.Parents)])))) EvQL.nil)) rfl) rfl rfl rfl ⟨rfl, rfl, trivial⟩ trivial ?_
        refine G.op1 (op_pickT (Ev.t 136 (bB true)) (Ev.t 139 (bB r55)) rfl) rfl ⟨rfl, rfl, trivial⟩ trivial ?_
        exact G.arr (J53 r55 hF) ⟨rfl, rfl, rfl, trivial⟩ ⟨rfl, trivial⟩ rfl
      · refine G.known (t := 136) hc54 rfl ?_
        refine G.opN1 rfl rfl rfl rfl rfl ?_
        refine G.opN1 rfl rfl rfl rfl rfl ?_
        refine G.opN1 rfl rfl rfl rfl rfl ?_
        refine G.op1 (op_pickF (Ev.t 136 (bB false)) (Ev.c _ rfl) rfl) rfl ⟨rfl, trivial⟩ trivial ?_
        exact G.arr (J53 false hF) ⟨rfl, rfl, rfl, trivial⟩ ⟨rfl, trivial⟩ rfl
  refine ifS hF (fun hc57 hF => ?_) (fun hc57 hF => ?_)
  · refine G.cond rfl (fun _ => ?_) (fun hx => by rw [hc57] at hx; cases hx)
    refine G.region ?_
    refine G.op1 (op_move (Ev.t 11 (bS (bset r2 (Int.tmod (IntKind.wrap .i64 ((Int.tmod at_1 (r2.size : Int)) + (r2.size : Int))) (r2.size : Int)) (IntKind.wrap .u8 (BitVec.ofInt (IntKind.bits .u8) (((ByteArray.data r2).getD (Int.toNat (Int.tmod (IntKind.wrap .i64 ((Int.tmod at_1 (r2.size : Int)) + (r2.size : Int))) (r2.size : Int))) 0).toNat : Int) ^^^ BitVec.ofInt (IntKind.bits .u8) by_2).toNat)))) rfl) rfl ⟨rfl, trivial⟩ trivial ?_
    refine G.op1 (op_move (Ev.t 10 (bI .i64 (Int.tmod (IntKind.wrap .i64 ((Int.tmod at_1 (r2.size : Int)) + (r2.size : Int))) (r2.size : Int)))) rfl) rfl ⟨rfl, trivial⟩ trivial ?_
    obtain ⟨s58, hs58, hF⟩ := bindS hF
    refine G.op1 (OpL.cast (op_sliceS (lo := none) (hi := some (Int.tmod (IntKind.wrap .i64 ((Int.tmod at_1 (r2.size : Int)) + (r2.size : Int))) (r2.size : Int))) Try.underlying9 (ssub_ok hs58).1 (ssub_ok hs58).2.1 (ssub_ok hs58).2.2.1 (Ev.t 49 (bS (bset r2 (Int.tmod (IntKind.wrap .i64 ((Int.tmod at_1 (r2.size : Int)) + (r2.size : Int))) (r2.size : Int)) (IntKind.wrap .u8 (BitVec.ofInt (IntKind.bits .u8) (((ByteArray.data r2).getD (Int.toNat (Int.tmod (IntKind.wrap .i64 ((Int.tmod at_1 (r2.size : Int)) + (r2.size : Int))) (r2.size : Int))) 0).toNat : Int) ^^^ BitVec.ofInt (IntKind.bits .u8) by_2).toNat)))) EvO.none (EvO.some (Ev.t 50 (bI .i64 (Int.tmod (IntKind.wrap .i64 ((Int.tmod at_1 (r2.size : Int)) + (r2.size : Int))) (r2.size : Int))))) rfl) (congrArg (fun s => bS s) (ssub_ok hs58).2.2.2)) rfl ⟨rfl, rfl, trivial⟩ trivial ?_
    refine G.op1 (op_assign (Ev.t 51 (bS s58)) rfl) rfl ⟨rfl, trivial⟩ trivial ?_
    refine G.endOps ?_
    exact G.arr (J56 s58 hF) ⟨rfl, trivial⟩ trivial rfl
  · refine G.cond rfl (fun hx => by rw [hc57] at hx; cases hx) (fun _ => ?_)
    refine G.skip ?_
    exact G.arr (J56 (bset r2 (Int.tmod (IntKind.wrap .i64 ((Int.tmod at_1 (r2.size : Int)) + (r2.size : Int))) (r2.size : Int)) (IntKind.wrap .u8 (BitVec.ofInt (IntKind.bits .u8) (((ByteArray.data r2).getD (Int.toNat (Int.tmod (IntKind.wrap .i64 ((Int.tmod at_1 (r2.size : Int)) + (r2.size : Int))) (r2.size : Int))) 0).toNat : Int) ^^^ BitVec.ofInt (IntKind.bits .u8) by_2).toNat)) hF) ⟨rfl, trivial⟩ trivial rfl


set_option maxRecDepth 20000 in
set_option maxHeartbeats 2000000 in
theorem ct_law06_WireRowTurned (q_0 : Law06_Spec) (at_1 : (List Int)) (cut_2 : Bool) (r : Bool) (hF : law06_WireRowTurned q_0 at_1 cut_2 = some r) : Ct Try.prog 3 [.g (.agg (encLaw06_Spec q_0)), .g (.agg (List.flatMap encI_i64 at_1)), .g (.d (vB cut_2))] (.one (.d (vB r))) := by
  unfold law06_WireRowTurned at hF
  refine Ct.intro Try.func3 rfl Try.ntmps3 rfl rfl fun M w => ?_
  refine G.seq ?_
  refine G.region ?_
  refine G.op2 (op_boxA (k := 1003) (Ev.t 0 (.g (.agg [.sl 1 (List.map encI_i64 q_0.Ends), .sl 1 (List.map encI_i64 q_0.Owners), .sl 1 (List.map encI_i64 q_0.Parents)]))) rfl) rfl ⟨rfl, trivial⟩ ⟨rfl, trivial⟩ ?_
  refine G.op2 (op_boxA (k := 1004) (Ev.t 1 (.g (.agg (List.flatMap encI_i64 at_1)))) rfl) rfl ⟨rfl, trivial⟩ ⟨rfl, trivial⟩ ?_
  refine G.op1 (op_assign (Ev.c _ rfl) rfl) rfl trivial trivial ?_
  refine G.endOps ?_
  refine G.seq ?_
  refine G.region ?_
  obtain ⟨r1, hr1, hF⟩ := bindS hF
  refine G.op1 (op_callQ (sv := oB r1) cf5 (ct_law06_awake r1 hr1) rfl rfl EvQL.nil rfl) rfl trivial trivial ?_
  refine G.op1 (op_move (Ev.t 7 (bB r1)) rfl) rfl ⟨rfl, trivial⟩ trivial ?_
  refine ifS hF (fun hc2 hF => ?_) (fun hc2 hF => ?_)
  · refine G.known (t := 8) hc2 rfl ?_
    refine G.opG1 (op_loadAP (ds := [.sl 1 (List.map encI_i64 q_0.Ends), .sl 1 (List.map encI_i64 q_0.Owners), .sl 1 (List.map encI_i64 q_0.Parents)]) Try.underlying24 rfl ti24 rfl (Ev.t 3 (.ptr 1003 0)) rfl) rfl rfl rfl ⟨rfl, trivial⟩ ⟨rfl, trivial⟩ ?_
    obtain ⟨x3, hx3, hF⟩ := bindS hF
    refine G.opG1 (op_indexA Try.underlying25 ti3 (aidx_ok hx3).1 (aidx_ok hx3).2.1 (Ev.t 4 (.ptr 1004 0)) (Ev.c _ rfl) rfl) rfl rfl rfl ⟨rfl, trivial⟩ trivial ?_
    refine G.opG1 (op_load1P (c := bI .i64 x3) Try.underlying3 rfl (arr_at1 hx3 (fun _ => rfl) rfl) (Ev.t 10 (.ptr 1004 (Int.toNat 0 * 1))) rfl) rfl rfl rfl ⟨rfl, trivial⟩ ⟨rfl, trivial⟩ ?_
    obtain ⟨x4, hx4, hF⟩ := bindS hF
    refine G.opG1 (op_indexA Try.underlying25 ti3 (aidx_ok hx4).1 (aidx_ok hx4).2.1 (Ev.t 4 (.ptr 1004 0)) (Ev.c _ rfl) rfl) rfl rfl rfl ⟨rfl, trivial⟩ trivial ?_
    refine G.opG1 (op_load1P (c := bI .i64 x4) Try.underlying3 rfl (arr_at1 hx4 (fun _ => rfl) rfl) (Ev.t 12 (.ptr 1004 (Int.toNat 1 * 1))) rfl) rfl rfl rfl ⟨rfl, trivial⟩ ⟨rfl, trivial⟩ ?_
    refine G.opG1 (op_convI Try.underlying3 Try.underlying5 (Ev.t 13 (bI .i64 x4)) rfl) rfl rfl rfl ⟨rfl, trivial⟩ trivial ?_
    refine G.opG1 (op_move (Ev.t 2 (bB cut_2)) rfl) rfl rfl rfl ⟨rfl, trivial⟩ trivial ?_
    obtain ⟨r5, hr5, hF⟩ := bindS hF
    refine G.opG1 (op_callQ (sv := oB r5) cf6 (ct_law06_turned q_0 x3 (IntKind.wrap .u8 x4) cut_2 r5 hr5) rfl rfl (EvQL.cons (EvQ.g (Ev.t 9 (.g (.agg [.sl 1 (List.map encI_i64 q_0.Ends), .sl 1 (List.map encI_i64 q_0.Owners), .sl 1 (List.map encI_i64 q_0.Parents)])))) (EvQL.cons (EvQ.g (Ev.t 11 (bI .i64 x3))) (EvQL.cons (EvQ.g (Ev.t 14 (bI .u8 (IntKind.wrap .u8 x4)))) (EvQL.cons (EvQ.g (Ev.t 15 (bB cut_2))) EvQL.nil)))) rfl) rfl rfl rfl ⟨rfl, rfl, rfl, rfl, trivial⟩ trivial ?_
    refine G.op1 (op_pickT (Ev.t 8 (bB true)) (Ev.t 16 (bB r5)) rfl) rfl ⟨rfl, rfl, trivial⟩ trivial ?_
    refine G.op1 (op_assign (Ev.t 17 (bB r5)) rfl) rfl ⟨rfl, trivial⟩ trivial ?_
    refine G.endOps ?_
    cases hF
    exact G.ret1 Try.results3 (RVar.tmp 6 _) ⟨rfl, trivial⟩ trivial
  · refine G.known (t := 8) hc2 rfl ?_
    refine G.opN1 rfl rfl rfl rfl rfl ?_
    refine G.opN1 rfl rfl rfl rfl rfl ?_
    refine G.opN1 rfl rfl rfl rfl rfl ?_
    refine G.opN1 rfl rfl rfl rfl rfl ?_
    refine G.opN1 rfl rfl rfl rfl rfl ?_
    refine G.opN1 rfl rfl rfl rfl rfl ?_
    refine G.opN1 rfl rfl rfl rfl rfl ?_
    refine G.opN1 rfl rfl rfl rfl rfl ?_
    refine G.op1 (op_pickF (Ev.t 8 (bB false)) (Ev.c _ rfl) rfl) rfl ⟨rfl, trivial⟩ trivial ?_
    refine G.op1 (op_assign (Ev.t 17 (bB false)) rfl) rfl ⟨rfl, trivial⟩ trivial ?_
    refine G.endOps ?_
    cases hF
    exact G.ret1 Try.results3 (RVar.tmp 6 _) ⟨rfl, trivial⟩ trivial


end Go.Ark
