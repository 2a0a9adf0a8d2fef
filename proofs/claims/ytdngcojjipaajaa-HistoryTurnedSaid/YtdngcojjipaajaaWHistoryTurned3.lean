/- Walks, printed by a program of mine: each function of the program computes the typed function of its name. Conditions: none. -/
import Derived.Test.YtdngcojjipaajaaWHistoryTurned2
namespace Go.Ark
open Go Go.Ab Go.RowKit Go.Lib Go.Proofs

set_option maxRecDepth 20000 in
set_option maxHeartbeats 2000000 in
theorem ct_ref20_Same (a_0 : (List Api_Event)) (b_1 : (List Api_Event)) (r : Bool) (hF : ref20_Same a_0 b_1 = some r) : Ct Try.prog 19 [.g (.d (.sl 6 (List.map encApi_Event a_0))), .g (.d (.sl 6 (List.map encApi_Event b_1)))] (.one (.d (vB r))) := by
  unfold ref20_Same at hF
  refine Ct.intro Try.func19 rfl Try.ntmps19 rfl rfl fun M w => ?_
  refine G.seq ?_
  refine G.region ?_
  refine G.op1 (op_assign (Ev.c _ rfl) rfl) rfl trivial trivial ?_
  refine G.endOps ?_
  refine G.seq ?_
  refine G.seq ?_
  refine G.region ?_
  refine G.op1 (op_move (Ev.t 0 (.g (.d (.sl 6 (List.map encApi_Event a_0))))) rfl) rfl ⟨rfl, trivial⟩ trivial ?_
  refine G.op1 (OpL.cast (op_lenD Try.underlying24 (Ev.t 7 (.g (.d (.sl 6 (List.map encApi_Event a_0))))) rfl) (by rw [List.length_map])) rfl ⟨rfl, trivial⟩ trivial ?_
  refine G.op1 (op_move (Ev.t 1 (.g (.d (.sl 6 (List.map encApi_Event b_1))))) rfl) rfl ⟨rfl, trivial⟩ trivial ?_
  refine G.op1 (OpL.cast (op_lenD Try.underlying24 (Ev.t 9 (.g (.d (.sl 6 (List.map encApi_Event b_1))))) rfl) (by rw [List.length_map])) rfl ⟨rfl, trivial⟩ trivial ?_
  refine G.op1 (op_neI (Ev.t 8 (bI .i64 (a_0.length : Int))) (Ev.t 10 (bI .i64 (b_1.length : Int))) rfl) rfl ⟨rfl, rfl, trivial⟩ trivial ?_
  refine G.endOps ?_
  refine ifS hF (fun hc1 hF => ?_) (fun hc1 hF => ?_)
  · refine G.cond rfl (fun _ => ?_) (fun hx => by rw [hc1] at hx; cases hx)
    refine G.seq ?_
    refine G.region ?_
    refine G.op1 (op_assign (Ev.c _ rfl) rfl) rfl trivial trivial ?_
    refine G.endOps ?_
    cases hF
    exact G.ret1 Try.results19 (RVar.tmp 4 _) ⟨rfl, trivial⟩ trivial
  · refine G.cond rfl (fun hx => by rw [hc1] at hx; cases hx) (fun _ => ?_)
    refine G.skip ?_
    refine G.seq ?_
    refine G.seq ?_
    refine G.region ?_
    refine G.op1 (op_assign (Ev.c _ rfl) rfl) rfl trivial trivial ?_
    refine G.endOps ?_
    refine G.joinC (T := Unit) (fun y2 => ⟨[], []⟩) (fun y2 => ref20_Same_k1 y2 = some r) (fun y2 hF => ?_) (fun J3 => ?_)
    · unfold ref20_Same_k1 at hF
      refine G.seq ?_
      refine G.region ?_
      refine G.op1 (op_assign (Ev.c _ rfl) rfl) rfl trivial trivial ?_
      refine G.endOps ?_
      cases hF
      exact G.ret1 Try.results19 (RVar.tmp 4 _) ⟨rfl, trivial⟩ trivial
    refine G.block ?_
    refine G.keep (sl' := [(0, .one (.g (.d (.sl 6 (List.map encApi_Event a_0))))), (1, .one (.g (.d (.sl 6 (List.map encApi_Event b_1))))), (5, oI 0)]) (hp' := []) ⟨rfl, rfl, rfl, trivial⟩ trivial rfl ?_
    refine G.loopF (fun (v4 : Int) => ⟨[(0, .one (.g (.d (.sl 6 (List.map encApi_Event a_0))))), (1, .one (.g (.d (.sl 6 (List.map encApi_Event b_1))))), (5, oI v4)], []⟩) hF rfl (fun K7 again6 v4 J5 hF => ?_)
    unfold ref20_Same_l2 at hF
    refine G.seq ?_
    refine G.seq ?_
    refine G.region ?_
    refine G.op1 (op_move (Ev.t 5 (bI .i64 v4)) rfl) rfl ⟨rfl, trivial⟩ trivial ?_
    refine G.op1 (op_move (Ev.t 0 (.g (.d (.sl 6 (List.map encApi_Event a_0))))) rfl) rfl ⟨rfl, trivial⟩ trivial ?_
    refine G.op1 (OpL.cast (op_lenD Try.underlying24 (Ev.t 13 (.g (.d (.sl 6 (List.map encApi_Event a_0))))) rfl) (by rw [List.length_map])) rfl ⟨rfl, trivial⟩ trivial ?_
    refine G.op1 (op_lss (Ev.t 12 (bI .i64 v4)) (Ev.t 14 (bI .i64 (a_0.length : Int))) rfl) rfl ⟨rfl, rfl, trivial⟩ trivial ?_
    refine G.endOps ?_
    refine ifS hF (fun hc8 hF => ?_) (fun hc8 hF => ?_)
    · refine G.cond rfl (fun _ => ?_) (fun hx => by rw [hc8] at hx; cases hx)
      refine G.skip ?_
      refine G.seq ?_
      refine G.block ?_
      refine G.seq ?_
      obtain ⟨x9, hx9, hF⟩ := bindS hF
      obtain ⟨x10, hx10, hF⟩ := bindS hF
      obtain ⟨r11, hr11, hF⟩ := bindS hF
      refine G.drawnI (deps := [[], [], [0, 1], [0, 1, 2], [0, 1, 2, 3], [], [], [5, 6], [5, 6, 7], [5, 6, 7, 8], [0, 1, 2, 3, 4, 5, 6, 7, 8, 9], [0, 1, 2, 3, 4, 5, 6, 7, 8, 9, 10]]) (sl' := [(0, .one (.g (.d (.sl 6 (List.map encApi_Event a_0))))), (1, .one (.g (.d (.sl 6 (List.map encApi_Event b_1))))), (5, oI v4), (6, oB r11)]) (hp' := []) (.c (oP rfl rfl (op_move (Ev.t 0 (.g (.d (.sl 6 (List.map encApi_Event a_0))))) rfl)) (.c (oP rfl rfl (op_move (Ev.t 5 (bI .i64 v4)) rfl)) (.c (oP rfl rfl (op_index (cs := [vI x9.Kind, vI x9.Client, vS x9.Key, vI x9.Stamp.N, vI x9.Stamp.Site, .sl 3 (List.map encApi_Dep x9.Seen)]) Try.underlying24 ti30 (idx_ok hx9).1 (idx_get hx9 encApi_Event) (Ev.t 18 (.g (.d (.sl 6 (List.map encApi_Event a_0))))) (Ev.t 19 (bI .i64 v4)) rfl)) (.c (oP rfl rfl (op_fieldE (cs' := [.sl 3 (List.map encApi_Dep x9.Seen)]) Try.underlying30 rfl ti28 (by decide) rfl (Ev.t 20 (.ep [vI x9.Kind, vI x9.Client, vS x9.Key, vI x9.Stamp.N, vI x9.Stamp.Site, .sl 3 (List.map encApi_Dep x9.Seen)])) rfl)) (.c (oP rfl rfl (op_load1E (c := .sl 3 (List.map encApi_Dep x9.Seen)) Try.underlying28 rfl rfl (Ev.t 21 (.ep [.sl 3 (List.map encApi_Dep x9.Seen)])) rfl)) (.c (oP rfl rfl (op_move (Ev.t 1 (.g (.d (.sl 6 (List.map encApi_Event b_1))))) rfl)) (.c (oP rfl rfl (op_move (Ev.t 5 (bI .i64 v4)) rfl)) (.c (oP rfl rfl (op_index (cs := [vI x10.Kind, vI x10.Client, vS x10.Key, vI x10.Stamp.N, vI x10.Stamp.Site, .sl 3 (List.map encApi_Dep x10.Seen)]) Try.underlying24 ti30 (idx_ok hx10).1 (idx_get hx10 encApi_Event) (Ev.t 23 (.g (.d (.sl 6 (List.map encApi_Event b_1))))) (Ev.t 24 (bI .i64 v4)) rfl)) (.c (oP rfl rfl (op_fieldE (cs' := [.sl 3 (List.map encApi_Dep x10.Seen)]) Try.underlying30 rfl ti28 (by decide) rfl (Ev.t 25 (.ep [vI x10.Kind, vI x10.Client, vS x10.Key, vI x10.Stamp.N, vI x10.Stamp.Site, .sl 3 (List.map encApi_Dep x10.Seen)])) rfl)) (.c (oP rfl rfl (op_load1E (c := .sl 3 (List.map encApi_Dep x10.Seen)) Try.underlying28 rfl rfl (Ev.t 26 (.ep [.sl 3 (List.map encApi_Dep x10.Seen)])) rfl)) (.c (oP rfl rfl (op_callQ (sv := oB r11) cf32 (ct_ref04_Same x9.Seen x10.Seen r11 hr11) rfl rfl (EvQL.cons (EvQ.g (Ev.t 22 (.g (.d (.sl 3 (List.map encApi_Dep x9.Seen)))))) (EvQL.cons (EvQ.g (Ev.t 27 (.g (.d (.sl 3 (List.map encApi_Dep x10.Seen)))))) EvQL.nil)) rfl)) (.c (oP rfl rfl (op_assign (Ev.t 28 (bB r11)) rfl)) .nil)))))))))))) follows rfl rfl rfl ⟨⟨rfl, trivial⟩, trivial, ⟨rfl, trivial⟩, trivial, ⟨rfl, rfl, trivial⟩, trivial, ⟨rfl, trivial⟩, trivial, ⟨rfl, trivial⟩, trivial, ⟨rfl, trivial⟩, trivial, ⟨rfl, trivial⟩, trivial, ⟨rfl, rfl, trivial⟩, trivial, ⟨rfl, trivial⟩, trivial, ⟨rfl, trivial⟩, trivial, ⟨rfl, rfl, trivial⟩, trivial, ⟨rfl, trivial⟩, trivial, trivial⟩ ⟨rfl, rfl, rfl, rfl, trivial⟩ trivial rfl ?_
      refine G.seq ?_
      refine ifS hF (fun hc12 hF => ?_) (fun hc12 hF => ?_)
      · refine G.drawnI (deps := ([] :: [0] :: [0, 1] :: [0, 1, 2] :: [0, 1, 2] :: [0, 1, 2, 3, 4] :: [0, 1, 2, 3, 4, 5] :: [0, 1, 2, 3, 4, 5, 6] :: [0, 1, 2] :: [0, 1, 2] :: [0, 1, 2, 8, 9] :: [0, 1, 2, 8, 9, 10] :: [0, 1, 2, 8, 9, 10, 11] :: [0, 1, 2, 3, 4, 5, 6, 7, 8, 9, 10, 11, 12] :: [0, 1, 2, 3, 4, 5, 6, 7, 8, 9, 10, 11, 12, 13] :: [0, 1, 2, 3, 4, 5, 6, 7, 8, 9, 10, 11, 12, 13, 14] :: [0, 1, 2, 3, 4, 5, 6, 7, 8, 9, 10, 11, 12, 13, 14, 15] :: [0, 1, 2, 3, 4, 5, 6, 7, 8, 9, 10, 11, 12, 13, 14, 15] :: [0, 1, 2, 3, 4, 5, 6, 7, 8, 9, 10, 11, 12, 13, 14, 15, 16, 17] :: [0, 1, 2, 3, 4, 5, 6, 7, 8, 9, 10, 11, 12, 13, 14, 15, 16, 17, 18] :: [0, 1, 2, 3, 4, 5, 6, 7, 8, 9, 10, 11, 12, 13, 14, 15, 16, 17, 18, 19] :: [0, 1, 2, 3, 4, 5, 6, 7, 8, 9, 10, 11, 12, 13, 14, 15] :: [0, 1, 2, 3, 4, 5, 6, 7, 8, 9, 10, 11, 12, 13, 14, 15] :: [0, 1, 2, 3, 4, 5, 6, 7, 8, 9, 10, 11, 12, 13, 14, 15, 21, 22] :: [0, 1, 2, 3, 4, 5, 6, 7, 8, 9, 10, 11, 12, 13, 14, 15, 21, 22, 23] :: [0, 1, 2, 3, 4, 5, 6, 7, 8, 9, 10, 11, 12, 13, 14, 15, 21, 22, 23, 24] :: (0 :: 1 :: 2 :: 3 :: 4 :: 5 :: 6 :: 7 :: 8 :: 9 :: 10 :: 11 :: 12 :: 13 :: 14 :: 15 :: 16 :: 17 :: 18 :: 19 :: 20 :: 21 :: 22 :: 23 :: 24 :: 25 :: []) :: (0 :: 1 :: 2 :: 3 :: 4 :: 5 :: 6 :: 7 :: 8 :: 9 :: 10 :: 11 :: 12 :: 13 :: 14 :: 15 :: 16 :: 17 :: 18 :: 19 :: 20 :: 21 :: 22 :: 23 :: 24 :: 25 :: 26 :: []) :: (0 :: 1 :: 2 :: 3 :: 4 :: 5 :: 6 :: 7 :: 8 :: 9 :: 10 :: 11 :: 12 :: 13 :: 14 :: 15 :: 16 :: 17 :: 18 :: 19 :: 20 :: 21 :: 22 :: 23 :: 24 :: 25 :: 26 :: 27 :: []) :: (0 :: 1 :: 2 :: 3 :: 4 :: 5 :: 6 :: 7 :: 8 :: 9 :: 10 :: 11 :: 12 :: 13 :: 14 :: 15 :: 16 :: 17 :: 18 :: 19 :: 20 :: 21 :: 22 :: 23 :: 24 :: 25 :: 26 :: 27 :: 28 :: []) :: (0 :: 1 :: 2 :: 3 :: 4 :: 5 :: 6 :: 7 :: 8 :: 9 :: 10 :: 11 :: 12 :: 13 :: 14 :: 15 :: 16 :: 17 :: 18 :: 19 :: 20 :: 21 :: 22 :: 23 :: 24 :: 25 :: 26 :: 27 :: 28 :: []) :: (0 :: 1 :: 2 :: 3 :: 4 :: 5 :: 6 :: 7 :: 8 :: 9 :: 10 :: 11 :: 12 :: 13 :: 14 :: 15 :: 16 :: 17 :: 18 :: 19 :: 20 :: 21 :: 22 :: 23 :: 24 :: 25 :: 26 :: 27 :: 28 :: 29 :: 30 :: []) :: (0 :: 1 :: 2 :: 3 :: 4 :: 5 :: 6 :: 7 :: 8 :: 9 :: 10 :: 11 :: 12 :: 13 :: 14 :: 15 :: 16 :: 17 :: 18 :: 19 :: 20 :: 21 :: 22 :: 23 :: 24 :: 25 :: 26 :: 27 :: 28 :: 29 :: 30 :: 31 :: []) :: (0 :: 1 :: 2 :: 3 :: 4 :: 5 :: 6 :: 7 :: 8 :: 9 :: 10 :: 11 :: 12 :: 13 :: 14 :: 15 :: 16 :: 17 :: 18 :: 19 :: 20 :: 21 :: 22 :: 23 :: 24 :: 25 :: 26 :: 27 :: 28 :: 29 :: 30 :: 31 :: 32 :: []) :: (0 :: 1 :: 2 :: 3 :: 4 :: 5 :: 6 :: 7 :: 8 :: 9 :: 10 :: 11 :: 12 :: 13 :: 14 :: 15 :: 16 :: 17 :: 18 :: 19 :: 20 :: 21 :: 22 :: 23 :: 24 :: 25 :: 26 :: 27 :: 28 :: []) :: (0 :: 1 :: 2 :: 3 :: 4 :: 5 :: 6 :: 7 :: 8 :: 9 :: 10 :: 11 :: 12 :: 13 :: 14 :: 15 :: 16 :: 17 :: 18 :: 19 :: 20 :: 21 :: 22 :: 23 :: 24 :: 25 :: 26 :: 27 :: 28 :: []) :: (0 :: 1 :: 2 :: 3 :: 4 :: 5 :: 6 :: 7 :: 8 :: 9 :: 10 :: 11 :: 12 :: 13 :: 14 :: 15 :: 16 :: 17 :: 18 :: 19 :: 20 :: 21 :: 22 :: 23 :: 24 :: 25 :: 26 :: 27 :: 28 :: 34 :: 35 :: []) :: (0 :: 1 :: 2 :: 3 :: 4 :: 5 :: 6 :: 7 :: 8 :: 9 :: 10 :: 11 :: 12 :: 13 :: 14 :: 15 :: 16 :: 17 :: 18 :: 19 :: 20 :: 21 :: 22 :: 23 :: 24 :: 25 :: 26 :: 27 :: 28 :: 34 :: 35 :: 36 :: []) :: (0 :: 1 :: 2 :: 3 :: 4 :: 5 :: 6 :: 7 :: 8 :: 9 :: 10 :: 11 :: 12 :: 13 :: 14 :: 15 :: 16 :: 17 :: 18 :: 19 :: 20 :: 21 :: 22 :: 23 :: 24 :: 25 :: 26 :: 27 :: 28 :: 34 :: 35 :: 36 :: 37 :: []) :: (0 :: 1 :: 2 :: 3 :: 4 :: 5 :: 6 :: 7 :: 8 :: 9 :: 10 :: 11 :: 12 :: 13 :: 14 :: 15 :: 16 :: 17 :: 18 :: 19 :: 20 :: 21 :: 22 :: 23 :: 24 :: 25 :: 26 :: 27 :: 28 :: 29 :: 30 :: 31 :: 32 :: 33 :: 34 :: 35 :: 36 :: 37 :: 38 :: []) :: (0 :: 1 :: 2 :: 3 :: 4 :: 5 :: 6 :: 7 :: 8 :: 9 :: 10 :: 11 :: 12 :: 13 :: 14 :: 15 :: 16 :: 17 :: 18 :: 19 :: 20 :: 21 :: 22 :: 23 :: 24 :: 25 :: 26 :: 27 :: 28 :: 29 :: 30 :: 31 :: 32 :: 33 :: 34 :: 35 :: 36 :: 37 :: 38 :: 39 :: []) :: (0 :: 1 :: 2 :: 3 :: 4 :: 5 :: 6 :: 7 :: 8 :: 9 :: 10 :: 11 :: 12 :: 13 :: 14 :: 15 :: 16 :: 17 :: 18 :: 19 :: 20 :: 21 :: 22 :: 23 :: 24 :: 25 :: 26 :: 27 :: 28 :: 29 :: 30 :: 31 :: 32 :: 33 :: 34 :: 35 :: 36 :: 37 :: 38 :: 39 :: 40 :: []) :: (0 :: 1 :: 2 :: 3 :: 4 :: 5 :: 6 :: 7 :: 8 :: 9 :: 10 :: 11 :: 12 :: 13 :: 14 :: 15 :: 16 :: 17 :: 18 :: 19 :: 20 :: 21 :: 22 :: 23 :: 24 :: 25 :: 26 :: 27 :: 28 :: 29 :: 30 :: 31 :: 32 :: 33 :: 34 :: 35 :: 36 :: 37 :: 38 :: 39 :: 40 :: 41 :: []) :: (0 :: 1 :: 2 :: 3 :: 4 :: 5 :: 6 :: 7 :: 8 :: 9 :: 10 :: 11 :: 12 :: 13 :: 14 :: 15 :: 16 :: 17 :: 18 :: 19 :: 20 :: 21 :: 22 :: 23 :: 24 :: 25 :: 26 :: 27 :: 28 :: 29 :: 30 :: 31 :: 32 :: 33 :: 34 :: 35 :: 36 :: 37 :: 38 :: 39 :: 40 :: 41 :: []) :: (0 :: 1 :: 2 :: 3 :: 4 :: 5 :: 6 :: 7 :: 8 :: 9 :: 10 :: 11 :: 12 :: 13 :: 14 :: 15 :: 16 :: 17 :: 18 :: 19 :: 20 :: 21 :: 22 :: 23 :: 24 :: 25 :: 26 :: 27 :: 28 :: 29 :: 30 :: 31 :: 32 :: 33 :: 34 :: 35 :: 36 :: 37 :: 38 :: 39 :: 40 :: 41 :: 42 :: 43 :: []) :: (0 :: 1 :: 2 :: 3 :: 4 :: 5 :: 6 :: 7 :: 8 :: 9 :: 10 :: 11 :: 12 :: 13 :: 14 :: 15 :: 16 :: 17 :: 18 :: 19 :: 20 :: 21 :: 22 :: 23 :: 24 :: 25 :: 26 :: 27 :: 28 :: 29 :: 30 :: 31 :: 32 :: 33 :: 34 :: 35 :: 36 :: 37 :: 38 :: 39 :: 40 :: 41 :: 42 :: 43 :: 44 :: []) :: (0 :: 1 :: 2 :: 3 :: 4 :: 5 :: 6 :: 7 :: 8 :: 9 :: 10 :: 11 :: 12 :: 13 :: 14 :: 15 :: 16 :: 17 :: 18 :: 19 :: 20 :: 21 :: 22 :: 23 :: 24 :: 25 :: 26 :: 27 :: 28 :: 29 :: 30 :: 31 :: 32 :: 33 :: 34 :: 35 :: 36 :: 37 :: 38 :: 39 :: 40 :: 41 :: 42 :: 43 :: 44 :: 45 :: []) :: (0 :: 1 :: 2 :: 3 :: 4 :: 5 :: 6 :: 7 :: 8 :: 9 :: 10 :: 11 :: 12 :: 13 :: 14 :: 15 :: 16 :: 17 :: 18 :: 19 :: 20 :: 21 :: 22 :: 23 :: 24 :: 25 :: 26 :: 27 :: 28 :: 29 :: 30 :: 31 :: 32 :: 33 :: 34 :: 35 :: 36 :: 37 :: 38 :: 39 :: 40 :: 41 :: []) :: (0 :: 1 :: 2 :: 3 :: 4 :: 5 :: 6 :: 7 :: 8 :: 9 :: 10 :: 11 :: 12 :: 13 :: 14 :: 15 :: 16 :: 17 :: 18 :: 19 :: 20 :: 21 :: 22 :: 23 :: 24 :: 25 :: 26 :: 27 :: 28 :: 29 :: 30 :: 31 :: 32 :: 33 :: 34 :: 35 :: 36 :: 37 :: 38 :: 39 :: 40 :: 41 :: []) :: (0 :: 1 :: 2 :: 3 :: 4 :: 5 :: 6 :: 7 :: 8 :: 9 :: 10 :: 11 :: 12 :: 13 :: 14 :: 15 :: 16 :: 17 :: 18 :: 19 :: 20 :: 21 :: 22 :: 23 :: 24 :: 25 :: 26 :: 27 :: 28 :: 29 :: 30 :: 31 :: 32 :: 33 :: 34 :: 35 :: 36 :: 37 :: 38 :: 39 :: 40 :: 41 :: 47 :: 48 :: []) :: (0 :: 1 :: 2 :: 3 :: 4 :: 5 :: 6 :: 7 :: 8 :: 9 :: 10 :: 11 :: 12 :: 13 :: 14 :: 15 :: 16 :: 17 :: 18 :: 19 :: 20 :: 21 :: 22 :: 23 :: 24 :: 25 :: 26 :: 27 :: 28 :: 29 :: 30 :: 31 :: 32 :: 33 :: 34 :: 35 :: 36 :: 37 :: 38 :: 39 :: 40 :: 41 :: 47 :: 48 :: 49 :: []) :: (0 :: 1 :: 2 :: 3 :: 4 :: 5 :: 6 :: 7 :: 8 :: 9 :: 10 :: 11 :: 12 :: 13 :: 14 :: 15 :: 16 :: 17 :: 18 :: 19 :: 20 :: 21 :: 22 :: 23 :: 24 :: 25 :: 26 :: 27 :: 28 :: 29 :: 30 :: 31 :: 32 :: 33 :: 34 :: 35 :: 36 :: 37 :: 38 :: 39 :: 40 :: 41 :: 47 :: 48 :: 49 :: 50 :: []) :: (0 :: 1 :: 2 :: 3 :: 4 :: 5 :: 6 :: 7 :: 8 :: 9 :: 10 :: 11 :: 12 :: 13 :: 14 :: 15 :: 16 :: 17 :: 18 :: 19 :: 20 :: 21 :: 22 :: 23 :: 24 :: 25 :: 26 :: 27 :: 28 :: 29 :: 30 :: 31 :: 32 :: 33 :: 34 :: 35 :: 36 :: 37 :: 38 :: 39 :: 40 :: 41 :: 42 :: 43 :: 44 :: 45 :: 46 :: 47 :: 48 :: 49 :: 50 :: 51 :: []) :: (0 :: 1 :: 2 :: 3 :: 4 :: 5 :: 6 :: 7 :: 8 :: 9 :: 10 :: 11 :: 12 :: 13 :: 14 :: 15 :: 16 :: 17 :: 18 :: 19 :: 20 :: 21 :: 22 :: 23 :: 24 :: 25 :: 26 :: 27 :: 28 :: 29 :: 30 :: 31 :: 32 :: 33 :: 34 :: 35 :: 36 :: 37 :: 38 :: 39 :: 40 :: 41 :: 42 :: 43 :: 44 :: 45 :: 46 :: 47 :: 48 :: 49 :: 50 :: 51 :: 52 :: []) :: [])) (sl' := [(0, .one (.g (.d (.sl 6 (List.map encApi_Event a_0))))), (1, .one (.g (.d (.sl 6 (List.map encApi_Event b_1))))), (5, oI v4), (82, oB true)]) (hp' := []) (.c (oP rfl rfl (op_move (Ev.t 6 (bB r11)) rfl)) (.c (oP rfl rfl (OpL.cast (op_not (Ev.t 29 (bB r11)) rfl) (congrArg (fun b => bB b) hc12))) (.c (oP rfl rfl (op_move (Ev.t 30 (bB true)) rfl)) (.c (OpW.no rfl rfl rfl rfl rfl) (.c (OpW.no rfl rfl rfl rfl rfl) (.c (OpW.no rfl rfl rfl rfl rfl) (.c (OpW.no rfl rfl rfl rfl rfl) (.c (OpW.no rfl rfl rfl rfl rfl) (.c (OpW.no rfl rfl rfl rfl rfl) (.c (OpW.no rfl rfl rfl rfl rfl) (.c (OpW.no rfl rfl rfl rfl rfl) (.c (OpW.no rfl rfl rfl rfl rfl) (.c (OpW.no rfl rfl rfl rfl rfl) (.c (OpW.no rfl rfl rfl rfl rfl) (.c (oP rfl rfl (op_pickT (Ev.t 31 (bB true)) (Ev.c _ rfl) rfl)) (.c (oP rfl rfl (op_move (Ev.t 43 (bB true)) rfl)) (.c (OpW.no rfl rfl rfl rfl rfl) (.c (OpW.no rfl rfl rfl rfl rfl) (.c (OpW.no rfl rfl rfl rfl rfl) (.c (OpW.no rfl rfl rfl rfl rfl) (.c (OpW.no rfl rfl rfl rfl rfl) (.c (OpW.no rfl rfl rfl rfl rfl) (.c (OpW.no rfl rfl rfl rfl rfl) (.c (OpW.no rfl rfl rfl rfl rfl) (.c (OpW.no rfl rfl rfl rfl rfl) (.c (OpW.no rfl rfl rfl rfl rfl) (.c (OpW.no rfl rfl rfl rfl rfl) (.c (oP rfl rfl (op_pickT (Ev.t 44 (bB true)) (Ev.c _ rfl) rfl)) (.c (oP rfl rfl (op_move (Ev.t 56 (bB true)) rfl)) (.c (OpW.no rfl rfl rfl rfl rfl) (.c (OpW.no rfl rfl rfl rfl rfl) (.c (OpW.no rfl rfl rfl rfl rfl) (.c (OpW.no rfl rfl rfl rfl rfl) (.c (OpW.no rfl rfl rfl rfl rfl) (.c (OpW.no rfl rfl rfl rfl rfl) (.c (OpW.no rfl rfl rfl rfl rfl) (.c (OpW.no rfl rfl rfl rfl rfl) (.c (OpW.no rfl rfl rfl rfl rfl) (.c (OpW.no rfl rfl rfl rfl rfl) (.c (OpW.no rfl rfl rfl rfl rfl) (.c (oP rfl rfl (op_pickT (Ev.t 57 (bB true)) (Ev.c _ rfl) rfl)) (.c (oP rfl rfl (op_move (Ev.t 69 (bB true)) rfl)) (.c (OpW.no rfl rfl rfl rfl rfl) (.c (OpW.no rfl rfl rfl rfl rfl) (.c (OpW.no rfl rfl rfl rfl rfl) (.c (OpW.no rfl rfl rfl rfl rfl) (.c (OpW.no rfl rfl rfl rfl rfl) (.c (OpW.no rfl rfl rfl rfl rfl) (.c (OpW.no rfl rfl rfl rfl rfl) (.c (OpW.no rfl rfl rfl rfl rfl) (.c (OpW.no rfl rfl rfl rfl rfl) (.c (OpW.no rfl rfl rfl rfl rfl) (.c (OpW.no rfl rfl rfl rfl rfl) (.c (oP rfl rfl (op_pickT (Ev.t 70 (bB true)) (Ev.c _ rfl) rfl)) .nil)))))))))))))))))))))))))))))))))))))))))))))))))))))) follows rfl rfl rfl ⟨⟨rfl, trivial⟩, trivial, ⟨rfl, trivial⟩, trivial, ⟨rfl, trivial⟩, trivial, ⟨rfl, trivial⟩, trivial, ⟨rfl, trivial⟩, trivial, ⟨rfl, trivial⟩, trivial, ⟨rfl, trivial⟩, trivial, ⟨rfl, trivial⟩, trivial, ⟨rfl, trivial⟩, trivial, ⟨rfl, trivial⟩, trivial, ⟨rfl, trivial⟩, trivial, ⟨rfl, trivial⟩, trivial, ⟨rfl, trivial⟩, trivial, ⟨rfl, trivial⟩, trivial, ⟨rfl, trivial⟩, trivial, ⟨rfl, trivial⟩, trivial, ⟨rfl, trivial⟩, trivial, ⟨rfl, trivial⟩, trivial, ⟨rfl, trivial⟩, trivial, ⟨rfl, trivial⟩, trivial, ⟨rfl, trivial⟩, trivial, ⟨rfl, trivial⟩, trivial, ⟨rfl, trivial⟩, trivial, ⟨rfl, trivial⟩, trivial, ⟨rfl, trivial⟩, trivial, ⟨rfl, trivial⟩, trivial, ⟨rfl, trivial⟩, trivial, ⟨rfl, trivial⟩, trivial, ⟨rfl, trivial⟩, trivial, ⟨rfl, trivial⟩, trivial, ⟨rfl, trivial⟩, trivial, ⟨rfl, trivial⟩, trivial, ⟨rfl, trivial⟩, trivial, ⟨rfl, trivial⟩, trivial, ⟨rfl, trivial⟩, trivial, ⟨rfl, trivial⟩, trivial, ⟨rfl, trivial⟩, trivial, ⟨rfl, trivial⟩, trivial, ⟨rfl, trivial⟩, trivial, ⟨rfl, trivial⟩, trivial, ⟨rfl, trivial⟩, trivial, ⟨rfl, trivial⟩, trivial, ⟨rfl, trivial⟩, trivial, ⟨rfl, trivial⟩, trivial, ⟨rfl, trivial⟩, trivial, ⟨rfl, trivial⟩, trivial, ⟨rfl, trivial⟩, trivial, ⟨rfl, trivial⟩, trivial, ⟨rfl, trivial⟩, trivial, ⟨rfl, trivial⟩, trivial, ⟨rfl, trivial⟩, trivial, ⟨rfl, trivial⟩, trivial, ⟨rfl, trivial⟩, trivial, ⟨rfl, trivial⟩, trivial, trivial⟩ ⟨rfl, rfl, rfl, rfl, trivial⟩ trivial rfl ?_
        refine G.condT rfl ?_
        refine G.seq ?_
        refine G.region ?_
        refine G.op1 (op_assign (Ev.c _ rfl) rfl) rfl trivial trivial ?_
        refine G.endOps ?_
        cases hF
        exact G.ret1 Try.results19 (RVar.tmp 4 _) ⟨rfl, trivial⟩ trivial
      · obtain ⟨x13, hx13, hF⟩ := bindS hF
        obtain ⟨x14, hx14, hF⟩ := bindS hF
        refine ifS hF (fun hc15 hF => ?_) (fun hc15 hF => ?_)
        · refine G.drawnI (deps := ([] :: [0] :: [0, 1] :: [0, 1, 2] :: [0, 1, 2] :: [0, 1, 2, 3, 4] :: [0, 1, 2, 3, 4, 5] :: [0, 1, 2, 3, 4, 5, 6] :: [0, 1, 2] :: [0, 1, 2] :: [0, 1, 2, 8, 9] :: [0, 1, 2, 8, 9, 10] :: [0, 1, 2, 8, 9, 10, 11] :: [0, 1, 2, 3, 4, 5, 6, 7, 8, 9, 10, 11, 12] :: [0, 1, 2, 3, 4, 5, 6, 7, 8, 9, 10, 11, 12, 13] :: [0, 1, 2, 3, 4, 5, 6, 7, 8, 9, 10, 11, 12, 13, 14] :: [0, 1, 2, 3, 4, 5, 6, 7, 8, 9, 10, 11, 12, 13, 14, 15] :: [0, 1, 2, 3, 4, 5, 6, 7, 8, 9, 10, 11, 12, 13, 14, 15] :: [0, 1, 2, 3, 4, 5, 6, 7, 8, 9, 10, 11, 12, 13, 14, 15, 16, 17] :: [0, 1, 2, 3, 4, 5, 6, 7, 8, 9, 10, 11, 12, 13, 14, 15, 16, 17, 18] :: [0, 1, 2, 3, 4, 5, 6, 7, 8, 9, 10, 11, 12, 13, 14, 15, 16, 17, 18, 19] :: [0, 1, 2, 3, 4, 5, 6, 7, 8, 9, 10, 11, 12, 13, 14, 15] :: [0, 1, 2, 3, 4, 5, 6, 7, 8, 9, 10, 11, 12, 13, 14, 15] :: [0, 1, 2, 3, 4, 5, 6, 7, 8, 9, 10, 11, 12, 13, 14, 15, 21, 22] :: [0, 1, 2, 3, 4, 5, 6, 7, 8, 9, 10, 11, 12, 13, 14, 15, 21, 22, 23] :: [0, 1, 2, 3, 4, 5, 6, 7, 8, 9, 10, 11, 12, 13, 14, 15, 21, 22, 23, 24] :: (0 :: 1 :: 2 :: 3 :: 4 :: 5 :: 6 :: 7 :: 8 :: 9 :: 10 :: 11 :: 12 :: 13 :: 14 :: 15 :: 16 :: 17 :: 18 :: 19 :: 20 :: 21 :: 22 :: 23 :: 24 :: 25 :: []) :: (0 :: 1 :: 2 :: 3 :: 4 :: 5 :: 6 :: 7 :: 8 :: 9 :: 10 :: 11 :: 12 :: 13 :: 14 :: 15 :: 16 :: 17 :: 18 :: 19 :: 20 :: 21 :: 22 :: 23 :: 24 :: 25 :: 26 :: []) :: (0 :: 1 :: 2 :: 3 :: 4 :: 5 :: 6 :: 7 :: 8 :: 9 :: 10 :: 11 :: 12 :: 13 :: 14 :: 15 :: 16 :: 17 :: 18 :: 19 :: 20 :: 21 :: 22 :: 23 :: 24 :: 25 :: 26 :: 27 :: []) :: (0 :: 1 :: 2 :: 3 :: 4 :: 5 :: 6 :: 7 :: 8 :: 9 :: 10 :: 11 :: 12 :: 13 :: 14 :: 15 :: 16 :: 17 :: 18 :: 19 :: 20 :: 21 :: 22 :: 23 :: 24 :: 25 :: 26 :: 27 :: 28 :: []) :: (0 :: 1 :: 2 :: 3 :: 4 :: 5 :: 6 :: 7 :: 8 :: 9 :: 10 :: 11 :: 12 :: 13 :: 14 :: 15 :: 16 :: 17 :: 18 :: 19 :: 20 :: 21 :: 22 :: 23 :: 24 :: 25 :: 26 :: 27 :: 28 :: []) :: (0 :: 1 :: 2 :: 3 :: 4 :: 5 :: 6 :: 7 :: 8 :: 9 :: 10 :: 11 :: 12 :: 13 :: 14 :: 15 :: 16 :: 17 :: 18 :: 19 :: 20 :: 21 :: 22 :: 23 :: 24 :: 25 :: 26 :: 27 :: 28 :: 29 :: 30 :: []) :: (0 :: 1 :: 2 :: 3 :: 4 :: 5 :: 6 :: 7 :: 8 :: 9 :: 10 :: 11 :: 12 :: 13 :: 14 :: 15 :: 16 :: 17 :: 18 :: 19 :: 20 :: 21 :: 22 :: 23 :: 24 :: 25 :: 26 :: 27 :: 28 :: 29 :: 30 :: 31 :: []) :: (0 :: 1 :: 2 :: 3 :: 4 :: 5 :: 6 :: 7 :: 8 :: 9 :: 10 :: 11 :: 12 :: 13 :: 14 :: 15 :: 16 :: 17 :: 18 :: 19 :: 20 :: 21 :: 22 :: 23 :: 24 :: 25 :: 26 :: 27 :: 28 :: 29 :: 30 :: 31 :: 32 :: []) :: (0 :: 1 :: 2 :: 3 :: 4 :: 5 :: 6 :: 7 :: 8 :: 9 :: 10 :: 11 :: 12 :: 13 :: 14 :: 15 :: 16 :: 17 :: 18 :: 19 :: 20 :: 21 :: 22 :: 23 :: 24 :: 25 :: 26 :: 27 :: 28 :: []) :: (0 :: 1 :: 2 :: 3 :: 4 :: 5 :: 6 :: 7 :: 8 :: 9 :: 10 :: 11 :: 12 :: 13 :: 14 :: 15 :: 16 :: 17 :: 18 :: 19 :: 20 :: 21 :: 22 :: 23 :: 24 :: 25 :: 26 :: 27 :: 28 :: []) :: (0 :: 1 :: 2 :: 3 :: 4 :: 5 :: 6 :: 7 :: 8 :: 9 :: 10 :: 11 :: 12 :: 13 :: 14 :: 15 :: 16 :: 17 :: 18 :: 19 :: 20 :: 21 :: 22 :: 23 :: 24 :: 25 :: 26 :: 27 :: 28 :: 34 :: 35 :: []) :: (0 :: 1 :: 2 :: 3 :: 4 :: 5 :: 6 :: 7 :: 8 :: 9 :: 10 :: 11 :: 12 :: 13 :: 14 :: 15 :: 16 :: 17 :: 18 :: 19 :: 20 :: 21 :: 22 :: 23 :: 24 :: 25 :: 26 :: 27 :: 28 :: 34 :: 35 :: 36 :: []) :: (0 :: 1 :: 2 :: 3 :: 4 :: 5 :: 6 :: 7 :: 8 :: 9 :: 10 :: 11 :: 12 :: 13 :: 14 :: 15 :: 16 :: 17 :: 18 :: 19 :: 20 :: 21 :: 22 :: 23 :: 24 :: 25 :: 26 :: 27 :: 28 :: 34 :: 35 :: 36 :: 37 :: []) :: (0 :: 1 :: 2 :: 3 :: 4 :: 5 :: 6 :: 7 :: 8 :: 9 :: 10 :: 11 :: 12 :: 13 :: 14 :: 15 :: 16 :: 17 :: 18 :: 19 :: 20 :: 21 :: 22 :: 23 :: 24 :: 25 :: 26 :: 27 :: 28 :: 29 :: 30 :: 31 :: 32 :: 33 :: 34 :: 35 :: 36 :: 37 :: 38 :: []) :: (0 :: 1 :: 2 :: 3 :: 4 :: 5 :: 6 :: 7 :: 8 :: 9 :: 10 :: 11 :: 12 :: 13 :: 14 :: 15 :: 16 :: 17 :: 18 :: 19 :: 20 :: 21 :: 22 :: 23 :: 24 :: 25 :: 26 :: 27 :: 28 :: 29 :: 30 :: 31 :: 32 :: 33 :: 34 :: 35 :: 36 :: 37 :: 38 :: 39 :: []) :: (0 :: 1 :: 2 :: 3 :: 4 :: 5 :: 6 :: 7 :: 8 :: 9 :: 10 :: 11 :: 12 :: 13 :: 14 :: 15 :: 16 :: 17 :: 18 :: 19 :: 20 :: 21 :: 22 :: 23 :: 24 :: 25 :: 26 :: 27 :: 28 :: 29 :: 30 :: 31 :: 32 :: 33 :: 34 :: 35 :: 36 :: 37 :: 38 :: 39 :: 40 :: []) :: (0 :: 1 :: 2 :: 3 :: 4 :: 5 :: 6 :: 7 :: 8 :: 9 :: 10 :: 11 :: 12 :: 13 :: 14 :: 15 :: 16 :: 17 :: 18 :: 19 :: 20 :: 21 :: 22 :: 23 :: 24 :: 25 :: 26 :: 27 :: 28 :: 29 :: 30 :: 31 :: 32 :: 33 :: 34 :: 35 :: 36 :: 37 :: 38 :: 39 :: 40 :: 41 :: []) :: (0 :: 1 :: 2 :: 3 :: 4 :: 5 :: 6 :: 7 :: 8 :: 9 :: 10 :: 11 :: 12 :: 13 :: 14 :: 15 :: 16 :: 17 :: 18 :: 19 :: 20 :: 21 :: 22 :: 23 :: 24 :: 25 :: 26 :: 27 :: 28 :: 29 :: 30 :: 31 :: 32 :: 33 :: 34 :: 35 :: 36 :: 37 :: 38 :: 39 :: 40 :: 41 :: []) :: (0 :: 1 :: 2 :: 3 :: 4 :: 5 :: 6 :: 7 :: 8 :: 9 :: 10 :: 11 :: 12 :: 13 :: 14 :: 15 :: 16 :: 17 :: 18 :: 19 :: 20 :: 21 :: 22 :: 23 :: 24 :: 25 :: 26 :: 27 :: 28 :: 29 :: 30 :: 31 :: 32 :: 33 :: 34 :: 35 :: 36 :: 37 :: 38 :: 39 :: 40 :: 41 :: 42 :: 43 :: []) :: (0 :: 1 :: 2 :: 3 :: 4 :: 5 :: 6 :: 7 :: 8 :: 9 :: 10 :: 11 :: 12 :: 13 :: 14 :: 15 :: 16 :: 17 :: 18 :: 19 :: 20 :: 21 :: 22 :: 23 :: 24 :: 25 :: 26 :: 27 :: 28 :: 29 :: 30 :: 31 :: 32 :: 33 :: 34 :: 35 :: 36 :: 37 :: 38 :: 39 :: 40 :: 41 :: 42 :: 43 :: 44 :: []) :: (0 :: 1 :: 2 :: 3 :: 4 :: 5 :: 6 :: 7 :: 8 :: 9 :: 10 :: 11 :: 12 :: 13 :: 14 :: 15 :: 16 :: 17 :: 18 :: 19 :: 20 :: 21 :: 22 :: 23 :: 24 :: 25 :: 26 :: 27 :: 28 :: 29 :: 30 :: 31 :: 32 :: 33 :: 34 :: 35 :: 36 :: 37 :: 38 :: 39 :: 40 :: 41 :: 42 :: 43 :: 44 :: 45 :: []) :: (0 :: 1 :: 2 :: 3 :: 4 :: 5 :: 6 :: 7 :: 8 :: 9 :: 10 :: 11 :: 12 :: 13 :: 14 :: 15 :: 16 :: 17 :: 18 :: 19 :: 20 :: 21 :: 22 :: 23 :: 24 :: 25 :: 26 :: 27 :: 28 :: 29 :: 30 :: 31 :: 32 :: 33 :: 34 :: 35 :: 36 :: 37 :: 38 :: 39 :: 40 :: 41 :: []) :: (0 :: 1 :: 2 :: 3 :: 4 :: 5 :: 6 :: 7 :: 8 :: 9 :: 10 :: 11 :: 12 :: 13 :: 14 :: 15 :: 16 :: 17 :: 18 :: 19 :: 20 :: 21 :: 22 :: 23 :: 24 :: 25 :: 26 :: 27 :: 28 :: 29 :: 30 :: 31 :: 32 :: 33 :: 34 :: 35 :: 36 :: 37 :: 38 :: 39 :: 40 :: 41 :: []) :: (0 :: 1 :: 2 :: 3 :: 4 :: 5 :: 6 :: 7 :: 8 :: 9 :: 10 :: 11 :: 12 :: 13 :: 14 :: 15 :: 16 :: 17 :: 18 :: 19 :: 20 :: 21 :: 22 :: 23 :: 24 :: 25 :: 26 :: 27 :: 28 :: 29 :: 30 :: 31 :: 32 :: 33 :: 34 :: 35 :: 36 :: 37 :: 38 :: 39 :: 40 :: 41 :: 47 :: 48 :: []) :: (0 :: 1 :: 2 :: 3 :: 4 :: 5 :: 6 :: 7 :: 8 :: 9 :: 10 :: 11 :: 12 :: 13 :: 14 :: 15 :: 16 :: 17 :: 18 :: 19 :: 20 :: 21 :: 22 :: 23 :: 24 :: 25 :: 26 :: 27 :: 28 :: 29 :: 30 :: 31 :: 32 :: 33 :: 34 :: 35 :: 36 :: 37 :: 38 :: 39 :: 40 :: 41 :: 47 :: 48 :: 49 :: []) :: (0 :: 1 :: 2 :: 3 :: 4 :: 5 :: 6 :: 7 :: 8 :: 9 :: 10 :: 11 :: 12 :: 13 :: 14 :: 15 :: 16 :: 17 :: 18 :: 19 :: 20 :: 21 :: 22 :: 23 :: 24 :: 25 :: 26 :: 27 :: 28 :: 29 :: 30 :: 31 :: 32 :: 33 :: 34 :: 35 :: 36 :: 37 :: 38 :: 39 :: 40 :: 41 :: 47 :: 48 :: 49 :: 50 :: []) :: (0 :: 1 :: 2 :: 3 :: 4 :: 5 :: 6 :: 7 :: 8 :: 9 :: 10 :: 11 :: 12 :: 13 :: 14 :: 15 :: 16 :: 17 :: 18 :: 19 :: 20 :: 21 :: 22 :: 23 :: 24 :: 25 :: 26 :: 27 :: 28 :: 29 :: 30 :: 31 :: 32 :: 33 :: 34 :: 35 :: 36 :: 37 :: 38 :: 39 :: 40 :: 41 :: 42 :: 43 :: 44 :: 45 :: 46 :: 47 :: 48 :: 49 :: 50 :: 51 :: []) :: (0 :: 1 :: 2 :: 3 :: 4 :: 5 :: 6 :: 7 :: 8 :: 9 :: 10 :: 11 :: 12 :: 13 :: 14 :: 15 :: 16 :: 17 :: 18 :: 19 :: 20 :: 21 :: 22 :: 23 :: 24 :: 25 :: 26 :: 27 :: 28 :: 29 :: 30 :: 31 :: 32 :: 33 :: 34 :: 35 :: 36 :: 37 :: 38 :: 39 :: 40 :: 41 :: 42 :: 43 :: 44 :: 45 :: 46 :: 47 :: 48 :: 49 :: 50 :: 51 :: 52 :: []) :: [])) (sl' := [(0, .one (.g (.d (.sl 6 (List.map encApi_Event a_0))))), (1, .one (.g (.d (.sl 6 (List.map encApi_Event b_1))))), (5, oI v4), (82, oB true)]) (hp' := []) (.c (oP rfl rfl (op_move (Ev.t 6 (bB r11)) rfl)) (.c (oP rfl rfl (OpL.cast (op_not (Ev.t 29 (bB r11)) rfl) (congrArg (fun b => bB b) hc12))) (.c (oP rfl rfl (op_move (Ev.t 30 (bB false)) rfl)) (.c (oY rfl rfl rfl (op_move (Ev.t 0 (.g (.d (.sl 6 (List.map encApi_Event a_0))))) rfl)) (.c (oY rfl rfl rfl (op_move (Ev.t 5 (bI .i64 v4)) rfl)) (.c (oY rfl rfl rfl (op_index (cs := [vI x13.Kind, vI x13.Client, vS x13.Key, vI x13.Stamp.N, vI x13.Stamp.Site, .sl 3 (List.map encApi_Dep x13.Seen)]) Try.underlying24 ti30 (idx_ok hx13).1 (idx_get hx13 encApi_Event) (Ev.t 32 (.g (.d (.sl 6 (List.map encApi_Event a_0))))) (Ev.t 33 (bI .i64 v4)) rfl)) (.c (oY rfl rfl rfl (op_fieldE (cs' := [vI x13.Kind, vI x13.Client, vS x13.Key, vI x13.Stamp.N, vI x13.Stamp.Site, .sl 3 (List.map encApi_Dep x13.Seen)]) Try.underlying30 rfl ti3 (by decide) rfl (Ev.t 34 (.ep [vI x13.Kind, vI x13.Client, vS x13.Key, vI x13.Stamp.N, vI x13.Stamp.Site, .sl 3 (List.map encApi_Dep x13.Seen)])) rfl)) (.c (oY rfl rfl rfl (op_load1E (c := vI x13.Kind) Try.underlying3 rfl rfl (Ev.t 35 (.ep [vI x13.Kind, vI x13.Client, vS x13.Key, vI x13.Stamp.N, vI x13.Stamp.Site, .sl 3 (List.map encApi_Dep x13.Seen)])) rfl)) (.c (oY rfl rfl rfl (op_move (Ev.t 1 (.g (.d (.sl 6 (List.map encApi_Event b_1))))) rfl)) (.c (oY rfl rfl rfl (op_move (Ev.t 5 (bI .i64 v4)) rfl)) (.c (oY rfl rfl rfl (op_index (cs := [vI x14.Kind, vI x14.Client, vS x14.Key, vI x14.Stamp.N, vI x14.Stamp.Site, .sl 3 (List.map encApi_Dep x14.Seen)]) Try.underlying24 ti30 (idx_ok hx14).1 (idx_get hx14 encApi_Event) (Ev.t 37 (.g (.d (.sl 6 (List.map encApi_Event b_1))))) (Ev.t 38 (bI .i64 v4)) rfl)) (.c (oY rfl rfl rfl (op_fieldE (cs' := [vI x14.Kind, vI x14.Client, vS x14.Key, vI x14.Stamp.N, vI x14.Stamp.Site, .sl 3 (List.map encApi_Dep x14.Seen)]) Try.underlying30 rfl ti3 (by decide) rfl (Ev.t 39 (.ep [vI x14.Kind, vI x14.Client, vS x14.Key, vI x14.Stamp.N, vI x14.Stamp.Site, .sl 3 (List.map encApi_Dep x14.Seen)])) rfl)) (.c (oY rfl rfl rfl (op_load1E (c := vI x14.Kind) Try.underlying3 rfl rfl (Ev.t 40 (.ep [vI x14.Kind, vI x14.Client, vS x14.Key, vI x14.Stamp.N, vI x14.Stamp.Site, .sl 3 (List.map encApi_Dep x14.Seen)])) rfl)) (.c (oY rfl rfl rfl (OpL.cast (op_neI (Ev.t 36 (bI .i64 x13.Kind)) (Ev.t 41 (bI .i64 x14.Kind)) rfl) (congrArg (fun b => bB b) hc15))) (.c (oP rfl rfl (op_pickF (Ev.t 31 (bB false)) (Ev.t 42 (bB true)) rfl)) (.c (oP rfl rfl (op_move (Ev.t 43 (bB true)) rfl)) (.c (OpW.no rfl rfl rfl rfl rfl) (.c (OpW.no rfl rfl rfl rfl rfl) (.c (OpW.no rfl rfl rfl rfl rfl) (.c (OpW.no rfl rfl rfl rfl rfl) (.c (OpW.no rfl rfl rfl rfl rfl) (.c (OpW.no rfl rfl rfl rfl rfl) (.c (OpW.no rfl rfl rfl rfl rfl) (.c (OpW.no rfl rfl rfl rfl rfl) (.c (OpW.no rfl rfl rfl rfl rfl) (.c (OpW.no rfl rfl rfl rfl rfl) (.c (OpW.no rfl rfl rfl rfl rfl) (.c (oP rfl rfl (op_pickT (Ev.t 44 (bB true)) (Ev.c _ rfl) rfl)) (.c (oP rfl rfl (op_move (Ev.t 56 (bB true)) rfl)) (.c (OpW.no rfl rfl rfl rfl rfl) (.c (OpW.no rfl rfl rfl rfl rfl) (.c (OpW.no rfl rfl rfl rfl rfl) (.c (OpW.no rfl rfl rfl rfl rfl) (.c (OpW.no rfl rfl rfl rfl rfl) (.c (OpW.no rfl rfl rfl rfl rfl) (.c (OpW.no rfl rfl rfl rfl rfl) (.c (OpW.no rfl rfl rfl rfl rfl) (.c (OpW.no rfl rfl rfl rfl rfl) (.c (OpW.no rfl rfl rfl rfl rfl) (.c (OpW.no rfl rfl rfl rfl rfl) (.c (oP rfl rfl (op_pickT (Ev.t 57 (bB true)) (Ev.c _ rfl) rfl)) (.c (oP rfl rfl (op_move (Ev.t 69 (bB true)) rfl)) (.c (OpW.no rfl rfl rfl rfl rfl) (.c (OpW.no rfl rfl rfl rfl rfl) (.c (OpW.no rfl rfl rfl rfl rfl) (.c (OpW.no rfl rfl rfl rfl rfl) (.c (OpW.no rfl rfl rfl rfl rfl) (.c (OpW.no rfl rfl rfl rfl rfl) (.c (OpW.no rfl rfl rfl rfl rfl) (.c (OpW.no rfl rfl rfl rfl rfl) (.c (OpW.no rfl rfl rfl rfl rfl) (.c (OpW.no rfl rfl rfl rfl rfl) (.c (OpW.no rfl rfl rfl rfl rfl) (.c (oP rfl rfl (op_pickT (Ev.t 70 (bB true)) (Ev.c _ rfl) rfl)) .nil)))))))))))))))))))))))))))))))))))))))))))))))))))))) follows rfl rfl rfl ⟨⟨rfl, trivial⟩, trivial, ⟨rfl, trivial⟩, trivial, ⟨rfl, trivial⟩, trivial, ⟨rfl, rfl, trivial⟩, trivial, ⟨rfl, rfl, trivial⟩, trivial, ⟨rfl, rfl, rfl, trivial⟩, trivial, ⟨rfl, rfl, trivial⟩, trivial, ⟨rfl, rfl, trivial⟩, trivial, ⟨rfl, rfl, trivial⟩, trivial, ⟨rfl, rfl, trivial⟩, trivial, ⟨rfl, rfl, rfl, trivial⟩, trivial, ⟨rfl, rfl, trivial⟩, trivial, ⟨rfl, rfl, trivial⟩, trivial, ⟨rfl, rfl, rfl, trivial⟩, trivial, ⟨rfl, rfl, trivial⟩, trivial, ⟨rfl, trivial⟩, trivial, ⟨rfl, trivial⟩, trivial, ⟨rfl, trivial⟩, trivial, ⟨rfl, trivial⟩, trivial, ⟨rfl, trivial⟩, trivial, ⟨rfl, trivial⟩, trivial, ⟨rfl, trivial⟩, trivial, ⟨rfl, trivial⟩, trivial, ⟨rfl, trivial⟩, trivial, ⟨rfl, trivial⟩, trivial, ⟨rfl, trivial⟩, trivial, ⟨rfl, trivial⟩, trivial, ⟨rfl, trivial⟩, trivial, ⟨rfl, trivial⟩, trivial, ⟨rfl, trivial⟩, trivial, ⟨rfl, trivial⟩, trivial, ⟨rfl, trivial⟩, trivial, ⟨rfl, trivial⟩, trivial, ⟨rfl, trivial⟩, trivial, ⟨rfl, trivial⟩, trivial, ⟨rfl, trivial⟩, trivial, ⟨rfl, trivial⟩, trivial, ⟨rfl, trivial⟩, trivial, ⟨rfl, trivial⟩, trivial, ⟨rfl, trivial⟩, trivial, ⟨rfl, trivial⟩, trivial, ⟨rfl, trivial⟩, trivial, ⟨rfl, trivial⟩, trivial, ⟨rfl, trivial⟩, trivial, ⟨rfl, trivial⟩, trivial, ⟨rfl, trivial⟩, trivial, ⟨rfl, trivial⟩, trivial, ⟨rfl, trivial⟩, trivial, ⟨rfl, trivial⟩, trivial, ⟨rfl, trivial⟩, trivial, ⟨rfl, trivial⟩, trivial, ⟨rfl, trivial⟩, trivial, ⟨rfl, trivial⟩, trivial, ⟨rfl, trivial⟩, trivial, trivial⟩ ⟨rfl, rfl, rfl, rfl, trivial⟩ trivial rfl ?_
          refine G.condT rfl ?_
          refine G.seq ?_
          refine G.region ?_
          refine G.op1 (op_assign (Ev.c _ rfl) rfl) rfl trivial trivial ?_
          refine G.endOps ?_
          cases hF
          exact G.ret1 Try.results19 (RVar.tmp 4 _) ⟨rfl, trivial⟩ trivial
        · obtain ⟨x16, hx16, hF⟩ := bindS hF
          obtain ⟨x17, hx17, hF⟩ := bindS hF
          refine ifS hF (fun hc18 hF => ?_) (fun hc18 hF => ?_)
          · refine G.drawnI (deps := ([] :: [0] :: [0, 1] :: [0, 1, 2] :: [0, 1, 2] :: [0, 1, 2, 3, 4] :: [0, 1, 2, 3, 4, 5] :: [0, 1, 2, 3, 4, 5, 6] :: [0, 1, 2] :: [0, 1, 2] :: [0, 1, 2, 8, 9] :: [0, 1, 2, 8, 9, 10] :: [0, 1, 2, 8, 9, 10, 11] :: [0, 1, 2, 3, 4, 5, 6, 7, 8, 9, 10, 11, 12] :: [0, 1, 2, 3, 4, 5, 6, 7, 8, 9, 10, 11, 12, 13] :: [0, 1, 2, 3, 4, 5, 6, 7, 8, 9, 10, 11, 12, 13, 14] :: [0, 1, 2, 3, 4, 5, 6, 7, 8, 9, 10, 11, 12, 13, 14, 15] :: [0, 1, 2, 3, 4, 5, 6, 7, 8, 9, 10, 11, 12, 13, 14, 15] :: [0, 1, 2, 3, 4, 5, 6, 7, 8, 9, 10, 11, 12, 13, 14, 15, 16, 17] :: [0, 1, 2, 3, 4, 5, 6, 7, 8, 9, 10, 11, 12, 13, 14, 15, 16, 17, 18] :: [0, 1, 2, 3, 4, 5, 6, 7, 8, 9, 10, 11, 12, 13, 14, 15, 16, 17, 18, 19] :: [0, 1, 2, 3, 4, 5, 6, 7, 8, 9, 10, 11, 12, 13, 14, 15] :: [0, 1, 2, 3, 4, 5, 6, 7, 8, 9, 10, 11, 12, 13, 14, 15] :: [0, 1, 2, 3, 4, 5, 6, 7, 8, 9, 10, 11, 12, 13, 14, 15, 21, 22] :: [0, 1, 2, 3, 4, 5, 6, 7, 8, 9, 10, 11, 12, 13, 14, 15, 21, 22, 23] :: [0, 1, 2, 3, 4, 5, 6, 7, 8, 9, 10, 11, 12, 13, 14, 15, 21, 22, 23, 24] :: (0 :: 1 :: 2 :: 3 :: 4 :: 5 :: 6 :: 7 :: 8 :: 9 :: 10 :: 11 :: 12 :: 13 :: 14 :: 15 :: 16 :: 17 :: 18 :: 19 :: 20 :: 21 :: 22 :: 23 :: 24 :: 25 :: []) :: (0 :: 1 :: 2 :: 3 :: 4 :: 5 :: 6 :: 7 :: 8 :: 9 :: 10 :: 11 :: 12 :: 13 :: 14 :: 15 :: 16 :: 17 :: 18 :: 19 :: 20 :: 21 :: 22 :: 23 :: 24 :: 25 :: 26 :: []) :: (0 :: 1 :: 2 :: 3 :: 4 :: 5 :: 6 :: 7 :: 8 :: 9 :: 10 :: 11 :: 12 :: 13 :: 14 :: 15 :: 16 :: 17 :: 18 :: 19 :: 20 :: 21 :: 22 :: 23 :: 24 :: 25 :: 26 :: 27 :: []) :: (0 :: 1 :: 2 :: 3 :: 4 :: 5 :: 6 :: 7 :: 8 :: 9 :: 10 :: 11 :: 12 :: 13 :: 14 :: 15 :: 16 :: 17 :: 18 :: 19 :: 20 :: 21 :: 22 :: 23 :: 24 :: 25 :: 26 :: 27 :: 28 :: []) :: (0 :: 1 :: 2 :: 3 :: 4 :: 5 :: 6 :: 7 :: 8 :: 9 :: 10 :: 11 :: 12 :: 13 :: 14 :: 15 :: 16 :: 17 :: 18 :: 19 :: 20 :: 21 :: 22 :: 23 :: 24 :: 25 :: 26 :: 27 :: 28 :: []) :: (0 :: 1 :: 2 :: 3 :: 4 :: 5 :: 6 :: 7 :: 8 :: 9 :: 10 :: 11 :: 12 :: 13 :: 14 :: 15 :: 16 :: 17 :: 18 :: 19 :: 20 :: 21 :: 22 :: 23 :: 24 :: 25 :: 26 :: 27 :: 28 :: 29 :: 30 :: []) :: (0 :: 1 :: 2 :: 3 :: 4 :: 5 :: 6 :: 7 :: 8 :: 9 :: 10 :: 11 :: 12 :: 13 :: 14 :: 15 :: 16 :: 17 :: 18 :: 19 :: 20 :: 21 :: 22 :: 23 :: 24 :: 25 :: 26 :: 27 :: 28 :: 29 :: 30 :: 31 :: []) :: (0 :: 1 :: 2 :: 3 :: 4 :: 5 :: 6 :: 7 :: 8 :: 9 :: 10 :: 11 :: 12 :: 13 :: 14 :: 15 :: 16 :: 17 :: 18 :: 19 :: 20 :: 21 :: 22 :: 23 :: 24 :: 25 :: 26 :: 27 :: 28 :: 29 :: 30 :: 31 :: 32 :: []) :: (0 :: 1 :: 2 :: 3 :: 4 :: 5 :: 6 :: 7 :: 8 :: 9 :: 10 :: 11 :: 12 :: 13 :: 14 :: 15 :: 16 :: 17 :: 18 :: 19 :: 20 :: 21 :: 22 :: 23 :: 24 :: 25 :: 26 :: 27 :: 28 :: []) :: (0 :: 1 :: 2 :: 3 :: 4 :: 5 :: 6 :: 7 :: 8 :: 9 :: 10 :: 11 :: 12 :: 13 :: 14 :: 15 :: 16 :: 17 :: 18 :: 19 :: 20 :: 21 :: 22 :: 23 :: 24 :: 25 :: 26 :: 27 :: 28 :: []) :: (0 :: 1 :: 2 :: 3 :: 4 :: 5 :: 6 :: 7 :: 8 :: 9 :: 10 :: 11 :: 12 :: 13 :: 14 :: 15 :: 16 :: 17 :: 18 :: 19 :: 20 :: 21 :: 22 :: 23 :: 24 :: 25 :: 26 :: 27 :: 28 :: 34 :: 35 :: []) :: (0 :: 1 :: 2 :: 3 :: 4 :: 5 :: 6 :: 7 :: 8 :: 9 :: 10 :: 11 :: 12 :: 13 :: 14 :: 15 :: 16 :: 17 :: 18 :: 19 :: 20 :: 21 :: 22 :: 23 :: 24 :: 25 :: 26 :: 27 :: 28 :: 34 :: 35 :: 36 :: []) :: (0 :: 1 :: 2 :: 3 :: 4 :: 5 :: 6 :: 7 :: 8 :: 9 :: 10 :: 11 :: 12 :: 13 :: 14 :: 15 :: 16 :: 17 :: 18 :: 19 :: 20 :: 21 :: 22 :: 23 :: 24 :: 25 :: 26 :: 27 :: 28 :: 34 :: 35 :: 36 :: 37 :: []) :: (0 :: 1 :: 2 :: 3 :: 4 :: 5 :: 6 :: 7 :: 8 :: 9 :: 10 :: 11 :: 12 :: 13 :: 14 :: 15 :: 16 :: 17 :: 18 :: 19 :: 20 :: 21 :: 22 :: 23 :: 24 :: 25 :: 26 :: 27 :: 28 :: 29 :: 30 :: 31 :: 32 :: 33 :: 34 :: 35 :: 36 :: 37 :: 38 :: []) :: (0 :: 1 :: 2 :: 3 :: 4 :: 5 :: 6 :: 7 :: 8 :: 9 :: 10 :: 11 :: 12 :: 13 :: 14 :: 15 :: 16 :: 17 :: 18 :: 19 :: 20 :: 21 :: 22 :: 23 :: 24 :: 25 :: 26 :: 27 :: 28 :: 29 :: 30 :: 31 :: 32 :: 33 :: 34 :: 35 :: 36 :: 37 :: 38 :: 39 :: []) :: (0 :: 1 :: 2 :: 3 :: 4 :: 5 :: 6 :: 7 :: 8 :: 9 :: 10 :: 11 :: 12 :: 13 :: 14 :: 15 :: 16 :: 17 :: 18 :: 19 :: 20 :: 21 :: 22 :: 23 :: 24 :: 25 :: 26 :: 27 :: 28 :: 29 :: 30 :: 31 :: 32 :: 33 :: 34 :: 35 :: 36 :: 37 :: 38 :: 39 :: 40 :: []) :: (0 :: 1 :: 2 :: 3 :: 4 :: 5 :: 6 :: 7 :: 8 :: 9 :: 10 :: 11 :: 12 :: 13 :: 14 :: 15 :: 16 :: 17 :: 18 :: 19 :: 20 :: 21 :: 22 :: 23 :: 24 :: 25 :: 26 :: 27 :: 28 :: 29 :: 30 :: 31 :: 32 :: 33 :: 34 :: 35 :: 36 :: 37 :: 38 :: 39 :: 40 :: 41 :: []) :: (0 :: 1 :: 2 :: 3 :: 4 :: 5 :: 6 :: 7 :: 8 :: 9 :: 10 :: 11 :: 12 :: 13 :: 14 :: 15 :: 16 :: 17 :: 18 :: 19 :: 20 :: 21 :: 22 :: 23 :: 24 :: 25 :: 26 :: 27 :: 28 :: 29 :: 30 :: 31 :: 32 :: 33 :: 34 :: 35 :: 36 :: 37 :: 38 :: 39 :: 40 :: 41 :: []) :: (0 :: 1 :: 2 :: 3 :: 4 :: 5 :: 6 :: 7 :: 8 :: 9 :: 10 :: 11 :: 12 :: 13 :: 14 :: 15 :: 16 :: 17 :: 18 :: 19 :: 20 :: 21 :: 22 :: 23 :: 24 :: 25 :: 26 :: 27 :: 28 :: 29 :: 30 :: 31 :: 32 :: 33 :: 34 :: 35 :: 36 :: 37 :: 38 :: 39 :: 40 :: 41 :: 42 :: 43 :: []) :: (0 :: 1 :: 2 :: 3 :: 4 :: 5 :: 6 :: 7 :: 8 :: 9 :: 10 :: 11 :: 12 :: 13 :: 14 :: 15 :: 16 :: 17 :: 18 :: 19 :: 20 :: 21 :: 22 :: 23 :: 24 :: 25 :: 26 :: 27 :: 28 :: 29 :: 30 :: 31 :: 32 :: 33 :: 34 :: 35 :: 36 :: 37 :: 38 :: 39 :: 40 :: 41 :: 42 :: 43 :: 44 :: []) :: (0 :: 1 :: 2 :: 3 :: 4 :: 5 :: 6 :: 7 :: 8 :: 9 :: 10 :: 11 :: 12 :: 13 :: 14 :: 15 :: 16 :: 17 :: 18 :: 19 :: 20 :: 21 :: 22 :: 23 :: 24 :: 25 :: 26 :: 27 :: 28 :: 29 :: 30 :: 31 :: 32 :: 33 :: 34 :: 35 :: 36 :: 37 :: 38 :: 39 :: 40 :: 41 :: 42 :: 43 :: 44 :: 45 :: []) :: (0 :: 1 :: 2 :: 3 :: 4 :: 5 :: 6 :: 7 :: 8 :: 9 :: 10 :: 11 :: 12 :: 13 :: 14 :: 15 :: 16 :: 17 :: 18 :: 19 :: 20 :: 21 :: 22 :: 23 :: 24 :: 25 :: 26 :: 27 :: 28 :: 29 :: 30 :: 31 :: 32 :: 33 :: 34 :: 35 :: 36 :: 37 :: 38 :: 39 :: 40 :: 41 :: []) :: (0 :: 1 :: 2 :: 3 :: 4 :: 5 :: 6 :: 7 :: 8 :: 9 :: 10 :: 11 :: 12 :: 13 :: 14 :: 15 :: 16 :: 17 :: 18 :: 19 :: 20 :: 21 :: 22 :: 23 :: 24 :: 25 :: 26 :: 27 :: 28 :: 29 :: 30 :: 31 :: 32 :: 33 :: 34 :: 35 :: 36 :: 37 :: 38 :: 39 :: 40 :: 41 :: []) :: (0 :: 1 :: 2 :: 3 :: 4 :: 5 :: 6 :: 7 :: 8 :: 9 :: 10 :: 11 :: 12 :: 13 :: 14 :: 15 :: 16 :: 17 :: 18 :: 19 :: 20 :: 21 :: 22 :: 23 :: 24 :: 25 :: 26 :: 27 :: 28 :: 29 :: 30 :: 31 :: 32 :: 33 :: 34 :: 35 :: 36 :: 37 :: 38 :: 39 :: 40 :: 41 :: 47 :: 48 :: []) :: (0 :: 1 :: 2 :: 3 :: 4 :: 5 :: 6 :: 7 :: 8 :: 9 :: 10 :: 11 :: 12 :: 13 :: 14 :: 15 :: 16 :: 17 :: 18 :: 19 :: 20 :: 21 :: 22 :: 23 :: 24 :: 25 :: 26 :: 27 :: 28 :: 29 :: 30 :: 31 :: 32 :: 33 :: 34 :: 35 :: 36 :: 37 :: 38 :: 39 :: 40 :: 41 :: 47 :: 48 :: 49 :: []) :: (0 :: 1 :: 2 :: 3 :: 4 :: 5 :: 6 :: 7 :: 8 :: 9 :: 10 :: 11 :: 12 :: 13 :: 14 :: 15 :: 16 :: 17 :: 18 :: 19 :: 20 :: 21 :: 22 :: 23 :: 24 :: 25 :: 26 :: 27 :: 28 :: 29 :: 30 :: 31 :: 32 :: 33 :: 34 :: 35 :: 36 :: 37 :: 38 :: 39 :: 40 :: 41 :: 47 :: 48 :: 49 :: 50 :: []) :: (0 :: 1 :: 2 :: 3 :: 4 :: 5 :: 6 :: 7 :: 8 :: 9 :: 10 :: 11 :: 12 :: 13 :: 14 :: 15 :: 16 :: 17 :: 18 :: 19 :: 20 :: 21 :: 22 :: 23 :: 24 :: 25 :: 26 :: 27 :: 28 :: 29 :: 30 :: 31 :: 32 :: 33 :: 34 :: 35 :: 36 :: 37 :: 38 :: 39 :: 40 :: 41 :: 42 :: 43 :: 44 :: 45 :: 46 :: 47 :: 48 :: 49 :: 50 :: 51 :: []) :: (0 :: 1 :: 2 :: 3 :: 4 :: 5 :: 6 :: 7 :: 8 :: 9 :: 10 :: 11 :: 12 :: 13 :: 14 :: 15 :: 16 :: 17 :: 18 :: 19 :: 20 :: 21 :: 22 :: 23 :: 24 :: 25 :: 26 :: 27 :: 28 :: 29 :: 30 :: 31 :: 32 :: 33 :: 34 :: 35 :: 36 :: 37 :: 38 :: 39 :: 40 :: 41 :: 42 :: 43 :: 44 :: 45 :: 46 :: 47 :: 48 :: 49 :: 50 :: 51 :: 52 :: []) :: [])) (sl' := [(0, .one (.g (.d (.sl 6 (List.map encApi_Event a_0))))), (1, .one (.g (.d (.sl 6 (List.map encApi_Event b_1))))), (5, oI v4), (82, oB true)]) (hp' := []) (.c (oP rfl rfl (op_move (Ev.t 6 (bB r11)) rfl)) (.c (oP rfl rfl (OpL.cast (op_not (Ev.t 29 (bB r11)) rfl) (congrArg (fun b => bB b) hc12))) (.c (oP rfl rfl (op_move (Ev.t 30 (bB false)) rfl)) (.c (oY rfl rfl rfl (op_move (Ev.t 0 (.g (.d (.sl 6 (List.map encApi_Event a_0))))) rfl)) (.c (oY rfl rfl rfl (op_move (Ev.t 5 (bI .i64 v4)) rfl)) (.c (oY rfl rfl rfl (op_index (cs := [vI x13.Kind, vI x13.Client, vS x13.Key, vI x13.Stamp.N, vI x13.Stamp.Site, .sl 3 (List.map encApi_Dep x13.Seen)]) Try.underlying24 ti30 (idx_ok hx13).1 (idx_get hx13 encApi_Event) (Ev.t 32 (.g (.d (.sl 6 (List.map encApi_Event a_0))))) (Ev.t 33 (bI .i64 v4)) rfl)) (.c (oY rfl rfl rfl (op_fieldE (cs' := [vI x13.Kind, vI x13.Client, vS x13.Key, vI x13.Stamp.N, vI x13.Stamp.Site, .sl 3 (List.map encApi_Dep x13.Seen)]) Try.underlying30 rfl ti3 (by decide) rfl (Ev.t 34 (.ep [vI x13.Kind, vI x13.Client, vS x13.Key, vI x13.Stamp.N, vI x13.Stamp.Site, .sl 3 (List.map encApi_Dep x13.Seen)])) rfl)) (.c (oY rfl rfl rfl (op_load1E (c := vI x13.Kind) Try.underlying3 rfl rfl (Ev.t 35 (.ep [vI x13.Kind, vI x13.Client, vS x13.Key, vI x13.Stamp.N, vI x13.Stamp.Site, .sl 3 (List.map encApi_Dep x13.Seen)])) rfl)) (.c (oY rfl rfl rfl (op_move (Ev.t 1 (.g (.d (.sl 6 (List.map encApi_Event b_1))))) rfl)) (.c (oY rfl rfl rfl (op_move (Ev.t 5 (bI .i64 v4)) rfl)) (.c (oY rfl rfl rfl (op_index (cs := [vI x14.Kind, vI x14.Client, vS x14.Key, vI x14.Stamp.N, vI x14.Stamp.Site, .sl 3 (List.map encApi_Dep x14.Seen)]) Try.underlying24 ti30 (idx_ok hx14).1 (idx_get hx14 encApi_Event) (Ev.t 37 (.g (.d (.sl 6 (List.map encApi_Event b_1))))) (Ev.t 38 (bI .i64 v4)) rfl)) (.c (oY rfl rfl rfl (op_fieldE (cs' := [vI x14.Kind, vI x14.Client, vS x14.Key, vI x14.Stamp.N, vI x14.Stamp.Site, .sl 3 (List.map encApi_Dep x14.Seen)]) Try.underlying30 rfl ti3 (by decide) rfl (Ev.t 39 (.ep [vI x14.Kind, vI x14.Client, vS x14.Key, vI x14.Stamp.N, vI x14.Stamp.Site, .sl 3 (List.map encApi_Dep x14.Seen)])) rfl)) (.c (oY rfl rfl rfl (op_load1E (c := vI x14.Kind) Try.underlying3 rfl rfl (Ev.t 40 (.ep [vI x14.Kind, vI x14.Client, vS x14.Key, vI x14.Stamp.N, vI x14.Stamp.Site, .sl 3 (List.map encApi_Dep x14.Seen)])) rfl)) (.c (oY rfl rfl rfl (OpL.cast (op_neI (Ev.t 36 (bI .i64 x13.Kind)) (Ev.t 41 (bI .i64 x14.Kind)) rfl) (congrArg (fun b => bB b) hc15))) (.c (oP rfl rfl (op_pickF (Ev.t 31 (bB false)) (Ev.t 42 (bB false)) rfl)) (.c (oP rfl rfl (op_move (Ev.t 43 (bB false)) rfl)) (.c (oY rfl rfl rfl (op_move (Ev.t 0 (.g (.d (.sl 6 (List.map encApi_Event a_0))))) rfl)) (.c (oY rfl rfl rfl (op_move (Ev.t 5 (bI .i64 v4)) rfl)) (.c (oY rfl rfl rfl (op_index (cs := [vI x16.Kind, vI x16.Client, vS x16.Key, vI x16.Stamp.N, vI x16.Stamp.Site, .sl 3 (List.map encApi_Dep x16.Seen)]) Try.underlying24 ti30 (idx_ok hx16).1 (idx_get hx16 encApi_Event) (Ev.t 45 (.g (.d (.sl 6 (List.map encApi_Event a_0))))) (Ev.t 46 (bI .i64 v4)) rfl)) (.c (oY rfl rfl rfl (op_fieldE (cs' := [vI x16.Client, vS x16.Key, vI x16.Stamp.N, vI x16.Stamp.Site, .sl 3 (List.map encApi_Dep x16.Seen)]) Try.underlying30 rfl ti3 (by decide) rfl (Ev.t 47 (.ep [vI x16.Kind, vI x16.Client, vS x16.Key, vI x16.Stamp.N, vI x16.Stamp.Site, .sl 3 (List.map encApi_Dep x16.Seen)])) rfl)) (.c (oY rfl rfl rfl (op_load1E (c := vI x16.Client) Try.underlying3 rfl rfl (Ev.t 48 (.ep [vI x16.Client, vS x16.Key, vI x16.Stamp.N, vI x16.Stamp.Site, .sl 3 (List.map encApi_Dep x16.Seen)])) rfl)) (.c (oY rfl rfl rfl (op_move (Ev.t 1 (.g (.d (.sl 6 (List.map encApi_Event b_1))))) rfl)) (.c (oY rfl rfl rfl (op_move (Ev.t 5 (bI .i64 v4)) rfl)) (.c (oY rfl rfl rfl (op_index (cs := [vI x17.Kind, vI x17.Client, vS x17.Key, vI x17.Stamp.N, vI x17.Stamp.Site, .sl 3 (List.map encApi_Dep x17.Seen)]) Try.underlying24 ti30 (idx_ok hx17).1 (idx_get hx17 encApi_Event) (Ev.t 50 (.g (.d (.sl 6 (List.map encApi_Event b_1))))) (Ev.t 51 (bI .i64 v4)) rfl)) (.c (oY rfl rfl rfl (op_fieldE (cs' := [vI x17.Client, vS x17.Key, vI x17.Stamp.N, vI x17.Stamp.Site, .sl 3 (List.map encApi_Dep x17.Seen)]) Try.underlying30 rfl ti3 (by decide) rfl (Ev.t 52 (.ep [vI x17.Kind, vI x17.Client, vS x17.Key, vI x17.Stamp.N, vI x17.Stamp.Site, .sl 3 (List.map encApi_Dep x17.Seen)])) rfl)) (.c (oY rfl rfl rfl (op_load1E (c := vI x17.Client) Try.underlying3 rfl rfl (Ev.t 53 (.ep [vI x17.Client, vS x17.Key, vI x17.Stamp.N, vI x17.Stamp.Site, .sl 3 (List.map encApi_Dep x17.Seen)])) rfl)) (.c (oY rfl rfl rfl (OpL.cast (op_neI (Ev.t 49 (bI .i64 x16.Client)) (Ev.t 54 (bI .i64 x17.Client)) rfl) (congrArg (fun b => bB b) hc18))) (.c (oP rfl rfl (op_pickF (Ev.t 44 (bB false)) (Ev.t 55 (bB true)) rfl)) (.c (oP rfl rfl (op_move (Ev.t 56 (bB true)) rfl)) (.c (OpW.no rfl rfl rfl rfl rfl) (.c (OpW.no rfl rfl rfl rfl rfl) (.c (OpW.no rfl rfl rfl rfl rfl) (.c (OpW.no rfl rfl rfl rfl rfl) (.c (OpW.no rfl rfl rfl rfl rfl) (.c (OpW.no rfl rfl rfl rfl rfl) (.c (OpW.no rfl rfl rfl rfl rfl) (.c (OpW.no rfl rfl rfl rfl rfl) (.c (OpW.no rfl rfl rfl rfl rfl) (.c (OpW.no rfl rfl rfl rfl rfl) (.c (OpW.no rfl rfl rfl rfl rfl) (.c (oP rfl rfl (op_pickT (Ev.t 57 (bB true)) (Ev.c _ rfl) rfl)) (.c (oP rfl rfl (op_move (Ev.t 69 (bB true)) rfl)) (.c (OpW.no rfl rfl rfl rfl rfl) (.c (OpW.no rfl rfl rfl rfl rfl) (.c (OpW.no rfl rfl rfl rfl rfl) (.c (OpW.no rfl rfl rfl rfl rfl) (.c (OpW.no rfl rfl rfl rfl rfl) (.c (OpW.no rfl rfl rfl rfl rfl) (.c (OpW.no rfl rfl rfl rfl rfl) (.c (OpW.no rfl rfl rfl rfl rfl) (.c (OpW.no rfl rfl rfl rfl rfl) (.c (OpW.no rfl rfl rfl rfl rfl) (.c (OpW.no rfl rfl rfl rfl rfl) (.c (oP rfl rfl (op_pickT (Ev.t 70 (bB true)) (Ev.c _ rfl) rfl)) .nil)))))))))))))))))))))))))))))))))))))))))))))))))))))) follows rfl rfl rfl ⟨⟨rfl, trivial⟩, trivial, ⟨rfl, trivial⟩, trivial, ⟨rfl, trivial⟩, trivial, ⟨rfl, rfl, trivial⟩, trivial, ⟨rfl, rfl, trivial⟩, trivial, ⟨rfl, rfl, rfl, trivial⟩, trivial, ⟨rfl, rfl, trivial⟩, trivial, ⟨rfl, rfl, trivial⟩, trivial, ⟨rfl, rfl, trivial⟩, trivial, ⟨rfl, rfl, trivial⟩, trivial, ⟨rfl, rfl, rfl, trivial⟩, trivial, ⟨rfl, rfl, trivial⟩, trivial, ⟨rfl, rfl, trivial⟩, trivial, ⟨rfl, rfl, rfl, trivial⟩, trivial, ⟨rfl, rfl, trivial⟩, trivial, ⟨rfl, trivial⟩, trivial, ⟨rfl, rfl, trivial⟩, trivial, ⟨rfl, rfl, trivial⟩, trivial, ⟨rfl, rfl, rfl, trivial⟩, trivial, ⟨rfl, rfl, trivial⟩, trivial, ⟨rfl, rfl, trivial⟩, trivial, ⟨rfl, rfl, trivial⟩, trivial, ⟨rfl, rfl, trivial⟩, trivial, ⟨rfl, rfl, rfl, trivial⟩, trivial, ⟨rfl, rfl, trivial⟩, trivial, ⟨rfl, rfl, trivial⟩, trivial, ⟨rfl, rfl, rfl, trivial⟩, trivial, ⟨rfl, rfl, trivial⟩, trivial, ⟨rfl, trivial⟩, trivial, ⟨rfl, trivial⟩, trivial, ⟨rfl, trivial⟩, trivial, ⟨rfl, trivial⟩, trivial, ⟨rfl, trivial⟩, trivial, ⟨rfl, trivial⟩, trivial, ⟨rfl, trivial⟩, trivial, ⟨rfl, trivial⟩, trivial, ⟨rfl, trivial⟩, trivial, ⟨rfl, trivial⟩, trivial, ⟨rfl, trivial⟩, trivial, ⟨rfl, trivial⟩, trivial, ⟨rfl, trivial⟩, trivial, ⟨rfl, trivial⟩, trivial, ⟨rfl, trivial⟩, trivial, ⟨rfl, trivial⟩, trivial, ⟨rfl, trivial⟩, trivial, ⟨rfl, trivial⟩, trivial, ⟨rfl, trivial⟩, trivial, ⟨rfl, trivial⟩, trivial, ⟨rfl, trivial⟩, trivial, ⟨rfl, trivial⟩, trivial, ⟨rfl, trivial⟩, trivial, ⟨rfl, trivial⟩, trivial, ⟨rfl, trivial⟩, trivial, ⟨rfl, trivial⟩, trivial, trivial⟩ ⟨rfl, rfl, rfl, rfl, trivial⟩ trivial rfl ?_
            refine G.condT rfl ?_
            refine G.seq ?_
            refine G.region ?_
            refine G.op1 (op_assign (Ev.c _ rfl) rfl) rfl trivial trivial ?_
            refine G.endOps ?_
            cases hF
            exact G.ret1 Try.results19 (RVar.tmp 4 _) ⟨rfl, trivial⟩ trivial
          · obtain ⟨x19, hx19, hF⟩ := bindS hF
            obtain ⟨x20, hx20, hF⟩ := bindS hF
            refine ifS hF (fun hc21 hF => ?_) (fun hc21 hF => ?_)
            · refine G.drawnI (deps := ([] :: [0] :: [0, 1] :: [0, 1, 2] :: [0, 1, 2] :: [0, 1, 2, 3, 4] :: [0, 1, 2, 3, 4, 5] :: [0, 1, 2, 3, 4, 5, 6] :: [0, 1, 2] :: [0, 1, 2] :: [0, 1, 2, 8, 9] :: [0, 1, 2, 8, 9, 10] :: [0, 1, 2, 8, 9, 10, 11] :: [0, 1, 2, 3, 4, 5, 6, 7, 8, 9, 10, 11, 12] :: [0, 1, 2, 3, 4, 5, 6, 7, 8, 9, 10, 11, 12, 13] :: [0, 1, 2, 3, 4, 5, 6, 7, 8, 9, 10, 11, 12, 13, 14] :: [0, 1, 2, 3, 4, 5, 6, 7, 8, 9, 10, 11, 12, 13, 14, 15] :: [0, 1, 2, 3, 4, 5, 6, 7, 8, 9, 10, 11, 12, 13, 14, 15] :: [0, 1, 2, 3, 4, 5, 6, 7, 8, 9, 10, 11, 12, 13, 14, 15, 16, 17] :: [0, 1, 2, 3, 4, 5, 6, 7, 8, 9, 10, 11, 12, 13, 14, 15, 16, 17, 18] :: [0, 1, 2, 3, 4, 5, 6, 7, 8, 9, 10, 11, 12, 13, 14, 15, 16, 17, 18, 19] :: [0, 1, 2, 3, 4, 5, 6, 7, 8, 9, 10, 11, 12, 13, 14, 15] :: [0, 1, 2, 3, 4, 5, 6, 7, 8, 9, 10, 11, 12, 13, 14, 15] :: [0, 1, 2, 3, 4, 5, 6, 7, 8, 9, 10, 11, 12, 13, 14, 15, 21, 22] :: [0, 1, 2, 3, 4, 5, 6, 7, 8, 9, 10, 11, 12, 13, 14, 15, 21, 22, 23] :: [0, 1, 2, 3, 4, 5, 6, 7, 8, 9, 10, 11, 12, 13, 14, 15, 21, 22, 23, 24] :: (0 :: 1 :: 2 :: 3 :: 4 :: 5 :: 6 :: 7 :: 8 :: 9 :: 10 :: 11 :: 12 :: 13 :: 14 :: 15 :: 16 :: 17 :: 18 :: 19 :: 20 :: 21 :: 22 :: 23 :: 24 :: 25 :: []) :: (0 :: 1 :: 2 :: 3 :: 4 :: 5 :: 6 :: 7 :: 8 :: 9 :: 10 :: 11 :: 12 :: 13 :: 14 :: 15 :: 16 :: 17 :: 18 :: 19 :: 20 :: 21 :: 22 :: 23 :: 24 :: 25 :: 26 :: []) :: (0 :: 1 :: 2 :: 3 :: 4 :: 5 :: 6 :: 7 :: 8 :: 9 :: 10 :: 11 :: 12 :: 13 :: 14 :: 15 :: 16 :: 17 :: 18 :: 19 :: 20 :: 21 :: 22 :: 23 :: 24 :: 25 :: 26 :: 27 :: []) :: (0 :: 1 :: 2 :: 3 :: 4 :: 5 :: 6 :: 7 :: 8 :: 9 :: 10 :: 11 :: 12 :: 13 :: 14 :: 15 :: 16 :: 17 :: 18 :: 19 :: 20 :: 21 :: 22 :: 23 :: 24 :: 25 :: 26 :: 27 :: 28 :: []) :: (0 :: 1 :: 2 :: 3 :: 4 :: 5 :: 6 :: 7 :: 8 :: 9 :: 10 :: 11 :: 12 :: 13 :: 14 :: 15 :: 16 :: 17 :: 18 :: 19 :: 20 :: 21 :: 22 :: 23 :: 24 :: 25 :: 26 :: 27 :: 28 :: []) :: (0 :: 1 :: 2 :: 3 :: 4 :: 5 :: 6 :: 7 :: 8 :: 9 :: 10 :: 11 :: 12 :: 13 :: 14 :: 15 :: 16 :: 17 :: 18 :: 19 :: 20 :: 21 :: 22 :: 23 :: 24 :: 25 :: 26 :: 27 :: 28 :: 29 :: 30 :: []) :: (0 :: 1 :: 2 :: 3 :: 4 :: 5 :: 6 :: 7 :: 8 :: 9 :: 10 :: 11 :: 12 :: 13 :: 14 :: 15 :: 16 :: 17 :: 18 :: 19 :: 20 :: 21 :: 22 :: 23 :: 24 :: 25 :: 26 :: 27 :: 28 :: 29 :: 30 :: 31 :: []) :: (0 :: 1 :: 2 :: 3 :: 4 :: 5 :: 6 :: 7 :: 8 :: 9 :: 10 :: 11 :: 12 :: 13 :: 14 :: 15 :: 16 :: 17 :: 18 :: 19 :: 20 :: 21 :: 22 :: 23 :: 24 :: 25 :: 26 :: 27 :: 28 :: 29 :: 30 :: 31 :: 32 :: []) :: (0 :: 1 :: 2 :: 3 :: 4 :: 5 :: 6 :: 7 :: 8 :: 9 :: 10 :: 11 :: 12 :: 13 :: 14 :: 15 :: 16 :: 17 :: 18 :: 19 :: 20 :: 21 :: 22 :: 23 :: 24 :: 25 :: 26 :: 27 :: 28 :: []) :: (0 :: 1 :: 2 :: 3 :: 4 :: 5 :: 6 :: 7 :: 8 :: 9 :: 10 :: 11 :: 12 :: 13 :: 14 :: 15 :: 16 :: 17 :: 18 :: 19 :: 20 :: 21 :: 22 :: 23 :: 24 :: 25 :: 26 :: 27 :: 28 :: []) :: (0 :: 1 :: 2 :: 3 :: 4 :: 5 :: 6 :: 7 :: 8 :: 9 :: 10 :: 11 :: 12 :: 13 :: 14 :: 15 :: 16 :: 17 :: 18 :: 19 :: 20 :: 21 :: 22 :: 23 :: 24 :: 25 :: 26 :: 27 :: 28 :: 34 :: 35 :: []) :: (0 :: 1 :: 2 :: 3 :: 4 :: 5 :: 6 :: 7 :: 8 :: 9 :: 10 :: 11 :: 12 :: 13 :: 14 :: 15 :: 16 :: 17 :: 18 :: 19 :: 20 :: 21 :: 22 :: 23 :: 24 :: 25 :: 26 :: 27 :: 28 :: 34 :: 35 :: 36 :: []) :: (0 :: 1 :: 2 :: 3 :: 4 :: 5 :: 6 :: 7 :: 8 :: 9 :: 10 :: 11 :: 12 :: 13 :: 14 :: 15 :: 16 :: 17 :: 18 :: 19 :: 20 :: 21 :: 22 :: 23 :: 24 :: 25 :: 26 :: 27 :: 28 :: 34 :: 35 :: 36 :: 37 :: []) :: (0 :: 1 :: 2 :: 3 :: 4 :: 5 :: 6 :: 7 :: 8 :: 9 :: 10 :: 11 :: 12 :: 13 :: 14 :: 15 :: 16 :: 17 :: 18 :: 19 :: 20 :: 21 :: 22 :: 23 :: 24 :: 25 :: 26 :: 27 :: 28 :: 29 :: 30 :: 31 :: 32 :: 33 :: 34 :: 35 :: 36 :: 37 :: 38 :: []) :: (0 :: 1 :: 2 :: 3 :: 4 :: 5 :: 6 :: 7 :: 8 :: 9 :: 10 :: 11 :: 12 :: 13 :: 14 :: 15 :: 16 :: 17 :: 18 :: 19 :: 20 :: 21 :: 22 :: 23 :: 24 :: 25 :: 26 :: 27 :: 28 :: 29 :: 30 :: 31 :: 32 :: 33 :: 34 :: 35 :: 36 :: 37 :: 38 :: 39 :: []) :: (0 :: 1 :: 2 :: 3 :: 4 :: 5 :: 6 :: 7 :: 8 :: 9 :: 10 :: 11 :: 12 :: 13 :: 14 :: 15 :: 16 :: 17 :: 18 :: 19 :: 20 :: 21 :: 22 :: 23 :: 24 :: 25 :: 26 :: 27 :: 28 :: 29 :: 30 :: 31 :: 32 :: 33 :: 34 :: 35 :: 36 :: 37 :: 38 :: 39 :: 40 :: []) :: (0 :: 1 :: 2 :: 3 :: 4 :: 5 :: 6 :: 7 :: 8 :: 9 :: 10 :: 11 :: 12 :: 13 :: 14 :: 15 :: 16 :: 17 :: 18 :: 19 :: 20 :: 21 :: 22 :: 23 :: 24 :: 25 :: 26 :: 27 :: 28 :: 29 :: 30 :: 31 :: 32 :: 33 :: 34 :: 35 :: 36 :: 37 :: 38 :: 39 :: 40 :: 41 :: []) :: (0 :: 1 :: 2 :: 3 :: 4 :: 5 :: 6 :: 7 :: 8 :: 9 :: 10 :: 11 :: 12 :: 13 :: 14 :: 15 :: 16 :: 17 :: 18 :: 19 :: 20 :: 21 :: 22 :: 23 :: 24 :: 25 :: 26 :: 27 :: 28 :: 29 :: 30 :: 31 :: 32 :: 33 :: 34 :: 35 :: 36 :: 37 :: 38 :: 39 :: 40 :: 41 :: []) :: (0 :: 1 :: 2 :: 3 :: 4 :: 5 :: 6 :: 7 :: 8 :: 9 :: 10 :: 11 :: 12 :: 13 :: 14 :: 15 :: 16 :: 17 :: 18 :: 19 :: 20 :: 21 :: 22 :: 23 :: 24 :: 25 :: 26 :: 27 :: 28 :: 29 :: 30 :: 31 :: 32 :: 33 :: 34 :: 35 :: 36 :: 37 :: 38 :: 39 :: 40 :: 41 :: 42 :: 43 :: []) :: (0 :: 1 :: 2 :: 3 :: 4 :: 5 :: 6 :: 7 :: 8 :: 9 :: 10 :: 11 :: 12 :: 13 :: 14 :: 15 :: 16 :: 17 :: 18 :: 19 :: 20 :: 21 :: 22 :: 23 :: 24 :: 25 :: 26 :: 27 :: 28 :: 29 :: 30 :: 31 :: 32 :: 33 :: 34 :: 35 :: 36 :: 37 :: 38 :: 39 :: 40 :: 41 :: 42 :: 43 :: 44 :: []) :: (0 :: 1 :: 2 :: 3 :: 4 :: 5 :: 6 :: 7 :: 8 :: 9 :: 10 :: 11 :: 12 :: 13 :: 14 :: 15 :: 16 :: 17 :: 18 :: 19 :: 20 :: 21 :: 22 :: 23 :: 24 :: 25 :: 26 :: 27 :: 28 :: 29 :: 30 :: 31 :: 32 :: 33 :: 34 :: 35 :: 36 :: 37 :: 38 :: 39 :: 40 :: 41 :: 42 :: 43 :: 44 :: 45 :: []) :: (0 :: 1 :: 2 :: 3 :: 4 :: 5 :: 6 :: 7 :: 8 :: 9 :: 10 :: 11 :: 12 :: 13 :: 14 :: 15 :: 16 :: 17 :: 18 :: 19 :: 20 :: 21 :: 22 :: 23 :: 24 :: 25 :: 26 :: 27 :: 28 :: 29 :: 30 :: 31 :: 32 :: 33 :: 34 :: 35 :: 36 :: 37 :: 38 :: 39 :: 40 :: 41 :: []) :: (0 :: 1 :: 2 :: 3 :: 4 :: 5 :: 6 :: 7 :: 8 :: 9 :: 10 :: 11 :: 12 :: 13 :: 14 :: 15 :: 16 :: 17 :: 18 :: 19 :: 20 :: 21 :: 22 :: 23 :: 24 :: 25 :: 26 :: 27 :: 28 :: 29 :: 30 :: 31 :: 32 :: 33 :: 34 :: 35 :: 36 :: 37 :: 38 :: 39 :: 40 :: 41 :: []) :: (0 :: 1 :: 2 :: 3 :: 4 :: 5 :: 6 :: 7 :: 8 :: 9 :: 10 :: 11 :: 12 :: 13 :: 14 :: 15 :: 16 :: 17 :: 18 :: 19 :: 20 :: 21 :: 22 :: 23 :: 24 :: 25 :: 26 :: 27 :: 28 :: 29 :: 30 :: 31 :: 32 :: 33 :: 34 :: 35 :: 36 :: 37 :: 38 :: 39 :: 40 :: 41 :: 47 :: 48 :: []) :: (0 :: 1 :: 2 :: 3 :: 4 :: 5 :: 6 :: 7 :: 8 :: 9 :: 10 :: 11 :: 12 :: 13 :: 14 :: 15 :: 16 :: 17 :: 18 :: 19 :: 20 :: 21 :: 22 :: 23 :: 24 :: 25 :: 26 :: 27 :: 28 :: 29 :: 30 :: 31 :: 32 :: 33 :: 34 :: 35 :: 36 :: 37 :: 38 :: 39 :: 40 :: 41 :: 47 :: 48 :: 49 :: []) :: (0 :: 1 :: 2 :: 3 :: 4 :: 5 :: 6 :: 7 :: 8 :: 9 :: 10 :: 11 :: 12 :: 13 :: 14 :: 15 :: 16 :: 17 :: 18 :: 19 :: 20 :: 21 :: 22 :: 23 :: 24 :: 25 :: 26 :: 27 :: 28 :: 29 :: 30 :: 31 :: 32 :: 33 :: 34 :: 35 :: 36 :: 37 :: 38 :: 39 :: 40 :: 41 :: 47 :: 48 :: 49 :: 50 :: []) :: (0 :: 1 :: 2 :: 3 :: 4 :: 5 :: 6 :: 7 :: 8 :: 9 :: 10 :: 11 :: 12 :: 13 :: 14 :: 15 :: 16 :: 17 :: 18 :: 19 :: 20 :: 21 :: 22 :: 23 :: 24 :: 25 :: 26 :: 27 :: 28 :: 29 :: 30 :: 31 :: 32 :: 33 :: 34 :: 35 :: 36 :: 37 :: 38 :: 39 :: 40 :: 41 :: 42 :: 43 :: 44 :: 45 :: 46 :: 47 :: 48 :: 49 :: 50 :: 51 :: []) :: (0 :: 1 :: 2 :: 3 :: 4 :: 5 :: 6 :: 7 :: 8 :: 9 :: 10 :: 11 :: 12 :: 13 :: 14 :: 15 :: 16 :: 17 :: 18 :: 19 :: 20 :: 21 :: 22 :: 23 :: 24 :: 25 :: 26 :: 27 :: 28 :: 29 :: 30 :: 31 :: 32 :: 33 :: 34 :: 35 :: 36 :: 37 :: 38 :: 39 :: 40 :: 41 :: 42 :: 43 :: 44 :: 45 :: 46 :: 47 :: 48 :: 49 :: 50 :: 51 :: 52 :: []) :: [])) (sl' := [(0, .one (.g (.d (.sl 6 (List.map encApi_Event a_0))))), (1, .one (.g (.d (.sl 6 (List.map encApi_Event b_1))))), (5, oI v4), (82, oB true)]) (hp' := []) (.c (oP rfl rfl (op_move (Ev.t 6 (bB r11)) rfl)) (.c (oP rfl rfl (OpL.cast (op_not (Ev.t 29 (bB r11)) rfl) (congrArg (fun b => bB b) hc12))) (.c (oP rfl rfl (op_move (Ev.t 30 (bB false)) rfl)) (.c (oY rfl rfl rfl (op_move (Ev.t 0 (.g (.d (.sl 6 (List.map encApi_Event a_0))))) rfl)) (.c (oY rfl rfl rfl (op_move (Ev.t 5 (bI .i64 v4)) rfl)) (.c (oY rfl rfl rfl (op_index (cs := [vI x13.Kind, vI x13.Client, vS x13.Key, vI x13.Stamp.N, vI x13.Stamp.Site, .sl 3 (List.map encApi_Dep x13.Seen)]) Try.underlying24 ti30 (idx_ok hx13).1 (idx_get hx13 encApi_Event) (Ev.t 32 (.g (.d (.sl 6 (List.map encApi_Event a_0))))) (Ev.t 33 (bI .i64 v4)) rfl)) (.c (oY rfl rfl rfl (op_fieldE (cs' := [vI x13.Kind, vI x13.Client, vS x13.Key, vI x13.Stamp.N, vI x13.Stamp.Site, .sl 3 (List.map encApi_Dep x13.Seen)]) Try.underlying30 rfl ti3 (by decide) rfl (Ev.t 34 (.ep [vI x13.Kind, vI x13.Client, vS x13.Key, vI x13.Stamp.N, vI x13.Stamp.Site, .sl 3 (List.map encApi_Dep x13.Seen)])) rfl)) (.c (oY rfl rfl rfl (op_load1E (c := vI x13.Kind) Try.underlying3 rfl rfl (Ev.t 35 (.ep [vI x13.Kind, vI x13.Client, vS x13.Key, vI x13.Stamp.N, vI x13.Stamp.Site, .sl 3 (List.map encApi_Dep x13.Seen)])) rfl)) (.c (oY rfl rfl rfl (op_move (Ev.t 1 (.g (.d (.sl 6 (List.map encApi_Event b_1))))) rfl)) (.c (oY rfl rfl rfl (op_move (Ev.t 5 (bI .i64 v4)) rfl)) (.c (oY rfl rfl rfl (op_index (cs := [vI x14.Kind, vI x14.Client, vS x14.Key, vI x14.Stamp.N, vI x14.Stamp.Site, .sl 3 (List.map encApi_Dep x14.Seen)]) Try.underlying24 ti30 (idx_ok hx14).1 (idx_get hx14 encApi_Event) (Ev.t 37 (.g (.d (.sl 6 (List.map encApi_Event b_1))))) (Ev.t 38 (bI .i64 v4)) rfl)) (.c (oY rfl rfl rfl (op_fieldE (cs' := [vI x14.Kind, vI x14.Client, vS x14.Key, vI x14.Stamp.N, vI x14.Stamp.Site, .sl 3 (List.map encApi_Dep x14.Seen)]) Try.underlying30 rfl ti3 (by decide) rfl (Ev.t 39 (.ep [vI x14.Kind, vI x14.Client, vS x14.Key, vI x14.Stamp.N, vI x14.Stamp.Site, .sl 3 (List.map encApi_Dep x14.Seen)])) rfl)) (.c (oY rfl rfl rfl (op_load1E (c := vI x14.Kind) Try.underlying3 rfl rfl (Ev.t 40 (.ep [vI x14.Kind, vI x14.Client, vS x14.Key, vI x14.Stamp.N, vI x14.Stamp.Site, .sl 3 (List.map encApi_Dep x14.Seen)])) rfl)) (.c (oY rfl rfl rfl (OpL.cast (op_neI (Ev.t 36 (bI .i64 x13.Kind)) (Ev.t 41 (bI .i64 x14.Kind)) rfl) (congrArg (fun b => bB b) hc15))) (.c (oP rfl rfl (op_pickF (Ev.t 31 (bB false)) (Ev.t 42 (bB false)) rfl)) (.c (oP rfl rfl (op_move (Ev.t 43 (bB false)) rfl)) (.c (oY rfl rfl rfl (op_move (Ev.t 0 (.g (.d (.sl 6 (List.map encApi_Event a_0))))) rfl)) (.c (oY rfl rfl rfl (op_move (Ev.t 5 (bI .i64 v4)) rfl)) (.c (oY rfl rfl rfl (op_index (cs := [vI x16.Kind, vI x16.Client, vS x16.Key, vI x16.Stamp.N, vI x16.Stamp.Site, .sl 3 (List.map encApi_Dep x16.Seen)]) Try.underlying24 ti30 (idx_ok hx16).1 (idx_get hx16 encApi_Event) (Ev.t 45 (.g (.d (.sl 6 (List.map encApi_Event a_0))))) (Ev.t 46 (bI .i64 v4)) rfl)) (.c (oY rfl rfl rfl (op_fieldE (cs' := [vI x16.Client, vS x16.Key, vI x16.Stamp.N, vI x16.Stamp.Site, .sl 3 (List.map encApi_Dep x16.Seen)]) Try.underlying30 rfl ti3 (by decide) rfl (Ev.t 47 (.ep [vI x16.Kind, vI x16.Client, vS x16.Key, vI x16.Stamp.N, vI x16.Stamp.Site, .sl 3 (List.map encApi_Dep x16.Seen)])) rfl)) (.c (oY rfl rfl rfl (op_load1E (c := vI x16.Client) Try.underlying3 rfl rfl (Ev.t 48 (.ep [vI x16.Client, vS x16.Key, vI x16.Stamp.N, vI x16.Stamp.Site, .sl 3 (List.map encApi_Dep x16.Seen)])) rfl)) (.c (oY rfl rfl rfl (op_move (Ev.t 1 (.g (.d (.sl 6 (List.map encApi_Event b_1))))) rfl)) (.c (oY rfl rfl rfl (op_move (Ev.t 5 (bI .i64 v4)) rfl)) (.c (oY rfl rfl rfl (op_index (cs := [vI x17.Kind, vI x17.Client, vS x17.Key, vI x17.Stamp.N, vI x17.Stamp.Site, .sl 3 (List.map encApi_Dep x17.Seen)]) Try.underlying24 ti30 (idx_ok hx17).1 (idx_get hx17 encApi_Event) (Ev.t 50 (.g (.d (.sl 6 (List.map encApi_Event b_1))))) (Ev.t 51 (bI .i64 v4)) rfl)) (.c (oY rfl rfl rfl (op_fieldE (cs' := [vI x17.Client, vS x17.Key, vI x17.Stamp.N, vI x17.Stamp.Site, .sl 3 (List.map encApi_Dep x17.Seen)]) Try.underlying30 rfl ti3 (by decide) rfl (Ev.t 52 (.ep [vI x17.Kind, vI x17.Client, vS x17.Key, vI x17.Stamp.N, vI x17.Stamp.Site, .sl 3 (List.map encApi_Dep x17.Seen)])) rfl)) (.c (oY rfl rfl rfl (op_load1E (c := vI x17.Client) Try.underlying3 rfl rfl (Ev.t 53 (.ep [vI x17.Client, vS x17.Key, vI x17.Stamp.N, vI x17.Stamp.Site, .sl 3 (List.map encApi_Dep x17.Seen)])) rfl)) (.c (oY rfl rfl rfl (OpL.cast (op_neI (Ev.t 49 (bI .i64 x16.Client)) (Ev.t 54 (bI .i64 x17.Client)) rfl) (congrArg (fun b => bB b) hc18))) (.c (oP rfl rfl (op_pickF (Ev.t 44 (bB false)) (Ev.t 55 (bB false)) rfl)) (.c (oP rfl rfl (op_move (Ev.t 56 (bB false)) rfl)) (.c (oY rfl rfl rfl (op_move (Ev.t 0 (.g (.d (.sl 6 (List.map encApi_Event a_0))))) rfl)) (.c (oY rfl rfl rfl (op_move (Ev.t 5 (bI .i64 v4)) rfl)) (.c (oY rfl rfl rfl (op_index (cs := [vI x19.Kind, vI x19.Client, vS x19.Key, vI x19.Stamp.N, vI x19.Stamp.Site, .sl 3 (List.map encApi_Dep x19.Seen)]) Try.underlying24 ti30 (idx_ok hx19).1 (idx_get hx19 encApi_Event) (Ev.t 58 (.g (.d (.sl 6 (List.map encApi_Event a_0))))) (Ev.t 59 (bI .i64 v4)) rfl)) (.c (oY rfl rfl rfl (op_fieldE (cs' := [vS x19.Key, vI x19.Stamp.N, vI x19.Stamp.Site, .sl 3 (List.map encApi_Dep x19.Seen)]) Try.underlying30 rfl ti9 (by decide) rfl (Ev.t 60 (.ep [vI x19.Kind, vI x19.Client, vS x19.Key, vI x19.Stamp.N, vI x19.Stamp.Site, .sl 3 (List.map encApi_Dep x19.Seen)])) rfl)) (.c (oY rfl rfl rfl (op_load1E (c := vS x19.Key) Try.underlying9 rfl rfl (Ev.t 61 (.ep [vS x19.Key, vI x19.Stamp.N, vI x19.Stamp.Site, .sl 3 (List.map encApi_Dep x19.Seen)])) rfl)) (.c (oY rfl rfl rfl (op_move (Ev.t 1 (.g (.d (.sl 6 (List.map encApi_Event b_1))))) rfl)) (.c (oY rfl rfl rfl (op_move (Ev.t 5 (bI .i64 v4)) rfl)) (.c (oY rfl rfl rfl (op_index (cs := [vI x20.Kind, vI x20.Client, vS x20.Key, vI x20.Stamp.N, vI x20.Stamp.Site, .sl 3 (List.map encApi_Dep x20.Seen)]) Try.underlying24 ti30 (idx_ok hx20).1 (idx_get hx20 encApi_Event) (Ev.t 63 (.g (.d (.sl 6 (List.map encApi_Event b_1))))) (Ev.t 64 (bI .i64 v4)) rfl)) (.c (oY rfl rfl rfl (op_fieldE (cs' := [vS x20.Key, vI x20.Stamp.N, vI x20.Stamp.Site, .sl 3 (List.map encApi_Dep x20.Seen)]) Try.underlying30 rfl ti9 (by decide) rfl (Ev.t 65 (.ep [vI x20.Kind, vI x20.Client, vS x20.Key, vI x20.Stamp.N, vI x20.Stamp.Site, .sl 3 (List.map encApi_Dep x20.Seen)])) rfl)) (.c (oY rfl rfl rfl (op_load1E (c := vS x20.Key) Try.underlying9 rfl rfl (Ev.t 66 (.ep [vS x20.Key, vI x20.Stamp.N, vI x20.Stamp.Site, .sl 3 (List.map encApi_Dep x20.Seen)])) rfl)) (.c (oY rfl rfl rfl (OpL.cast (op_neS (Ev.t 62 (bS x19.Key)) (Ev.t 67 (bS x20.Key)) rfl) (congrArg (fun b => bB b) hc21))) (.c (oP rfl rfl (op_pickF (Ev.t 57 (bB false)) (Ev.t 68 (bB true)) rfl)) (.c (oP rfl rfl (op_move (Ev.t 69 (bB true)) rfl)) (.c (OpW.no rfl rfl rfl rfl rfl) (.c (OpW.no rfl rfl rfl rfl rfl) (.c (OpW.no rfl rfl rfl rfl rfl) (.c (OpW.no rfl rfl rfl rfl rfl) (.c (OpW.no rfl rfl rfl rfl rfl) (.c (OpW.no rfl rfl rfl rfl rfl) (.c (OpW.no rfl rfl rfl rfl rfl) (.c (OpW.no rfl rfl rfl rfl rfl) (.c (OpW.no rfl rfl rfl rfl rfl) (.c (OpW.no rfl rfl rfl rfl rfl) (.c (OpW.no rfl rfl rfl rfl rfl) (.c (oP rfl rfl (op_pickT (Ev.t 70 (bB true)) (Ev.c _ rfl) rfl)) .nil)))))))))))))))))))))))))))))))))))))))))))))))))))))) follows rfl rfl rfl ⟨⟨rfl, trivial⟩, trivial, ⟨rfl, trivial⟩, trivial, ⟨rfl, trivial⟩, trivial, ⟨rfl, rfl, trivial⟩, trivial, ⟨rfl, rfl, trivial⟩, trivial, ⟨rfl, rfl, rfl, trivial⟩, trivial, ⟨rfl, rfl, trivial⟩, trivial, ⟨rfl, rfl, trivial⟩, trivial, ⟨rfl, rfl, trivial⟩, trivial, ⟨rfl, rfl, trivial⟩, trivial, ⟨rfl, rfl, rfl, trivial⟩, trivial, ⟨rfl, rfl, trivial⟩, trivial, ⟨rfl, rfl, trivial⟩, trivial, ⟨rfl, rfl, rfl, trivial⟩, trivial, ⟨rfl, rfl, trivial⟩, trivial, ⟨rfl, trivial⟩, trivial, ⟨rfl, rfl, trivial⟩, trivial, ⟨rfl, rfl, trivial⟩, trivial, ⟨rfl, rfl, rfl, trivial⟩, trivial, ⟨rfl, rfl, trivial⟩, trivial, ⟨rfl, rfl, trivial⟩, trivial, ⟨rfl, rfl, trivial⟩, trivial, ⟨rfl, rfl, trivial⟩, trivial, ⟨rfl, rfl, rfl, trivial⟩, trivial, ⟨rfl, rfl, trivial⟩, trivial, ⟨rfl, rfl, trivial⟩, trivial, ⟨rfl, rfl, rfl, trivial⟩, trivial, ⟨rfl, rfl, trivial⟩, trivial, ⟨rfl, trivial⟩, trivial, ⟨rfl, rfl, trivial⟩, trivial, ⟨rfl, rfl, trivial⟩, trivial, ⟨rfl, rfl, rfl, trivial⟩, trivial, ⟨rfl, rfl, trivial⟩, trivial, ⟨rfl, rfl, trivial⟩, trivial, ⟨rfl, rfl, trivial⟩, trivial, ⟨rfl, rfl, trivial⟩, trivial, ⟨rfl, rfl, rfl, trivial⟩, trivial, ⟨rfl, rfl, trivial⟩, trivial, ⟨rfl, rfl, trivial⟩, trivial, ⟨rfl, rfl, rfl, trivial⟩, trivial, ⟨rfl, rfl, trivial⟩, trivial, ⟨rfl, trivial⟩, trivial, ⟨rfl, trivial⟩, trivial, ⟨rfl, trivial⟩, trivial, ⟨rfl, trivial⟩, trivial, ⟨rfl, trivial⟩, trivial, ⟨rfl, trivial⟩, trivial, ⟨rfl, trivial⟩, trivial, ⟨rfl, trivial⟩, trivial, ⟨rfl, trivial⟩, trivial, ⟨rfl, trivial⟩, trivial, ⟨rfl, trivial⟩, trivial, ⟨rfl, trivial⟩, trivial, ⟨rfl, trivial⟩, trivial, trivial⟩ ⟨rfl, rfl, rfl, rfl, trivial⟩ trivial rfl ?_
              refine G.condT rfl ?_
              refine G.seq ?_
              refine G.region ?_
              refine G.op1 (op_assign (Ev.c _ rfl) rfl) rfl trivial trivial ?_
              refine G.endOps ?_
              cases hF
              exact G.ret1 Try.results19 (RVar.tmp 4 _) ⟨rfl, trivial⟩ trivial
            · obtain ⟨x22, hx22, hF⟩ := bindS hF
              obtain ⟨x23, hx23, hF⟩ := bindS hF
              refine G.drawnI (deps := ([] :: [0] :: [0, 1] :: [0, 1, 2] :: [0, 1, 2] :: [0, 1, 2, 3, 4] :: [0, 1, 2, 3, 4, 5] :: [0, 1, 2, 3, 4, 5, 6] :: [0, 1, 2] :: [0, 1, 2] :: [0, 1, 2, 8, 9] :: [0, 1, 2, 8, 9, 10] :: [0, 1, 2, 8, 9, 10, 11] :: [0, 1, 2, 3, 4, 5, 6, 7, 8, 9, 10, 11, 12] :: [0, 1, 2, 3, 4, 5, 6, 7, 8, 9, 10, 11, 12, 13] :: [0, 1, 2, 3, 4, 5, 6, 7, 8, 9, 10, 11, 12, 13, 14] :: [0, 1, 2, 3, 4, 5, 6, 7, 8, 9, 10, 11, 12, 13, 14, 15] :: [0, 1, 2, 3, 4, 5, 6, 7, 8, 9, 10, 11, 12, 13, 14, 15] :: [0, 1, 2, 3, 4, 5, 6, 7, 8, 9, 10, 11, 12, 13, 14, 15, 16, 17] :: [0, 1, 2, 3, 4, 5, 6, 7, 8, 9, 10, 11, 12, 13, 14, 15, 16, 17, 18] :: [0, 1, 2, 3, 4, 5, 6, 7, 8, 9, 10, 11, 12, 13, 14, 15, 16, 17, 18, 19] :: [0, 1, 2, 3, 4, 5, 6, 7, 8, 9, 10, 11, 12, 13, 14, 15] :: [0, 1, 2, 3, 4, 5, 6, 7, 8, 9, 10, 11, 12, 13, 14, 15] :: [0, 1, 2, 3, 4, 5, 6, 7, 8, 9, 10, 11, 12, 13, 14, 15, 21, 22] :: [0, 1, 2, 3, 4, 5, 6, 7, 8, 9, 10, 11, 12, 13, 14, 15, 21, 22, 23] :: [0, 1, 2, 3, 4, 5, 6, 7, 8, 9, 10, 11, 12, 13, 14, 15, 21, 22, 23, 24] :: (0 :: 1 :: 2 :: 3 :: 4 :: 5 :: 6 :: 7 :: 8 :: 9 :: 10 :: 11 :: 12 :: 13 :: 14 :: 15 :: 16 :: 17 :: 18 :: 19 :: 20 :: 21 :: 22 :: 23 :: 24 :: 25 :: []) :: (0 :: 1 :: 2 :: 3 :: 4 :: 5 :: 6 :: 7 :: 8 :: 9 :: 10 :: 11 :: 12 :: 13 :: 14 :: 15 :: 16 :: 17 :: 18 :: 19 :: 20 :: 21 :: 22 :: 23 :: 24 :: 25 :: 26 :: []) :: (0 :: 1 :: 2 :: 3 :: 4 :: 5 :: 6 :: 7 :: 8 :: 9 :: 10 :: 11 :: 12 :: 13 :: 14 :: 15 :: 16 :: 17 :: 18 :: 19 :: 20 :: 21 :: 22 :: 23 :: 24 :: 25 :: 26 :: 27 :: []) :: (0 :: 1 :: 2 :: 3 :: 4 :: 5 :: 6 :: 7 :: 8 :: 9 :: 10 :: 11 :: 12 :: 13 :: 14 :: 15 :: 16 :: 17 :: 18 :: 19 :: 20 :: 21 :: 22 :: 23 :: 24 :: 25 :: 26 :: 27 :: 28 :: []) :: (0 :: 1 :: 2 :: 3 :: 4 :: 5 :: 6 :: 7 :: 8 :: 9 :: 10 :: 11 :: 12 :: 13 :: 14 :: 15 :: 16 :: 17 :: 18 :: 19 :: 20 :: 21 :: 22 :: 23 :: 24 :: 25 :: 26 :: 27 :: 28 :: []) :: (0 :: 1 :: 2 :: 3 :: 4 :: 5 :: 6 :: 7 :: 8 :: 9 :: 10 :: 11 :: 12 :: 13 :: 14 :: 15 :: 16 :: 17 :: 18 :: 19 :: 20 :: 21 :: 22 :: 23 :: 24 :: 25 :: 26 :: 27 :: 28 :: 29 :: 30 :: []) :: (0 :: 1 :: 2 :: 3 :: 4 :: 5 :: 6 :: 7 :: 8 :: 9 :: 10 :: 11 :: 12 :: 13 :: 14 :: 15 :: 16 :: 17 :: 18 :: 19 :: 20 :: 21 :: 22 :: 23 :: 24 :: 25 :: 26 :: 27 :: 28 :: 29 :: 30 :: 31 :: []) :: (0 :: 1 :: 2 :: 3 :: 4 :: 5 :: 6 :: 7 :: 8 :: 9 :: 10 :: 11 :: 12 :: 13 :: 14 :: 15 :: 16 :: 17 :: 18 :: 19 :: 20 :: 21 :: 22 :: 23 :: 24 :: 25 :: 26 :: 27 :: 28 :: 29 :: 30 :: 31 :: 32 :: []) :: (0 :: 1 :: 2 :: 3 :: 4 :: 5 :: 6 :: 7 :: 8 :: 9 :: 10 :: 11 :: 12 :: 13 :: 14 :: 15 :: 16 :: 17 :: 18 :: 19 :: 20 :: 21 :: 22 :: 23 :: 24 :: 25 :: 26 :: 27 :: 28 :: []) :: (0 :: 1 :: 2 :: 3 :: 4 :: 5 :: 6 :: 7 :: 8 :: 9 :: 10 :: 11 :: 12 :: 13 :: 14 :: 15 :: 16 :: 17 :: 18 :: 19 :: 20 :: 21 :: 22 :: 23 :: 24 :: 25 :: 26 :: 27 :: 28 :: []) :: (0 :: 1 :: 2 :: 3 :: 4 :: 5 :: 6 :: 7 :: 8 :: 9 :: 10 :: 11 :: 12 :: 13 :: 14 :: 15 :: 16 :: 17 :: 18 :: 19 :: 20 :: 21 :: 22 :: 23 :: 24 :: 25 :: 26 :: 27 :: 28 :: 34 :: 35 :: []) :: (0 :: 1 :: 2 :: 3 :: 4 :: 5 :: 6 :: 7 :: 8 :: 9 :: 10 :: 11 :: 12 :: 13 :: 14 :: 15 :: 16 :: 17 :: 18 :: 19 :: 20 :: 21 :: 22 :: 23 :: 24 :: 25 :: 26 :: 27 :: 28 :: 34 :: 35 :: 36 :: []) :: (0 :: 1 :: 2 :: 3 :: 4 :: 5 :: 6 :: 7 :: 8 :: 9 :: 10 :: 11 :: 12 :: 13 :: 14 :: 15 :: 16 :: 17 :: 18 :: 19 :: 20 :: 21 :: 22 :: 23 :: 24 :: 25 :: 26 :: 27 :: 28 :: 34 :: 35 :: 36 :: 37 :: []) :: (0 :: 1 :: 2 :: 3 :: 4 :: 5 :: 6 :: 7 :: 8 :: 9 :: 10 :: 11 :: 12 :: 13 :: 14 :: 15 :: 16 :: 17 :: 18 :: 19 :: 20 :: 21 :: 22 :: 23 :: 24 :: 25 :: 26 :: 27 :: 28 :: 29 :: 30 :: 31 :: 32 :: 33 :: 34 :: 35 :: 36 :: 37 :: 38 :: []) :: (0 :: 1 :: 2 :: 3 :: 4 :: 5 :: 6 :: 7 :: 8 :: 9 :: 10 :: 11 :: 12 :: 13 :: 14 :: 15 :: 16 :: 17 :: 18 :: 19 :: 20 :: 21 :: 22 :: 23 :: 24 :: 25 :: 26 :: 27 :: 28 :: 29 :: 30 :: 31 :: 32 :: 33 :: 34 :: 35 :: 36 :: 37 :: 38 :: 39 :: []) :: (0 :: 1 :: 2 :: 3 :: 4 :: 5 :: 6 :: 7 :: 8 :: 9 :: 10 :: 11 :: 12 :: 13 :: 14 :: 15 :: 16 :: 17 :: 18 :: 19 :: 20 :: 21 :: 22 :: 23 :: 24 :: 25 :: 26 :: 27 :: 28 :: 29 :: 30 :: 31 :: 32 :: 33 :: 34 :: 35 :: 36 :: 37 :: 38 :: 39 :: 40 :: []) :: (0 :: 1 :: 2 :: 3 :: 4 :: 5 :: 6 :: 7 :: 8 :: 9 :: 10 :: 11 :: 12 :: 13 :: 14 :: 15 :: 16 :: 17 :: 18 :: 19 :: 20 :: 21 :: 22 :: 23 :: 24 :: 25 :: 26 :: 27 :: 28 :: 29 :: 30 :: 31 :: 32 :: 33 :: 34 :: 35 :: 36 :: 37 :: 38 :: 39 :: 40 :: 41 :: []) :: (0 :: 1 :: 2 :: 3 :: 4 :: 5 :: 6 :: 7 :: 8 :: 9 :: 10 :: 11 :: 12 :: 13 :: 14 :: 15 :: 16 :: 17 :: 18 :: 19 :: 20 :: 21 :: 22 :: 23 :: 24 :: 25 :: 26 :: 27 :: 28 :: 29 :: 30 :: 31 :: 32 :: 33 :: 34 :: 35 :: 36 :: 37 :: 38 :: 39 :: 40 :: 41 :: []) :: (0 :: 1 :: 2 :: 3 :: 4 :: 5 :: 6 :: 7 :: 8 :: 9 :: 10 :: 11 :: 12 :: 13 :: 14 :: 15 :: 16 :: 17 :: 18 :: 19 :: 20 :: 21 :: 22 :: 23 :: 24 :: 25 :: 26 :: 27 :: 28 :: 29 :: 30 :: 31 :: 32 :: 33 :: 34 :: 35 :: 36 :: 37 :: 38 :: 39 :: 40 :: 41 :: 42 :: 43 :: []) :: (0 :: 1 :: 2 :: 3 :: 4 :: 5 :: 6 :: 7 :: 8 :: 9 :: 10 :: 11 :: 12 :: 13 :: 14 :: 15 :: 16 :: 17 :: 18 :: 19 :: 20 :: 21 :: 22 :: 23 :: 24 :: 25 :: 26 :: 27 :: 28 :: 29 :: 30 :: 31 :: 32 :: 33 :: 34 :: 35 :: 36 :: 37 :: 38 :: 39 :: 40 :: 41 :: 42 :: 43 :: 44 :: []) :: (0 :: 1 :: 2 :: 3 :: 4 :: 5 :: 6 :: 7 :: 8 :: 9 :: 10 :: 11 :: 12 :: 13 :: 14 :: 15 :: 16 :: 17 :: 18 :: 19 :: 20 :: 21 :: 22 :: 23 :: 24 :: 25 :: 26 :: 27 :: 28 :: 29 :: 30 :: 31 :: 32 :: 33 :: 34 :: 35 :: 36 :: 37 :: 38 :: 39 :: 40 :: 41 :: 42 :: 43 :: 44 :: 45 :: []) :: (0 :: 1 :: 2 :: 3 :: 4 :: 5 :: 6 :: 7 :: 8 :: 9 :: 10 :: 11 :: 12 :: 13 :: 14 :: 15 :: 16 :: 17 :: 18 :: 19 :: 20 :: 21 :: 22 :: 23 :: 24 :: 25 :: 26 :: 27 :: 28 :: 29 :: 30 :: 31 :: 32 :: 33 :: 34 :: 35 :: 36 :: 37 :: 38 :: 39 :: 40 :: 41 :: []) :: (0 :: 1 :: 2 :: 3 :: 4 :: 5 :: 6 :: 7 :: 8 :: 9 :: 10 :: 11 :: 12 :: 13 :: 14 :: 15 :: 16 :: 17 :: 18 :: 19 :: 20 :: 21 :: 22 :: 23 :: 24 :: 25 :: 26 :: 27 :: 28 :: 29 :: 30 :: 31 :: 32 :: 33 :: 34 :: 35 :: 36 :: 37 :: 38 :: 39 :: 40 :: 41 :: []) :: (0 :: 1 :: 2 :: 3 :: 4 :: 5 :: 6 :: 7 :: 8 :: 9 :: 10 :: 11 :: 12 :: 13 :: 14 :: 15 :: 16 :: 17 :: 18 :: 19 :: 20 :: 21 :: 22 :: 23 :: 24 :: 25 :: 26 :: 27 :: 28 :: 29 :: 30 :: 31 :: 32 :: 33 :: 34 :: 35 :: 36 :: 37 :: 38 :: 39 :: 40 :: 41 :: 47 :: 48 :: []) :: (0 :: 1 :: 2 :: 3 :: 4 :: 5 :: 6 :: 7 :: 8 :: 9 :: 10 :: 11 :: 12 :: 13 :: 14 :: 15 :: 16 :: 17 :: 18 :: 19 :: 20 :: 21 :: 22 :: 23 :: 24 :: 25 :: 26 :: 27 :: 28 :: 29 :: 30 :: 31 :: 32 :: 33 :: 34 :: 35 :: 36 :: 37 :: 38 :: 39 :: 40 :: 41 :: 47 :: 48 :: 49 :: []) :: (0 :: 1 :: 2 :: 3 :: 4 :: 5 :: 6 :: 7 :: 8 :: 9 :: 10 :: 11 :: 12 :: 13 :: 14 :: 15 :: 16 :: 17 :: 18 :: 19 :: 20 :: 21 :: 22 :: 23 :: 24 :: 25 :: 26 :: 27 :: 28 :: 29 :: 30 :: 31 :: 32 :: 33 :: 34 :: 35 :: 36 :: 37 :: 38 :: 39 :: 40 :: 41 :: 47 :: 48 :: 49 :: 50 :: []) :: (0 :: 1 :: 2 :: 3 :: 4 :: 5 :: 6 :: 7 :: 8 :: 9 :: 10 :: 11 :: 12 :: 13 :: 14 :: 15 :: 16 :: 17 :: 18 :: 19 :: 20 :: 21 :: 22 :: 23 :: 24 :: 25 :: 26 :: 27 :: 28 :: 29 :: 30 :: 31 :: 32 :: 33 :: 34 :: 35 :: 36 :: 37 :: 38 :: 39 :: 40 :: 41 :: 42 :: 43 :: 44 :: 45 :: 46 :: 47 :: 48 :: 49 :: 50 :: 51 :: []) :: (0 :: 1 :: 2 :: 3 :: 4 :: 5 :: 6 :: 7 :: 8 :: 9 :: 10 :: 11 :: 12 :: 13 :: 14 :: 15 :: 16 :: 17 :: 18 :: 19 :: 20 :: 21 :: 22 :: 23 :: 24 :: 25 :: 26 :: 27 :: 28 :: 29 :: 30 :: 31 :: 32 :: 33 :: 34 :: 35 :: 36 :: 37 :: 38 :: 39 :: 40 :: 41 :: 42 :: 43 :: 44 :: 45 :: 46 :: 47 :: 48 :: 49 :: 50 :: 51 :: 52 :: []) :: [])) (sl' := [(0, .one (.g (.d (.sl 6 (List.map encApi_Event a_0))))), (1, .one (.g (.d (.sl 6 (List.map encApi_Event b_1))))), (5, oI v4), (82, oB (!(decide (x22.Stamp.N = x23.Stamp.N) && decide (x22.Stamp.Site = x23.Stamp.Site))))]) (hp' := []) (.c (oP rfl rfl (op_move (Ev.t 6 (bB r11)) rfl)) (.c (oP rfl rfl (OpL.cast (op_not (Ev.t 29 (bB r11)) rfl) (congrArg (fun b => bB b) hc12))) (.c (oP rfl rfl (op_move (Ev.t 30 (bB false)) rfl)) (.c (oY rfl rfl rfl (op_move (Ev.t 0 (.g (.d (.sl 6 (List.map encApi_Event a_0))))) rfl)) (.c (oY rfl rfl rfl (op_move (Ev.t 5 (bI .i64 v4)) rfl)) (.c (oY rfl rfl rfl (op_index (cs := [vI x13.Kind, vI x13.Client, vS x13.Key, vI x13.Stamp.N, vI x13.Stamp.Site, .sl 3 (List.map encApi_Dep x13.Seen)]) Try.underlying24 ti30 (idx_ok hx13).1 (idx_get hx13 encApi_Event) (Ev.t 32 (.g (.d (.sl 6 (List.map encApi_Event a_0))))) (Ev.t 33 (bI .i64 v4)) rfl)) (.c (oY rfl rfl rfl (op_fieldE (cs' := [vI x13.Kind, vI x13.Client, vS x13.Key, vI x13.Stamp.N, vI x13.Stamp.Site, .sl 3 (List.map encApi_Dep x13.Seen)]) Try.underlying30 rfl ti3 (by decide) rfl (Ev.t 34 (.ep [vI x13.Kind, vI x13.Client, vS x13.Key, vI x13.Stamp.N, vI x13.Stamp.Site, .sl 3 (List.map encApi_Dep x13.Seen)])) rfl)) (.c (oY rfl rfl rfl (op_load1E (c := vI x13.Kind) Try.underlying3 rfl rfl (Ev.t 35 (.ep [vI x13.Kind, vI x13.Client, vS x13.Key, vI x13.Stamp.N, vI x13.Stamp.Site, .sl 3 (List.map encApi_Dep x13.Seen)])) rfl)) (.c (oY rfl rfl rfl (op_move (Ev.t 1 (.g (.d (.sl 6 (List.map encApi_Event b_1))))) rfl)) (.c (oY rfl rfl rfl (op_move (Ev.t 5 (bI .i64 v4)) rfl)) (.c (oY rfl rfl rfl (op_index (cs := [vI x14.Kind, vI x14.Client, vS x14.Key, vI x14.Stamp.N, vI x14.Stamp.Site, .sl 3 (List.map encApi_Dep x14.Seen)]) Try.underlying24 ti30 (idx_ok hx14).1 (idx_get hx14 encApi_Event) (Ev.t 37 (.g (.d (.sl 6 (List.map encApi_Event b_1))))) (Ev.t 38 (bI .i64 v4)) rfl)) (.c (oY rfl rfl rfl (op_fieldE (cs' := [vI x14.Kind, vI x14.Client, vS x14.Key, vI x14.Stamp.N, vI x14.Stamp.Site, .sl 3 (List.map encApi_Dep x14.Seen)]) Try.underlying30 rfl ti3 (by decide) rfl (Ev.t 39 (.ep [vI x14.Kind, vI x14.Client, vS x14.Key, vI x14.Stamp.N, vI x14.Stamp.Site, .sl 3 (List.map encApi_Dep x14.Seen)])) rfl)) (.c (oY rfl rfl rfl (op_load1E (c := vI x14.Kind) Try.underlying3 rfl rfl (Ev.t 40 (.ep [vI x14.Kind, vI x14.Client, vS x14.Key, vI x14.Stamp.N, vI x14.Stamp.Site, .sl 3 (List.map encApi_Dep x14.Seen)])) rfl)) (.c (oY rfl rfl rfl (OpL.cast (op_neI (Ev.t 36 (bI .i64 x13.Kind)) (Ev.t 41 (bI .i64 x14.Kind)) rfl) (congrArg (fun b => bB b) hc15))) (.c (oP rfl rfl (op_pickF (Ev.t 31 (bB false)) (Ev.t 42 (bB false)) rfl)) (.c (oP rfl rfl (op_move (Ev.t 43 (bB false)) rfl)) (.c (oY rfl rfl rfl (op_move (Ev.t 0 (.g (.d (.sl 6 (List.map encApi_Event a_0))))) rfl)) (.c (oY rfl rfl rfl (op_move (Ev.t 5 (bI .i64 v4)) rfl)) (.c (oY rfl rfl rfl (op_index (cs := [vI x16.Kind, vI x16.Client, vS x16.Key, vI x16.Stamp.N, vI x16.Stamp.Site, .sl 3 (List.map encApi_Dep x16.Seen)]) Try.underlying24 ti30 (idx_ok hx16).1 (idx_get hx16 encApi_Event) (Ev.t 45 (.g (.d (.sl 6 (List.map encApi_Event a_0))))) (Ev.t 46 (bI .i64 v4)) rfl)) (.c (oY rfl rfl rfl (op_fieldE (cs' := [vI x16.Client, vS x16.Key, vI x16.Stamp.N, vI x16.Stamp.Site, .sl 3 (List.map encApi_Dep x16.Seen)]) Try.underlying30 rfl ti3 (by decide) rfl (Ev.t 47 (.ep [vI x16.Kind, vI x16.Client, vS x16.Key, vI x16.Stamp.N, vI x16.Stamp.Site, .sl 3 (List.map encApi_Dep x16.Seen)])) rfl)) (.c (oY rfl rfl rfl (op_load1E (c := vI x16.Client) Try.underlying3 rfl rfl (Ev.t 48 (.ep [vI x16.Client, vS x16.Key, vI x16.Stamp.N, vI x16.Stamp.Site, .sl 3 (List.map encApi_Dep x16.Seen)])) rfl)) (.c (oY rfl rfl rfl (op_move (Ev.t 1 (.g (.d (.sl 6 (List.map encApi_Event b_1))))) rfl)) (.c (oY rfl rfl rfl (op_move (Ev.t 5 (bI .i64 v4)) rfl)) (.c (oY rfl rfl rfl (op_index (cs := [vI x17.Kind, vI x17.Client, vS x17.Key, vI x17.Stamp.N, vI x17.Stamp.Site, .sl 3 (List.map encApi_Dep x17.Seen)]) Try.underlying24 ti30 (idx_ok hx17).1 (idx_get hx17 encApi_Event) (Ev.t 50 (.g (.d (.sl 6 (List.map encApi_Event b_1))))) (Ev.t 51 (bI .i64 v4)) rfl)) (.c (oY rfl rfl rfl (op_fieldE (cs' := [vI x17.Client, vS x17.Key, vI x17.Stamp.N, vI x17.Stamp.Site, .sl 3 (List.map encApi_Dep x17.Seen)]) Try.underlying30 rfl ti3 (by decide) rfl (Ev.t 52 (.ep [vI x17.Kind, vI x17.Client, vS x17.Key, vI x17.Stamp.N, vI x17.Stamp.Site, .sl 3 (List.map encApi_Dep x17.Seen)])) rfl)) (.c (oY rfl rfl rfl (op_load1E (c := vI x17.Client) Try.underlying3 rfl rfl (Ev.t 53 (.ep [vI x17.Client, vS x17.Key, vI x17.Stamp.N, vI x17.Stamp.Site, .sl 3 (List.map encApi_Dep x17.Seen)])) rfl)) (.c (oY rfl rfl rfl (OpL.cast (op_neI (Ev.t 49 (bI .i64 x16.Client)) (Ev.t 54 (bI .i64 x17.Client)) rfl) (congrArg (fun b => bB b) hc18))) (.c (oP rfl rfl (op_pickF (Ev.t 44 (bB false)) (Ev.t 55 (bB false)) rfl)) (.c (oP rfl rfl (op_move (Ev.t 56 (bB false)) rfl)) (.c (oY rfl rfl rfl (op_move (Ev.t 0 (.g (.d (.sl 6 (List.map encApi_Event a_0))))) rfl)) (.c (oY rfl rfl rfl (op_move (Ev.t 5 (bI .i64 v4)) rfl)) (.c (oY rfl rfl rfl (op_index (cs := [vI x19.Kind, vI x19.Client, vS x19.Key, vI x19.Stamp.N, vI x19.Stamp.Site, .sl 3 (List.map encApi_Dep x19.Seen)]) Try.underlying24 ti30 (idx_ok hx19).1 (idx_get hx19 encApi_Event) (Ev.t 58 (.g (.d (.sl 6 (List.map encApi_Event a_0))))) (Ev.t 59 (bI .i64 v4)) rfl)) (.c (oY rfl rfl rfl (op_fieldE (cs' := [vS x19.Key, vI x19.Stamp.N, vI x19.Stamp.Site, .sl 3 (List.map encApi_Dep x19.Seen)]) Try.underlying30 rfl ti9 (by decide) rfl (Ev.t 60 (.ep [vI x19.Kind, vI x19.Client, vS x19.Key, vI x19.Stamp.N, vI x19.Stamp.Site, .sl 3 (List.map encApi_Dep x19.Seen)])) rfl)) (.c (oY rfl rfl rfl (op_load1E (c := vS x19.Key) Try.underlying9 rfl rfl (Ev.t 61 (.ep [vS x19.Key, vI x19.Stamp.N, vI x19.Stamp.Site, .sl 3 (List.map encApi_Dep x19.Seen)])) rfl)) (.c (oY rfl rfl rfl (op_move (Ev.t 1 (.g (.d (.sl 6 (List.map encApi_Event b_1))))) rfl)) (.c (oY rfl rfl rfl (op_move (Ev.t 5 (bI .i64 v4)) rfl)) (.c (oY rfl rfl rfl (op_index (cs := [vI x20.Kind, vI x20.Client, vS x20.Key, vI x20.Stamp.N, vI x20.Stamp.Site, .sl 3 (List.map encApi_Dep x20.Seen)]) Try.underlying24 ti30 (idx_ok hx20).1 (idx_get hx20 encApi_Event) (Ev.t 63 (.g (.d (.sl 6 (List.map encApi_Event b_1))))) (Ev.t 64 (bI .i64 v4)) rfl)) (.c (oY rfl rfl rfl (op_fieldE (cs' := [vS x20.Key, vI x20.Stamp.N, vI x20.Stamp.Site, .sl 3 (List.map encApi_Dep x20.Seen)]) Try.underlying30 rfl ti9 (by decide) rfl (Ev.t 65 (.ep [vI x20.Kind, vI x20.Client, vS x20.Key, vI x20.Stamp.N, vI x20.Stamp.Site, .sl 3 (List.map encApi_Dep x20.Seen)])) rfl)) (.c (oY rfl rfl rfl (op_load1E (c := vS x20.Key) Try.underlying9 rfl rfl (Ev.t 66 (.ep [vS x20.Key, vI x20.Stamp.N, vI x20.Stamp.Site, .sl 3 (List.map encApi_Dep x20.Seen)])) rfl)) (.c (oY rfl rfl rfl (OpL.cast (op_neS (Ev.t 62 (bS x19.Key)) (Ev.t 67 (bS x20.Key)) rfl) (congrArg (fun b => bB b) hc21))) (.c (oP rfl rfl (op_pickF (Ev.t 57 (bB false)) (Ev.t 68 (bB false)) rfl)) (.c (oP rfl rfl (op_move (Ev.t 69 (bB false)) rfl)) (.c (oY rfl rfl rfl (op_move (Ev.t 0 (.g (.d (.sl 6 (List.map encApi_Event a_0))))) rfl)) (.c (oY rfl rfl rfl (op_move (Ev.t 5 (bI .i64 v4)) rfl)) (.c (oY rfl rfl rfl (op_index (cs := [vI x22.Kind, vI x22.Client, vS x22.Key, vI x22.Stamp.N, vI x22.Stamp.Site, .sl 3 (List.map encApi_Dep x22.Seen)]) Try.underlying24 ti30 (idx_ok hx22).1 (idx_get hx22 encApi_Event) (Ev.t 71 (.g (.d (.sl 6 (List.map encApi_Event a_0))))) (Ev.t 72 (bI .i64 v4)) rfl)) (.c (oY rfl rfl rfl (op_fieldE (cs' := [vI x22.Stamp.N, vI x22.Stamp.Site, .sl 3 (List.map encApi_Dep x22.Seen)]) Try.underlying30 rfl ti27 (by decide) rfl (Ev.t 73 (.ep [vI x22.Kind, vI x22.Client, vS x22.Key, vI x22.Stamp.N, vI x22.Stamp.Site, .sl 3 (List.map encApi_Dep x22.Seen)])) rfl)) (.c (oY rfl rfl rfl (op_loadAE (ds := [vI x22.Stamp.N, vI x22.Stamp.Site]) Try.underlying27 rfl ti27 rfl (Ev.t 74 (.ep [vI x22.Stamp.N, vI x22.Stamp.Site, .sl 3 (List.map encApi_Dep x22.Seen)])) rfl)) (.c (oY rfl rfl rfl (op_move (Ev.t 1 (.g (.d (.sl 6 (List.map encApi_Event b_1))))) rfl)) (.c (oY rfl rfl rfl (op_move (Ev.t 5 (bI .i64 v4)) rfl)) (.c (oY rfl rfl rfl (op_index (cs := [vI x23.Kind, vI x23.Client, vS x23.Key, vI x23.Stamp.N, vI x23.Stamp.Site, .sl 3 (List.map encApi_Dep x23.Seen)]) Try.underlying24 ti30 (idx_ok hx23).1 (idx_get hx23 encApi_Event) (Ev.t 76 (.g (.d (.sl 6 (List.map encApi_Event b_1))))) (Ev.t 77 (bI .i64 v4)) rfl)) (.c (oY rfl rfl rfl (op_fieldE (cs' := [vI x23.Stamp.N, vI x23.Stamp.Site, .sl 3 (List.map encApi_Dep x23.Seen)]) Try.underlying30 rfl ti27 (by decide) rfl (Ev.t 78 (.ep [vI x23.Kind, vI x23.Client, vS x23.Key, vI x23.Stamp.N, vI x23.Stamp.Site, .sl 3 (List.map encApi_Dep x23.Seen)])) rfl)) (.c (oY rfl rfl rfl (op_loadAE (ds := [vI x23.Stamp.N, vI x23.Stamp.Site]) Try.underlying27 rfl ti27 rfl (Ev.t 79 (.ep [vI x23.Stamp.N, vI x23.Stamp.Site, .sl 3 (List.map encApi_Dep x23.Seen)])) rfl)) (.c (oY rfl rfl rfl (op_eqA (us := [.int .i64 x22.Stamp.N, .int .i64 x22.Stamp.Site]) (vs := [.int .i64 x23.Stamp.N, .int .i64 x23.Stamp.Site]) rfl rfl Try.eqGuardType27 (fun w => ne27 x22.Stamp.N x22.Stamp.Site x23.Stamp.N x23.Stamp.Site w) (Ev.t 75 (.g (.agg [vI x22.Stamp.N, vI x22.Stamp.Site]))) (Ev.t 80 (.g (.agg [vI x23.Stamp.N, vI x23.Stamp.Site]))) rfl)) (.c (oP rfl rfl (op_pickF (Ev.t 70 (bB false)) (Ev.t 81 (bB (!(decide (x22.Stamp.N = x23.Stamp.N) && decide (x22.Stamp.Site = x23.Stamp.Site))))) rfl)) .nil)))))))))))))))))))))))))))))))))))))))))))))))))))))) follows rfl rfl rfl ⟨⟨rfl, trivial⟩, trivial, ⟨rfl, trivial⟩, trivial, ⟨rfl, trivial⟩, trivial, ⟨rfl, rfl, trivial⟩, trivial, ⟨rfl, rfl, trivial⟩, trivial, ⟨rfl, rfl, rfl, trivial⟩, trivial, ⟨rfl, rfl, trivial⟩, trivial, ⟨rfl, rfl, trivial⟩, trivial, ⟨rfl, rfl, trivial⟩, trivial, ⟨rfl, rfl, trivial⟩, trivial, ⟨rfl, rfl, rfl, trivial⟩, trivial, ⟨rfl, rfl, trivial⟩, trivial, ⟨rfl, rfl, trivial⟩, trivial, ⟨rfl, rfl, rfl, trivial⟩, trivial, ⟨rfl, rfl, trivial⟩, trivial, ⟨rfl, trivial⟩, trivial, ⟨rfl, rfl, trivial⟩, trivial, ⟨rfl, rfl, trivial⟩, trivial, ⟨rfl, rfl, rfl, trivial⟩, trivial, ⟨rfl, rfl, trivial⟩, trivial, ⟨rfl, rfl, trivial⟩, trivial, ⟨rfl, rfl, trivial⟩, trivial, ⟨rfl, rfl, trivial⟩, trivial, ⟨rfl, rfl, rfl, trivial⟩, trivial, ⟨rfl, rfl, trivial⟩, trivial, ⟨rfl, rfl, trivial⟩, trivial, ⟨rfl, rfl, rfl, trivial⟩, trivial, ⟨rfl, rfl, trivial⟩, trivial, ⟨rfl, trivial⟩, trivial, ⟨rfl, rfl, trivial⟩, trivial, ⟨rfl, rfl, trivial⟩, trivial, ⟨rfl, rfl, rfl, trivial⟩, trivial, ⟨rfl, rfl, trivial⟩, trivial, ⟨rfl, rfl, trivial⟩, trivial, ⟨rfl, rfl, trivial⟩, trivial, ⟨rfl, rfl, trivial⟩, trivial, ⟨rfl, rfl, rfl, trivial⟩, trivial, ⟨rfl, rfl, trivial⟩, trivial, ⟨rfl, rfl, trivial⟩, trivial, ⟨rfl, rfl, rfl, trivial⟩, trivial, ⟨rfl, rfl, trivial⟩, trivial, ⟨rfl, trivial⟩, trivial, ⟨rfl, rfl, trivial⟩, trivial, ⟨rfl, rfl, trivial⟩, trivial, ⟨rfl, rfl, rfl, trivial⟩, trivial, ⟨rfl, rfl, trivial⟩, trivial, ⟨rfl, rfl, trivial⟩, trivial, ⟨rfl, rfl, trivial⟩, trivial, ⟨rfl, rfl, trivial⟩, trivial, ⟨rfl, rfl, rfl, trivial⟩, trivial, ⟨rfl, rfl, trivial⟩, trivial, ⟨rfl, rfl, trivial⟩, trivial, ⟨rfl, rfl, rfl, trivial⟩, trivial, ⟨rfl, rfl, trivial⟩, trivial, trivial⟩ ⟨rfl, rfl, rfl, rfl, trivial⟩ trivial rfl ?_
              refine ifS hF (fun hc24 hF => ?_) (fun hc24 hF => ?_)
              · refine G.cond rfl (fun _ => ?_) (fun hx => by rw [hc24] at hx; cases hx)
                refine G.seq ?_
                refine G.region ?_
                refine G.op1 (op_assign (Ev.c _ rfl) rfl) rfl trivial trivial ?_
                refine G.endOps ?_
                cases hF
                exact G.ret1 Try.results19 (RVar.tmp 4 _) ⟨rfl, trivial⟩ trivial
              · refine G.cond rfl (fun hx => by rw [hc24] at hx; cases hx) (fun _ => ?_)
                refine G.skip ?_
                refine G.endBlock ?_
                refine G.region ?_
                refine G.op1 (op_move (Ev.t 5 (bI .i64 v4)) rfl) rfl ⟨rfl, trivial⟩ trivial ?_
                refine G.op1 (op_add (Ev.t 16 (bI .i64 v4)) (Ev.c _ rfl) rfl) rfl ⟨rfl, trivial⟩ trivial ?_
                refine G.op1 (op_assign (Ev.t 17 (bI .i64 (IntKind.wrap .i64 (v4 + 1)))) rfl) rfl ⟨rfl, trivial⟩ trivial ?_
                refine G.endOps ?_
                exact G.arr (J5 (IntKind.wrap .i64 (v4 + 1)) hF) ⟨rfl, rfl, rfl, trivial⟩ trivial rfl
    · refine G.cond rfl (fun hx => by rw [hc8] at hx; cases hx) (fun _ => ?_)
      refine G.exit ?_
      refine GX.c ?_
      refine GX.q ?_
      refine GX.bYes ?_
      exact G.arr (J3 () hF) trivial trivial rfl


set_option maxRecDepth 20000 in
set_option maxHeartbeats 2000000 in
theorem ct_ref20_row (p_0 : (List Api_Dep)) (r : Bool) (hF : ref20_row p_0 = some r) : Ct Try.prog 61 [.g (.d (.sl 3 (List.map encApi_Dep p_0)))] (.one (.d (vB r))) := by
  unfold ref20_row at hF
  refine Ct.intro Try.func61 rfl Try.ntmps61 rfl rfl fun M w => ?_
  refine G.seq ?_
  refine G.region ?_
  refine G.op1 (op_assign (Ev.c _ rfl) rfl) rfl trivial trivial ?_
  refine G.endOps ?_
  refine G.seq ?_
  refine G.seq ?_
  refine G.region ?_
  refine G.op1 (op_assign (Ev.c _ rfl) rfl) rfl trivial trivial ?_
  refine G.endOps ?_
  refine G.joinC (T := Unit) (fun y1 => ⟨[], []⟩) (fun y1 => ref20_row_k1 y1 = some r) (fun y1 hF => ?_) (fun J2 => ?_)
  · unfold ref20_row_k1 at hF
    refine G.seq ?_
    refine G.region ?_
    refine G.op1 (op_assign (Ev.c _ rfl) rfl) rfl trivial trivial ?_
    refine G.endOps ?_
    cases hF
    exact G.ret1 Try.results61 (RVar.tmp 2 _) ⟨rfl, trivial⟩ trivial
  refine G.block ?_
  refine G.keep (sl' := [(0, .one (.g (.d (.sl 3 (List.map encApi_Dep p_0))))), (3, oI 0)]) (hp' := []) ⟨rfl, rfl, trivial⟩ trivial rfl ?_
  refine G.loopF (fun (v3 : Int) => ⟨[(0, .one (.g (.d (.sl 3 (List.map encApi_Dep p_0))))), (3, oI v3)], []⟩) hF rfl (fun K6 again5 v3 J4 hF => ?_)
  unfold ref20_row_l2 at hF
  refine G.seq ?_
  refine G.seq ?_
  refine G.region ?_
  refine G.op1 (op_move (Ev.t 3 (bI .i64 v3)) rfl) rfl ⟨rfl, trivial⟩ trivial ?_
  refine G.op1 (op_move (Ev.t 0 (.g (.d (.sl 3 (List.map encApi_Dep p_0))))) rfl) rfl ⟨rfl, trivial⟩ trivial ?_
  refine G.op1 (OpL.cast (op_lenD Try.underlying28 (Ev.t 7 (.g (.d (.sl 3 (List.map encApi_Dep p_0))))) rfl) (by rw [List.length_map])) rfl ⟨rfl, trivial⟩ trivial ?_
  refine G.op1 (op_lss (Ev.t 6 (bI .i64 v3)) (Ev.t 8 (bI .i64 (p_0.length : Int))) rfl) rfl ⟨rfl, rfl, trivial⟩ trivial ?_
  refine G.endOps ?_
  refine ifS hF (fun hc7 hF => ?_) (fun hc7 hF => ?_)
  · refine G.cond rfl (fun _ => ?_) (fun hx => by rw [hc7] at hx; cases hx)
    refine G.skip ?_
    refine G.seq ?_
    refine G.block ?_
    refine G.seq ?_
    refine G.region ?_
    refine G.op1 (op_move (Ev.t 0 (.g (.d (.sl 3 (List.map encApi_Dep p_0))))) rfl) rfl ⟨rfl, trivial⟩ trivial ?_
    refine G.op1 (op_move (Ev.t 3 (bI .i64 v3)) rfl) rfl ⟨rfl, trivial⟩ trivial ?_
    obtain ⟨x8, hx8, hF⟩ := bindS hF
    refine G.op1 (op_index (cs := [vS x8.Key, vI x8.Stamp.N, vI x8.Stamp.Site]) Try.underlying28 ti52 (idx_ok hx8).1 (idx_get hx8 encApi_Dep) (Ev.t 12 (.g (.d (.sl 3 (List.map encApi_Dep p_0))))) (Ev.t 13 (bI .i64 v3)) rfl) rfl ⟨rfl, rfl, trivial⟩ trivial ?_
    refine G.op1 (op_fieldE (cs' := [vS x8.Key, vI x8.Stamp.N, vI x8.Stamp.Site]) Try.underlying52 rfl ti9 (by decide) rfl (Ev.t 14 (.ep [vS x8.Key, vI x8.Stamp.N, vI x8.Stamp.Site])) rfl) rfl ⟨rfl, trivial⟩ trivial ?_
    refine G.op1 (op_load1E (c := vS x8.Key) Try.underlying9 rfl rfl (Ev.t 15 (.ep [vS x8.Key, vI x8.Stamp.N, vI x8.Stamp.Site])) rfl) rfl ⟨rfl, trivial⟩ trivial ?_
    obtain ⟨r9, hr9, hF⟩ := bindS hF
    refine G.op1 (op_callQ (sv := oB r9) cf37 (ct_ref02_Check x8.Key r9 hr9) rfl rfl (EvQL.cons (EvQ.g (Ev.t 16 (bS x8.Key))) EvQL.nil) rfl) rfl ⟨rfl, trivial⟩ trivial ?_
    refine G.op1 (op_assign (Ev.t 17 (bB r9)) rfl) rfl ⟨rfl, trivial⟩ trivial ?_
    refine G.endOps ?_
    refine G.seq ?_
    refine G.region ?_
    refine G.op1 (op_move (Ev.t 0 (.g (.d (.sl 3 (List.map encApi_Dep p_0))))) rfl) rfl ⟨rfl, trivial⟩ trivial ?_
    refine G.op1 (op_move (Ev.t 3 (bI .i64 v3)) rfl) rfl ⟨rfl, trivial⟩ trivial ?_
    obtain ⟨x10, hx10, hF⟩ := bindS hF
    refine G.op1 (op_index (cs := [vS x10.Key, vI x10.Stamp.N, vI x10.Stamp.Site]) Try.underlying28 ti52 (idx_ok hx10).1 (idx_get hx10 encApi_Dep) (Ev.t 18 (.g (.d (.sl 3 (List.map encApi_Dep p_0))))) (Ev.t 19 (bI .i64 v3)) rfl) rfl ⟨rfl, rfl, trivial⟩ trivial ?_
    refine G.op1 (op_fieldE (cs' := [vI x10.Stamp.N, vI x10.Stamp.Site]) Try.underlying52 rfl ti27 (by decide) rfl (Ev.t 20 (.ep [vS x10.Key, vI x10.Stamp.N, vI x10.Stamp.Site])) rfl) rfl ⟨rfl, trivial⟩ trivial ?_
    refine G.op1 (op_loadAE (ds := [vI x10.Stamp.N, vI x10.Stamp.Site]) Try.underlying27 rfl ti27 rfl (Ev.t 21 (.ep [vI x10.Stamp.N, vI x10.Stamp.Site])) rfl) rfl ⟨rfl, trivial⟩ trivial ?_
    obtain ⟨r11, hr11, hF⟩ := bindS hF
    refine G.op1 (op_callQ (sv := oB r11) cf38 (ct_ref03_Check x10.Stamp r11 hr11) rfl rfl (EvQL.cons (EvQ.g (Ev.t 22 (.g (.agg [vI x10.Stamp.N, vI x10.Stamp.Site])))) EvQL.nil) rfl) rfl ⟨rfl, trivial⟩ trivial ?_
    refine G.op1 (op_assign (Ev.t 23 (bB r11)) rfl) rfl ⟨rfl, trivial⟩ trivial ?_
    refine G.endOps ?_
    refine G.seq ?_
    refine ifS hF (fun hc12 hF => ?_) (fun hc12 hF => ?_)
    · refine G.drawnI (deps := ([] :: [0] :: [0, 1] :: [0, 1, 2] :: [0, 1, 2, 3] :: [0, 1, 2, 3, 4] :: [0, 1, 2, 3, 4, 5] :: [0, 1, 2, 3, 4, 5, 6] :: [0, 1, 2, 3, 4, 5, 6, 7] :: [0, 1, 2, 3, 4, 5, 6, 7, 8] :: [0, 1, 2, 3, 4, 5, 6, 7, 8, 9] :: [0, 1, 2, 3, 4, 5, 6, 7, 8, 9] :: [0, 1, 2, 3, 4, 5, 6, 7, 8, 9, 11] :: [0, 1, 2, 3, 4, 5, 6, 7, 8, 9, 10, 11, 12] :: [0, 1, 2, 3, 4, 5, 6, 7, 8, 9, 10, 11, 12, 13] :: [0, 1, 2, 3, 4, 5, 6, 7, 8, 9, 10, 11, 12, 13, 14] :: [0, 1, 2, 3, 4, 5, 6, 7, 8, 9] :: [0, 1, 2, 3, 4, 5, 6, 7, 8, 9] :: [0, 1, 2, 3, 4, 5, 6, 7, 8, 9, 16, 17] :: [0, 1, 2, 3, 4, 5, 6, 7, 8, 9, 16, 17, 18] :: [0, 1, 2, 3, 4, 5, 6, 7, 8, 9, 16, 17, 18, 19] :: (0 :: 1 :: 2 :: 3 :: 4 :: 5 :: 6 :: 7 :: 8 :: 9 :: 10 :: 11 :: 12 :: 13 :: 14 :: 15 :: 16 :: 17 :: 18 :: 19 :: 20 :: []) :: (0 :: 1 :: 2 :: 3 :: 4 :: 5 :: 6 :: 7 :: 8 :: 9 :: 10 :: 11 :: 12 :: 13 :: 14 :: 15 :: 16 :: 17 :: 18 :: 19 :: 20 :: 21 :: []) :: (0 :: 1 :: 2 :: 3 :: 4 :: 5 :: 6 :: 7 :: 8 :: 9 :: 10 :: 11 :: 12 :: 13 :: 14 :: 15 :: 16 :: 17 :: 18 :: 19 :: 20 :: 21 :: 22 :: []) :: [])) (sl' := [(0, .one (.g (.d (.sl 3 (List.map encApi_Dep p_0))))), (3, oI v3), (47, oB true)]) (hp' := []) (.c (oP rfl rfl (op_move (Ev.t 4 (bB r9)) rfl)) (.c (oP rfl rfl (OpL.cast (op_not (Ev.t 24 (bB r9)) rfl) (congrArg (fun b => bB b) hc12))) (.c (oP rfl rfl (op_move (Ev.t 25 (bB true)) rfl)) (.c (OpW.no rfl rfl rfl rfl rfl) (.c (OpW.no rfl rfl rfl rfl rfl) (.c (oP rfl rfl (op_pickT (Ev.t 26 (bB true)) (Ev.c _ rfl) rfl)) (.c (oP rfl rfl (op_move (Ev.t 29 (bB true)) rfl)) (.c (OpW.no rfl rfl rfl rfl rfl) (.c (OpW.no rfl rfl rfl rfl rfl) (.c (OpW.no rfl rfl rfl rfl rfl) (.c (OpW.un rfl rfl rfl rfl) (.c (OpW.un rfl rfl rfl rfl) (.c (OpW.un rfl rfl rfl rfl) (.c (OpW.un rfl rfl rfl rfl) (.c (OpW.un rfl rfl rfl rfl) (.c (OpW.un rfl rfl rfl rfl) (.c (OpW.un rfl rfl rfl rfl) (.c (OpW.un rfl rfl rfl rfl) (.c (OpW.un rfl rfl rfl rfl) (.c (OpW.un rfl rfl rfl rfl) (.c (OpW.un rfl rfl rfl rfl) (.c (OpW.un rfl rfl rfl rfl) (.c (OpW.no rfl rfl rfl rfl rfl) (.c (oP rfl rfl (op_pickT (Ev.t 30 (bB true)) (Ev.c _ rfl) rfl)) .nil)))))))))))))))))))))))) follows rfl rfl rfl ⟨⟨rfl, trivial⟩, trivial, ⟨rfl, trivial⟩, trivial, ⟨rfl, trivial⟩, trivial, ⟨rfl, trivial⟩, trivial, ⟨rfl, trivial⟩, trivial, ⟨rfl, trivial⟩, trivial, ⟨rfl, trivial⟩, trivial, ⟨rfl, trivial⟩, trivial, ⟨rfl, trivial⟩, trivial, ⟨rfl, trivial⟩, trivial, ⟨rfl, trivial⟩, trivial, ⟨rfl, trivial⟩, trivial, ⟨rfl, trivial⟩, trivial, ⟨rfl, trivial⟩, trivial, ⟨rfl, trivial⟩, trivial, ⟨rfl, trivial⟩, trivial, ⟨rfl, trivial⟩, trivial, ⟨rfl, trivial⟩, trivial, ⟨rfl, trivial⟩, trivial, ⟨rfl, trivial⟩, trivial, ⟨rfl, trivial⟩, trivial, ⟨rfl, trivial⟩, trivial, ⟨rfl, trivial⟩, trivial, ⟨rfl, trivial⟩, trivial, trivial⟩ ⟨rfl, rfl, rfl, trivial⟩ trivial rfl ?_
      refine G.condT rfl ?_
      refine G.seq ?_
      refine G.region ?_
      refine G.op1 (op_assign (Ev.c _ rfl) rfl) rfl trivial trivial ?_
      refine G.endOps ?_
      cases hF
      exact G.ret1 Try.results61 (RVar.tmp 2 _) ⟨rfl, trivial⟩ trivial
    · refine ifS hF (fun hc13 hF => ?_) (fun hc13 hF => ?_)
      · refine G.drawnI (deps := ([] :: [0] :: [0, 1] :: [0, 1, 2] :: [0, 1, 2, 3] :: [0, 1, 2, 3, 4] :: [0, 1, 2, 3, 4, 5] :: [0, 1, 2, 3, 4, 5, 6] :: [0, 1, 2, 3, 4, 5, 6, 7] :: [0, 1, 2, 3, 4, 5, 6, 7, 8] :: [0, 1, 2, 3, 4, 5, 6, 7, 8, 9] :: [0, 1, 2, 3, 4, 5, 6, 7, 8, 9] :: [0, 1, 2, 3, 4, 5, 6, 7, 8, 9, 11] :: [0, 1, 2, 3, 4, 5, 6, 7, 8, 9, 10, 11, 12] :: [0, 1, 2, 3, 4, 5, 6, 7, 8, 9, 10, 11, 12, 13] :: [0, 1, 2, 3, 4, 5, 6, 7, 8, 9, 10, 11, 12, 13, 14] :: [0, 1, 2, 3, 4, 5, 6, 7, 8, 9] :: [0, 1, 2, 3, 4, 5, 6, 7, 8, 9] :: [0, 1, 2, 3, 4, 5, 6, 7, 8, 9, 16, 17] :: [0, 1, 2, 3, 4, 5, 6, 7, 8, 9, 16, 17, 18] :: [0, 1, 2, 3, 4, 5, 6, 7, 8, 9, 16, 17, 18, 19] :: (0 :: 1 :: 2 :: 3 :: 4 :: 5 :: 6 :: 7 :: 8 :: 9 :: 10 :: 11 :: 12 :: 13 :: 14 :: 15 :: 16 :: 17 :: 18 :: 19 :: 20 :: []) :: (0 :: 1 :: 2 :: 3 :: 4 :: 5 :: 6 :: 7 :: 8 :: 9 :: 10 :: 11 :: 12 :: 13 :: 14 :: 15 :: 16 :: 17 :: 18 :: 19 :: 20 :: 21 :: []) :: (0 :: 1 :: 2 :: 3 :: 4 :: 5 :: 6 :: 7 :: 8 :: 9 :: 10 :: 11 :: 12 :: 13 :: 14 :: 15 :: 16 :: 17 :: 18 :: 19 :: 20 :: 21 :: 22 :: []) :: [])) (sl' := [(0, .one (.g (.d (.sl 3 (List.map encApi_Dep p_0))))), (3, oI v3), (47, oB true)]) (hp' := []) (.c (oP rfl rfl (op_move (Ev.t 4 (bB r9)) rfl)) (.c (oP rfl rfl (OpL.cast (op_not (Ev.t 24 (bB r9)) rfl) (congrArg (fun b => bB b) hc12))) (.c (oP rfl rfl (op_move (Ev.t 25 (bB false)) rfl)) (.c (oY rfl rfl rfl (op_move (Ev.t 5 (bB r11)) rfl)) (.c (oY rfl rfl rfl (OpL.cast (op_not (Ev.t 27 (bB r11)) rfl) (congrArg (fun b => bB b) hc13))) (.c (oP rfl rfl (op_pickF (Ev.t 26 (bB false)) (Ev.t 28 (bB true)) rfl)) (.c (oP rfl rfl (op_move (Ev.t 29 (bB true)) rfl)) (.c (OpW.no rfl rfl rfl rfl rfl) (.c (OpW.no rfl rfl rfl rfl rfl) (.c (OpW.no rfl rfl rfl rfl rfl) (.c (OpW.un rfl rfl rfl rfl) (.c (OpW.un rfl rfl rfl rfl) (.c (OpW.un rfl rfl rfl rfl) (.c (OpW.un rfl rfl rfl rfl) (.c (OpW.un rfl rfl rfl rfl) (.c (OpW.un rfl rfl rfl rfl) (.c (OpW.un rfl rfl rfl rfl) (.c (OpW.un rfl rfl rfl rfl) (.c (OpW.un rfl rfl rfl rfl) (.c (OpW.un rfl rfl rfl rfl) (.c (OpW.un rfl rfl rfl rfl) (.c (OpW.un rfl rfl rfl rfl) (.c (OpW.no rfl rfl rfl rfl rfl) (.c (oP rfl rfl (op_pickT (Ev.t 30 (bB true)) (Ev.c _ rfl) rfl)) .nil)))))))))))))))))))))))) follows rfl rfl rfl ⟨⟨rfl, trivial⟩, trivial, ⟨rfl, trivial⟩, trivial, ⟨rfl, trivial⟩, trivial, ⟨rfl, rfl, trivial⟩, trivial, ⟨rfl, rfl, trivial⟩, trivial, ⟨rfl, rfl, trivial⟩, trivial, ⟨rfl, trivial⟩, trivial, ⟨rfl, trivial⟩, trivial, ⟨rfl, trivial⟩, trivial, ⟨rfl, trivial⟩, trivial, ⟨rfl, trivial⟩, trivial, ⟨rfl, trivial⟩, trivial, ⟨rfl, trivial⟩, trivial, ⟨rfl, trivial⟩, trivial, ⟨rfl, trivial⟩, trivial, ⟨rfl, trivial⟩, trivial, ⟨rfl, trivial⟩, trivial, ⟨rfl, trivial⟩, trivial, ⟨rfl, trivial⟩, trivial, ⟨rfl, trivial⟩, trivial, ⟨rfl, trivial⟩, trivial, ⟨rfl, trivial⟩, trivial, ⟨rfl, trivial⟩, trivial, ⟨rfl, trivial⟩, trivial, trivial⟩ ⟨rfl, rfl, rfl, trivial⟩ trivial rfl ?_
        refine G.condT rfl ?_
        refine G.seq ?_
        refine G.region ?_
        refine G.op1 (op_assign (Ev.c _ rfl) rfl) rfl trivial trivial ?_
        refine G.endOps ?_
        cases hF
        exact G.ret1 Try.results61 (RVar.tmp 2 _) ⟨rfl, trivial⟩ trivial
      · refine ifS hF (fun hc14 hF => ?_) (fun hc14 hF => ?_)
        · obtain ⟨x15, hx15, hF⟩ := bindS hF
          obtain ⟨x16, hx16, hF⟩ := bindS hF
          refine G.drawnI (deps := ([] :: [0] :: [0, 1] :: [0, 1, 2] :: [0, 1, 2, 3] :: [0, 1, 2, 3, 4] :: [0, 1, 2, 3, 4, 5] :: [0, 1, 2, 3, 4, 5, 6] :: [0, 1, 2, 3, 4, 5, 6, 7] :: [0, 1, 2, 3, 4, 5, 6, 7, 8] :: [0, 1, 2, 3, 4, 5, 6, 7, 8, 9] :: [0, 1, 2, 3, 4, 5, 6, 7, 8, 9] :: [0, 1, 2, 3, 4, 5, 6, 7, 8, 9, 11] :: [0, 1, 2, 3, 4, 5, 6, 7, 8, 9, 10, 11, 12] :: [0, 1, 2, 3, 4, 5, 6, 7, 8, 9, 10, 11, 12, 13] :: [0, 1, 2, 3, 4, 5, 6, 7, 8, 9, 10, 11, 12, 13, 14] :: [0, 1, 2, 3, 4, 5, 6, 7, 8, 9] :: [0, 1, 2, 3, 4, 5, 6, 7, 8, 9] :: [0, 1, 2, 3, 4, 5, 6, 7, 8, 9, 16, 17] :: [0, 1, 2, 3, 4, 5, 6, 7, 8, 9, 16, 17, 18] :: [0, 1, 2, 3, 4, 5, 6, 7, 8, 9, 16, 17, 18, 19] :: (0 :: 1 :: 2 :: 3 :: 4 :: 5 :: 6 :: 7 :: 8 :: 9 :: 10 :: 11 :: 12 :: 13 :: 14 :: 15 :: 16 :: 17 :: 18 :: 19 :: 20 :: []) :: (0 :: 1 :: 2 :: 3 :: 4 :: 5 :: 6 :: 7 :: 8 :: 9 :: 10 :: 11 :: 12 :: 13 :: 14 :: 15 :: 16 :: 17 :: 18 :: 19 :: 20 :: 21 :: []) :: (0 :: 1 :: 2 :: 3 :: 4 :: 5 :: 6 :: 7 :: 8 :: 9 :: 10 :: 11 :: 12 :: 13 :: 14 :: 15 :: 16 :: 17 :: 18 :: 19 :: 20 :: 21 :: 22 :: []) :: [])) (sl' := [(0, .one (.g (.d (.sl 3 (List.map encApi_Dep p_0))))), (3, oI v3), (47, oB (!slt x15.Key x16.Key))]) (hp' := []) (.c (oP rfl rfl (op_move (Ev.t 4 (bB r9)) rfl)) (.c (oP rfl rfl (OpL.cast (op_not (Ev.t 24 (bB r9)) rfl) (congrArg (fun b => bB b) hc12))) (.c (oP rfl rfl (op_move (Ev.t 25 (bB false)) rfl)) (.c (oY rfl rfl rfl (op_move (Ev.t 5 (bB r11)) rfl)) (.c (oY rfl rfl rfl (OpL.cast (op_not (Ev.t 27 (bB r11)) rfl) (congrArg (fun b => bB b) hc13))) (.c (oP rfl rfl (op_pickF (Ev.t 26 (bB false)) (Ev.t 28 (bB false)) rfl)) (.c (oP rfl rfl (op_move (Ev.t 29 (bB false)) rfl)) (.c (oY rfl rfl rfl (op_move (Ev.t 3 (bI .i64 v3)) rfl)) (.c (oY rfl rfl rfl (OpL.cast (op_gtr (Ev.t 31 (bI .i64 v3)) (Ev.c _ rfl) rfl) (congrArg (fun b => bB b) hc14))) (.c (oY rfl rfl rfl (op_move (Ev.t 32 (bB true)) rfl)) (.c (oY rfl rfl rfl (op_move (Ev.t 0 (.g (.d (.sl 3 (List.map encApi_Dep p_0))))) rfl)) (.c (oY rfl rfl rfl (op_move (Ev.t 3 (bI .i64 v3)) rfl)) (.c (oY rfl rfl rfl (op_sub (Ev.t 35 (bI .i64 v3)) (Ev.c _ rfl) rfl)) (.c (oY rfl rfl rfl (op_index (cs := [vS x15.Key, vI x15.Stamp.N, vI x15.Stamp.Site]) Try.underlying28 ti52 (idx_ok hx15).1 (idx_get hx15 encApi_Dep) (Ev.t 34 (.g (.d (.sl 3 (List.map encApi_Dep p_0))))) (Ev.t 36 (bI .i64 (IntKind.wrap .i64 (v3 - 1)))) rfl)) (.c (oY rfl rfl rfl (op_fieldE (cs' := [vS x15.Key, vI x15.Stamp.N, vI x15.Stamp.Site]) Try.underlying52 rfl ti9 (by decide) rfl (Ev.t 37 (.ep [vS x15.Key, vI x15.Stamp.N, vI x15.Stamp.Site])) rfl)) (.c (oY rfl rfl rfl (op_load1E (c := vS x15.Key) Try.underlying9 rfl rfl (Ev.t 38 (.ep [vS x15.Key, vI x15.Stamp.N, vI x15.Stamp.Site])) rfl)) (.c (oY rfl rfl rfl (op_move (Ev.t 0 (.g (.d (.sl 3 (List.map encApi_Dep p_0))))) rfl)) (.c (oY rfl rfl rfl (op_move (Ev.t 3 (bI .i64 v3)) rfl)) (.c (oY rfl rfl rfl (op_index (cs := [vS x16.Key, vI x16.Stamp.N, vI x16.Stamp.Site]) Try.underlying28 ti52 (idx_ok hx16).1 (idx_get hx16 encApi_Dep) (Ev.t 40 (.g (.d (.sl 3 (List.map encApi_Dep p_0))))) (Ev.t 41 (bI .i64 v3)) rfl)) (.c (oY rfl rfl rfl (op_fieldE (cs' := [vS x16.Key, vI x16.Stamp.N, vI x16.Stamp.Site]) Try.underlying52 rfl ti9 (by decide) rfl (Ev.t 42 (.ep [vS x16.Key, vI x16.Stamp.N, vI x16.Stamp.Site])) rfl)) (.c (oY rfl rfl rfl (op_load1E (c := vS x16.Key) Try.underlying9 rfl rfl (Ev.t 43 (.ep [vS x16.Key, vI x16.Stamp.N, vI x16.Stamp.Site])) rfl)) (.c (oY rfl rfl rfl (op_geS (Ev.t 39 (bS x15.Key)) (Ev.t 44 (bS x16.Key)) rfl)) (.c (oY rfl rfl rfl (op_pickT (Ev.t 33 (bB true)) (Ev.t 45 (bB (!slt x15.Key x16.Key))) rfl)) (.c (oP rfl rfl (op_pickF (Ev.t 30 (bB false)) (Ev.t 46 (bB (!slt x15.Key x16.Key))) rfl)) .nil)))))))))))))))))))))))) follows rfl rfl rfl ⟨⟨rfl, trivial⟩, trivial, ⟨rfl, trivial⟩, trivial, ⟨rfl, trivial⟩, trivial, ⟨rfl, rfl, trivial⟩, trivial, ⟨rfl, rfl, trivial⟩, trivial, ⟨rfl, rfl, trivial⟩, trivial, ⟨rfl, trivial⟩, trivial, ⟨rfl, rfl, trivial⟩, trivial, ⟨rfl, rfl, trivial⟩, trivial, ⟨rfl, rfl, trivial⟩, trivial, ⟨rfl, rfl, trivial⟩, trivial, ⟨rfl, rfl, trivial⟩, trivial, ⟨rfl, rfl, trivial⟩, trivial, ⟨rfl, rfl, rfl, trivial⟩, trivial, ⟨rfl, rfl, trivial⟩, trivial, ⟨rfl, rfl, trivial⟩, trivial, ⟨rfl, rfl, trivial⟩, trivial, ⟨rfl, rfl, trivial⟩, trivial, ⟨rfl, rfl, rfl, trivial⟩, trivial, ⟨rfl, rfl, trivial⟩, trivial, ⟨rfl, rfl, trivial⟩, trivial, ⟨rfl, rfl, rfl, trivial⟩, trivial, ⟨rfl, rfl, rfl, trivial⟩, trivial, ⟨rfl, rfl, trivial⟩, trivial, trivial⟩ ⟨rfl, rfl, rfl, trivial⟩ trivial rfl ?_
          refine ifS hF (fun hc17 hF => ?_) (fun hc17 hF => ?_)
          · refine G.cond rfl (fun _ => ?_) (fun hx => by rw [hc17] at hx; cases hx)
            refine G.seq ?_
            refine G.region ?_
            refine G.op1 (op_assign (Ev.c _ rfl) rfl) rfl trivial trivial ?_
            refine G.endOps ?_
            cases hF
            exact G.ret1 Try.results61 (RVar.tmp 2 _) ⟨rfl, trivial⟩ trivial
          · refine G.cond rfl (fun hx => by rw [hc17] at hx; cases hx) (fun _ => ?_)
            refine G.skip ?_
            refine G.endBlock ?_
            refine G.region ?_
            refine G.op1 (op_move (Ev.t 3 (bI .i64 v3)) rfl) rfl ⟨rfl, trivial⟩ trivial ?_
            refine G.op1 (op_add (Ev.t 10 (bI .i64 v3)) (Ev.c _ rfl) rfl) rfl ⟨rfl, trivial⟩ trivial ?_
            refine G.op1 (op_assign (Ev.t 11 (bI .i64 (IntKind.wrap .i64 (v3 + 1)))) rfl) rfl ⟨rfl, trivial⟩ trivial ?_
            refine G.endOps ?_
            exact G.arr (J4 (IntKind.wrap .i64 (v3 + 1)) hF) ⟨rfl, rfl, trivial⟩ trivial rfl
        · refine G.drawnI (deps := ([] :: [0] :: [0, 1] :: [0, 1, 2] :: [0, 1, 2, 3] :: [0, 1, 2, 3, 4] :: [0, 1, 2, 3, 4, 5] :: [0, 1, 2, 3, 4, 5, 6] :: [0, 1, 2, 3, 4, 5, 6, 7] :: [0, 1, 2, 3, 4, 5, 6, 7, 8] :: [0, 1, 2, 3, 4, 5, 6, 7, 8, 9] :: [0, 1, 2, 3, 4, 5, 6, 7, 8, 9] :: [0, 1, 2, 3, 4, 5, 6, 7, 8, 9, 11] :: [0, 1, 2, 3, 4, 5, 6, 7, 8, 9, 10, 11, 12] :: [0, 1, 2, 3, 4, 5, 6, 7, 8, 9, 10, 11, 12, 13] :: [0, 1, 2, 3, 4, 5, 6, 7, 8, 9, 10, 11, 12, 13, 14] :: [0, 1, 2, 3, 4, 5, 6, 7, 8, 9] :: [0, 1, 2, 3, 4, 5, 6, 7, 8, 9] :: [0, 1, 2, 3, 4, 5, 6, 7, 8, 9, 16, 17] :: [0, 1, 2, 3, 4, 5, 6, 7, 8, 9, 16, 17, 18] :: [0, 1, 2, 3, 4, 5, 6, 7, 8, 9, 16, 17, 18, 19] :: (0 :: 1 :: 2 :: 3 :: 4 :: 5 :: 6 :: 7 :: 8 :: 9 :: 10 :: 11 :: 12 :: 13 :: 14 :: 15 :: 16 :: 17 :: 18 :: 19 :: 20 :: []) :: (0 :: 1 :: 2 :: 3 :: 4 :: 5 :: 6 :: 7 :: 8 :: 9 :: 10 :: 11 :: 12 :: 13 :: 14 :: 15 :: 16 :: 17 :: 18 :: 19 :: 20 :: 21 :: []) :: (0 :: 1 :: 2 :: 3 :: 4 :: 5 :: 6 :: 7 :: 8 :: 9 :: 10 :: 11 :: 12 :: 13 :: 14 :: 15 :: 16 :: 17 :: 18 :: 19 :: 20 :: 21 :: 22 :: []) :: [])) (sl' := [(0, .one (.g (.d (.sl 3 (List.map encApi_Dep p_0))))), (3, oI v3), (47, oB false)]) (hp' := []) (.c (oP rfl rfl (op_move (Ev.t 4 (bB r9)) rfl)) (.c (oP rfl rfl (OpL.cast (op_not (Ev.t 24 (bB r9)) rfl) (congrArg (fun b => bB b) hc12))) (.c (oP rfl rfl (op_move (Ev.t 25 (bB false)) rfl)) (.c (oY rfl rfl rfl (op_move (Ev.t 5 (bB r11)) rfl)) (.c (oY rfl rfl rfl (OpL.cast (op_not (Ev.t 27 (bB r11)) rfl) (congrArg (fun b => bB b) hc13))) (.c (oP rfl rfl (op_pickF (Ev.t 26 (bB false)) (Ev.t 28 (bB false)) rfl)) (.c (oP rfl rfl (op_move (Ev.t 29 (bB false)) rfl)) (.c (oY rfl rfl rfl (op_move (Ev.t 3 (bI .i64 v3)) rfl)) (.c (oY rfl rfl rfl (OpL.cast (op_gtr (Ev.t 31 (bI .i64 v3)) (Ev.c _ rfl) rfl) (congrArg (fun b => bB b) hc14))) (.c (oY rfl rfl rfl (op_move (Ev.t 32 (bB false)) rfl)) (.c (OpW.no rfl rfl rfl rfl rfl) (.c (OpW.no rfl rfl rfl rfl rfl) (.c (OpW.no rfl rfl rfl rfl rfl) (.c (OpW.no rfl rfl rfl rfl rfl) (.c (OpW.no rfl rfl rfl rfl rfl) (.c (OpW.no rfl rfl rfl rfl rfl) (.c (OpW.no rfl rfl rfl rfl rfl) (.c (OpW.no rfl rfl rfl rfl rfl) (.c (OpW.no rfl rfl rfl rfl rfl) (.c (OpW.no rfl rfl rfl rfl rfl) (.c (OpW.no rfl rfl rfl rfl rfl) (.c (OpW.no rfl rfl rfl rfl rfl) (.c (oY rfl rfl rfl (op_pickF (Ev.t 33 (bB false)) (Ev.c _ rfl) rfl)) (.c (oP rfl rfl (op_pickF (Ev.t 30 (bB false)) (Ev.t 46 (bB false)) rfl)) .nil)))))))))))))))))))))))) follows rfl rfl rfl ⟨⟨rfl, trivial⟩, trivial, ⟨rfl, trivial⟩, trivial, ⟨rfl, trivial⟩, trivial, ⟨rfl, rfl, trivial⟩, trivial, ⟨rfl, rfl, trivial⟩, trivial, ⟨rfl, rfl, trivial⟩, trivial, ⟨rfl, trivial⟩, trivial, ⟨rfl, rfl, trivial⟩, trivial, ⟨rfl, rfl, trivial⟩, trivial, ⟨rfl, rfl, trivial⟩, trivial, ⟨rfl, trivial⟩, trivial, ⟨rfl, trivial⟩, trivial, ⟨rfl, trivial⟩, trivial, ⟨rfl, trivial⟩, trivial, ⟨rfl, trivial⟩, trivial, ⟨rfl, trivial⟩, trivial, ⟨rfl, trivial⟩, trivial, ⟨rfl, trivial⟩, trivial, ⟨rfl, trivial⟩, trivial, ⟨rfl, trivial⟩, trivial, ⟨rfl, trivial⟩, trivial, ⟨rfl, trivial⟩, trivial, ⟨rfl, rfl, trivial⟩, trivial, ⟨rfl, rfl, trivial⟩, trivial, trivial⟩ ⟨rfl, rfl, rfl, trivial⟩ trivial rfl ?_
          refine G.condF rfl ?_
          refine G.skip ?_
          refine G.endBlock ?_
          refine G.region ?_
          refine G.op1 (op_move (Ev.t 3 (bI .i64 v3)) rfl) rfl ⟨rfl, trivial⟩ trivial ?_
          refine G.op1 (op_add (Ev.t 10 (bI .i64 v3)) (Ev.c _ rfl) rfl) rfl ⟨rfl, trivial⟩ trivial ?_
          refine G.op1 (op_assign (Ev.t 11 (bI .i64 (IntKind.wrap .i64 (v3 + 1)))) rfl) rfl ⟨rfl, trivial⟩ trivial ?_
          refine G.endOps ?_
          exact G.arr (J4 (IntKind.wrap .i64 (v3 + 1)) hF) ⟨rfl, rfl, trivial⟩ trivial rfl
  · refine G.cond rfl (fun hx => by rw [hc7] at hx; cases hx) (fun _ => ?_)
    refine G.exit ?_
    refine GX.c ?_
    refine GX.q ?_
    refine GX.bYes ?_
    exact G.arr (J2 () hF) trivial trivial rfl


set_option maxRecDepth 20000 in
set_option maxHeartbeats 2000000 in
theorem ct_ref04_Covers (p_0 : (List Api_Dep)) (q_1 : (List Api_Dep)) (r : Bool) (hF : ref04_Covers p_0 q_1 = some r) : Ct Try.prog 18 [.g (.d (.sl 3 (List.map encApi_Dep p_0))), .g (.d (.sl 3 (List.map encApi_Dep q_1)))] (.one (.d (vB r))) := by
  unfold ref04_Covers at hF
  refine Ct.intro Try.func18 rfl Try.ntmps18 rfl rfl fun M w => ?_
  refine G.seq ?_
  refine G.region ?_
  refine G.op1 (op_assign (Ev.c _ rfl) rfl) rfl trivial trivial ?_
  refine G.endOps ?_
  refine G.seq ?_
  refine G.seq ?_
  refine G.region ?_
  refine G.op1 (op_assign (Ev.c _ rfl) rfl) rfl trivial trivial ?_
  refine G.endOps ?_
  refine G.joinC (T := Unit) (fun y1 => ⟨[], []⟩) (fun y1 => ref04_Covers_k1 y1 = some r) (fun y1 hF => ?_) (fun J2 => ?_)
  · unfold ref04_Covers_k1 at hF
    refine G.seq ?_
    refine G.region ?_
    refine G.op1 (op_assign (Ev.c _ rfl) rfl) rfl trivial trivial ?_
    refine G.endOps ?_
    cases hF
    exact G.ret1 Try.results18 (RVar.tmp 4 _) ⟨rfl, trivial⟩ trivial
  refine G.block ?_
  refine G.keep (sl' := [(0, .one (.g (.d (.sl 3 (List.map encApi_Dep p_0))))), (1, .one (.g (.d (.sl 3 (List.map encApi_Dep q_1))))), (5, oI 0)]) (hp' := []) ⟨rfl, rfl, rfl, trivial⟩ trivial rfl ?_
  refine G.loopF (fun (v3 : Int) => ⟨[(0, .one (.g (.d (.sl 3 (List.map encApi_Dep p_0))))), (1, .one (.g (.d (.sl 3 (List.map encApi_Dep q_1))))), (5, oI v3)], []⟩) hF rfl (fun K6 again5 v3 J4 hF => ?_)
  unfold ref04_Covers_l2 at hF
  refine G.seq ?_
  refine G.seq ?_
  refine G.region ?_
  refine G.op1 (op_move (Ev.t 5 (bI .i64 v3)) rfl) rfl ⟨rfl, trivial⟩ trivial ?_
  refine G.op1 (op_move (Ev.t 1 (.g (.d (.sl 3 (List.map encApi_Dep q_1))))) rfl) rfl ⟨rfl, trivial⟩ trivial ?_
  refine G.op1 (OpL.cast (op_lenD Try.underlying28 (Ev.t 8 (.g (.d (.sl 3 (List.map encApi_Dep q_1))))) rfl) (by rw [List.length_map])) rfl ⟨rfl, trivial⟩ trivial ?_
  refine G.op1 (op_lss (Ev.t 7 (bI .i64 v3)) (Ev.t 9 (bI .i64 (q_1.length : Int))) rfl) rfl ⟨rfl, rfl, trivial⟩ trivial ?_
  refine G.endOps ?_
  refine ifS hF (fun hc7 hF => ?_) (fun hc7 hF => ?_)
  · refine G.cond rfl (fun _ => ?_) (fun hx => by rw [hc7] at hx; cases hx)
    refine G.skip ?_
    refine G.seq ?_
    refine G.block ?_
    refine G.seq ?_
    refine G.region ?_
    refine G.op1 (op_move (Ev.t 0 (.g (.d (.sl 3 (List.map encApi_Dep p_0))))) rfl) rfl ⟨rfl, trivial⟩ trivial ?_
    refine G.op1 (op_move (Ev.t 1 (.g (.d (.sl 3 (List.map encApi_Dep q_1))))) rfl) rfl ⟨rfl, trivial⟩ trivial ?_
    refine G.op1 (op_move (Ev.t 5 (bI .i64 v3)) rfl) rfl ⟨rfl, trivial⟩ trivial ?_
    obtain ⟨x8, hx8, hF⟩ := bindS hF
    refine G.op1 (op_index (cs := [vS x8.Key, vI x8.Stamp.N, vI x8.Stamp.Site]) Try.underlying28 ti52 (idx_ok hx8).1 (idx_get hx8 encApi_Dep) (Ev.t 14 (.g (.d (.sl 3 (List.map encApi_Dep q_1))))) (Ev.t 15 (bI .i64 v3)) rfl) rfl ⟨rfl, rfl, trivial⟩ trivial ?_
    refine G.op1 (op_fieldE (cs' := [vS x8.Key, vI x8.Stamp.N, vI x8.Stamp.Site]) Try.underlying52 rfl ti9 (by decide) rfl (Ev.t 16 (.ep [vS x8.Key, vI x8.Stamp.N, vI x8.Stamp.Site])) rfl) rfl ⟨rfl, trivial⟩ trivial ?_
    refine G.op1 (op_load1E (c := vS x8.Key) Try.underlying9 rfl rfl (Ev.t 17 (.ep [vS x8.Key, vI x8.Stamp.N, vI x8.Stamp.Site])) rfl) rfl ⟨rfl, trivial⟩ trivial ?_
    obtain ⟨r9, hr9, hF⟩ := bindS hF
    refine G.op1 (op_callQ (sv := .one (.g (.agg [vI r9.N, vI r9.Site]))) cf12 (ct_ref04_Get p_0 x8.Key r9 hr9) rfl rfl (EvQL.cons (EvQ.g (Ev.t 13 (.g (.d (.sl 3 (List.map encApi_Dep p_0)))))) (EvQL.cons (EvQ.g (Ev.t 18 (bS x8.Key))) EvQL.nil)) rfl) rfl ⟨rfl, rfl, trivial⟩ trivial ?_
    refine G.op2 (op_alloc (k := 1006) (cs := [bI .i64 0, bI .i64 0]) ti27 ⟨.v _ rfl, .v _ rfl, trivial⟩ rfl) rfl trivial ⟨rfl, trivial⟩ ?_
    refine G.op3 (op_storeA (cs' := [bI .i64 r9.N, bI .i64 r9.Site]) ti27 rfl rfl (Ev.t 6 (.ptr 1006 0)) (Ev.t 19 (.g (.agg [vI r9.N, vI r9.Site])))) rfl ⟨rfl, rfl, trivial⟩ ⟨rfl, trivial⟩ ?_
    refine G.endOps ?_
    refine G.seq ?_
    obtain ⟨x10, hx10, hF⟩ := bindS hF
    obtain ⟨r11, hr11, hF⟩ := bindS hF
    refine G.drawnI (deps := [[], [], [], [1, 2], [1, 2, 3], [1, 2, 3, 4], [0, 1, 2, 3, 4, 5]]) (sl' := [(0, .one (.g (.d (.sl 3 (List.map encApi_Dep p_0))))), (1, .one (.g (.d (.sl 3 (List.map encApi_Dep q_1))))), (5, oI v3), (26, oB r11)]) (hp' := []) (.c (oP rfl rfl (op_loadAP (ds := [vI r9.N, vI r9.Site]) Try.underlying27 rfl ti27 rfl (Ev.t 6 (.ptr 1006 0)) rfl)) (.c (oP rfl rfl (op_move (Ev.t 1 (.g (.d (.sl 3 (List.map encApi_Dep q_1))))) rfl)) (.c (oP rfl rfl (op_move (Ev.t 5 (bI .i64 v3)) rfl)) (.c (oP rfl rfl (op_index (cs := [vS x10.Key, vI x10.Stamp.N, vI x10.Stamp.Site]) Try.underlying28 ti52 (idx_ok hx10).1 (idx_get hx10 encApi_Dep) (Ev.t 21 (.g (.d (.sl 3 (List.map encApi_Dep q_1))))) (Ev.t 22 (bI .i64 v3)) rfl)) (.c (oP rfl rfl (op_fieldE (cs' := [vI x10.Stamp.N, vI x10.Stamp.Site]) Try.underlying52 rfl ti27 (by decide) rfl (Ev.t 23 (.ep [vS x10.Key, vI x10.Stamp.N, vI x10.Stamp.Site])) rfl)) (.c (oP rfl rfl (op_loadAE (ds := [vI x10.Stamp.N, vI x10.Stamp.Site]) Try.underlying27 rfl ti27 rfl (Ev.t 24 (.ep [vI x10.Stamp.N, vI x10.Stamp.Site])) rfl)) (.c (oP rfl rfl (op_callQ (sv := oB r11) cf16 (ct_ref03_Less r9 x10.Stamp r11 hr11) rfl rfl (EvQL.cons (EvQ.g (Ev.t 20 (.g (.agg [vI r9.N, vI r9.Site])))) (EvQL.cons (EvQ.g (Ev.t 25 (.g (.agg [vI x10.Stamp.N, vI x10.Stamp.Site])))) EvQL.nil)) rfl)) .nil))))))) follows rfl rfl rfl ⟨⟨rfl, trivial⟩, ⟨⟨rfl, rfl⟩, trivial⟩, ⟨rfl, trivial⟩, trivial, ⟨rfl, trivial⟩, trivial, ⟨rfl, rfl, trivial⟩, trivial, ⟨rfl, trivial⟩, trivial, ⟨rfl, trivial⟩, trivial, ⟨rfl, rfl, trivial⟩, trivial, trivial⟩ ⟨rfl, rfl, rfl, rfl, trivial⟩ trivial rfl ?_
    refine ifS hF (fun hc12 hF => ?_) (fun hc12 hF => ?_)
    · refine G.cond rfl (fun _ => ?_) (fun hx => by rw [hc12] at hx; cases hx)
      refine G.seq ?_
      refine G.region ?_
      refine G.op1 (op_assign (Ev.c _ rfl) rfl) rfl trivial trivial ?_
      refine G.endOps ?_
      cases hF
      exact G.ret1 Try.results18 (RVar.tmp 4 _) ⟨rfl, trivial⟩ trivial
    · refine G.cond rfl (fun hx => by rw [hc12] at hx; cases hx) (fun _ => ?_)
      refine G.skip ?_
      refine G.endBlock ?_
      refine G.region ?_
      refine G.op1 (op_move (Ev.t 5 (bI .i64 v3)) rfl) rfl ⟨rfl, trivial⟩ trivial ?_
      refine G.op1 (op_add (Ev.t 11 (bI .i64 v3)) (Ev.c _ rfl) rfl) rfl ⟨rfl, trivial⟩ trivial ?_
      refine G.op1 (op_assign (Ev.t 12 (bI .i64 (IntKind.wrap .i64 (v3 + 1)))) rfl) rfl ⟨rfl, trivial⟩ trivial ?_
      refine G.endOps ?_
      exact G.arr (J4 (IntKind.wrap .i64 (v3 + 1)) hF) ⟨rfl, rfl, rfl, trivial⟩ trivial rfl
  · refine G.cond rfl (fun hx => by rw [hc7] at hx; cases hx) (fun _ => ?_)
    refine G.exit ?_
    refine GX.c ?_
    refine GX.q ?_
    refine GX.bYes ?_
    exact G.arr (J2 () hF) trivial trivial rfl


set_option maxRecDepth 20000 in
set_option maxHeartbeats 2000000 in
theorem ct_ref20_right (l_0 : (List Api_Event)) (i_1 : Int) (r : Bool) (hF : ref20_right l_0 i_1 = some r) : Ct Try.prog 51 [.g (.d (.sl 6 (List.map encApi_Event l_0))), .g (.d (vI i_1))] (.one (.d (vB r))) := by
  unfold ref20_right at hF
  refine Ct.intro Try.func51 rfl Try.ntmps51 rfl rfl fun M w => ?_
  refine G.seq ?_
  refine G.region ?_
  refine G.op1 (op_assign (Ev.c _ rfl) rfl) rfl trivial trivial ?_
  refine G.endOps ?_
  refine G.seq ?_
  refine G.region ?_
  refine G.op1 (op_move (Ev.t 0 (.g (.d (.sl 6 (List.map encApi_Event l_0))))) rfl) rfl ⟨rfl, trivial⟩ trivial ?_
  refine G.op1 (op_move (Ev.t 1 (bI .i64 i_1)) rfl) rfl ⟨rfl, trivial⟩ trivial ?_
  obtain ⟨x1, hx1, hF⟩ := bindS hF
  refine G.op1 (op_index (cs := [vI x1.Kind, vI x1.Client, vS x1.Key, vI x1.Stamp.N, vI x1.Stamp.Site, .sl 3 (List.map encApi_Dep x1.Seen)]) Try.underlying24 ti30 (idx_ok hx1).1 (idx_get hx1 encApi_Event) (Ev.t 15 (.g (.d (.sl 6 (List.map encApi_Event l_0))))) (Ev.t 16 (bI .i64 i_1)) rfl) rfl ⟨rfl, rfl, trivial⟩ trivial ?_
  refine G.op1 (op_loadAE (ds := [vI x1.Kind, vI x1.Client, vS x1.Key, vI x1.Stamp.N, vI x1.Stamp.Site, .sl 3 (List.map encApi_Dep x1.Seen)]) Try.underlying30 rfl ti30 rfl (Ev.t 17 (.ep [vI x1.Kind, vI x1.Client, vS x1.Key, vI x1.Stamp.N, vI x1.Stamp.Site, .sl 3 (List.map encApi_Dep x1.Seen)])) rfl) rfl ⟨rfl, trivial⟩ trivial ?_
  refine G.op2 (op_alloc (k := 1005) (cs := [bI .i64 0, bI .i64 0, bS ByteArray.empty, bI .i64 0, bI .i64 0, .g (.d (.sl 3 (List.map encApi_Dep ([] : (List Api_Dep)))))]) ti30 ⟨.v _ rfl, .v _ rfl, .v _ rfl, .v _ rfl, .v _ rfl, .n 3, trivial⟩ rfl) rfl trivial ⟨rfl, trivial⟩ ?_
  refine G.op3 (op_storeA (cs' := [bI .i64 x1.Kind, bI .i64 x1.Client, bS x1.Key, bI .i64 x1.Stamp.N, bI .i64 x1.Stamp.Site, .g (.d (.sl 3 (List.map encApi_Dep x1.Seen)))]) ti30 rfl rfl (Ev.t 5 (.ptr 1005 0)) (Ev.t 18 (.g (.agg [vI x1.Kind, vI x1.Client, vS x1.Key, vI x1.Stamp.N, vI x1.Stamp.Site, .sl 3 (List.map encApi_Dep x1.Seen)])))) rfl ⟨rfl, rfl, trivial⟩ ⟨rfl, trivial⟩ ?_
  refine G.endOps ?_
  refine G.seq ?_
  refine G.region ?_
  refine G.op1 (op_fieldP (off' := 2) Try.underlying30 rfl ti9 (by decide) rfl (Ev.t 5 (.ptr 1005 0)) rfl) rfl ⟨rfl, trivial⟩ trivial ?_
  refine G.op1 (op_load1P (c := bS x1.Key) Try.underlying9 rfl rfl (Ev.t 19 (.ptr 1005 2)) rfl) rfl ⟨rfl, trivial⟩ ⟨rfl, trivial⟩ ?_
  obtain ⟨r2, hr2, hF⟩ := bindS hF
  refine G.op1 (op_callQ (sv := oB r2) cf37 (ct_ref02_Check x1.Key r2 hr2) rfl rfl (EvQL.cons (EvQ.g (Ev.t 20 (bS x1.Key))) EvQL.nil) rfl) rfl ⟨rfl, trivial⟩ trivial ?_
  refine G.op1 (op_assign (Ev.t 21 (bB r2)) rfl) rfl ⟨rfl, trivial⟩ trivial ?_
  refine G.endOps ?_
  refine G.seq ?_
  refine G.region ?_
  refine G.op1 (op_fieldP (off' := 5) Try.underlying30 rfl ti28 (by decide) rfl (Ev.t 5 (.ptr 1005 0)) rfl) rfl ⟨rfl, trivial⟩ trivial ?_
  refine G.op1 (op_load1P (c := .g (.d (.sl 3 (List.map encApi_Dep x1.Seen)))) Try.underlying28 rfl rfl (Ev.t 22 (.ptr 1005 5)) rfl) rfl ⟨rfl, trivial⟩ ⟨rfl, trivial⟩ ?_
  obtain ⟨r3, hr3, hF⟩ := bindS hF
  refine G.op1 (op_callQ (sv := oB r3) cf61 (ct_ref20_row x1.Seen r3 hr3) rfl rfl (EvQL.cons (EvQ.g (Ev.t 23 (.g (.d (.sl 3 (List.map encApi_Dep x1.Seen)))))) EvQL.nil) rfl) rfl ⟨rfl, trivial⟩ trivial ?_
  refine G.op1 (op_assign (Ev.t 24 (bB r3)) rfl) rfl ⟨rfl, trivial⟩ trivial ?_
  refine G.endOps ?_
  refine G.seq ?_
  refine G.seq ?_
  refine G.joinC (T := Bool) (fun y4 => ⟨[(0, .one (.g (.d (.sl 6 (List.map encApi_Event l_0))))), (1, oI i_1), (5, .one (.ptr 1005 0)), (30, oB y4)], [(1005, some (.blk 30 [bI .i64 x1.Kind, bI .i64 x1.Client, bS x1.Key, bI .i64 x1.Stamp.N, bI .i64 x1.Stamp.Site, .g (.d (.sl 3 (List.map encApi_Dep x1.Seen)))]))]⟩) (fun y4 => ref20_right_k1 l_0 i_1 x1 y4 = some r) (fun y4 hF => ?_) (fun J52 => ?_)
  · unfold ref20_right_k1 at hF
    refine ifS hF (fun hc5 hF => ?_) (fun hc5 hF => ?_)
    · refine G.cond rfl (fun _ => ?_) (fun hx => by rw [hc5] at hx; cases hx)
      refine G.seq ?_
      refine G.region ?_
      refine G.op1 (op_assign (Ev.c _ rfl) rfl) rfl trivial trivial ?_
      refine G.endOps ?_
      cases hF
      exact G.ret1 Try.results51 (RVar.tmp 4 _) ⟨rfl, trivial⟩ trivial
    · refine G.cond rfl (fun hx => by rw [hc5] at hx; cases hx) (fun _ => ?_)
      refine G.skip ?_
      refine G.seq ?_
      refine G.region ?_
      refine G.op1 (op_assign (Ev.c _ rfl) rfl) rfl trivial trivial ?_
      refine G.endOps ?_
      refine G.seq ?_
      refine G.region ?_
      refine G.op1 (op_assign (Ev.c _ rfl) rfl) rfl trivial trivial ?_
      refine G.endOps ?_
      refine G.seq ?_
      refine G.seq ?_
      refine G.region ?_
      refine G.op1 (op_assign (Ev.c _ rfl) rfl) rfl trivial trivial ?_
      refine G.endOps ?_
      refine G.joinC (T := Bool × Int) (fun y6 => ⟨[(0, .one (.g (.d (.sl 6 (List.map encApi_Event l_0))))), (5, .one (.ptr 1005 0)), (8, oB y6.1), (9, oI y6.2)], [(1005, some (.blk 30 [bI .i64 x1.Kind, bI .i64 x1.Client, bS x1.Key, bI .i64 x1.Stamp.N, bI .i64 x1.Stamp.Site, .g (.d (.sl 3 (List.map encApi_Dep x1.Seen)))]))]⟩) (fun y6 => ref20_right_k2 l_0 x1 y6 = some r) (fun y6 hF => ?_) (fun J33 => ?_)
      · unfold ref20_right_k2 at hF
        refine G.seq ?_
        obtain ⟨r7, hr7, hF⟩ := bindS hF
        obtain ⟨r8, hr8, hF⟩ := bindS hF
        refine G.drawnI (deps := [[], [0], [], [], [2, 3], [0, 1, 2, 3, 4], [0, 1, 2, 3, 4, 5]]) (sl' := [(5, .one (.ptr 1005 0)), (8, oB y6.1), (11, oB r8)]) (hp' := [(1005, some (.blk 30 [bI .i64 x1.Kind, bI .i64 x1.Client, bS x1.Key, bI .i64 x1.Stamp.N, bI .i64 x1.Stamp.Site, .g (.d (.sl 3 (List.map encApi_Dep x1.Seen)))]))]) (.c (oP rfl rfl (op_fieldP (off' := 5) Try.underlying30 rfl ti28 (by decide) rfl (Ev.t 5 (.ptr 1005 0)) rfl)) (.c (oP rfl rfl (op_load1P (c := .g (.d (.sl 3 (List.map encApi_Dep x1.Seen)))) Try.underlying28 rfl rfl (Ev.t 76 (.ptr 1005 5)) rfl)) (.c (oP rfl rfl (op_move (Ev.t 0 (.g (.d (.sl 6 (List.map encApi_Event l_0))))) rfl)) (.c (oP rfl rfl (op_move (Ev.t 9 (bI .i64 y6.2)) rfl)) (.c (oP rfl rfl (op_call (sv := .one (.g (.d (.sl 3 (List.map encApi_Dep r7))))) cf25 (ct_ref20_Behind l_0 y6.2 r7 hr7) rfl (EvL.cons (Ev.t 78 (.g (.d (.sl 6 (List.map encApi_Event l_0))))) (EvL.cons (Ev.t 79 (bI .i64 y6.2)) EvL.nil)) rfl)) (.c (oP rfl rfl (op_callQ (sv := oB r8) cf18 (ct_ref04_Covers x1.Seen r7 r8 hr8) rfl rfl (EvQL.cons (EvQ.g (Ev.t 77 (.g (.d (.sl 3 (List.map encApi_Dep x1.Seen)))))) (EvQL.cons (EvQ.g (Ev.t 80 (.g (.d (.sl 3 (List.map encApi_Dep r7)))))) EvQL.nil)) rfl)) (.c (oP rfl rfl (op_assign (Ev.t 81 (bB r8)) rfl)) .nil))))))) follows rfl rfl rfl ⟨⟨rfl, trivial⟩, trivial, ⟨rfl, trivial⟩, ⟨⟨rfl, rfl⟩, trivial⟩, ⟨rfl, trivial⟩, trivial, ⟨rfl, trivial⟩, trivial, ⟨rfl, rfl, trivial⟩, trivial, ⟨rfl, rfl, trivial⟩, trivial, ⟨rfl, trivial⟩, trivial, trivial⟩ ⟨rfl, rfl, rfl, trivial⟩ ⟨rfl, trivial⟩ rfl ?_
        refine G.seq ?_
        refine G.seq ?_
        refine G.region ?_
        refine G.op1 (op_move (Ev.t 11 (bB r8)) rfl) rfl ⟨rfl, trivial⟩ trivial ?_
        refine G.op1 (op_not (Ev.t 82 (bB r8)) rfl) rfl ⟨rfl, trivial⟩ trivial ?_
        refine G.endOps ?_
        refine ifS hF (fun hc9 hF => ?_) (fun hc9 hF => ?_)
        · refine G.cond rfl (fun _ => ?_) (fun hx => by rw [hc9] at hx; cases hx)
          refine G.seq ?_
          refine G.region ?_
          refine G.op1 (op_assign (Ev.c _ rfl) rfl) rfl trivial trivial ?_
          refine G.endOps ?_
          cases hF
          exact G.ret1 Try.results51 (RVar.tmp 4 _) ⟨rfl, trivial⟩ trivial
        · refine G.cond rfl (fun hx => by rw [hc9] at hx; cases hx) (fun _ => ?_)
          refine G.skip ?_
          refine G.seq ?_
          refine G.seq ?_
          refine G.region ?_
          refine G.op1 (op_fieldP (off' := 0) Try.underlying30 rfl ti3 (by decide) rfl (Ev.t 5 (.ptr 1005 0)) rfl) rfl ⟨rfl, trivial⟩ trivial ?_
          refine G.op1 (op_load1P (c := bI .i64 x1.Kind) Try.underlying3 rfl rfl (Ev.t 84 (.ptr 1005 0)) rfl) rfl ⟨rfl, trivial⟩ ⟨rfl, trivial⟩ ?_
          refine G.endOps ?_
          refine G.joinC (T := Unit) (fun y10 => ⟨[], []⟩) (fun y10 => ref20_right_k3 y10 = some r) (fun y10 hF => ?_) (fun J11 => ?_)
          · unfold ref20_right_k3 at hF
            refine G.seq ?_
            refine G.region ?_
            refine G.op1 (op_assign (Ev.c _ rfl) rfl) rfl trivial trivial ?_
            refine G.endOps ?_
            cases hF
            exact G.ret1 Try.results51 (RVar.tmp 4 _) ⟨rfl, trivial⟩ trivial
          refine G.block ?_
          refine G.seq ?_
          refine G.region ?_
          refine G.op1 (op_eqI (Ev.t 85 (bI .i64 x1.Kind)) (Ev.c _ rfl) rfl) rfl ⟨rfl, trivial⟩ trivial ?_
          refine G.op1 (op_assign (Ev.t 87 (bB (decide (x1.Kind = 1)))) rfl) rfl ⟨rfl, trivial⟩ trivial ?_
          refine G.endOps ?_
          refine ifS hF (fun hc12 hF => ?_) (fun hc12 hF => ?_)
          · refine G.cond rfl (fun _ => ?_) (fun hx => by rw [hc12] at hx; cases hx)
            refine G.seq ?_
            refine G.region ?_
            refine G.op1 (op_fieldP (off' := 3) Try.underlying30 rfl ti27 (by decide) rfl (Ev.t 5 (.ptr 1005 0)) rfl) rfl ⟨rfl, trivial⟩ trivial ?_
            refine G.op1 (op_loadAP (ds := [vI x1.Stamp.N, vI x1.Stamp.Site]) Try.underlying27 rfl ti27 rfl (Ev.t 88 (.ptr 1005 3)) rfl) rfl ⟨rfl, trivial⟩ ⟨rfl, trivial⟩ ?_
            obtain ⟨r13, hr13, hF⟩ := bindS hF
            refine G.op1 (op_callQ (sv := oB r13) cf38 (ct_ref03_Check x1.Stamp r13 hr13) rfl rfl (EvQL.cons (EvQ.g (Ev.t 89 (.g (.agg [vI x1.Stamp.N, vI x1.Stamp.Site])))) EvQL.nil) rfl) rfl ⟨rfl, trivial⟩ trivial ?_
            refine G.op1 (op_assign (Ev.t 90 (bB r13)) rfl) rfl ⟨rfl, trivial⟩ trivial ?_
            refine G.endOps ?_
            refine G.seq ?_
            refine G.seq ?_
            refine G.region ?_
            refine G.op1 (op_assign (Ev.c _ rfl) rfl) rfl trivial trivial ?_
            refine G.endOps ?_
            refine G.joinC (T := Unit) (fun y14 => ⟨[(8, oB y6.1), (12, oB r13)], []⟩) (fun y14 => ref20_right_k4 y6 r13 y14 = some r) (fun y14 hF => ?_) (fun J16 => ?_)
            · unfold ref20_right_k4 at hF
              refine G.seq ?_
              refine G.region ?_
              refine G.op1 (op_move (Ev.t 12 (bB r13)) rfl) rfl ⟨rfl, trivial⟩ trivial ?_
              refine G.op1 (op_move (Ev.t 108 (bB r13)) rfl) rfl ⟨rfl, trivial⟩ trivial ?_
              refine ifS hF (fun hc15 hF => ?_) (fun hc15 hF => ?_)
              · refine G.known (t := 109) hc15 rfl ?_
                refine G.opG1 (op_move (Ev.t 8 (bB y6.1)) rfl) rfl rfl rfl ⟨rfl, trivial⟩ trivial ?_
                refine G.opG1 (op_not (Ev.t 110 (bB y6.1)) rfl) rfl rfl rfl ⟨rfl, trivial⟩ trivial ?_
                refine G.op1 (op_pickT (Ev.t 109 (bB true)) (Ev.t 111 (bB (!y6.1))) rfl) rfl ⟨rfl, rfl, trivial⟩ trivial ?_
                refine G.op1 (op_assign (Ev.t 112 (bB (!y6.1))) rfl) rfl ⟨rfl, trivial⟩ trivial ?_
                refine G.endOps ?_
                cases hF
                exact G.ret1 Try.results51 (RVar.tmp 4 _) ⟨rfl, trivial⟩ trivial
              · refine G.known (t := 109) hc15 rfl ?_
                refine G.opN1 rfl rfl rfl rfl rfl ?_
                refine G.opN1 rfl rfl rfl rfl rfl ?_
                refine G.op1 (op_pickF (Ev.t 109 (bB false)) (Ev.c _ rfl) rfl) rfl ⟨rfl, trivial⟩ trivial ?_
                refine G.op1 (op_assign (Ev.t 112 (bB false)) rfl) rfl ⟨rfl, trivial⟩ trivial ?_
                refine G.endOps ?_
                cases hF
                exact G.ret1 Try.results51 (RVar.tmp 4 _) ⟨rfl, trivial⟩ trivial
            refine G.block ?_
            refine G.keep (sl' := [(5, .one (.ptr 1005 0)), (8, oB y6.1), (12, oB r13), (13, oI 0)]) (hp' := [(1005, some (.blk 30 [bI .i64 x1.Kind, bI .i64 x1.Client, bS x1.Key, bI .i64 x1.Stamp.N, bI .i64 x1.Stamp.Site, .g (.d (.sl 3 (List.map encApi_Dep x1.Seen)))]))]) ⟨rfl, rfl, rfl, rfl, trivial⟩ ⟨rfl, trivial⟩ rfl ?_
            refine G.loopF (fun (v17 : Int) => ⟨[(5, .one (.ptr 1005 0)), (8, oB y6.1), (12, oB r13), (13, oI v17)], [(1005, some (.blk 30 [bI .i64 x1.Kind, bI .i64 x1.Client, bS x1.Key, bI .i64 x1.Stamp.N, bI .i64 x1.Stamp.Site, .g (.d (.sl 3 (List.map encApi_Dep x1.Seen)))]))]⟩) hF rfl (fun K20 again19 v17 J18 hF => ?_)
            unfold ref20_right_l5 at hF
            refine G.seq ?_
            refine G.seq ?_
            refine G.region ?_
            refine G.op1 (op_move (Ev.t 13 (bI .i64 v17)) rfl) rfl ⟨rfl, trivial⟩ trivial ?_
            refine G.op1 (op_fieldP (off' := 5) Try.underlying30 rfl ti28 (by decide) rfl (Ev.t 5 (.ptr 1005 0)) rfl) rfl ⟨rfl, trivial⟩ trivial ?_
            refine G.op1 (op_load1P (c := .g (.d (.sl 3 (List.map encApi_Dep x1.Seen)))) Try.underlying28 rfl rfl (Ev.t 92 (.ptr 1005 5)) rfl) rfl ⟨rfl, trivial⟩ ⟨rfl, trivial⟩ ?_
            refine G.op1 (OpL.cast (op_lenD Try.underlying28 (Ev.t 93 (.g (.d (.sl 3 (List.map encApi_Dep x1.Seen))))) rfl) (by rw [List.length_map])) rfl ⟨rfl, trivial⟩ trivial ?_
            refine G.op1 (op_lss (Ev.t 91 (bI .i64 v17)) (Ev.t 94 (bI .i64 (x1.Seen.length : Int))) rfl) rfl ⟨rfl, rfl, trivial⟩ trivial ?_
            refine G.endOps ?_
            refine ifS hF (fun hc21 hF => ?_) (fun hc21 hF => ?_)
            · refine G.cond rfl (fun _ => ?_) (fun hx => by rw [hc21] at hx; cases hx)
              refine G.skip ?_
              refine G.seq ?_
              refine G.block ?_
              refine G.seq ?_
              obtain ⟨x22, hx22, hF⟩ := bindS hF
              obtain ⟨r23, hr23, hF⟩ := bindS hF
              refine G.drawnI (deps := [[], [0], [], [0, 1, 2], [0, 1, 2, 3], [0, 1, 2, 3, 4], [], [6], [0, 1, 2, 3, 4, 5, 6, 7], [0, 1, 2, 3, 4, 5, 6, 7, 8]]) (sl' := [(5, .one (.ptr 1005 0)), (8, oB y6.1), (12, oB r13), (13, oI v17), (107, oB (!r23))]) (hp' := [(1005, some (.blk 30 [bI .i64 x1.Kind, bI .i64 x1.Client, bS x1.Key, bI .i64 x1.Stamp.N, bI .i64 x1.Stamp.Site, .g (.d (.sl 3 (List.map encApi_Dep x1.Seen)))]))]) (.c (oP rfl rfl (op_fieldP (off' := 5) Try.underlying30 rfl ti28 (by decide) rfl (Ev.t 5 (.ptr 1005 0)) rfl)) (.c (oP rfl rfl (op_load1P (c := .g (.d (.sl 3 (List.map encApi_Dep x1.Seen)))) Try.underlying28 rfl rfl (Ev.t 98 (.ptr 1005 5)) rfl)) (.c (oP rfl rfl (op_move (Ev.t 13 (bI .i64 v17)) rfl)) (.c (oP rfl rfl (op_index (cs := [vS x22.Key, vI x22.Stamp.N, vI x22.Stamp.Site]) Try.underlying28 ti52 (idx_ok hx22).1 (idx_get hx22 encApi_Dep) (Ev.t 99 (.g (.d (.sl 3 (List.map encApi_Dep x1.Seen))))) (Ev.t 100 (bI .i64 v17)) rfl)) (.c (oP rfl rfl (op_fieldE (cs' := [vI x22.Stamp.N, vI x22.Stamp.Site]) Try.underlying52 rfl ti27 (by decide) rfl (Ev.t 101 (.ep [vS x22.Key, vI x22.Stamp.N, vI x22.Stamp.Site])) rfl)) (.c (oP rfl rfl (op_loadAE (ds := [vI x22.Stamp.N, vI x22.Stamp.Site]) Try.underlying27 rfl ti27 rfl (Ev.t 102 (.ep [vI x22.Stamp.N, vI x22.Stamp.Site])) rfl)) (.c (oP rfl rfl (op_fieldP (off' := 3) Try.underlying30 rfl ti27 (by decide) rfl (Ev.t 5 (.ptr 1005 0)) rfl)) (.c (oP rfl rfl (op_loadAP (ds := [vI x1.Stamp.N, vI x1.Stamp.Site]) Try.underlying27 rfl ti27 rfl (Ev.t 104 (.ptr 1005 3)) rfl)) (.c (oP rfl rfl (op_callQ (sv := oB r23) cf16 (ct_ref03_Less x22.Stamp x1.Stamp r23 hr23) rfl rfl (EvQL.cons (EvQ.g (Ev.t 103 (.g (.agg [vI x22.Stamp.N, vI x22.Stamp.Site])))) (EvQL.cons (EvQ.g (Ev.t 105 (.g (.agg [vI x1.Stamp.N, vI x1.Stamp.Site])))) EvQL.nil)) rfl)) (.c (oP rfl rfl (op_not (Ev.t 106 (bB r23)) rfl)) .nil)))))))))) follows rfl rfl rfl ⟨⟨rfl, trivial⟩, trivial, ⟨rfl, trivial⟩, ⟨⟨rfl, rfl⟩, trivial⟩, ⟨rfl, trivial⟩, trivial, ⟨rfl, rfl, trivial⟩, trivial, ⟨rfl, trivial⟩, trivial, ⟨rfl, trivial⟩, trivial, ⟨rfl, trivial⟩, trivial, ⟨rfl, trivial⟩, ⟨⟨rfl, rfl⟩, trivial⟩, ⟨rfl, rfl, trivial⟩, trivial, ⟨rfl, trivial⟩, trivial, trivial⟩ ⟨rfl, rfl, rfl, rfl, rfl, trivial⟩ ⟨rfl, trivial⟩ rfl ?_
              refine ifS hF (fun hc24 hF => ?_) (fun hc24 hF => ?_)
              · refine G.cond rfl (fun _ => ?_) (fun hx => by rw [hc24] at hx; cases hx)
                refine G.seq ?_
                refine G.region ?_
                refine G.op1 (op_assign (Ev.c _ rfl) rfl) rfl trivial trivial ?_
                refine G.endOps ?_
                cases hF
                exact G.ret1 Try.results51 (RVar.tmp 4 _) ⟨rfl, trivial⟩ trivial
              · refine G.cond rfl (fun hx => by rw [hc24] at hx; cases hx) (fun _ => ?_)
                refine G.skip ?_
                refine G.endBlock ?_
                refine G.region ?_
                refine G.op1 (op_move (Ev.t 13 (bI .i64 v17)) rfl) rfl ⟨rfl, trivial⟩ trivial ?_
                refine G.op1 (op_add (Ev.t 96 (bI .i64 v17)) (Ev.c _ rfl) rfl) rfl ⟨rfl, trivial⟩ trivial ?_
                refine G.op1 (op_assign (Ev.t 97 (bI .i64 (IntKind.wrap .i64 (v17 + 1)))) rfl) rfl ⟨rfl, trivial⟩ trivial ?_
                refine G.endOps ?_
                exact G.arr (J18 (IntKind.wrap .i64 (v17 + 1)) hF) ⟨rfl, rfl, rfl, rfl, trivial⟩ ⟨rfl, trivial⟩ rfl
            · refine G.cond rfl (fun hx => by rw [hc21] at hx; cases hx) (fun _ => ?_)
              refine G.exit ?_
              refine GX.c ?_
              refine GX.q ?_
              refine GX.bYes ?_
              exact G.arr (J16 () hF) ⟨rfl, rfl, trivial⟩ trivial rfl
          · refine G.cond rfl (fun hx => by rw [hc12] at hx; cases hx) (fun _ => ?_)
            refine G.seq ?_
            refine G.region ?_
            refine G.op1 (op_eqI (Ev.t 85 (bI .i64 x1.Kind)) (Ev.c _ rfl) rfl) rfl ⟨rfl, trivial⟩ trivial ?_
            refine G.op1 (op_assign (Ev.t 114 (bB (decide (x1.Kind = 2)))) rfl) rfl ⟨rfl, trivial⟩ trivial ?_
            refine G.endOps ?_
            refine ifS hF (fun hc25 hF => ?_) (fun hc25 hF => ?_)
            · refine G.cond rfl (fun _ => ?_) (fun hx => by rw [hc25] at hx; cases hx)
              refine G.seq ?_
              refine G.joinC (T := Bool) (fun y26 => ⟨[(5, .one (.ptr 1005 0)), (8, oB y6.1), (14, oB y26)], [(1005, some (.blk 30 [bI .i64 x1.Kind, bI .i64 x1.Client, bS x1.Key, bI .i64 x1.Stamp.N, bI .i64 x1.Stamp.Site, .g (.d (.sl 3 (List.map encApi_Dep x1.Seen)))]))]⟩) (fun y26 => ref20_right_k6 x1 y6 y26 = some r) (fun y26 hF => ?_) (fun J31 => ?_)
              · unfold ref20_right_k6 at hF
                refine G.seq ?_
                obtain ⟨r27, hr27, hF⟩ := bindS hF
                obtain ⟨r28, hr28, hF⟩ := bindS hF
                refine ifS hF (fun hc29 hF => ?_) (fun hc29 hF => ?_)
                · refine ifS hF (fun hc30 hF => ?_) (fun hc30 hF => ?_)
                  · refine G.known (t := 14) (c := true) hc30 rfl ?_
                    refine G.drawnI (deps := [[], [0], [], [2], [], [4], [2, 3, 4, 5], [0, 1, 2, 3, 4, 5, 6], [0, 1, 2, 3, 4, 5, 6, 7], [0, 1, 2, 3, 4, 5, 6, 7, 8], [0, 1, 2, 3, 4, 5, 6, 7, 8, 9], [0, 1, 2, 3, 4, 5, 6, 7, 8, 9, 10], [0, 1, 2, 3, 4, 5, 6, 7, 8, 9, 10, 11], [0, 1, 2, 3, 4, 5, 6, 7, 8, 9, 10, 11, 12], [0, 1, 2, 3, 4, 5, 6, 7, 8, 9, 10, 11, 12, 13], [0, 1, 2, 3, 4, 5, 6, 7, 8, 9, 10, 11, 12, 13, 14]]) (sl' := [(4, oB true)]) (hp' := []) (.c (oP rfl rfl (op_fieldP (off' := 3) Try.underlying30 rfl ti27 (by decide) rfl (Ev.t 5 (.ptr 1005 0)) rfl)) (.c (oP rfl rfl (op_loadAP (ds := [vI x1.Stamp.N, vI x1.Stamp.Site]) Try.underlying27 rfl ti27 rfl (Ev.t 125 (.ptr 1005 3)) rfl)) (.c (oP rfl rfl (op_fieldP (off' := 5) Try.underlying30 rfl ti28 (by decide) rfl (Ev.t 5 (.ptr 1005 0)) rfl)) (.c (oP rfl rfl (op_load1P (c := .g (.d (.sl 3 (List.map encApi_Dep x1.Seen)))) Try.underlying28 rfl rfl (Ev.t 127 (.ptr 1005 5)) rfl)) (.c (oP rfl rfl (op_fieldP (off' := 2) Try.underlying30 rfl ti9 (by decide) rfl (Ev.t 5 (.ptr 1005 0)) rfl)) (.c (oP rfl rfl (op_load1P (c := bS x1.Key) Try.underlying9 rfl rfl (Ev.t 129 (.ptr 1005 2)) rfl)) (.c (oP rfl rfl (op_callQ (sv := .one (.g (.agg [vI r27.N, vI r27.Site]))) cf12 (ct_ref04_Get x1.Seen x1.Key r27 hr27) rfl rfl (EvQL.cons (EvQ.g (Ev.t 128 (.g (.d (.sl 3 (List.map encApi_Dep x1.Seen)))))) (EvQL.cons (EvQ.g (Ev.t 130 (bS x1.Key))) EvQL.nil)) rfl)) (.c (oP rfl rfl (op_callQ (sv := oB r28) cf16 (ct_ref03_Less x1.Stamp r27 r28 hr28) rfl rfl (EvQL.cons (EvQ.g (Ev.t 126 (.g (.agg [vI x1.Stamp.N, vI x1.Stamp.Site])))) (EvQL.cons (EvQ.g (Ev.t 131 (.g (.agg [vI r27.N, vI r27.Site])))) EvQL.nil)) rfl)) (.c (oP rfl rfl (OpL.cast (op_not (Ev.t 132 (bB r28)) rfl) (congrArg (fun b => bB b) hc29))) (.c (oP rfl rfl (op_move (Ev.t 133 (bB true)) rfl)) (.c (oY rfl rfl rfl (op_move (Ev.t 14 (bB true)) rfl)) (.c (oY rfl rfl rfl (op_move (Ev.t 135 (bB true)) rfl)) (.c (OpW.no rfl rfl rfl rfl rfl) (.c (oY rfl rfl rfl (op_pickT (Ev.t 136 (bB true)) (Ev.c _ rfl) rfl)) (.c (oP rfl rfl (op_pickT (Ev.t 134 (bB true)) (Ev.t 138 (bB true)) rfl)) (.c (oP rfl rfl (op_assign (Ev.t 139 (bB true)) rfl)) .nil)))))))))))))))) follows rfl rfl rfl ⟨⟨rfl, trivial⟩, trivial, ⟨rfl, trivial⟩, ⟨⟨rfl, rfl⟩, trivial⟩, ⟨rfl, trivial⟩, trivial, ⟨rfl, trivial⟩, ⟨⟨rfl, rfl⟩, trivial⟩, ⟨rfl, trivial⟩, trivial, ⟨rfl, trivial⟩, ⟨⟨rfl, rfl⟩, trivial⟩, ⟨rfl, rfl, trivial⟩, trivial, ⟨rfl, rfl, trivial⟩, trivial, ⟨rfl, trivial⟩, trivial, ⟨rfl, trivial⟩, trivial, ⟨rfl, rfl, trivial⟩, trivial, ⟨rfl, rfl, trivial⟩, trivial, ⟨rfl, trivial⟩, trivial, ⟨rfl, rfl, trivial⟩, trivial, ⟨rfl, rfl, trivial⟩, trivial, ⟨rfl, trivial⟩, trivial, trivial⟩ ⟨rfl, trivial⟩ trivial rfl ?_
                    cases hF
                    exact G.ret1 Try.results51 (RVar.tmp 4 _) ⟨rfl, trivial⟩ trivial
                  · refine G.known (t := 14) (c := false) hc30 rfl ?_
                    refine G.drawnI (deps := [[], [0], [], [2], [], [4], [2, 3, 4, 5], [0, 1, 2, 3, 4, 5, 6], [0, 1, 2, 3, 4, 5, 6, 7], [0, 1, 2, 3, 4, 5, 6, 7, 8], [0, 1, 2, 3, 4, 5, 6, 7, 8, 9], [0, 1, 2, 3, 4, 5, 6, 7, 8, 9, 10], [0, 1, 2, 3, 4, 5, 6, 7, 8, 9, 10, 11], [0, 1, 2, 3, 4, 5, 6, 7, 8, 9, 10, 11, 12], [0, 1, 2, 3, 4, 5, 6, 7, 8, 9, 10, 11, 12, 13], [0, 1, 2, 3, 4, 5, 6, 7, 8, 9, 10, 11, 12, 13, 14]]) (sl' := [(4, oB y6.1)]) (hp' := []) (.c (oP rfl rfl (op_fieldP (off' := 3) Try.underlying30 rfl ti27 (by decide) rfl (Ev.t 5 (.ptr 1005 0)) rfl)) (.c (oP rfl rfl (op_loadAP (ds := [vI x1.Stamp.N, vI x1.Stamp.Site]) Try.underlying27 rfl ti27 rfl (Ev.t 125 (.ptr 1005 3)) rfl)) (.c (oP rfl rfl (op_fieldP (off' := 5) Try.underlying30 rfl ti28 (by decide) rfl (Ev.t 5 (.ptr 1005 0)) rfl)) (.c (oP rfl rfl (op_load1P (c := .g (.d (.sl 3 (List.map encApi_Dep x1.Seen)))) Try.underlying28 rfl rfl (Ev.t 127 (.ptr 1005 5)) rfl)) (.c (oP rfl rfl (op_fieldP (off' := 2) Try.underlying30 rfl ti9 (by decide) rfl (Ev.t 5 (.ptr 1005 0)) rfl)) (.c (oP rfl rfl (op_load1P (c := bS x1.Key) Try.underlying9 rfl rfl (Ev.t 129 (.ptr 1005 2)) rfl)) (.c (oP rfl rfl (op_callQ (sv := .one (.g (.agg [vI r27.N, vI r27.Site]))) cf12 (ct_ref04_Get x1.Seen x1.Key r27 hr27) rfl rfl (EvQL.cons (EvQ.g (Ev.t 128 (.g (.d (.sl 3 (List.map encApi_Dep x1.Seen)))))) (EvQL.cons (EvQ.g (Ev.t 130 (bS x1.Key))) EvQL.nil)) rfl)) (.c (oP rfl rfl (op_callQ (sv := oB r28) cf16 (ct_ref03_Less x1.Stamp r27 r28 hr28) rfl rfl (EvQL.cons (EvQ.g (Ev.t 126 (.g (.agg [vI x1.Stamp.N, vI x1.Stamp.Site])))) (EvQL.cons (EvQ.g (Ev.t 131 (.g (.agg [vI r27.N, vI r27.Site])))) EvQL.nil)) rfl)) (.c (oP rfl rfl (OpL.cast (op_not (Ev.t 132 (bB r28)) rfl) (congrArg (fun b => bB b) hc29))) (.c (oP rfl rfl (op_move (Ev.t 133 (bB true)) rfl)) (.c (oY rfl rfl rfl (op_move (Ev.t 14 (bB false)) rfl)) (.c (oY rfl rfl rfl (op_move (Ev.t 135 (bB false)) rfl)) (.c (oY rfl rfl rfl (op_move (Ev.t 8 (bB y6.1)) rfl)) (.c (oY rfl rfl rfl (op_pickF (Ev.t 136 (bB false)) (Ev.t 137 (bB y6.1)) rfl)) (.c (oP rfl rfl (op_pickT (Ev.t 134 (bB true)) (Ev.t 138 (bB y6.1)) rfl)) (.c (oP rfl rfl (op_assign (Ev.t 139 (bB y6.1)) rfl)) .nil)))))))))))))))) follows rfl rfl rfl ⟨⟨rfl, trivial⟩, trivial, ⟨rfl, trivial⟩, ⟨⟨rfl, rfl⟩, trivial⟩, ⟨rfl, trivial⟩, trivial, ⟨rfl, trivial⟩, ⟨⟨rfl, rfl⟩, trivial⟩, ⟨rfl, trivial⟩, trivial, ⟨rfl, trivial⟩, ⟨⟨rfl, rfl⟩, trivial⟩, ⟨rfl, rfl, trivial⟩, trivial, ⟨rfl, rfl, trivial⟩, trivial, ⟨rfl, trivial⟩, trivial, ⟨rfl, trivial⟩, trivial, ⟨rfl, rfl, trivial⟩, trivial, ⟨rfl, rfl, trivial⟩, trivial, ⟨rfl, rfl, trivial⟩, trivial, ⟨rfl, rfl, rfl, trivial⟩, trivial, ⟨rfl, rfl, trivial⟩, trivial, ⟨rfl, trivial⟩, trivial, trivial⟩ ⟨rfl, trivial⟩ trivial rfl ?_
                    cases hF
                    exact G.ret1 Try.results51 (RVar.tmp 4 _) ⟨rfl, trivial⟩ trivial
                · refine G.drawnI (deps := [[], [0], [], [2], [], [4], [2, 3, 4, 5], [0, 1, 2, 3, 4, 5, 6], [0, 1, 2, 3, 4, 5, 6, 7], [0, 1, 2, 3, 4, 5, 6, 7, 8], [0, 1, 2, 3, 4, 5, 6, 7, 8, 9], [0, 1, 2, 3, 4, 5, 6, 7, 8, 9, 10], [0, 1, 2, 3, 4, 5, 6, 7, 8, 9, 10, 11], [0, 1, 2, 3, 4, 5, 6, 7, 8, 9, 10, 11, 12], [0, 1, 2, 3, 4, 5, 6, 7, 8, 9, 10, 11, 12, 13], [0, 1, 2, 3, 4, 5, 6, 7, 8, 9, 10, 11, 12, 13, 14]]) (sl' := [(4, oB false)]) (hp' := []) (.c (oP rfl rfl (op_fieldP (off' := 3) Try.underlying30 rfl ti27 (by decide) rfl (Ev.t 5 (.ptr 1005 0)) rfl)) (.c (oP rfl rfl (op_loadAP (ds := [vI x1.Stamp.N, vI x1.Stamp.Site]) Try.underlying27 rfl ti27 rfl (Ev.t 125 (.ptr 1005 3)) rfl)) (.c (oP rfl rfl (op_fieldP (off' := 5) Try.underlying30 rfl ti28 (by decide) rfl (Ev.t 5 (.ptr 1005 0)) rfl)) (.c (oP rfl rfl (op_load1P (c := .g (.d (.sl 3 (List.map encApi_Dep x1.Seen)))) Try.underlying28 rfl rfl (Ev.t 127 (.ptr 1005 5)) rfl)) (.c (oP rfl rfl (op_fieldP (off' := 2) Try.underlying30 rfl ti9 (by decide) rfl (Ev.t 5 (.ptr 1005 0)) rfl)) (.c (oP rfl rfl (op_load1P (c := bS x1.Key) Try.underlying9 rfl rfl (Ev.t 129 (.ptr 1005 2)) rfl)) (.c (oP rfl rfl (op_callQ (sv := .one (.g (.agg [vI r27.N, vI r27.Site]))) cf12 (ct_ref04_Get x1.Seen x1.Key r27 hr27) rfl rfl (EvQL.cons (EvQ.g (Ev.t 128 (.g (.d (.sl 3 (List.map encApi_Dep x1.Seen)))))) (EvQL.cons (EvQ.g (Ev.t 130 (bS x1.Key))) EvQL.nil)) rfl)) (.c (oP rfl rfl (op_callQ (sv := oB r28) cf16 (ct_ref03_Less x1.Stamp r27 r28 hr28) rfl rfl (EvQL.cons (EvQ.g (Ev.t 126 (.g (.agg [vI x1.Stamp.N, vI x1.Stamp.Site])))) (EvQL.cons (EvQ.g (Ev.t 131 (.g (.agg [vI r27.N, vI r27.Site])))) EvQL.nil)) rfl)) (.c (oP rfl rfl (OpL.cast (op_not (Ev.t 132 (bB r28)) rfl) (congrArg (fun b => bB b) hc29))) (.c (oP rfl rfl (op_move (Ev.t 133 (bB false)) rfl)) (.c (OpW.no rfl rfl rfl rfl rfl) (.c (OpW.no rfl rfl rfl rfl rfl) (.c (OpW.un rfl rfl rfl rfl) (.c (OpW.no rfl rfl rfl rfl rfl) (.c (oP rfl rfl (op_pickF (Ev.t 134 (bB false)) (Ev.c _ rfl) rfl)) (.c (oP rfl rfl (op_assign (Ev.t 139 (bB false)) rfl)) .nil)))))))))))))))) follows rfl rfl rfl ⟨⟨rfl, trivial⟩, trivial, ⟨rfl, trivial⟩, ⟨⟨rfl, rfl⟩, trivial⟩, ⟨rfl, trivial⟩, trivial, ⟨rfl, trivial⟩, ⟨⟨rfl, rfl⟩, trivial⟩, ⟨rfl, trivial⟩, trivial, ⟨rfl, trivial⟩, ⟨⟨rfl, rfl⟩, trivial⟩, ⟨rfl, rfl, trivial⟩, trivial, ⟨rfl, rfl, trivial⟩, trivial, ⟨rfl, trivial⟩, trivial, ⟨rfl, trivial⟩, trivial, ⟨rfl, trivial⟩, trivial, ⟨rfl, trivial⟩, trivial, ⟨rfl, trivial⟩, trivial, ⟨rfl, trivial⟩, trivial, ⟨rfl, trivial⟩, trivial, ⟨rfl, trivial⟩, trivial, trivial⟩ ⟨rfl, trivial⟩ trivial rfl ?_
                  cases hF
                  exact G.ret1 Try.results51 (RVar.tmp 4 _) ⟨rfl, trivial⟩ trivial
              refine G.region ?_
              refine G.op1 (op_fieldP (off' := 3) Try.underlying30 rfl ti27 (by decide) rfl (Ev.t 5 (.ptr 1005 0)) rfl) rfl ⟨rfl, trivial⟩ trivial ?_
              refine G.op1 (op_fieldP (off' := 3) Try.underlying27 rfl ti3 (by decide) rfl (Ev.t 115 (.ptr 1005 3)) rfl) rfl ⟨rfl, trivial⟩ trivial ?_
              refine G.op1 (op_load1P (c := bI .i64 x1.Stamp.N) Try.underlying3 rfl rfl (Ev.t 116 (.ptr 1005 3)) rfl) rfl ⟨rfl, trivial⟩ ⟨rfl, trivial⟩ ?_
              refine G.op1 (op_eqI (Ev.t 117 (bI .i64 x1.Stamp.N)) (Ev.c _ rfl) rfl) rfl ⟨rfl, trivial⟩ trivial ?_
              refine G.op1 (op_move (Ev.t 118 (bB (decide (x1.Stamp.N = 0)))) rfl) rfl ⟨rfl, trivial⟩ trivial ?_
              refine ifS hF (fun hc32 hF => ?_) (fun hc32 hF => ?_)
              · refine G.known (t := 119) hc32 rfl ?_
                refine G.opG1 (op_fieldP (off' := 3) Try.underlying30 rfl ti27 (by decide) rfl (Ev.t 5 (.ptr 1005 0)) rfl) rfl rfl rfl ⟨rfl, trivial⟩ trivial ?_
                refine G.opG1 (op_fieldP (off' := 4) Try.underlying27 rfl ti3 (by decide) rfl (Ev.t 120 (.ptr 1005 3)) rfl) rfl rfl rfl ⟨rfl, trivial⟩ trivial ?_
                refine G.opG1 (op_load1P (c := bI .i64 x1.Stamp.Site) Try.underlying3 rfl rfl (Ev.t 121 (.ptr 1005 4)) rfl) rfl rfl rfl ⟨rfl, trivial⟩ ⟨rfl, trivial⟩ ?_
                refine G.opG1 (op_eqI (Ev.t 122 (bI .i64 x1.Stamp.Site)) (Ev.c _ rfl) rfl) rfl rfl rfl ⟨rfl, trivial⟩ trivial ?_
                refine G.op1 (op_pickT (Ev.t 119 (bB true)) (Ev.t 123 (bB (decide (x1.Stamp.Site = 0)))) rfl) rfl ⟨rfl, rfl, trivial⟩ trivial ?_
                refine G.op1 (op_assign (Ev.t 124 (bB (decide (x1.Stamp.Site = 0)))) rfl) rfl ⟨rfl, trivial⟩ trivial ?_
                refine G.endOps ?_
                exact G.arr (J31 (decide (x1.Stamp.Site = 0)) hF) ⟨rfl, rfl, rfl, trivial⟩ ⟨rfl, trivial⟩ rfl
              · refine G.known (t := 119) hc32 rfl ?_
                refine G.opN1 rfl rfl rfl rfl rfl ?_
                refine G.opN1 rfl rfl rfl rfl rfl ?_
                refine G.opN1 rfl rfl rfl rfl rfl ?_
                refine G.opN1 rfl rfl rfl rfl rfl ?_
                refine G.op1 (op_pickF (Ev.t 119 (bB false)) (Ev.c _ rfl) rfl) rfl ⟨rfl, trivial⟩ trivial ?_
                refine G.op1 (op_assign (Ev.t 124 (bB false)) rfl) rfl ⟨rfl, trivial⟩ trivial ?_
                refine G.endOps ?_
                exact G.arr (J31 false hF) ⟨rfl, rfl, rfl, trivial⟩ ⟨rfl, trivial⟩ rfl
            · refine G.cond rfl (fun hx => by rw [hc25] at hx; cases hx) (fun _ => ?_)
              refine G.skip ?_
              refine G.endBlock ?_
              exact G.arr (J11 () hF) trivial trivial rfl
      refine G.block ?_
      refine G.keep (sl' := [(0, .one (.g (.d (.sl 6 (List.map encApi_Event l_0))))), (1, oI i_1), (5, .one (.ptr 1005 0)), (8, oB false), (9, oI (-1)), (10, oI 0)]) (hp' := [(1005, some (.blk 30 [bI .i64 x1.Kind, bI .i64 x1.Client, bS x1.Key, bI .i64 x1.Stamp.N, bI .i64 x1.Stamp.Site, .g (.d (.sl 3 (List.map encApi_Dep x1.Seen)))]))]) ⟨rfl, rfl, rfl, rfl, rfl, rfl, trivial⟩ ⟨rfl, trivial⟩ rfl ?_
      refine G.loopF (fun (v34 : Bool × Int × Int) => ⟨[(0, .one (.g (.d (.sl 6 (List.map encApi_Event l_0))))), (1, oI i_1), (5, .one (.ptr 1005 0)), (8, oB v34.1), (9, oI v34.2.1), (10, oI v34.2.2)], [(1005, some (.blk 30 [bI .i64 x1.Kind, bI .i64 x1.Client, bS x1.Key, bI .i64 x1.Stamp.N, bI .i64 x1.Stamp.Site, .g (.d (.sl 3 (List.map encApi_Dep x1.Seen)))]))]⟩) hF rfl (fun K37 again36 v34 J35 hF => ?_)
      unfold ref20_right_l7 at hF
      refine G.seq ?_
      refine G.seq ?_
      refine G.region ?_
      refine G.op1 (op_move (Ev.t 10 (bI .i64 v34.2.2)) rfl) rfl ⟨rfl, trivial⟩ trivial ?_
      refine G.op1 (op_move (Ev.t 1 (bI .i64 i_1)) rfl) rfl ⟨rfl, trivial⟩ trivial ?_
      refine G.op1 (op_lss (Ev.t 31 (bI .i64 v34.2.2)) (Ev.t 32 (bI .i64 i_1)) rfl) rfl ⟨rfl, rfl, trivial⟩ trivial ?_
      refine G.endOps ?_
      refine ifS hF (fun hc38 hF => ?_) (fun hc38 hF => ?_)
      · refine G.cond rfl (fun _ => ?_) (fun hx => by rw [hc38] at hx; cases hx)
        refine G.skip ?_
        refine G.seq ?_
        refine G.block ?_
        refine G.seq ?_
        refine G.seq ?_
        refine G.joinC (T := Bool) (fun y39 => ⟨[(0, .one (.g (.d (.sl 6 (List.map encApi_Event l_0))))), (1, oI i_1), (5, .one (.ptr 1005 0)), (8, oB v34.1), (9, oI v34.2.1), (10, oI v34.2.2), (66, oB y39)], [(1005, some (.blk 30 [bI .i64 x1.Kind, bI .i64 x1.Client, bS x1.Key, bI .i64 x1.Stamp.N, bI .i64 x1.Stamp.Site, .g (.d (.sl 3 (List.map encApi_Dep x1.Seen)))]))]⟩) (fun y39 => ref20_right_k8 l_0 x1 again36 v34 y39 = some r) (fun y39 hF => ?_) (fun J45 => ?_)
        · unfold ref20_right_k8 at hF
          refine G.joinC (T := Bool) (fun y40 => ⟨[(0, .one (.g (.d (.sl 6 (List.map encApi_Event l_0))))), (1, oI i_1), (5, .one (.ptr 1005 0)), (8, oB y40), (9, oI v34.2.1), (10, oI v34.2.2)], [(1005, some (.blk 30 [bI .i64 x1.Kind, bI .i64 x1.Client, bS x1.Key, bI .i64 x1.Stamp.N, bI .i64 x1.Stamp.Site, .g (.d (.sl 3 (List.map encApi_Dep x1.Seen)))]))]⟩) (fun y40 => ref20_right_k9 l_0 x1 again36 v34 y40 = some r) (fun y40 hF => ?_) (fun J43 => ?_)
          · unfold ref20_right_k9 at hF
            refine G.seq ?_
            obtain ⟨x41, hx41, hF⟩ := bindS hF
            refine G.drawnI (deps := [[], [], [0, 1], [0, 1, 2], [0, 1, 2, 3], [], [5], [0, 1, 2, 3, 4, 5, 6]]) (sl' := [(0, .one (.g (.d (.sl 6 (List.map encApi_Event l_0))))), (1, oI i_1), (5, .one (.ptr 1005 0)), (8, oB y40), (9, oI v34.2.1), (10, oI v34.2.2), (74, oB (decide (x41.Client = x1.Client)))]) (hp' := [(1005, some (.blk 30 [bI .i64 x1.Kind, bI .i64 x1.Client, bS x1.Key, bI .i64 x1.Stamp.N, bI .i64 x1.Stamp.Site, .g (.d (.sl 3 (List.map encApi_Dep x1.Seen)))]))]) (.c (oP rfl rfl (op_move (Ev.t 0 (.g (.d (.sl 6 (List.map encApi_Event l_0))))) rfl)) (.c (oP rfl rfl (op_move (Ev.t 10 (bI .i64 v34.2.2)) rfl)) (.c (oP rfl rfl (op_index (cs := [vI x41.Kind, vI x41.Client, vS x41.Key, vI x41.Stamp.N, vI x41.Stamp.Site, .sl 3 (List.map encApi_Dep x41.Seen)]) Try.underlying24 ti30 (idx_ok hx41).1 (idx_get hx41 encApi_Event) (Ev.t 67 (.g (.d (.sl 6 (List.map encApi_Event l_0))))) (Ev.t 68 (bI .i64 v34.2.2)) rfl)) (.c (oP rfl rfl (op_fieldE (cs' := [vI x41.Client, vS x41.Key, vI x41.Stamp.N, vI x41.Stamp.Site, .sl 3 (List.map encApi_Dep x41.Seen)]) Try.underlying30 rfl ti3 (by decide) rfl (Ev.t 69 (.ep [vI x41.Kind, vI x41.Client, vS x41.Key, vI x41.Stamp.N, vI x41.Stamp.Site, .sl 3 (List.map encApi_Dep x41.Seen)])) rfl)) (.c (oP rfl rfl (op_load1E (c := vI x41.Client) Try.underlying3 rfl rfl (Ev.t 70 (.ep [vI x41.Client, vS x41.Key, vI x41.Stamp.N, vI x41.Stamp.Site, .sl 3 (List.map encApi_Dep x41.Seen)])) rfl)) (.c (oP rfl rfl (op_fieldP (off' := 1) Try.underlying30 rfl ti3 (by decide) rfl (Ev.t 5 (.ptr 1005 0)) rfl)) (.c (oP rfl rfl (op_load1P (c := bI .i64 x1.Client) Try.underlying3 rfl rfl (Ev.t 72 (.ptr 1005 1)) rfl)) (.c (oP rfl rfl (op_eqI (Ev.t 71 (bI .i64 x41.Client)) (Ev.t 73 (bI .i64 x1.Client)) rfl)) .nil)))))))) follows rfl rfl rfl ⟨⟨rfl, trivial⟩, trivial, ⟨rfl, trivial⟩, trivial, ⟨rfl, rfl, trivial⟩, trivial, ⟨rfl, trivial⟩, trivial, ⟨rfl, trivial⟩, trivial, ⟨rfl, trivial⟩, trivial, ⟨rfl, trivial⟩, ⟨⟨rfl, rfl⟩, trivial⟩, ⟨rfl, rfl, trivial⟩, trivial, trivial⟩ ⟨rfl, rfl, rfl, rfl, rfl, rfl, rfl, trivial⟩ ⟨rfl, trivial⟩ rfl ?_
            refine ifS hF (fun hc42 hF => ?_) (fun hc42 hF => ?_)
            · refine G.cond rfl (fun _ => ?_) (fun hx => by rw [hc42] at hx; cases hx)
              refine G.region ?_
              refine G.op1 (op_move (Ev.t 10 (bI .i64 v34.2.2)) rfl) rfl ⟨rfl, trivial⟩ trivial ?_
              refine G.op1 (op_assign (Ev.t 75 (bI .i64 v34.2.2)) rfl) rfl ⟨rfl, trivial⟩ trivial ?_
              refine G.endOps ?_
              refine G.endBlock ?_
              refine G.region ?_
              refine G.op1 (op_move (Ev.t 10 (bI .i64 v34.2.2)) rfl) rfl ⟨rfl, trivial⟩ trivial ?_
              refine G.op1 (op_add (Ev.t 34 (bI .i64 v34.2.2)) (Ev.c _ rfl) rfl) rfl ⟨rfl, trivial⟩ trivial ?_
              refine G.op1 (op_assign (Ev.t 35 (bI .i64 (IntKind.wrap .i64 (v34.2.2 + 1)))) rfl) rfl ⟨rfl, trivial⟩ trivial ?_
              refine G.endOps ?_
              exact G.arr (J35 (y40, v34.2.2, IntKind.wrap .i64 (v34.2.2 + 1)) hF) ⟨rfl, rfl, rfl, rfl, rfl, rfl, trivial⟩ ⟨rfl, trivial⟩ rfl
            · refine G.cond rfl (fun hx => by rw [hc42] at hx; cases hx) (fun _ => ?_)
              refine G.skip ?_
              refine G.endBlock ?_
              refine G.region ?_
              refine G.op1 (op_move (Ev.t 10 (bI .i64 v34.2.2)) rfl) rfl ⟨rfl, trivial⟩ trivial ?_
              refine G.op1 (op_add (Ev.t 34 (bI .i64 v34.2.2)) (Ev.c _ rfl) rfl) rfl ⟨rfl, trivial⟩ trivial ?_
              refine G.op1 (op_assign (Ev.t 35 (bI .i64 (IntKind.wrap .i64 (v34.2.2 + 1)))) rfl) rfl ⟨rfl, trivial⟩ trivial ?_
              refine G.endOps ?_
              exact G.arr (J35 (y40, v34.2.1, IntKind.wrap .i64 (v34.2.2 + 1)) hF) ⟨rfl, rfl, rfl, rfl, rfl, rfl, trivial⟩ ⟨rfl, trivial⟩ rfl
          refine ifS hF (fun hc44 hF => ?_) (fun hc44 hF => ?_)
          · refine G.cond rfl (fun _ => ?_) (fun hx => by rw [hc44] at hx; cases hx)
            refine G.region ?_
            refine G.op1 (op_assign (Ev.c _ rfl) rfl) rfl trivial trivial ?_
            refine G.endOps ?_
            exact G.arr (J43 true hF) ⟨rfl, rfl, rfl, rfl, rfl, rfl, trivial⟩ ⟨rfl, trivial⟩ rfl
          · refine G.cond rfl (fun hx => by rw [hc44] at hx; cases hx) (fun _ => ?_)
            refine G.skip ?_
            exact G.arr (J43 v34.1 hF) ⟨rfl, rfl, rfl, rfl, rfl, rfl, trivial⟩ ⟨rfl, trivial⟩ rfl
        obtain ⟨x46, hx46, hF⟩ := bindS hF
        refine ifS hF (fun hc47 hF => ?_) (fun hc47 hF => ?_)
        · obtain ⟨x48, hx48, hF⟩ := bindS hF
          refine ifS hF (fun hc49 hF => ?_) (fun hc49 hF => ?_)
          · refine ifS hF (fun hc50 hF => ?_) (fun hc50 hF => ?_)
            · refine G.drawnI (deps := ([] :: [] :: [0, 1] :: [0, 1, 2] :: [0, 1, 2, 3] :: [0, 1, 2, 3, 4] :: [0, 1, 2, 3, 4, 5] :: [0, 1, 2, 3, 4, 5, 6] :: [0, 1, 2, 3, 4, 5, 6] :: [0, 1, 2, 3, 4, 5, 6, 7, 8] :: [0, 1, 2, 3, 4, 5, 6, 7, 8, 9] :: [0, 1, 2, 3, 4, 5, 6, 7, 8, 9, 10] :: [0, 1, 2, 3, 4, 5, 6] :: [0, 1, 2, 3, 4, 5, 6, 12] :: [0, 1, 2, 3, 4, 5, 6, 7, 8, 9, 10, 11, 12, 13] :: [0, 1, 2, 3, 4, 5, 6, 7, 8, 9, 10, 11, 12, 13, 14] :: [0, 1, 2, 3, 4, 5, 6, 7, 8, 9, 10, 11, 12, 13, 14, 15] :: [0, 1, 2, 3, 4, 5, 6, 7, 8, 9, 10, 11, 12, 13, 14, 15, 16] :: [0, 1, 2, 3, 4, 5, 6, 7, 8, 9, 10, 11, 12, 13, 14, 15, 16, 17] :: [0, 1, 2, 3, 4, 5, 6, 7, 8, 9, 10, 11, 12, 13, 14, 15, 16, 17, 18] :: [0, 1, 2, 3, 4, 5, 6, 7, 8, 9, 10, 11, 12, 13, 14, 15, 16, 17, 18, 19] :: (0 :: 1 :: 2 :: 3 :: 4 :: 5 :: 6 :: 7 :: 8 :: 9 :: 10 :: 11 :: 12 :: 13 :: 14 :: 15 :: 16 :: 17 :: 18 :: 19 :: 20 :: []) :: (0 :: 1 :: 2 :: 3 :: 4 :: 5 :: 6 :: 7 :: 8 :: 9 :: 10 :: 11 :: 12 :: 13 :: 14 :: 15 :: 16 :: 17 :: 18 :: 19 :: 20 :: []) :: (0 :: 1 :: 2 :: 3 :: 4 :: 5 :: 6 :: 7 :: 8 :: 9 :: 10 :: 11 :: 12 :: 13 :: 14 :: 15 :: 16 :: 17 :: 18 :: 19 :: 20 :: 21 :: 22 :: []) :: (0 :: 1 :: 2 :: 3 :: 4 :: 5 :: 6 :: 7 :: 8 :: 9 :: 10 :: 11 :: 12 :: 13 :: 14 :: 15 :: 16 :: 17 :: 18 :: 19 :: 20 :: 21 :: 22 :: 23 :: []) :: (0 :: 1 :: 2 :: 3 :: 4 :: 5 :: 6 :: 7 :: 8 :: 9 :: 10 :: 11 :: 12 :: 13 :: 14 :: 15 :: 16 :: 17 :: 18 :: 19 :: 20 :: 21 :: 22 :: 23 :: 24 :: []) :: (0 :: 1 :: 2 :: 3 :: 4 :: 5 :: 6 :: 7 :: 8 :: 9 :: 10 :: 11 :: 12 :: 13 :: 14 :: 15 :: 16 :: 17 :: 18 :: 19 :: 20 :: []) :: (0 :: 1 :: 2 :: 3 :: 4 :: 5 :: 6 :: 7 :: 8 :: 9 :: 10 :: 11 :: 12 :: 13 :: 14 :: 15 :: 16 :: 17 :: 18 :: 19 :: 20 :: 26 :: []) :: (0 :: 1 :: 2 :: 3 :: 4 :: 5 :: 6 :: 7 :: 8 :: 9 :: 10 :: 11 :: 12 :: 13 :: 14 :: 15 :: 16 :: 17 :: 18 :: 19 :: 20 :: 21 :: 22 :: 23 :: 24 :: 25 :: 26 :: 27 :: []) :: (0 :: 1 :: 2 :: 3 :: 4 :: 5 :: 6 :: 7 :: 8 :: 9 :: 10 :: 11 :: 12 :: 13 :: 14 :: 15 :: 16 :: 17 :: 18 :: 19 :: 20 :: 21 :: 22 :: 23 :: 24 :: 25 :: 26 :: 27 :: 28 :: []) :: (0 :: 1 :: 2 :: 3 :: 4 :: 5 :: 6 :: 7 :: 8 :: 9 :: 10 :: 11 :: 12 :: 13 :: 14 :: 15 :: 16 :: 17 :: 18 :: 19 :: 20 :: 21 :: 22 :: 23 :: 24 :: 25 :: 26 :: 27 :: 28 :: 29 :: []) :: [])) (sl' := [(0, .one (.g (.d (.sl 6 (List.map encApi_Event l_0))))), (1, oI i_1), (5, .one (.ptr 1005 0)), (8, oB v34.1), (9, oI v34.2.1), (10, oI v34.2.2), (66, oB true)]) (hp' := [(1005, some (.blk 30 [bI .i64 x1.Kind, bI .i64 x1.Client, bS x1.Key, bI .i64 x1.Stamp.N, bI .i64 x1.Stamp.Site, .g (.d (.sl 3 (List.map encApi_Dep x1.Seen)))]))]) (.c (oP rfl rfl (op_move (Ev.t 0 (.g (.d (.sl 6 (List.map encApi_Event l_0))))) rfl)) (.c (oP rfl rfl (op_move (Ev.t 10 (bI .i64 v34.2.2)) rfl)) (.c (oP rfl rfl (op_index (cs := [vI x46.Kind, vI x46.Client, vS x46.Key, vI x46.Stamp.N, vI x46.Stamp.Site, .sl 3 (List.map encApi_Dep x46.Seen)]) Try.underlying24 ti30 (idx_ok hx46).1 (idx_get hx46 encApi_Event) (Ev.t 36 (.g (.d (.sl 6 (List.map encApi_Event l_0))))) (Ev.t 37 (bI .i64 v34.2.2)) rfl)) (.c (oP rfl rfl (op_fieldE (cs' := [vI x46.Kind, vI x46.Client, vS x46.Key, vI x46.Stamp.N, vI x46.Stamp.Site, .sl 3 (List.map encApi_Dep x46.Seen)]) Try.underlying30 rfl ti3 (by decide) rfl (Ev.t 38 (.ep [vI x46.Kind, vI x46.Client, vS x46.Key, vI x46.Stamp.N, vI x46.Stamp.Site, .sl 3 (List.map encApi_Dep x46.Seen)])) rfl)) (.c (oP rfl rfl (op_load1E (c := vI x46.Kind) Try.underlying3 rfl rfl (Ev.t 39 (.ep [vI x46.Kind, vI x46.Client, vS x46.Key, vI x46.Stamp.N, vI x46.Stamp.Site, .sl 3 (List.map encApi_Dep x46.Seen)])) rfl)) (.c (oP rfl rfl (OpL.cast (op_eqI (Ev.t 40 (bI .i64 x46.Kind)) (Ev.c _ rfl) rfl) (congrArg (fun b => bB b) hc47))) (.c (oP rfl rfl (op_move (Ev.t 41 (bB true)) rfl)) (.c (oY rfl rfl rfl (op_move (Ev.t 0 (.g (.d (.sl 6 (List.map encApi_Event l_0))))) rfl)) (.c (oY rfl rfl rfl (op_move (Ev.t 10 (bI .i64 v34.2.2)) rfl)) (.c (oY rfl rfl rfl (op_index (cs := [vI x48.Kind, vI x48.Client, vS x48.Key, vI x48.Stamp.N, vI x48.Stamp.Site, .sl 3 (List.map encApi_Dep x48.Seen)]) Try.underlying24 ti30 (idx_ok hx48).1 (idx_get hx48 encApi_Event) (Ev.t 43 (.g (.d (.sl 6 (List.map encApi_Event l_0))))) (Ev.t 44 (bI .i64 v34.2.2)) rfl)) (.c (oY rfl rfl rfl (op_fieldE (cs' := [vI x48.Stamp.N, vI x48.Stamp.Site, .sl 3 (List.map encApi_Dep x48.Seen)]) Try.underlying30 rfl ti27 (by decide) rfl (Ev.t 45 (.ep [vI x48.Kind, vI x48.Client, vS x48.Key, vI x48.Stamp.N, vI x48.Stamp.Site, .sl 3 (List.map encApi_Dep x48.Seen)])) rfl)) (.c (oY rfl rfl rfl (op_loadAE (ds := [vI x48.Stamp.N, vI x48.Stamp.Site]) Try.underlying27 rfl ti27 rfl (Ev.t 46 (.ep [vI x48.Stamp.N, vI x48.Stamp.Site, .sl 3 (List.map encApi_Dep x48.Seen)])) rfl)) (.c (oY rfl rfl rfl (op_fieldP (off' := 3) Try.underlying30 rfl ti27 (by decide) rfl (Ev.t 5 (.ptr 1005 0)) rfl)) (.c (oY rfl rfl rfl (op_loadAP (ds := [vI x1.Stamp.N, vI x1.Stamp.Site]) Try.underlying27 rfl ti27 rfl (Ev.t 48 (.ptr 1005 3)) rfl)) (.c (oY rfl rfl rfl (OpL.cast (op_eqA (us := [.int .i64 x48.Stamp.N, .int .i64 x48.Stamp.Site]) (vs := [.int .i64 x1.Stamp.N, .int .i64 x1.Stamp.Site]) rfl rfl Try.eqGuardType27 (fun w => eq27 x48.Stamp.N x48.Stamp.Site x1.Stamp.N x1.Stamp.Site w) (Ev.t 47 (.g (.agg [vI x48.Stamp.N, vI x48.Stamp.Site]))) (Ev.t 49 (.g (.agg [vI x1.Stamp.N, vI x1.Stamp.Site]))) rfl) (congrArg (fun b => bB b) hc49))) (.c (oP rfl rfl (op_pickT (Ev.t 42 (bB true)) (Ev.t 50 (bB true)) rfl)) (.c (oP rfl rfl (op_move (Ev.t 51 (bB true)) rfl)) (.c (oY rfl rfl rfl (op_fieldP (off' := 0) Try.underlying30 rfl ti3 (by decide) rfl (Ev.t 5 (.ptr 1005 0)) rfl)) (.c (oY rfl rfl rfl (op_load1P (c := bI .i64 x1.Kind) Try.underlying3 rfl rfl (Ev.t 53 (.ptr 1005 0)) rfl)) (.c (oY rfl rfl rfl (OpL.cast (op_eqI (Ev.t 54 (bI .i64 x1.Kind)) (Ev.c _ rfl) rfl) (congrArg (fun b => bB b) hc50))) (.c (oY rfl rfl rfl (op_move (Ev.t 55 (bB true)) rfl)) (.c (OpW.no rfl rfl rfl rfl rfl) (.c (OpW.no rfl rfl rfl rfl rfl) (.c (OpW.no rfl rfl rfl rfl rfl) (.c (OpW.no rfl rfl rfl rfl rfl) (.c (OpW.no rfl rfl rfl rfl rfl) (.c (OpW.no rfl rfl rfl rfl rfl) (.c (OpW.no rfl rfl rfl rfl rfl) (.c (OpW.no rfl rfl rfl rfl rfl) (.c (oY rfl rfl rfl (op_pickT (Ev.t 56 (bB true)) (Ev.c _ rfl) rfl)) (.c (oP rfl rfl (op_pickT (Ev.t 52 (bB true)) (Ev.t 65 (bB true)) rfl)) .nil))))))))))))))))))))))))))))))) follows rfl rfl rfl ⟨⟨rfl, trivial⟩, trivial, ⟨rfl, trivial⟩, trivial, ⟨rfl, rfl, trivial⟩, trivial, ⟨rfl, trivial⟩, trivial, ⟨rfl, trivial⟩, trivial, ⟨rfl, trivial⟩, trivial, ⟨rfl, trivial⟩, trivial, ⟨rfl, rfl, trivial⟩, trivial, ⟨rfl, rfl, trivial⟩, trivial, ⟨rfl, rfl, rfl, trivial⟩, trivial, ⟨rfl, rfl, trivial⟩, trivial, ⟨rfl, rfl, trivial⟩, trivial, ⟨rfl, rfl, trivial⟩, trivial, ⟨rfl, rfl, trivial⟩, ⟨⟨rfl, rfl⟩, trivial⟩, ⟨rfl, rfl, rfl, trivial⟩, trivial, ⟨rfl, rfl, trivial⟩, trivial, ⟨rfl, trivial⟩, trivial, ⟨rfl, rfl, trivial⟩, trivial, ⟨rfl, rfl, trivial⟩, ⟨⟨rfl, rfl⟩, trivial⟩, ⟨rfl, rfl, trivial⟩, trivial, ⟨rfl, rfl, trivial⟩, trivial, ⟨rfl, trivial⟩, trivial, ⟨rfl, trivial⟩, trivial, ⟨rfl, trivial⟩, trivial, ⟨rfl, trivial⟩, trivial, ⟨rfl, trivial⟩, trivial, ⟨rfl, trivial⟩, trivial, ⟨rfl, trivial⟩, trivial, ⟨rfl, trivial⟩, trivial, ⟨rfl, rfl, trivial⟩, trivial, ⟨rfl, rfl, trivial⟩, trivial, trivial⟩ ⟨rfl, rfl, rfl, rfl, rfl, rfl, rfl, trivial⟩ ⟨rfl, trivial⟩ rfl ?_
              exact G.arr (J45 true hF) ⟨rfl, rfl, rfl, rfl, rfl, rfl, rfl, trivial⟩ ⟨rfl, trivial⟩ rfl
            · obtain ⟨x51, hx51, hF⟩ := bindS hF
              refine G.drawnI (deps := ([] :: [] :: [0, 1] :: [0, 1, 2] :: [0, 1, 2, 3] :: [0, 1, 2, 3, 4] :: [0, 1, 2, 3, 4, 5] :: [0, 1, 2, 3, 4, 5, 6] :: [0, 1, 2, 3, 4, 5, 6] :: [0, 1, 2, 3, 4, 5, 6, 7, 8] :: [0, 1, 2, 3, 4, 5, 6, 7, 8, 9] :: [0, 1, 2, 3, 4, 5, 6, 7, 8, 9, 10] :: [0, 1, 2, 3, 4, 5, 6] :: [0, 1, 2, 3, 4, 5, 6, 12] :: [0, 1, 2, 3, 4, 5, 6, 7, 8, 9, 10, 11, 12, 13] :: [0, 1, 2, 3, 4, 5, 6, 7, 8, 9, 10, 11, 12, 13, 14] :: [0, 1, 2, 3, 4, 5, 6, 7, 8, 9, 10, 11, 12, 13, 14, 15] :: [0, 1, 2, 3, 4, 5, 6, 7, 8, 9, 10, 11, 12, 13, 14, 15, 16] :: [0, 1, 2, 3, 4, 5, 6, 7, 8, 9, 10, 11, 12, 13, 14, 15, 16, 17] :: [0, 1, 2, 3, 4, 5, 6, 7, 8, 9, 10, 11, 12, 13, 14, 15, 16, 17, 18] :: [0, 1, 2, 3, 4, 5, 6, 7, 8, 9, 10, 11, 12, 13, 14, 15, 16, 17, 18, 19] :: (0 :: 1 :: 2 :: 3 :: 4 :: 5 :: 6 :: 7 :: 8 :: 9 :: 10 :: 11 :: 12 :: 13 :: 14 :: 15 :: 16 :: 17 :: 18 :: 19 :: 20 :: []) :: (0 :: 1 :: 2 :: 3 :: 4 :: 5 :: 6 :: 7 :: 8 :: 9 :: 10 :: 11 :: 12 :: 13 :: 14 :: 15 :: 16 :: 17 :: 18 :: 19 :: 20 :: []) :: (0 :: 1 :: 2 :: 3 :: 4 :: 5 :: 6 :: 7 :: 8 :: 9 :: 10 :: 11 :: 12 :: 13 :: 14 :: 15 :: 16 :: 17 :: 18 :: 19 :: 20 :: 21 :: 22 :: []) :: (0 :: 1 :: 2 :: 3 :: 4 :: 5 :: 6 :: 7 :: 8 :: 9 :: 10 :: 11 :: 12 :: 13 :: 14 :: 15 :: 16 :: 17 :: 18 :: 19 :: 20 :: 21 :: 22 :: 23 :: []) :: (0 :: 1 :: 2 :: 3 :: 4 :: 5 :: 6 :: 7 :: 8 :: 9 :: 10 :: 11 :: 12 :: 13 :: 14 :: 15 :: 16 :: 17 :: 18 :: 19 :: 20 :: 21 :: 22 :: 23 :: 24 :: []) :: (0 :: 1 :: 2 :: 3 :: 4 :: 5 :: 6 :: 7 :: 8 :: 9 :: 10 :: 11 :: 12 :: 13 :: 14 :: 15 :: 16 :: 17 :: 18 :: 19 :: 20 :: []) :: (0 :: 1 :: 2 :: 3 :: 4 :: 5 :: 6 :: 7 :: 8 :: 9 :: 10 :: 11 :: 12 :: 13 :: 14 :: 15 :: 16 :: 17 :: 18 :: 19 :: 20 :: 26 :: []) :: (0 :: 1 :: 2 :: 3 :: 4 :: 5 :: 6 :: 7 :: 8 :: 9 :: 10 :: 11 :: 12 :: 13 :: 14 :: 15 :: 16 :: 17 :: 18 :: 19 :: 20 :: 21 :: 22 :: 23 :: 24 :: 25 :: 26 :: 27 :: []) :: (0 :: 1 :: 2 :: 3 :: 4 :: 5 :: 6 :: 7 :: 8 :: 9 :: 10 :: 11 :: 12 :: 13 :: 14 :: 15 :: 16 :: 17 :: 18 :: 19 :: 20 :: 21 :: 22 :: 23 :: 24 :: 25 :: 26 :: 27 :: 28 :: []) :: (0 :: 1 :: 2 :: 3 :: 4 :: 5 :: 6 :: 7 :: 8 :: 9 :: 10 :: 11 :: 12 :: 13 :: 14 :: 15 :: 16 :: 17 :: 18 :: 19 :: 20 :: 21 :: 22 :: 23 :: 24 :: 25 :: 26 :: 27 :: 28 :: 29 :: []) :: [])) (sl' := [(0, .one (.g (.d (.sl 6 (List.map encApi_Event l_0))))), (1, oI i_1), (5, .one (.ptr 1005 0)), (8, oB v34.1), (9, oI v34.2.1), (10, oI v34.2.2), (66, oB (seq x51.Key x1.Key))]) (hp' := [(1005, some (.blk 30 [bI .i64 x1.Kind, bI .i64 x1.Client, bS x1.Key, bI .i64 x1.Stamp.N, bI .i64 x1.Stamp.Site, .g (.d (.sl 3 (List.map encApi_Dep x1.Seen)))]))]) (.c (oP rfl rfl (op_move (Ev.t 0 (.g (.d (.sl 6 (List.map encApi_Event l_0))))) rfl)) (.c (oP rfl rfl (op_move (Ev.t 10 (bI .i64 v34.2.2)) rfl)) (.c (oP rfl rfl (op_index (cs := [vI x46.Kind, vI x46.Client, vS x46.Key, vI x46.Stamp.N, vI x46.Stamp.Site, .sl 3 (List.map encApi_Dep x46.Seen)]) Try.underlying24 ti30 (idx_ok hx46).1 (idx_get hx46 encApi_Event) (Ev.t 36 (.g (.d (.sl 6 (List.map encApi_Event l_0))))) (Ev.t 37 (bI .i64 v34.2.2)) rfl)) (.c (oP rfl rfl (op_fieldE (cs' := [vI x46.Kind, vI x46.Client, vS x46.Key, vI x46.Stamp.N, vI x46.Stamp.Site, .sl 3 (List.map encApi_Dep x46.Seen)]) Try.underlying30 rfl ti3 (by decide) rfl (Ev.t 38 (.ep [vI x46.Kind, vI x46.Client, vS x46.Key, vI x46.Stamp.N, vI x46.Stamp.Site, .sl 3 (List.map encApi_Dep x46.Seen)])) rfl)) (.c (oP rfl rfl (op_load1E (c := vI x46.Kind) Try.underlying3 rfl rfl (Ev.t 39 (.ep [vI x46.Kind, vI x46.Client, vS x46.Key, vI x46.Stamp.N, vI x46.Stamp.Site, .sl 3 (List.map encApi_Dep x46.Seen)])) rfl)) (.c (oP rfl rfl (OpL.cast (op_eqI (Ev.t 40 (bI .i64 x46.Kind)) (Ev.c _ rfl) rfl) (congrArg (fun b => bB b) hc47))) (.c (oP rfl rfl (op_move (Ev.t 41 (bB true)) rfl)) (.c (oY rfl rfl rfl (op_move (Ev.t 0 (.g (.d (.sl 6 (List.map encApi_Event l_0))))) rfl)) (.c (oY rfl rfl rfl (op_move (Ev.t 10 (bI .i64 v34.2.2)) rfl)) (.c (oY rfl rfl rfl (op_index (cs := [vI x48.Kind, vI x48.Client, vS x48.Key, vI x48.Stamp.N, vI x48.Stamp.Site, .sl 3 (List.map encApi_Dep x48.Seen)]) Try.underlying24 ti30 (idx_ok hx48).1 (idx_get hx48 encApi_Event) (Ev.t 43 (.g (.d (.sl 6 (List.map encApi_Event l_0))))) (Ev.t 44 (bI .i64 v34.2.2)) rfl)) (.c (oY rfl rfl rfl (op_fieldE (cs' := [vI x48.Stamp.N, vI x48.Stamp.Site, .sl 3 (List.map encApi_Dep x48.Seen)]) Try.underlying30 rfl ti27 (by decide) rfl (Ev.t 45 (.ep [vI x48.Kind, vI x48.Client, vS x48.Key, vI x48.Stamp.N, vI x48.Stamp.Site, .sl 3 (List.map encApi_Dep x48.Seen)])) rfl)) (.c (oY rfl rfl rfl (op_loadAE (ds := [vI x48.Stamp.N, vI x48.Stamp.Site]) Try.underlying27 rfl ti27 rfl (Ev.t 46 (.ep [vI x48.Stamp.N, vI x48.Stamp.Site, .sl 3 (List.map encApi_Dep x48.Seen)])) rfl)) (.c (oY rfl rfl rfl (op_fieldP (off' := 3) Try.underlying30 rfl ti27 (by decide) rfl (Ev.t 5 (.ptr 1005 0)) rfl)) (.c (oY rfl rfl rfl (op_loadAP (ds := [vI x1.Stamp.N, vI x1.Stamp.Site]) Try.underlying27 rfl ti27 rfl (Ev.t 48 (.ptr 1005 3)) rfl)) (.c (oY rfl rfl rfl (OpL.cast (op_eqA (us := [.int .i64 x48.Stamp.N, .int .i64 x48.Stamp.Site]) (vs := [.int .i64 x1.Stamp.N, .int .i64 x1.Stamp.Site]) rfl rfl Try.eqGuardType27 (fun w => eq27 x48.Stamp.N x48.Stamp.Site x1.Stamp.N x1.Stamp.Site w) (Ev.t 47 (.g (.agg [vI x48.Stamp.N, vI x48.Stamp.Site]))) (Ev.t 49 (.g (.agg [vI x1.Stamp.N, vI x1.Stamp.Site]))) rfl) (congrArg (fun b => bB b) hc49))) (.c (oP rfl rfl (op_pickT (Ev.t 42 (bB true)) (Ev.t 50 (bB true)) rfl)) (.c (oP rfl rfl (op_move (Ev.t 51 (bB true)) rfl)) (.c (oY rfl rfl rfl (op_fieldP (off' := 0) Try.underlying30 rfl ti3 (by decide) rfl (Ev.t 5 (.ptr 1005 0)) rfl)) (.c (oY rfl rfl rfl (op_load1P (c := bI .i64 x1.Kind) Try.underlying3 rfl rfl (Ev.t 53 (.ptr 1005 0)) rfl)) (.c (oY rfl rfl rfl (OpL.cast (op_eqI (Ev.t 54 (bI .i64 x1.Kind)) (Ev.c _ rfl) rfl) (congrArg (fun b => bB b) hc50))) (.c (oY rfl rfl rfl (op_move (Ev.t 55 (bB false)) rfl)) (.c (oY rfl rfl rfl (op_move (Ev.t 0 (.g (.d (.sl 6 (List.map encApi_Event l_0))))) rfl)) (.c (oY rfl rfl rfl (op_move (Ev.t 10 (bI .i64 v34.2.2)) rfl)) (.c (oY rfl rfl rfl (op_index (cs := [vI x51.Kind, vI x51.Client, vS x51.Key, vI x51.Stamp.N, vI x51.Stamp.Site, .sl 3 (List.map encApi_Dep x51.Seen)]) Try.underlying24 ti30 (idx_ok hx51).1 (idx_get hx51 encApi_Event) (Ev.t 57 (.g (.d (.sl 6 (List.map encApi_Event l_0))))) (Ev.t 58 (bI .i64 v34.2.2)) rfl)) (.c (oY rfl rfl rfl (op_fieldE (cs' := [vS x51.Key, vI x51.Stamp.N, vI x51.Stamp.Site, .sl 3 (List.map encApi_Dep x51.Seen)]) Try.underlying30 rfl ti9 (by decide) rfl (Ev.t 59 (.ep [vI x51.Kind, vI x51.Client, vS x51.Key, vI x51.Stamp.N, vI x51.Stamp.Site, .sl 3 (List.map encApi_Dep x51.Seen)])) rfl)) (.c (oY rfl rfl rfl (op_load1E (c := vS x51.Key) Try.underlying9 rfl rfl (Ev.t 60 (.ep [vS x51.Key, vI x51.Stamp.N, vI x51.Stamp.Site, .sl 3 (List.map encApi_Dep x51.Seen)])) rfl)) (.c (oY rfl rfl rfl (op_fieldP (off' := 2) Try.underlying30 rfl ti9 (by decide) rfl (Ev.t 5 (.ptr 1005 0)) rfl)) (.c (oY rfl rfl rfl (op_load1P (c := bS x1.Key) Try.underlying9 rfl rfl (Ev.t 62 (.ptr 1005 2)) rfl)) (.c (oY rfl rfl rfl (op_eqS (Ev.t 61 (bS x51.Key)) (Ev.t 63 (bS x1.Key)) rfl)) (.c (oY rfl rfl rfl (op_pickF (Ev.t 56 (bB false)) (Ev.t 64 (bB (seq x51.Key x1.Key))) rfl)) (.c (oP rfl rfl (op_pickT (Ev.t 52 (bB true)) (Ev.t 65 (bB (seq x51.Key x1.Key))) rfl)) .nil))))))))))))))))))))))))))))))) follows rfl rfl rfl ⟨⟨rfl, trivial⟩, trivial, ⟨rfl, trivial⟩, trivial, ⟨rfl, rfl, trivial⟩, trivial, ⟨rfl, trivial⟩, trivial, ⟨rfl, trivial⟩, trivial, ⟨rfl, trivial⟩, trivial, ⟨rfl, trivial⟩, trivial, ⟨rfl, rfl, trivial⟩, trivial, ⟨rfl, rfl, trivial⟩, trivial, ⟨rfl, rfl, rfl, trivial⟩, trivial, ⟨rfl, rfl, trivial⟩, trivial, ⟨rfl, rfl, trivial⟩, trivial, ⟨rfl, rfl, trivial⟩, trivial, ⟨rfl, rfl, trivial⟩, ⟨⟨rfl, rfl⟩, trivial⟩, ⟨rfl, rfl, rfl, trivial⟩, trivial, ⟨rfl, rfl, trivial⟩, trivial, ⟨rfl, trivial⟩, trivial, ⟨rfl, rfl, trivial⟩, trivial, ⟨rfl, rfl, trivial⟩, ⟨⟨rfl, rfl⟩, trivial⟩, ⟨rfl, rfl, trivial⟩, trivial, ⟨rfl, rfl, trivial⟩, trivial, ⟨rfl, rfl, trivial⟩, trivial, ⟨rfl, rfl, trivial⟩, trivial, ⟨rfl, rfl, rfl, trivial⟩, trivial, ⟨rfl, rfl, trivial⟩, trivial, ⟨rfl, rfl, trivial⟩, trivial, ⟨rfl, rfl, trivial⟩, trivial, ⟨rfl, rfl, trivial⟩, ⟨⟨rfl, rfl⟩, trivial⟩, ⟨rfl, rfl, rfl, trivial⟩, trivial, ⟨rfl, rfl, rfl, trivial⟩, trivial, ⟨rfl, rfl, trivial⟩, trivial, trivial⟩ ⟨rfl, rfl, rfl, rfl, rfl, rfl, rfl, trivial⟩ ⟨rfl, trivial⟩ rfl ?_
              exact G.arr (J45 (seq x51.Key x1.Key) hF) ⟨rfl, rfl, rfl, rfl, rfl, rfl, rfl, trivial⟩ ⟨rfl, trivial⟩ rfl
          · refine G.drawnI (deps := ([] :: [] :: [0, 1] :: [0, 1, 2] :: [0, 1, 2, 3] :: [0, 1, 2, 3, 4] :: [0, 1, 2, 3, 4, 5] :: [0, 1, 2, 3, 4, 5, 6] :: [0, 1, 2, 3, 4, 5, 6] :: [0, 1, 2, 3, 4, 5, 6, 7, 8] :: [0, 1, 2, 3, 4, 5, 6, 7, 8, 9] :: [0, 1, 2, 3, 4, 5, 6, 7, 8, 9, 10] :: [0, 1, 2, 3, 4, 5, 6] :: [0, 1, 2, 3, 4, 5, 6, 12] :: [0, 1, 2, 3, 4, 5, 6, 7, 8, 9, 10, 11, 12, 13] :: [0, 1, 2, 3, 4, 5, 6, 7, 8, 9, 10, 11, 12, 13, 14] :: [0, 1, 2, 3, 4, 5, 6, 7, 8, 9, 10, 11, 12, 13, 14, 15] :: [0, 1, 2, 3, 4, 5, 6, 7, 8, 9, 10, 11, 12, 13, 14, 15, 16] :: [0, 1, 2, 3, 4, 5, 6, 7, 8, 9, 10, 11, 12, 13, 14, 15, 16, 17] :: [0, 1, 2, 3, 4, 5, 6, 7, 8, 9, 10, 11, 12, 13, 14, 15, 16, 17, 18] :: [0, 1, 2, 3, 4, 5, 6, 7, 8, 9, 10, 11, 12, 13, 14, 15, 16, 17, 18, 19] :: (0 :: 1 :: 2 :: 3 :: 4 :: 5 :: 6 :: 7 :: 8 :: 9 :: 10 :: 11 :: 12 :: 13 :: 14 :: 15 :: 16 :: 17 :: 18 :: 19 :: 20 :: []) :: (0 :: 1 :: 2 :: 3 :: 4 :: 5 :: 6 :: 7 :: 8 :: 9 :: 10 :: 11 :: 12 :: 13 :: 14 :: 15 :: 16 :: 17 :: 18 :: 19 :: 20 :: []) :: (0 :: 1 :: 2 :: 3 :: 4 :: 5 :: 6 :: 7 :: 8 :: 9 :: 10 :: 11 :: 12 :: 13 :: 14 :: 15 :: 16 :: 17 :: 18 :: 19 :: 20 :: 21 :: 22 :: []) :: (0 :: 1 :: 2 :: 3 :: 4 :: 5 :: 6 :: 7 :: 8 :: 9 :: 10 :: 11 :: 12 :: 13 :: 14 :: 15 :: 16 :: 17 :: 18 :: 19 :: 20 :: 21 :: 22 :: 23 :: []) :: (0 :: 1 :: 2 :: 3 :: 4 :: 5 :: 6 :: 7 :: 8 :: 9 :: 10 :: 11 :: 12 :: 13 :: 14 :: 15 :: 16 :: 17 :: 18 :: 19 :: 20 :: 21 :: 22 :: 23 :: 24 :: []) :: (0 :: 1 :: 2 :: 3 :: 4 :: 5 :: 6 :: 7 :: 8 :: 9 :: 10 :: 11 :: 12 :: 13 :: 14 :: 15 :: 16 :: 17 :: 18 :: 19 :: 20 :: []) :: (0 :: 1 :: 2 :: 3 :: 4 :: 5 :: 6 :: 7 :: 8 :: 9 :: 10 :: 11 :: 12 :: 13 :: 14 :: 15 :: 16 :: 17 :: 18 :: 19 :: 20 :: 26 :: []) :: (0 :: 1 :: 2 :: 3 :: 4 :: 5 :: 6 :: 7 :: 8 :: 9 :: 10 :: 11 :: 12 :: 13 :: 14 :: 15 :: 16 :: 17 :: 18 :: 19 :: 20 :: 21 :: 22 :: 23 :: 24 :: 25 :: 26 :: 27 :: []) :: (0 :: 1 :: 2 :: 3 :: 4 :: 5 :: 6 :: 7 :: 8 :: 9 :: 10 :: 11 :: 12 :: 13 :: 14 :: 15 :: 16 :: 17 :: 18 :: 19 :: 20 :: 21 :: 22 :: 23 :: 24 :: 25 :: 26 :: 27 :: 28 :: []) :: (0 :: 1 :: 2 :: 3 :: 4 :: 5 :: 6 :: 7 :: 8 :: 9 :: 10 :: 11 :: 12 :: 13 :: 14 :: 15 :: 16 :: 17 :: 18 :: 19 :: 20 :: 21 :: 22 :: 23 :: 24 :: 25 :: 26 :: 27 :: 28 :: 29 :: []) :: [])) (sl' := [(0, .one (.g (.d (.sl 6 (List.map encApi_Event l_0))))), (1, oI i_1), (5, .one (.ptr 1005 0)), (8, oB v34.1), (9, oI v34.2.1), (10, oI v34.2.2), (66, oB false)]) (hp' := [(1005, some (.blk 30 [bI .i64 x1.Kind, bI .i64 x1.Client, bS x1.Key, bI .i64 x1.Stamp.N, bI .i64 x1.Stamp.Site, .g (.d (.sl 3 (List.map encApi_Dep x1.Seen)))]))]) (.c (oP rfl rfl (op_move (Ev.t 0 (.g (.d (.sl 6 (List.map encApi_Event l_0))))) rfl)) (.c (oP rfl rfl (op_move (Ev.t 10 (bI .i64 v34.2.2)) rfl)) (.c (oP rfl rfl (op_index (cs := [vI x46.Kind, vI x46.Client, vS x46.Key, vI x46.Stamp.N, vI x46.Stamp.Site, .sl 3 (List.map encApi_Dep x46.Seen)]) Try.underlying24 ti30 (idx_ok hx46).1 (idx_get hx46 encApi_Event) (Ev.t 36 (.g (.d (.sl 6 (List.map encApi_Event l_0))))) (Ev.t 37 (bI .i64 v34.2.2)) rfl)) (.c (oP rfl rfl (op_fieldE (cs' := [vI x46.Kind, vI x46.Client, vS x46.Key, vI x46.Stamp.N, vI x46.Stamp.Site, .sl 3 (List.map encApi_Dep x46.Seen)]) Try.underlying30 rfl ti3 (by decide) rfl (Ev.t 38 (.ep [vI x46.Kind, vI x46.Client, vS x46.Key, vI x46.Stamp.N, vI x46.Stamp.Site, .sl 3 (List.map encApi_Dep x46.Seen)])) rfl)) (.c (oP rfl rfl (op_load1E (c := vI x46.Kind) Try.underlying3 rfl rfl (Ev.t 39 (.ep [vI x46.Kind, vI x46.Client, vS x46.Key, vI x46.Stamp.N, vI x46.Stamp.Site, .sl 3 (List.map encApi_Dep x46.Seen)])) rfl)) (.c (oP rfl rfl (OpL.cast (op_eqI (Ev.t 40 (bI .i64 x46.Kind)) (Ev.c _ rfl) rfl) (congrArg (fun b => bB b) hc47))) (.c (oP rfl rfl (op_move (Ev.t 41 (bB true)) rfl)) (.c (oY rfl rfl rfl (op_move (Ev.t 0 (.g (.d (.sl 6 (List.map encApi_Event l_0))))) rfl)) (.c (oY rfl rfl rfl (op_move (Ev.t 10 (bI .i64 v34.2.2)) rfl)) (.c (oY rfl rfl rfl (op_index (cs := [vI x48.Kind, vI x48.Client, vS x48.Key, vI x48.Stamp.N, vI x48.Stamp.Site, .sl 3 (List.map encApi_Dep x48.Seen)]) Try.underlying24 ti30 (idx_ok hx48).1 (idx_get hx48 encApi_Event) (Ev.t 43 (.g (.d (.sl 6 (List.map encApi_Event l_0))))) (Ev.t 44 (bI .i64 v34.2.2)) rfl)) (.c (oY rfl rfl rfl (op_fieldE (cs' := [vI x48.Stamp.N, vI x48.Stamp.Site, .sl 3 (List.map encApi_Dep x48.Seen)]) Try.underlying30 rfl ti27 (by decide) rfl (Ev.t 45 (.ep [vI x48.Kind, vI x48.Client, vS x48.Key, vI x48.Stamp.N, vI x48.Stamp.Site, .sl 3 (List.map encApi_Dep x48.Seen)])) rfl)) (.c (oY rfl rfl rfl (op_loadAE (ds := [vI x48.Stamp.N, vI x48.Stamp.Site]) Try.underlying27 rfl ti27 rfl (Ev.t 46 (.ep [vI x48.Stamp.N, vI x48.Stamp.Site, .sl 3 (List.map encApi_Dep x48.Seen)])) rfl)) (.c (oY rfl rfl rfl (op_fieldP (off' := 3) Try.underlying30 rfl ti27 (by decide) rfl (Ev.t 5 (.ptr 1005 0)) rfl)) (.c (oY rfl rfl rfl (op_loadAP (ds := [vI x1.Stamp.N, vI x1.Stamp.Site]) Try.underlying27 rfl ti27 rfl (Ev.t 48 (.ptr 1005 3)) rfl)) (.c (oY rfl rfl rfl (OpL.cast (op_eqA (us := [.int .i64 x48.Stamp.N, .int .i64 x48.Stamp.Site]) (vs := [.int .i64 x1.Stamp.N, .int .i64 x1.Stamp.Site]) rfl rfl Try.eqGuardType27 (fun w => eq27 x48.Stamp.N x48.Stamp.Site x1.Stamp.N x1.Stamp.Site w) (Ev.t 47 (.g (.agg [vI x48.Stamp.N, vI x48.Stamp.Site]))) (Ev.t 49 (.g (.agg [vI x1.Stamp.N, vI x1.Stamp.Site]))) rfl) (congrArg (fun b => bB b) hc49))) (.c (oP rfl rfl (op_pickT (Ev.t 42 (bB true)) (Ev.t 50 (bB false)) rfl)) (.c (oP rfl rfl (op_move (Ev.t 51 (bB false)) rfl)) (.c (OpW.no rfl rfl rfl rfl rfl) (.c (OpW.no rfl rfl rfl rfl rfl) (.c (OpW.no rfl rfl rfl rfl rfl) (.c (OpW.no rfl rfl rfl rfl rfl) (.c (OpW.un rfl rfl rfl rfl) (.c (OpW.un rfl rfl rfl rfl) (.c (OpW.un rfl rfl rfl rfl) (.c (OpW.un rfl rfl rfl rfl) (.c (OpW.un rfl rfl rfl rfl) (.c (OpW.un rfl rfl rfl rfl) (.c (OpW.un rfl rfl rfl rfl) (.c (OpW.un rfl rfl rfl rfl) (.c (OpW.no rfl rfl rfl rfl rfl) (.c (oP rfl rfl (op_pickF (Ev.t 52 (bB false)) (Ev.c _ rfl) rfl)) .nil))))))))))))))))))))))))))))))) follows rfl rfl rfl ⟨⟨rfl, trivial⟩, trivial, ⟨rfl, trivial⟩, trivial, ⟨rfl, rfl, trivial⟩, trivial, ⟨rfl, trivial⟩, trivial, ⟨rfl, trivial⟩, trivial, ⟨rfl, trivial⟩, trivial, ⟨rfl, trivial⟩, trivial, ⟨rfl, rfl, trivial⟩, trivial, ⟨rfl, rfl, trivial⟩, trivial, ⟨rfl, rfl, rfl, trivial⟩, trivial, ⟨rfl, rfl, trivial⟩, trivial, ⟨rfl, rfl, trivial⟩, trivial, ⟨rfl, rfl, trivial⟩, trivial, ⟨rfl, rfl, trivial⟩, ⟨⟨rfl, rfl⟩, trivial⟩, ⟨rfl, rfl, rfl, trivial⟩, trivial, ⟨rfl, rfl, trivial⟩, trivial, ⟨rfl, trivial⟩, trivial, ⟨rfl, trivial⟩, trivial, ⟨rfl, trivial⟩, trivial, ⟨rfl, trivial⟩, trivial, ⟨rfl, trivial⟩, trivial, ⟨rfl, trivial⟩, trivial, ⟨rfl, trivial⟩, trivial, ⟨rfl, trivial⟩, trivial, ⟨rfl, trivial⟩, trivial, ⟨rfl, trivial⟩, trivial, ⟨rfl, trivial⟩, trivial, ⟨rfl, trivial⟩, trivial, ⟨rfl, trivial⟩, trivial, ⟨rfl, trivial⟩, trivial, ⟨rfl, trivial⟩, trivial, trivial⟩ ⟨rfl, rfl, rfl, rfl, rfl, rfl, rfl, trivial⟩ ⟨rfl, trivial⟩ rfl ?_
            exact G.arr (J45 false hF) ⟨rfl, rfl, rfl, rfl, rfl, rfl, rfl, trivial⟩ ⟨rfl, trivial⟩ rfl
        · refine G.drawnI (deps := ([] :: [] :: [0, 1] :: [0, 1, 2] :: [0, 1, 2, 3] :: [0, 1, 2, 3, 4] :: [0, 1, 2, 3, 4, 5] :: [0, 1, 2, 3, 4, 5, 6] :: [0, 1, 2, 3, 4, 5, 6] :: [0, 1, 2, 3, 4, 5, 6, 7, 8] :: [0, 1, 2, 3, 4, 5, 6, 7, 8, 9] :: [0, 1, 2, 3, 4, 5, 6, 7, 8, 9, 10] :: [0, 1, 2, 3, 4, 5, 6] :: [0, 1, 2, 3, 4, 5, 6, 12] :: [0, 1, 2, 3, 4, 5, 6, 7, 8, 9, 10, 11, 12, 13] :: [0, 1, 2, 3, 4, 5, 6, 7, 8, 9, 10, 11, 12, 13, 14] :: [0, 1, 2, 3, 4, 5, 6, 7, 8, 9, 10, 11, 12, 13, 14, 15] :: [0, 1, 2, 3, 4, 5, 6, 7, 8, 9, 10, 11, 12, 13, 14, 15, 16] :: [0, 1, 2, 3, 4, 5, 6, 7, 8, 9, 10, 11, 12, 13, 14, 15, 16, 17] :: [0, 1, 2, 3, 4, 5, 6, 7, 8, 9, 10, 11, 12, 13, 14, 15, 16, 17, 18] :: [0, 1, 2, 3, 4, 5, 6, 7, 8, 9, 10, 11, 12, 13, 14, 15, 16, 17, 18, 19] :: (0 :: 1 :: 2 :: 3 :: 4 :: 5 :: 6 :: 7 :: 8 :: 9 :: 10 :: 11 :: 12 :: 13 :: 14 :: 15 :: 16 :: 17 :: 18 :: 19 :: 20 :: []) :: (0 :: 1 :: 2 :: 3 :: 4 :: 5 :: 6 :: 7 :: 8 :: 9 :: 10 :: 11 :: 12 :: 13 :: 14 :: 15 :: 16 :: 17 :: 18 :: 19 :: 20 :: []) :: (0 :: 1 :: 2 :: 3 :: 4 :: 5 :: 6 :: 7 :: 8 :: 9 :: 10 :: 11 :: 12 :: 13 :: 14 :: 15 :: 16 :: 17 :: 18 :: 19 :: 20 :: 21 :: 22 :: []) :: (0 :: 1 :: 2 :: 3 :: 4 :: 5 :: 6 :: 7 :: 8 :: 9 :: 10 :: 11 :: 12 :: 13 :: 14 :: 15 :: 16 :: 17 :: 18 :: 19 :: 20 :: 21 :: 22 :: 23 :: []) :: (0 :: 1 :: 2 :: 3 :: 4 :: 5 :: 6 :: 7 :: 8 :: 9 :: 10 :: 11 :: 12 :: 13 :: 14 :: 15 :: 16 :: 17 :: 18 :: 19 :: 20 :: 21 :: 22 :: 23 :: 24 :: []) :: (0 :: 1 :: 2 :: 3 :: 4 :: 5 :: 6 :: 7 :: 8 :: 9 :: 10 :: 11 :: 12 :: 13 :: 14 :: 15 :: 16 :: 17 :: 18 :: 19 :: 20 :: []) :: (0 :: 1 :: 2 :: 3 :: 4 :: 5 :: 6 :: 7 :: 8 :: 9 :: 10 :: 11 :: 12 :: 13 :: 14 :: 15 :: 16 :: 17 :: 18 :: 19 :: 20 :: 26 :: []) :: (0 :: 1 :: 2 :: 3 :: 4 :: 5 :: 6 :: 7 :: 8 :: 9 :: 10 :: 11 :: 12 :: 13 :: 14 :: 15 :: 16 :: 17 :: 18 :: 19 :: 20 :: 21 :: 22 :: 23 :: 24 :: 25 :: 26 :: 27 :: []) :: (0 :: 1 :: 2 :: 3 :: 4 :: 5 :: 6 :: 7 :: 8 :: 9 :: 10 :: 11 :: 12 :: 13 :: 14 :: 15 :: 16 :: 17 :: 18 :: 19 :: 20 :: 21 :: 22 :: 23 :: 24 :: 25 :: 26 :: 27 :: 28 :: []) :: (0 :: 1 :: 2 :: 3 :: 4 :: 5 :: 6 :: 7 :: 8 :: 9 :: 10 :: 11 :: 12 :: 13 :: 14 :: 15 :: 16 :: 17 :: 18 :: 19 :: 20 :: 21 :: 22 :: 23 :: 24 :: 25 :: 26 :: 27 :: 28 :: 29 :: []) :: [])) (sl' := [(0, .one (.g (.d (.sl 6 (List.map encApi_Event l_0))))), (1, oI i_1), (5, .one (.ptr 1005 0)), (8, oB v34.1), (9, oI v34.2.1), (10, oI v34.2.2), (66, oB false)]) (hp' := [(1005, some (.blk 30 [bI .i64 x1.Kind, bI .i64 x1.Client, bS x1.Key, bI .i64 x1.Stamp.N, bI .i64 x1.Stamp.Site, .g (.d (.sl 3 (List.map encApi_Dep x1.Seen)))]))]) (.c (oP rfl rfl (op_move (Ev.t 0 (.g (.d (.sl 6 (List.map encApi_Event l_0))))) rfl)) (.c (oP rfl rfl (op_move (Ev.t 10 (bI .i64 v34.2.2)) rfl)) (.c (oP rfl rfl (op_index (cs := [vI x46.Kind, vI x46.Client, vS x46.Key, vI x46.Stamp.N, vI x46.Stamp.Site, .sl 3 (List.map encApi_Dep x46.Seen)]) Try.underlying24 ti30 (idx_ok hx46).1 (idx_get hx46 encApi_Event) (Ev.t 36 (.g (.d (.sl 6 (List.map encApi_Event l_0))))) (Ev.t 37 (bI .i64 v34.2.2)) rfl)) (.c (oP rfl rfl (op_fieldE (cs' := [vI x46.Kind, vI x46.Client, vS x46.Key, vI x46.Stamp.N, vI x46.Stamp.Site, .sl 3 (List.map encApi_Dep x46.Seen)]) Try.underlying30 rfl ti3 (by decide) rfl (Ev.t 38 (.ep [vI x46.Kind, vI x46.Client, vS x46.Key, vI x46.Stamp.N, vI x46.Stamp.Site, .sl 3 (List.map encApi_Dep x46.Seen)])) rfl)) (.c (oP rfl rfl (op_load1E (c := vI x46.Kind) Try.underlying3 rfl rfl (Ev.t 39 (.ep [vI x46.Kind, vI x46.Client, vS x46.Key, vI x46.Stamp.N, vI x46.Stamp.Site, .sl 3 (List.map encApi_Dep x46.Seen)])) rfl)) (.c (oP rfl rfl (OpL.cast (op_eqI (Ev.t 40 (bI .i64 x46.Kind)) (Ev.c _ rfl) rfl) (congrArg (fun b => bB b) hc47))) (.c (oP rfl rfl (op_move (Ev.t 41 (bB false)) rfl)) (.c (OpW.no rfl rfl rfl rfl rfl) (.c (OpW.no rfl rfl rfl rfl rfl) (.c (OpW.no rfl rfl rfl rfl rfl) (.c (OpW.no rfl rfl rfl rfl rfl) (.c (OpW.no rfl rfl rfl rfl rfl) (.c (OpW.no rfl rfl rfl rfl rfl) (.c (OpW.no rfl rfl rfl rfl rfl) (.c (OpW.no rfl rfl rfl rfl rfl) (.c (oP rfl rfl (op_pickF (Ev.t 42 (bB false)) (Ev.c _ rfl) rfl)) (.c (oP rfl rfl (op_move (Ev.t 51 (bB false)) rfl)) (.c (OpW.no rfl rfl rfl rfl rfl) (.c (OpW.no rfl rfl rfl rfl rfl) (.c (OpW.no rfl rfl rfl rfl rfl) (.c (OpW.no rfl rfl rfl rfl rfl) (.c (OpW.un rfl rfl rfl rfl) (.c (OpW.un rfl rfl rfl rfl) (.c (OpW.un rfl rfl rfl rfl) (.c (OpW.un rfl rfl rfl rfl) (.c (OpW.un rfl rfl rfl rfl) (.c (OpW.un rfl rfl rfl rfl) (.c (OpW.un rfl rfl rfl rfl) (.c (OpW.un rfl rfl rfl rfl) (.c (OpW.no rfl rfl rfl rfl rfl) (.c (oP rfl rfl (op_pickF (Ev.t 52 (bB false)) (Ev.c _ rfl) rfl)) .nil))))))))))))))))))))))))))))))) follows rfl rfl rfl ⟨⟨rfl, trivial⟩, trivial, ⟨rfl, trivial⟩, trivial, ⟨rfl, rfl, trivial⟩, trivial, ⟨rfl, trivial⟩, trivial, ⟨rfl, trivial⟩, trivial, ⟨rfl, trivial⟩, trivial, ⟨rfl, trivial⟩, trivial, ⟨rfl, trivial⟩, trivial, ⟨rfl, trivial⟩, trivial, ⟨rfl, trivial⟩, trivial, ⟨rfl, trivial⟩, trivial, ⟨rfl, trivial⟩, trivial, ⟨rfl, trivial⟩, trivial, ⟨rfl, trivial⟩, trivial, ⟨rfl, trivial⟩, trivial, ⟨rfl, trivial⟩, trivial, ⟨rfl, trivial⟩, trivial, ⟨rfl, trivial⟩, trivial, ⟨rfl, trivial⟩, trivial, ⟨rfl, trivial⟩, trivial, ⟨rfl, trivial⟩, trivial, ⟨rfl, trivial⟩, trivial, ⟨rfl, trivial⟩, trivial, ⟨rfl, trivial⟩, trivial, ⟨rfl, trivial⟩, trivial, ⟨rfl, trivial⟩, trivial, ⟨rfl, trivial⟩, trivial, ⟨rfl, trivial⟩, trivial, ⟨rfl, trivial⟩, trivial, ⟨rfl, trivial⟩, trivial, ⟨rfl, trivial⟩, trivial, trivial⟩ ⟨rfl, rfl, rfl, rfl, rfl, rfl, rfl, trivial⟩ ⟨rfl, trivial⟩ rfl ?_
          exact G.arr (J45 false hF) ⟨rfl, rfl, rfl, rfl, rfl, rfl, rfl, trivial⟩ ⟨rfl, trivial⟩ rfl
      · refine G.cond rfl (fun hx => by rw [hc38] at hx; cases hx) (fun _ => ?_)
        refine G.exit ?_
        refine GX.c ?_
        refine GX.q ?_
        refine GX.bYes ?_
        exact G.arr (J33 (v34.1, v34.2.1) hF) ⟨rfl, rfl, rfl, rfl, trivial⟩ ⟨rfl, trivial⟩ rfl
  refine G.region ?_
  refine G.op1 (op_move (Ev.t 6 (bB r2)) rfl) rfl ⟨rfl, trivial⟩ trivial ?_
  refine G.op1 (op_not (Ev.t 25 (bB r2)) rfl) rfl ⟨rfl, trivial⟩ trivial ?_
  refine G.op1 (op_move (Ev.t 26 (bB (!r2))) rfl) rfl ⟨rfl, trivial⟩ trivial ?_
  refine ifS hF (fun hc53 hF => ?_) (fun hc53 hF => ?_)
  · refine G.known (t := 27) hc53 rfl ?_
    refine G.opN1 rfl rfl rfl rfl rfl ?_
    refine G.opN1 rfl rfl rfl rfl rfl ?_
    refine G.op1 (op_pickT (Ev.t 27 (bB true)) (Ev.c _ rfl) rfl) rfl ⟨rfl, trivial⟩ trivial ?_
    refine G.endOps ?_
    exact G.arr (J52 true hF) ⟨rfl, rfl, rfl, rfl, trivial⟩ ⟨rfl, trivial⟩ rfl
  · refine G.known (t := 27) hc53 rfl ?_
    refine G.opG1 (op_move (Ev.t 7 (bB r3)) rfl) rfl rfl rfl ⟨rfl, trivial⟩ trivial ?_
    refine G.opG1 (op_not (Ev.t 28 (bB r3)) rfl) rfl rfl rfl ⟨rfl, trivial⟩ trivial ?_
    refine G.op1 (op_pickF (Ev.t 27 (bB false)) (Ev.t 29 (bB (!r3))) rfl) rfl ⟨rfl, rfl, trivial⟩ trivial ?_
    refine G.endOps ?_
    exact G.arr (J52 (!r3) hF) ⟨rfl, rfl, rfl, rfl, trivial⟩ ⟨rfl, trivial⟩ rfl


set_option maxRecDepth 20000 in
set_option maxHeartbeats 2000000 in
theorem ct_ref20_Check (l_0 : (List Api_Event)) (r : Int) (hF : ref20_Check l_0 = some r) : Ct Try.prog 35 [.g (.d (.sl 6 (List.map encApi_Event l_0)))] (.one (.d (vI r))) := by
  unfold ref20_Check at hF
  refine Ct.intro Try.func35 rfl Try.ntmps35 rfl rfl fun M w => ?_
  refine G.seq ?_
  refine G.region ?_
  refine G.op1 (op_assign (Ev.c _ rfl) rfl) rfl trivial trivial ?_
  refine G.endOps ?_
  refine G.seq ?_
  refine G.seq ?_
  refine G.region ?_
  refine G.op1 (op_assign (Ev.c _ rfl) rfl) rfl trivial trivial ?_
  refine G.endOps ?_
  refine G.joinC (T := Unit) (fun y1 => ⟨[], []⟩) (fun y1 => ref20_Check_k1 y1 = some r) (fun y1 hF => ?_) (fun J2 => ?_)
  · unfold ref20_Check_k1 at hF
    refine G.seq ?_
    refine G.region ?_
    refine G.op1 (op_assign (Ev.c _ rfl) rfl) rfl trivial trivial ?_
    refine G.endOps ?_
    cases hF
    exact G.ret1 Try.results35 (RVar.tmp 2 _) ⟨rfl, trivial⟩ trivial
  refine G.block ?_
  refine G.keep (sl' := [(0, .one (.g (.d (.sl 6 (List.map encApi_Event l_0))))), (3, oI 0)]) (hp' := []) ⟨rfl, rfl, trivial⟩ trivial rfl ?_
  refine G.loopF (fun (v3 : Int) => ⟨[(0, .one (.g (.d (.sl 6 (List.map encApi_Event l_0))))), (3, oI v3)], []⟩) hF rfl (fun K6 again5 v3 J4 hF => ?_)
  unfold ref20_Check_l2 at hF
  refine G.seq ?_
  refine G.seq ?_
  refine G.region ?_
  refine G.op1 (op_move (Ev.t 3 (bI .i64 v3)) rfl) rfl ⟨rfl, trivial⟩ trivial ?_
  refine G.op1 (op_move (Ev.t 0 (.g (.d (.sl 6 (List.map encApi_Event l_0))))) rfl) rfl ⟨rfl, trivial⟩ trivial ?_
  refine G.op1 (OpL.cast (op_lenD Try.underlying24 (Ev.t 6 (.g (.d (.sl 6 (List.map encApi_Event l_0))))) rfl) (by rw [List.length_map])) rfl ⟨rfl, trivial⟩ trivial ?_
  refine G.op1 (op_lss (Ev.t 5 (bI .i64 v3)) (Ev.t 7 (bI .i64 (l_0.length : Int))) rfl) rfl ⟨rfl, rfl, trivial⟩ trivial ?_
  refine G.endOps ?_
  refine ifS hF (fun hc7 hF => ?_) (fun hc7 hF => ?_)
  · refine G.cond rfl (fun _ => ?_) (fun hx => by rw [hc7] at hx; cases hx)
    refine G.skip ?_
    refine G.seq ?_
    refine G.block ?_
    refine G.seq ?_
    refine G.region ?_
    refine G.op1 (op_move (Ev.t 0 (.g (.d (.sl 6 (List.map encApi_Event l_0))))) rfl) rfl ⟨rfl, trivial⟩ trivial ?_
    refine G.op1 (op_move (Ev.t 3 (bI .i64 v3)) rfl) rfl ⟨rfl, trivial⟩ trivial ?_
    obtain ⟨r8, hr8, hF⟩ := bindS hF
    refine G.op1 (op_callQ (sv := oB r8) cf51 (ct_ref20_right l_0 v3 r8 hr8) rfl rfl (EvQL.cons (EvQ.g (Ev.t 11 (.g (.d (.sl 6 (List.map encApi_Event l_0)))))) (EvQL.cons (EvQ.g (Ev.t 12 (bI .i64 v3))) EvQL.nil)) rfl) rfl ⟨rfl, rfl, trivial⟩ trivial ?_
    refine G.op1 (op_assign (Ev.t 13 (bB r8)) rfl) rfl ⟨rfl, trivial⟩ trivial ?_
    refine G.endOps ?_
    refine G.seq ?_
    refine G.region ?_
    refine G.op1 (op_move (Ev.t 4 (bB r8)) rfl) rfl ⟨rfl, trivial⟩ trivial ?_
    refine G.op1 (op_not (Ev.t 14 (bB r8)) rfl) rfl ⟨rfl, trivial⟩ trivial ?_
    refine G.endOps ?_
    refine ifS hF (fun hc9 hF => ?_) (fun hc9 hF => ?_)
    · refine G.cond rfl (fun _ => ?_) (fun hx => by rw [hc9] at hx; cases hx)
      refine G.seq ?_
      refine G.region ?_
      refine G.op1 (op_move (Ev.t 3 (bI .i64 v3)) rfl) rfl ⟨rfl, trivial⟩ trivial ?_
      refine G.op1 (op_assign (Ev.t 16 (bI .i64 v3)) rfl) rfl ⟨rfl, trivial⟩ trivial ?_
      refine G.endOps ?_
      cases hF
      exact G.ret1 Try.results35 (RVar.tmp 2 _) ⟨rfl, trivial⟩ trivial
    · refine G.cond rfl (fun hx => by rw [hc9] at hx; cases hx) (fun _ => ?_)
      refine G.skip ?_
      refine G.endBlock ?_
      refine G.region ?_
      refine G.op1 (op_move (Ev.t 3 (bI .i64 v3)) rfl) rfl ⟨rfl, trivial⟩ trivial ?_
      refine G.op1 (op_add (Ev.t 9 (bI .i64 v3)) (Ev.c _ rfl) rfl) rfl ⟨rfl, trivial⟩ trivial ?_
      refine G.op1 (op_assign (Ev.t 10 (bI .i64 (IntKind.wrap .i64 (v3 + 1)))) rfl) rfl ⟨rfl, trivial⟩ trivial ?_
      refine G.endOps ?_
      exact G.arr (J4 (IntKind.wrap .i64 (v3 + 1)) hF) ⟨rfl, rfl, trivial⟩ trivial rfl
  · refine G.cond rfl (fun hx => by rw [hc7] at hx; cases hx) (fun _ => ?_)
    refine G.exit ?_
    refine GX.c ?_
    refine GX.q ?_
    refine GX.bYes ?_
    exact G.arr (J2 () hF) trivial trivial rfl


set_option maxRecDepth 20000 in
set_option maxHeartbeats 2000000 in
theorem ct_history_Greatest (l_0 : (List Api_Event)) (key_1 : ByteArray) (r : Api_Stamp) (hF : history_Greatest l_0 key_1 = some r) : Ct Try.prog 15 [.g (.d (.sl 6 (List.map encApi_Event l_0))), .g (.d (vS key_1))] (.one (.agg (encApi_Stamp r))) := by
  unfold history_Greatest at hF
  refine Ct.intro Try.func15 rfl Try.ntmps15 rfl rfl fun M w => ?_
  refine G.seq ?_
  refine G.region ?_
  refine G.op2 (op_alloc (k := 1004) (cs := [bI .i64 0, bI .i64 0]) ti27 ⟨.v _ rfl, .v _ rfl, trivial⟩ rfl) rfl trivial ⟨rfl, trivial⟩ ?_
  refine G.endOps ?_
  refine G.seq ?_
  refine G.region ?_
  refine G.op1 (op_move (Ev.t 0 (.g (.d (.sl 6 (List.map encApi_Event l_0))))) rfl) rfl ⟨rfl, trivial⟩ trivial ?_
  refine G.op1 (op_move (Ev.t 1 (bS key_1)) rfl) rfl ⟨rfl, trivial⟩ trivial ?_
  obtain ⟨r1, hr1, hF⟩ := bindS hF
  refine G.op1 (op_call (sv := .one (.g (.d (.sl 2 (List.map encApi_Stamp r1))))) cf14 (ct_history_Writes l_0 key_1 r1 hr1) rfl (EvL.cons (Ev.t 5 (.g (.d (.sl 6 (List.map encApi_Event l_0))))) (EvL.cons (Ev.t 6 (bS key_1)) EvL.nil)) rfl) rfl ⟨rfl, rfl, trivial⟩ trivial ?_
  obtain ⟨r2, hr2, hF⟩ := bindS hF
  refine G.op1 (op_callQ (sv := .one (.g (.agg [vI r2.N, vI r2.Site]))) cf28 (ct_stamp_Max r1 r2 hr2) rfl rfl (EvQL.cons (EvQ.g (Ev.t 7 (.g (.d (.sl 2 (List.map encApi_Stamp r1)))))) EvQL.nil) rfl) rfl ⟨rfl, trivial⟩ trivial ?_
  refine G.op3 (op_storeA (cs' := [bI .i64 r2.N, bI .i64 r2.Site]) ti27 rfl rfl (Ev.t 4 (.ptr 1004 0)) (Ev.t 8 (.g (.agg [vI r2.N, vI r2.Site])))) rfl ⟨rfl, rfl, trivial⟩ ⟨rfl, trivial⟩ ?_
  refine G.endOps ?_
  have hF := Option.some.inj hF; subst hF
  exact G.ret1 Try.results15 (RVar.cellA (ds := [vI r2.N, vI r2.Site]) Try.underlying27 rfl ti27 rfl) ⟨rfl, trivial⟩ ⟨rfl, trivial⟩


set_option maxRecDepth 20000 in
set_option maxHeartbeats 2000000 in
theorem ct_ref03_Max (l_0 : (List Api_Stamp)) (r : Api_Stamp) (hF : ref03_Max l_0 = some r) : Ct Try.prog 36 [.g (.d (.sl 2 (List.map encApi_Stamp l_0)))] (.one (.agg (encApi_Stamp r))) := by
  unfold ref03_Max at hF
  refine Ct.intro Try.func36 rfl Try.ntmps36 rfl rfl fun M w => ?_
  refine G.seq ?_
  refine G.region ?_
  refine G.op2 (op_alloc (k := 1002) (cs := [bI .i64 0, bI .i64 0]) ti27 ⟨.v _ rfl, .v _ rfl, trivial⟩ rfl) rfl trivial ⟨rfl, trivial⟩ ?_
  refine G.endOps ?_
  refine G.seq ?_
  refine G.region ?_
  refine G.op1 (op_build (zs := [vI 0, vI 0]) (ds := [vI 0, vI 0]) Try.underlying27 ti27 (pl27 _ Try.underlying27) ⟨.v _ rfl, .v _ rfl, trivial⟩ EvP.nil rfl rfl) rfl trivial trivial ?_
  refine G.op2 (op_alloc (k := 1003) (cs := [bI .i64 0, bI .i64 0]) ti27 ⟨.v _ rfl, .v _ rfl, trivial⟩ rfl) rfl trivial ⟨rfl, trivial⟩ ?_
  refine G.op3 (op_storeA (cs' := [bI .i64 0, bI .i64 0]) ti27 rfl rfl (Ev.t 3 (.ptr 1003 0)) (Ev.t 5 (.g (.agg [vI 0, vI 0])))) rfl ⟨rfl, rfl, trivial⟩ ⟨rfl, trivial⟩ ?_
  refine G.endOps ?_
  refine G.seq ?_
  refine G.seq ?_
  refine G.region ?_
  refine G.op1 (op_assign (Ev.c _ rfl) rfl) rfl trivial trivial ?_
  refine G.endOps ?_
  refine G.joinC (T := Int × Int) (fun y1 => ⟨[(2, .one (.ptr 1002 0)), (3, .one (.ptr 1003 0))], [(1002, some (.blk 27 [bI .i64 0, bI .i64 0])), (1003, some (.blk 27 [bI .i64 y1.1, bI .i64 y1.2]))]⟩) (fun y1 => ref03_Max_k1 y1 = some r) (fun y1 hF => ?_) (fun J2 => ?_)
  · unfold ref03_Max_k1 at hF
    refine G.seq ?_
    refine G.region ?_
    refine G.op1 (op_loadAP (ds := [vI y1.1, vI y1.2]) Try.underlying27 rfl ti27 rfl (Ev.t 3 (.ptr 1003 0)) rfl) rfl ⟨rfl, trivial⟩ ⟨rfl, trivial⟩ ?_
    refine G.op3 (op_storeA (cs' := [bI .i64 y1.1, bI .i64 y1.2]) ti27 rfl rfl (Ev.t 2 (.ptr 1002 0)) (Ev.t 22 (.g (.agg [vI y1.1, vI y1.2])))) rfl ⟨rfl, rfl, trivial⟩ ⟨rfl, trivial⟩ ?_
    refine G.endOps ?_
    cases hF
    exact G.ret1 Try.results36 (RVar.cellA (ds := [vI y1.1, vI y1.2]) Try.underlying27 rfl ti27 rfl) ⟨rfl, trivial⟩ ⟨rfl, trivial⟩
  refine G.block ?_
  refine G.keep (sl' := [(0, .one (.g (.d (.sl 2 (List.map encApi_Stamp l_0))))), (2, .one (.ptr 1002 0)), (3, .one (.ptr 1003 0)), (4, oI 0)]) (hp' := [(1002, some (.blk 27 [bI .i64 0, bI .i64 0])), (1003, some (.blk 27 [bI .i64 0, bI .i64 0]))]) ⟨rfl, rfl, rfl, rfl, trivial⟩ ⟨rfl, rfl, trivial⟩ rfl ?_
  refine G.loopF (fun (v3 : Int × Int × Int) => ⟨[(0, .one (.g (.d (.sl 2 (List.map encApi_Stamp l_0))))), (2, .one (.ptr 1002 0)), (3, .one (.ptr 1003 0)), (4, oI v3.1)], [(1002, some (.blk 27 [bI .i64 0, bI .i64 0])), (1003, some (.blk 27 [bI .i64 v3.2.1, bI .i64 v3.2.2]))]⟩) hF rfl (fun K6 again5 v3 J4 hF => ?_)
  unfold ref03_Max_l2 at hF
  refine G.seq ?_
  refine G.seq ?_
  refine G.region ?_
  refine G.op1 (op_move (Ev.t 4 (bI .i64 v3.1)) rfl) rfl ⟨rfl, trivial⟩ trivial ?_
  refine G.op1 (op_move (Ev.t 0 (.g (.d (.sl 2 (List.map encApi_Stamp l_0))))) rfl) rfl ⟨rfl, trivial⟩ trivial ?_
  refine G.op1 (OpL.cast (op_lenD Try.underlying36 (Ev.t 7 (.g (.d (.sl 2 (List.map encApi_Stamp l_0))))) rfl) (by rw [List.length_map])) rfl ⟨rfl, trivial⟩ trivial ?_
  refine G.op1 (op_lss (Ev.t 6 (bI .i64 v3.1)) (Ev.t 8 (bI .i64 (l_0.length : Int))) rfl) rfl ⟨rfl, rfl, trivial⟩ trivial ?_
  refine G.endOps ?_
  refine ifS hF (fun hc7 hF => ?_) (fun hc7 hF => ?_)
  · refine G.cond rfl (fun _ => ?_) (fun hx => by rw [hc7] at hx; cases hx)
    refine G.skip ?_
    refine G.seq ?_
    refine G.block ?_
    refine G.seq ?_
    obtain ⟨x8, hx8, hF⟩ := bindS hF
    obtain ⟨r9, hr9, hF⟩ := bindS hF
    refine G.drawnI (deps := [[], [], [], [1, 2], [1, 2, 3], [0, 1, 2, 3, 4]]) (sl' := [(0, .one (.g (.d (.sl 2 (List.map encApi_Stamp l_0))))), (2, .one (.ptr 1002 0)), (3, .one (.ptr 1003 0)), (4, oI v3.1), (17, oB r9)]) (hp' := [(1002, some (.blk 27 [bI .i64 0, bI .i64 0])), (1003, some (.blk 27 [bI .i64 v3.2.1, bI .i64 v3.2.2]))]) (.c (oP rfl rfl (op_loadAP (ds := [vI v3.2.1, vI v3.2.2]) Try.underlying27 rfl ti27 rfl (Ev.t 3 (.ptr 1003 0)) rfl)) (.c (oP rfl rfl (op_move (Ev.t 0 (.g (.d (.sl 2 (List.map encApi_Stamp l_0))))) rfl)) (.c (oP rfl rfl (op_move (Ev.t 4 (bI .i64 v3.1)) rfl)) (.c (oP rfl rfl (op_index (cs := [vI x8.N, vI x8.Site]) Try.underlying36 ti27 (idx_ok hx8).1 (idx_get hx8 encApi_Stamp) (Ev.t 13 (.g (.d (.sl 2 (List.map encApi_Stamp l_0))))) (Ev.t 14 (bI .i64 v3.1)) rfl)) (.c (oP rfl rfl (op_loadAE (ds := [vI x8.N, vI x8.Site]) Try.underlying27 rfl ti27 rfl (Ev.t 15 (.ep [vI x8.N, vI x8.Site])) rfl)) (.c (oP rfl rfl (op_callQ (sv := oB r9) cf16 (ct_ref03_Less (Api_Stamp.mk v3.2.1 v3.2.2) x8 r9 hr9) rfl rfl (EvQL.cons (EvQ.g (Ev.t 12 (.g (.agg [vI v3.2.1, vI v3.2.2])))) (EvQL.cons (EvQ.g (Ev.t 16 (.g (.agg [vI x8.N, vI x8.Site])))) EvQL.nil)) rfl)) .nil)))))) follows rfl rfl rfl ⟨⟨rfl, trivial⟩, ⟨⟨rfl, rfl⟩, trivial⟩, ⟨rfl, trivial⟩, trivial, ⟨rfl, trivial⟩, trivial, ⟨rfl, rfl, trivial⟩, trivial, ⟨rfl, trivial⟩, trivial, ⟨rfl, rfl, trivial⟩, trivial, trivial⟩ ⟨rfl, rfl, rfl, rfl, rfl, trivial⟩ ⟨rfl, rfl, trivial⟩ rfl ?_
    refine ifS hF (fun hc10 hF => ?_) (fun hc10 hF => ?_)
    · refine G.cond rfl (fun _ => ?_) (fun hx => by rw [hc10] at hx; cases hx)
      refine G.region ?_
      refine G.op1 (op_move (Ev.t 0 (.g (.d (.sl 2 (List.map encApi_Stamp l_0))))) rfl) rfl ⟨rfl, trivial⟩ trivial ?_
      refine G.op1 (op_move (Ev.t 4 (bI .i64 v3.1)) rfl) rfl ⟨rfl, trivial⟩ trivial ?_
      obtain ⟨x11, hx11, hF⟩ := bindS hF
      refine G.op1 (op_index (cs := [vI x11.N, vI x11.Site]) Try.underlying36 ti27 (idx_ok hx11).1 (idx_get hx11 encApi_Stamp) (Ev.t 18 (.g (.d (.sl 2 (List.map encApi_Stamp l_0))))) (Ev.t 19 (bI .i64 v3.1)) rfl) rfl ⟨rfl, rfl, trivial⟩ trivial ?_
      refine G.op1 (op_loadAE (ds := [vI x11.N, vI x11.Site]) Try.underlying27 rfl ti27 rfl (Ev.t 20 (.ep [vI x11.N, vI x11.Site])) rfl) rfl ⟨rfl, trivial⟩ trivial ?_
      refine G.op3 (op_storeA (cs' := [bI .i64 x11.N, bI .i64 x11.Site]) ti27 rfl rfl (Ev.t 3 (.ptr 1003 0)) (Ev.t 21 (.g (.agg [vI x11.N, vI x11.Site])))) rfl ⟨rfl, rfl, trivial⟩ ⟨rfl, trivial⟩ ?_
      refine G.endOps ?_
      refine G.endBlock ?_
      refine G.region ?_
      refine G.op1 (op_move (Ev.t 4 (bI .i64 v3.1)) rfl) rfl ⟨rfl, trivial⟩ trivial ?_
      refine G.op1 (op_add (Ev.t 10 (bI .i64 v3.1)) (Ev.c _ rfl) rfl) rfl ⟨rfl, trivial⟩ trivial ?_
      refine G.op1 (op_assign (Ev.t 11 (bI .i64 (IntKind.wrap .i64 (v3.1 + 1)))) rfl) rfl ⟨rfl, trivial⟩ trivial ?_
      refine G.endOps ?_
      exact G.arr (J4 (IntKind.wrap .i64 (v3.1 + 1), x11.N, x11.Site) hF) ⟨rfl, rfl, rfl, rfl, trivial⟩ ⟨rfl, rfl, trivial⟩ rfl
    · refine G.cond rfl (fun hx => by rw [hc10] at hx; cases hx) (fun _ => ?_)
      refine G.skip ?_
      refine G.endBlock ?_
      refine G.region ?_
      refine G.op1 (op_move (Ev.t 4 (bI .i64 v3.1)) rfl) rfl ⟨rfl, trivial⟩ trivial ?_
      refine G.op1 (op_add (Ev.t 10 (bI .i64 v3.1)) (Ev.c _ rfl) rfl) rfl ⟨rfl, trivial⟩ trivial ?_
      refine G.op1 (op_assign (Ev.t 11 (bI .i64 (IntKind.wrap .i64 (v3.1 + 1)))) rfl) rfl ⟨rfl, trivial⟩ trivial ?_
      refine G.endOps ?_
      exact G.arr (J4 (IntKind.wrap .i64 (v3.1 + 1), v3.2.1, v3.2.2) hF) ⟨rfl, rfl, rfl, rfl, trivial⟩ ⟨rfl, rfl, trivial⟩ rfl
  · refine G.cond rfl (fun hx => by rw [hc7] at hx; cases hx) (fun _ => ?_)
    refine G.exit ?_
    refine GX.c ?_
    refine GX.q ?_
    refine GX.bYes ?_
    exact G.arr (J2 (v3.2.1, v3.2.2) hF) ⟨rfl, rfl, trivial⟩ ⟨rfl, rfl, trivial⟩ rfl


set_option maxRecDepth 20000 in
set_option maxHeartbeats 2000000 in
theorem ct_law20_tells (l_0 : (List Api_Event)) (key_1 : ByteArray) (q_2 : (List Int)) (r : Bool) (hF : law20_tells l_0 key_1 q_2 = some r) : Ct Try.prog 20 [.g (.d (.sl 6 (List.map encApi_Event l_0))), .g (.d (vS key_1)), .g (.agg (List.flatMap encI_i64 q_2))] (.one (.d (vB r))) := by
  unfold law20_tells at hF
  refine Ct.intro Try.func20 rfl Try.ntmps20 rfl rfl fun M w => ?_
  refine G.seq ?_
  refine G.region ?_
  refine G.op2 (op_boxA (k := 1005) (Ev.t 2 (.g (.agg (List.flatMap encI_i64 q_2)))) rfl) rfl ⟨rfl, trivial⟩ ⟨rfl, trivial⟩ ?_
  refine G.op1 (op_assign (Ev.c _ rfl) rfl) rfl trivial trivial ?_
  refine G.endOps ?_
  refine G.seq ?_
  refine G.region ?_
  refine G.op1 (op_move (Ev.t 0 (.g (.d (.sl 6 (List.map encApi_Event l_0))))) rfl) rfl ⟨rfl, trivial⟩ trivial ?_
  refine G.op1 (op_move (Ev.t 1 (bS key_1)) rfl) rfl ⟨rfl, trivial⟩ trivial ?_
  obtain ⟨r1, hr1, hF⟩ := bindS hF
  refine G.op1 (op_call (sv := .one (.g (.d (.sl 2 (List.map encApi_Stamp r1))))) cf14 (ct_history_Writes l_0 key_1 r1 hr1) rfl (EvL.cons (Ev.t 12 (.g (.d (.sl 6 (List.map encApi_Event l_0))))) (EvL.cons (Ev.t 13 (bS key_1)) EvL.nil)) rfl) rfl ⟨rfl, rfl, trivial⟩ trivial ?_
  refine G.op1 (op_assign (Ev.t 14 (.g (.d (.sl 2 (List.map encApi_Stamp r1))))) rfl) rfl ⟨rfl, trivial⟩ trivial ?_
  refine G.endOps ?_
  refine G.seq ?_
  refine G.region ?_
  refine G.op1 (op_move (Ev.t 0 (.g (.d (.sl 6 (List.map encApi_Event l_0))))) rfl) rfl ⟨rfl, trivial⟩ trivial ?_
  refine G.op1 (op_move (Ev.t 1 (bS key_1)) rfl) rfl ⟨rfl, trivial⟩ trivial ?_
  obtain ⟨r2, hr2, hF⟩ := bindS hF
  refine G.op1 (op_call (sv := .one (.g (.d (.sl 2 (List.map encApi_Stamp r2))))) cf33 (ct_ref20_Writes l_0 key_1 r2 hr2) rfl (EvL.cons (Ev.t 15 (.g (.d (.sl 6 (List.map encApi_Event l_0))))) (EvL.cons (Ev.t 16 (bS key_1)) EvL.nil)) rfl) rfl ⟨rfl, rfl, trivial⟩ trivial ?_
  refine G.op1 (op_assign (Ev.t 17 (.g (.d (.sl 2 (List.map encApi_Stamp r2))))) rfl) rfl ⟨rfl, trivial⟩ trivial ?_
  refine G.endOps ?_
  refine G.seq ?_
  refine G.seq ?_
  refine G.region ?_
  refine G.op1 (op_move (Ev.t 7 (.g (.d (.sl 2 (List.map encApi_Stamp r1))))) rfl) rfl ⟨rfl, trivial⟩ trivial ?_
  refine G.op1 (OpL.cast (op_lenD Try.underlying36 (Ev.t 18 (.g (.d (.sl 2 (List.map encApi_Stamp r1))))) rfl) (by rw [List.length_map])) rfl ⟨rfl, trivial⟩ trivial ?_
  refine G.op1 (op_move (Ev.t 8 (.g (.d (.sl 2 (List.map encApi_Stamp r2))))) rfl) rfl ⟨rfl, trivial⟩ trivial ?_
  refine G.op1 (OpL.cast (op_lenD Try.underlying36 (Ev.t 20 (.g (.d (.sl 2 (List.map encApi_Stamp r2))))) rfl) (by rw [List.length_map])) rfl ⟨rfl, trivial⟩ trivial ?_
  refine G.op1 (op_neI (Ev.t 19 (bI .i64 (r1.length : Int))) (Ev.t 21 (bI .i64 (r2.length : Int))) rfl) rfl ⟨rfl, rfl, trivial⟩ trivial ?_
  refine G.endOps ?_
  refine ifS hF (fun hc3 hF => ?_) (fun hc3 hF => ?_)
  · refine G.cond rfl (fun _ => ?_) (fun hx => by rw [hc3] at hx; cases hx)
    refine G.seq ?_
    refine G.region ?_
    refine G.op1 (op_assign (Ev.c _ rfl) rfl) rfl trivial trivial ?_
    refine G.endOps ?_
    cases hF
    exact G.ret1 Try.results20 (RVar.tmp 6 _) ⟨rfl, trivial⟩ trivial
  · refine G.cond rfl (fun hx => by rw [hc3] at hx; cases hx) (fun _ => ?_)
    refine G.skip ?_
    refine G.seq ?_
    refine G.seq ?_
    refine G.region ?_
    refine G.op1 (op_assign (Ev.c _ rfl) rfl) rfl trivial trivial ?_
    refine G.endOps ?_
    refine G.joinC (T := Unit) (fun y4 => ⟨[(0, .one (.g (.d (.sl 6 (List.map encApi_Event l_0))))), (1, oS key_1), (5, .one (.ptr 1005 0)), (8, .one (.g (.d (.sl 2 (List.map encApi_Stamp r2)))))], [(1005, some (.blk 48 (dat (List.flatMap encI_i64 q_2))))]⟩) (fun y4 => law20_tells_k1 l_0 key_1 q_2 r2 y4 = some r) (fun y4 hF => ?_) (fun J26 => ?_)
    · unfold law20_tells_k1 at hF
      refine G.seq ?_
      obtain ⟨x5, hx5, hF⟩ := bindS hF
      obtain ⟨r6, hr6, hF⟩ := bindS hF
      obtain ⟨x7, hx7, hF⟩ := bindS hF
      obtain ⟨r8, hr8, hF⟩ := bindS hF
      obtain ⟨r9, hr9, hF⟩ := bindS hF
      refine G.drawnI (deps := [[], [], [1], [0, 1, 2], [], [], [5], [0, 1, 2, 3, 4, 5, 6], [0, 1, 2, 3, 4, 5, 6, 7], [0, 1, 2, 3, 4, 5, 6, 7, 8]]) (sl' := [(0, .one (.g (.d (.sl 6 (List.map encApi_Event l_0))))), (1, oS key_1), (5, .one (.ptr 1005 0)), (8, .one (.g (.d (.sl 2 (List.map encApi_Stamp r2))))), (10, oB r9)]) (hp' := [(1005, some (.blk 48 (dat (List.flatMap encI_i64 q_2))))]) (.c (oP rfl rfl (op_move (Ev.t 0 (.g (.d (.sl 6 (List.map encApi_Event l_0))))) rfl)) (.c (oP rfl rfl (op_indexA Try.underlying48 ti3 (aidx_ok hx5).1 (aidx_ok hx5).2.1 (Ev.t 5 (.ptr 1005 0)) (Ev.c _ rfl) rfl)) (.c (oP rfl rfl (op_load1P (c := bI .i64 x5) Try.underlying3 rfl (arr_at1 hx5 (fun _ => rfl) rfl) (Ev.t 39 (.ptr 1005 (Int.toNat 0 * 1))) rfl)) (.c (oP rfl rfl (op_call (sv := .one (.g (.d (.sl 6 (List.map encApi_Event r6))))) cf17 (ct_history_Of l_0 x5 r6 hr6) rfl (EvL.cons (Ev.t 38 (.g (.d (.sl 6 (List.map encApi_Event l_0))))) (EvL.cons (Ev.t 40 (bI .i64 x5)) EvL.nil)) rfl)) (.c (oP rfl rfl (op_move (Ev.t 0 (.g (.d (.sl 6 (List.map encApi_Event l_0))))) rfl)) (.c (oP rfl rfl (op_indexA Try.underlying48 ti3 (aidx_ok hx7).1 (aidx_ok hx7).2.1 (Ev.t 5 (.ptr 1005 0)) (Ev.c _ rfl) rfl)) (.c (oP rfl rfl (op_load1P (c := bI .i64 x7) Try.underlying3 rfl (arr_at1 hx7 (fun _ => rfl) rfl) (Ev.t 43 (.ptr 1005 (Int.toNat 0 * 1))) rfl)) (.c (oP rfl rfl (op_call (sv := .one (.g (.d (.sl 6 (List.map encApi_Event r8))))) cf34 (ct_ref20_Of l_0 x7 r8 hr8) rfl (EvL.cons (Ev.t 42 (.g (.d (.sl 6 (List.map encApi_Event l_0))))) (EvL.cons (Ev.t 44 (bI .i64 x7)) EvL.nil)) rfl)) (.c (oP rfl rfl (op_callQ (sv := oB r9) cf19 (ct_ref20_Same r6 r8 r9 hr9) rfl rfl (EvQL.cons (EvQ.g (Ev.t 41 (.g (.d (.sl 6 (List.map encApi_Event r6)))))) (EvQL.cons (EvQ.g (Ev.t 45 (.g (.d (.sl 6 (List.map encApi_Event r8)))))) EvQL.nil)) rfl)) (.c (oP rfl rfl (op_assign (Ev.t 46 (bB r9)) rfl)) .nil)))))))))) follows rfl rfl rfl ⟨⟨rfl, trivial⟩, trivial, ⟨rfl, trivial⟩, trivial, ⟨rfl, trivial⟩, ⟨⟨rfl, rfl⟩, trivial⟩, ⟨rfl, rfl, trivial⟩, trivial, ⟨rfl, trivial⟩, trivial, ⟨rfl, trivial⟩, trivial, ⟨rfl, trivial⟩, ⟨⟨rfl, rfl⟩, trivial⟩, ⟨rfl, rfl, trivial⟩, trivial, ⟨rfl, rfl, trivial⟩, trivial, ⟨rfl, trivial⟩, trivial, trivial⟩ ⟨rfl, rfl, rfl, rfl, rfl, trivial⟩ ⟨rfl, trivial⟩ (by simp only [wellId, List.all_cons, List.all_nil, HE.ids, ids_dat]; rfl) ?_
      refine G.seq ?_
      obtain ⟨x10, hx10, hF⟩ := bindS hF
      obtain ⟨r11, hr11, hF⟩ := bindS hF
      obtain ⟨x12, hx12, hF⟩ := bindS hF
      obtain ⟨r13, hr13, hF⟩ := bindS hF
      obtain ⟨r14, hr14, hF⟩ := bindS hF
      refine G.drawnI (deps := [[], [], [1], [0, 1, 2], [], [], [5], [0, 1, 2, 3, 4, 5, 6], [0, 1, 2, 3, 4, 5, 6, 7], [0, 1, 2, 3, 4, 5, 6, 7, 8]]) (sl' := [(0, .one (.g (.d (.sl 6 (List.map encApi_Event l_0))))), (1, oS key_1), (8, .one (.g (.d (.sl 2 (List.map encApi_Stamp r2))))), (10, oB r9), (11, oB r14)]) (hp' := []) (.c (oP rfl rfl (op_move (Ev.t 0 (.g (.d (.sl 6 (List.map encApi_Event l_0))))) rfl)) (.c (oP rfl rfl (op_indexA Try.underlying48 ti3 (aidx_ok hx10).1 (aidx_ok hx10).2.1 (Ev.t 5 (.ptr 1005 0)) (Ev.c _ rfl) rfl)) (.c (oP rfl rfl (op_load1P (c := bI .i64 x10) Try.underlying3 rfl (arr_at1 hx10 (fun _ => rfl) rfl) (Ev.t 48 (.ptr 1005 (Int.toNat 1 * 1))) rfl)) (.c (oP rfl rfl (op_call (sv := .one (.g (.d (.sl 3 (List.map encApi_Dep r11))))) cf11 (ct_history_Behind l_0 x10 r11 hr11) rfl (EvL.cons (Ev.t 47 (.g (.d (.sl 6 (List.map encApi_Event l_0))))) (EvL.cons (Ev.t 49 (bI .i64 x10)) EvL.nil)) rfl)) (.c (oP rfl rfl (op_move (Ev.t 0 (.g (.d (.sl 6 (List.map encApi_Event l_0))))) rfl)) (.c (oP rfl rfl (op_indexA Try.underlying48 ti3 (aidx_ok hx12).1 (aidx_ok hx12).2.1 (Ev.t 5 (.ptr 1005 0)) (Ev.c _ rfl) rfl)) (.c (oP rfl rfl (op_load1P (c := bI .i64 x12) Try.underlying3 rfl (arr_at1 hx12 (fun _ => rfl) rfl) (Ev.t 52 (.ptr 1005 (Int.toNat 1 * 1))) rfl)) (.c (oP rfl rfl (op_call (sv := .one (.g (.d (.sl 3 (List.map encApi_Dep r13))))) cf25 (ct_ref20_Behind l_0 x12 r13 hr13) rfl (EvL.cons (Ev.t 51 (.g (.d (.sl 6 (List.map encApi_Event l_0))))) (EvL.cons (Ev.t 53 (bI .i64 x12)) EvL.nil)) rfl)) (.c (oP rfl rfl (op_callQ (sv := oB r14) cf32 (ct_ref04_Same r11 r13 r14 hr14) rfl rfl (EvQL.cons (EvQ.g (Ev.t 50 (.g (.d (.sl 3 (List.map encApi_Dep r11)))))) (EvQL.cons (EvQ.g (Ev.t 54 (.g (.d (.sl 3 (List.map encApi_Dep r13)))))) EvQL.nil)) rfl)) (.c (oP rfl rfl (op_assign (Ev.t 55 (bB r14)) rfl)) .nil)))))))))) follows rfl rfl rfl ⟨⟨rfl, trivial⟩, trivial, ⟨rfl, trivial⟩, trivial, ⟨rfl, trivial⟩, ⟨⟨rfl, rfl⟩, trivial⟩, ⟨rfl, rfl, trivial⟩, trivial, ⟨rfl, trivial⟩, trivial, ⟨rfl, trivial⟩, trivial, ⟨rfl, trivial⟩, ⟨⟨rfl, rfl⟩, trivial⟩, ⟨rfl, rfl, trivial⟩, trivial, ⟨rfl, rfl, trivial⟩, trivial, ⟨rfl, trivial⟩, trivial, trivial⟩ ⟨rfl, rfl, rfl, rfl, rfl, trivial⟩ trivial rfl ?_
      refine G.seq ?_
      refine G.region ?_
      refine G.op1 (op_move (Ev.t 10 (bB r9)) rfl) rfl ⟨rfl, trivial⟩ trivial ?_
      refine G.op1 (op_move (Ev.t 56 (bB r9)) rfl) rfl ⟨rfl, trivial⟩ trivial ?_
      refine G.joinL (T := Bool) 2 (fun y15 => ⟨[(0, .one (.g (.d (.sl 6 (List.map encApi_Event l_0))))), (1, oS key_1), (8, .one (.g (.d (.sl 2 (List.map encApi_Stamp r2))))), (59, oB y15)], []⟩) (fun y15 => law20_tells_k2 l_0 key_1 r2 y15 = some r) (fun y15 hF => ?_) (fun J24 => ?_)
      · unfold law20_tells_k2 at hF
        refine G.op1 (op_move (Ev.t 59 (bB y15)) rfl) rfl ⟨rfl, trivial⟩ trivial ?_
        refine G.joinL (T := Bool) 6 (fun y16 => ⟨[(0, .one (.g (.d (.sl 6 (List.map encApi_Event l_0))))), (1, oS key_1), (8, .one (.g (.d (.sl 2 (List.map encApi_Stamp r2))))), (66, oB y16)], []⟩) (fun y16 => law20_tells_k3 l_0 key_1 r2 y16 = some r) (fun y16 hF => ?_) (fun J20 => ?_)
        · unfold law20_tells_k3 at hF
          refine G.op1 (op_move (Ev.t 66 (bB y16)) rfl) rfl ⟨rfl, trivial⟩ trivial ?_
          refine ifS hF (fun hc17 hF => ?_) (fun hc17 hF => ?_)
          · refine G.known (t := 67) hc17 rfl ?_
            refine G.opG1 (op_move (Ev.t 0 (.g (.d (.sl 6 (List.map encApi_Event l_0))))) rfl) rfl rfl rfl ⟨rfl, trivial⟩ trivial ?_
            refine G.opG1 (op_move (Ev.t 1 (bS key_1)) rfl) rfl rfl rfl ⟨rfl, trivial⟩ trivial ?_
            obtain ⟨r18, hr18, hF⟩ := bindS hF
            refine G.opG1 (op_callQ (sv := .one (.g (.agg [vI r18.N, vI r18.Site]))) cf15 (ct_history_Greatest l_0 key_1 r18 hr18) rfl rfl (EvQL.cons (EvQ.g (Ev.t 68 (.g (.d (.sl 6 (List.map encApi_Event l_0)))))) (EvQL.cons (EvQ.g (Ev.t 69 (bS key_1))) EvQL.nil)) rfl) rfl rfl rfl ⟨rfl, rfl, trivial⟩ trivial ?_
            refine G.opG1 (op_move (Ev.t 8 (.g (.d (.sl 2 (List.map encApi_Stamp r2))))) rfl) rfl rfl rfl ⟨rfl, trivial⟩ trivial ?_
            obtain ⟨r19, hr19, hF⟩ := bindS hF
            refine G.opG1 (op_callQ (sv := .one (.g (.agg [vI r19.N, vI r19.Site]))) cf36 (ct_ref03_Max r2 r19 hr19) rfl rfl (EvQL.cons (EvQ.g (Ev.t 71 (.g (.d (.sl 2 (List.map encApi_Stamp r2)))))) EvQL.nil) rfl) rfl rfl rfl ⟨rfl, trivial⟩ trivial ?_
            refine G.opG1 (op_eqA (us := [.int .i64 r18.N, .int .i64 r18.Site]) (vs := [.int .i64 r19.N, .int .i64 r19.Site]) rfl rfl Try.eqGuardType27 (fun w => eq27 r18.N r18.Site r19.N r19.Site w) (Ev.t 70 (.g (.agg [vI r18.N, vI r18.Site]))) (Ev.t 72 (.g (.agg [vI r19.N, vI r19.Site]))) rfl) rfl rfl rfl ⟨rfl, rfl, trivial⟩ trivial ?_
            refine G.op1 (op_pickT (Ev.t 67 (bB true)) (Ev.t 73 (bB (decide (r18.N = r19.N) && decide (r18.Site = r19.Site)))) rfl) rfl ⟨rfl, rfl, trivial⟩ trivial ?_
            refine G.op1 (op_assign (Ev.t 74 (bB (decide (r18.N = r19.N) && decide (r18.Site = r19.Site)))) rfl) rfl ⟨rfl, trivial⟩ trivial ?_
            refine G.endOps ?_
            cases hF
            exact G.ret1 Try.results20 (RVar.tmp 6 _) ⟨rfl, trivial⟩ trivial
          · refine G.known (t := 67) hc17 rfl ?_
            refine G.opN1 rfl rfl rfl rfl rfl ?_
            refine G.opN1 rfl rfl rfl rfl rfl ?_
            refine G.opN1 rfl rfl rfl rfl rfl ?_
            refine G.opN1 rfl rfl rfl rfl rfl ?_
            refine G.opN1 rfl rfl rfl rfl rfl ?_
            refine G.opN1 rfl rfl rfl rfl rfl ?_
            refine G.op1 (op_pickF (Ev.t 67 (bB false)) (Ev.c _ rfl) rfl) rfl ⟨rfl, trivial⟩ trivial ?_
            refine G.op1 (op_assign (Ev.t 74 (bB false)) rfl) rfl ⟨rfl, trivial⟩ trivial ?_
            refine G.endOps ?_
            cases hF
            exact G.ret1 Try.results20 (RVar.tmp 6 _) ⟨rfl, trivial⟩ trivial
        refine ifS hF (fun hc21 hF => ?_) (fun hc21 hF => ?_)
        · refine G.known (t := 60) hc21 rfl ?_
          refine G.opG1 (op_move (Ev.t 0 (.g (.d (.sl 6 (List.map encApi_Event l_0))))) rfl) rfl rfl rfl ⟨rfl, trivial⟩ trivial ?_
          obtain ⟨r22, hr22, hF⟩ := bindS hF
          refine G.opG1 (op_callQ (sv := oI r22) cf13 (ct_history_Check l_0 r22 hr22) rfl rfl (EvQL.cons (EvQ.g (Ev.t 61 (.g (.d (.sl 6 (List.map encApi_Event l_0)))))) EvQL.nil) rfl) rfl rfl rfl ⟨rfl, trivial⟩ trivial ?_
          refine G.opG1 (op_move (Ev.t 0 (.g (.d (.sl 6 (List.map encApi_Event l_0))))) rfl) rfl rfl rfl ⟨rfl, trivial⟩ trivial ?_
          obtain ⟨r23, hr23, hF⟩ := bindS hF
          refine G.opG1 (op_callQ (sv := oI r23) cf35 (ct_ref20_Check l_0 r23 hr23) rfl rfl (EvQL.cons (EvQ.g (Ev.t 63 (.g (.d (.sl 6 (List.map encApi_Event l_0)))))) EvQL.nil) rfl) rfl rfl rfl ⟨rfl, trivial⟩ trivial ?_
          refine G.opG1 (op_eqI (Ev.t 62 (bI .i64 r22)) (Ev.t 64 (bI .i64 r23)) rfl) rfl rfl rfl ⟨rfl, rfl, trivial⟩ trivial ?_
          refine G.op1 (op_pickT (Ev.t 60 (bB true)) (Ev.t 65 (bB (decide (r22 = r23)))) rfl) rfl ⟨rfl, rfl, trivial⟩ trivial ?_
          exact G.arr (J20 (decide (r22 = r23)) hF) ⟨rfl, rfl, rfl, rfl, trivial⟩ trivial rfl
        · refine G.known (t := 60) hc21 rfl ?_
          refine G.opN1 rfl rfl rfl rfl rfl ?_
          refine G.opN1 rfl rfl rfl rfl rfl ?_
          refine G.opN1 rfl rfl rfl rfl rfl ?_
          refine G.opN1 rfl rfl rfl rfl rfl ?_
          refine G.opN1 rfl rfl rfl rfl rfl ?_
          refine G.op1 (op_pickF (Ev.t 60 (bB false)) (Ev.c _ rfl) rfl) rfl ⟨rfl, trivial⟩ trivial ?_
          exact G.arr (J20 false hF) ⟨rfl, rfl, rfl, rfl, trivial⟩ trivial rfl
      refine ifS hF (fun hc25 hF => ?_) (fun hc25 hF => ?_)
      · refine G.known (t := 57) hc25 rfl ?_
        refine G.opG1 (op_move (Ev.t 11 (bB r14)) rfl) rfl rfl rfl ⟨rfl, trivial⟩ trivial ?_
        refine G.op1 (op_pickT (Ev.t 57 (bB true)) (Ev.t 58 (bB r14)) rfl) rfl ⟨rfl, rfl, trivial⟩ trivial ?_
        exact G.arr (J24 r14 hF) ⟨rfl, rfl, rfl, rfl, trivial⟩ trivial rfl
      · refine G.known (t := 57) hc25 rfl ?_
        refine G.opN1 rfl rfl rfl rfl rfl ?_
        refine G.op1 (op_pickF (Ev.t 57 (bB false)) (Ev.c _ rfl) rfl) rfl ⟨rfl, trivial⟩ trivial ?_
        exact G.arr (J24 false hF) ⟨rfl, rfl, rfl, rfl, trivial⟩ trivial rfl
    refine G.block ?_
    refine G.keep (sl' := [(0, .one (.g (.d (.sl 6 (List.map encApi_Event l_0))))), (1, oS key_1), (5, .one (.ptr 1005 0)), (7, .one (.g (.d (.sl 2 (List.map encApi_Stamp r1))))), (8, .one (.g (.d (.sl 2 (List.map encApi_Stamp r2))))), (9, oI 0)]) (hp' := [(1005, some (.blk 48 (dat (List.flatMap encI_i64 q_2))))]) ⟨rfl, rfl, rfl, rfl, rfl, rfl, trivial⟩ ⟨rfl, trivial⟩ (by simp only [wellId, List.all_cons, List.all_nil, HE.ids, ids_dat]; rfl) ?_
    refine G.loopF (fun (v27 : Int) => ⟨[(0, .one (.g (.d (.sl 6 (List.map encApi_Event l_0))))), (1, oS key_1), (5, .one (.ptr 1005 0)), (7, .one (.g (.d (.sl 2 (List.map encApi_Stamp r1))))), (8, .one (.g (.d (.sl 2 (List.map encApi_Stamp r2))))), (9, oI v27)], [(1005, some (.blk 48 (dat (List.flatMap encI_i64 q_2))))]⟩) hF rfl (fun K30 again29 v27 J28 hF => ?_)
    unfold law20_tells_l4 at hF
    refine G.seq ?_
    refine G.seq ?_
    refine G.region ?_
    refine G.op1 (op_move (Ev.t 9 (bI .i64 v27)) rfl) rfl ⟨rfl, trivial⟩ trivial ?_
    refine G.op1 (op_move (Ev.t 7 (.g (.d (.sl 2 (List.map encApi_Stamp r1))))) rfl) rfl ⟨rfl, trivial⟩ trivial ?_
    refine G.op1 (OpL.cast (op_lenD Try.underlying36 (Ev.t 24 (.g (.d (.sl 2 (List.map encApi_Stamp r1))))) rfl) (by rw [List.length_map])) rfl ⟨rfl, trivial⟩ trivial ?_
    refine G.op1 (op_lss (Ev.t 23 (bI .i64 v27)) (Ev.t 25 (bI .i64 (r1.length : Int))) rfl) rfl ⟨rfl, rfl, trivial⟩ trivial ?_
    refine G.endOps ?_
    refine ifS hF (fun hc31 hF => ?_) (fun hc31 hF => ?_)
    · refine G.cond rfl (fun _ => ?_) (fun hx => by rw [hc31] at hx; cases hx)
      refine G.skip ?_
      refine G.seq ?_
      refine G.block ?_
      refine G.seq ?_
      obtain ⟨x32, hx32, hF⟩ := bindS hF
      obtain ⟨x33, hx33, hF⟩ := bindS hF
      refine G.drawnI (deps := [[], [], [0, 1], [0, 1, 2], [], [], [4, 5], [4, 5, 6], [0, 1, 2, 3, 4, 5, 6, 7]]) (sl' := [(0, .one (.g (.d (.sl 6 (List.map encApi_Event l_0))))), (1, oS key_1), (5, .one (.ptr 1005 0)), (7, .one (.g (.d (.sl 2 (List.map encApi_Stamp r1))))), (8, .one (.g (.d (.sl 2 (List.map encApi_Stamp r2))))), (9, oI v27), (37, oB (!(decide (x32.N = x33.N) && decide (x32.Site = x33.Site))))]) (hp' := [(1005, some (.blk 48 (dat (List.flatMap encI_i64 q_2))))]) (.c (oP rfl rfl (op_move (Ev.t 7 (.g (.d (.sl 2 (List.map encApi_Stamp r1))))) rfl)) (.c (oP rfl rfl (op_move (Ev.t 9 (bI .i64 v27)) rfl)) (.c (oP rfl rfl (op_index (cs := [vI x32.N, vI x32.Site]) Try.underlying36 ti27 (idx_ok hx32).1 (idx_get hx32 encApi_Stamp) (Ev.t 29 (.g (.d (.sl 2 (List.map encApi_Stamp r1))))) (Ev.t 30 (bI .i64 v27)) rfl)) (.c (oP rfl rfl (op_loadAE (ds := [vI x32.N, vI x32.Site]) Try.underlying27 rfl ti27 rfl (Ev.t 31 (.ep [vI x32.N, vI x32.Site])) rfl)) (.c (oP rfl rfl (op_move (Ev.t 8 (.g (.d (.sl 2 (List.map encApi_Stamp r2))))) rfl)) (.c (oP rfl rfl (op_move (Ev.t 9 (bI .i64 v27)) rfl)) (.c (oP rfl rfl (op_index (cs := [vI x33.N, vI x33.Site]) Try.underlying36 ti27 (idx_ok hx33).1 (idx_get hx33 encApi_Stamp) (Ev.t 33 (.g (.d (.sl 2 (List.map encApi_Stamp r2))))) (Ev.t 34 (bI .i64 v27)) rfl)) (.c (oP rfl rfl (op_loadAE (ds := [vI x33.N, vI x33.Site]) Try.underlying27 rfl ti27 rfl (Ev.t 35 (.ep [vI x33.N, vI x33.Site])) rfl)) (.c (oP rfl rfl (op_eqA (us := [.int .i64 x32.N, .int .i64 x32.Site]) (vs := [.int .i64 x33.N, .int .i64 x33.Site]) rfl rfl Try.eqGuardType27 (fun w => ne27 x32.N x32.Site x33.N x33.Site w) (Ev.t 32 (.g (.agg [vI x32.N, vI x32.Site]))) (Ev.t 36 (.g (.agg [vI x33.N, vI x33.Site]))) rfl)) .nil))))))))) follows rfl rfl rfl ⟨⟨rfl, trivial⟩, trivial, ⟨rfl, trivial⟩, trivial, ⟨rfl, rfl, trivial⟩, trivial, ⟨rfl, trivial⟩, trivial, ⟨rfl, trivial⟩, trivial, ⟨rfl, trivial⟩, trivial, ⟨rfl, rfl, trivial⟩, trivial, ⟨rfl, trivial⟩, trivial, ⟨rfl, rfl, trivial⟩, trivial, trivial⟩ ⟨rfl, rfl, rfl, rfl, rfl, rfl, rfl, trivial⟩ ⟨rfl, trivial⟩ (by simp only [wellId, List.all_cons, List.all_nil, HE.ids, ids_dat]; rfl) ?_
      refine ifS hF (fun hc34 hF => ?_) (fun hc34 hF => ?_)
      · refine G.cond rfl (fun _ => ?_) (fun hx => by rw [hc34] at hx; cases hx)
        refine G.seq ?_
        refine G.region ?_
        refine G.op1 (op_assign (Ev.c _ rfl) rfl) rfl trivial trivial ?_
        refine G.endOps ?_
        cases hF
        exact G.ret1 Try.results20 (RVar.tmp 6 _) ⟨rfl, trivial⟩ trivial
      · refine G.cond rfl (fun hx => by rw [hc34] at hx; cases hx) (fun _ => ?_)
        refine G.skip ?_
        refine G.endBlock ?_
        refine G.region ?_
        refine G.op1 (op_move (Ev.t 9 (bI .i64 v27)) rfl) rfl ⟨rfl, trivial⟩ trivial ?_
        refine G.op1 (op_add (Ev.t 27 (bI .i64 v27)) (Ev.c _ rfl) rfl) rfl ⟨rfl, trivial⟩ trivial ?_
        refine G.op1 (op_assign (Ev.t 28 (bI .i64 (IntKind.wrap .i64 (v27 + 1)))) rfl) rfl ⟨rfl, trivial⟩ trivial ?_
        refine G.endOps ?_
        exact G.arr (J28 (IntKind.wrap .i64 (v27 + 1)) hF) ⟨rfl, rfl, rfl, rfl, rfl, rfl, trivial⟩ ⟨rfl, trivial⟩ (by simp only [wellId, List.all_cons, List.all_nil, HE.ids, ids_dat]; rfl)
    · refine G.cond rfl (fun hx => by rw [hc31] at hx; cases hx) (fun _ => ?_)
      refine G.exit ?_
      refine GX.c ?_
      refine GX.q ?_
      refine GX.bYes ?_
      exact G.arr (J26 () hF) ⟨rfl, rfl, rfl, rfl, trivial⟩ ⟨rfl, trivial⟩ (by simp only [wellId, List.all_cons, List.all_nil, HE.ids, ids_dat]; rfl)


set_option maxRecDepth 20000 in
set_option maxHeartbeats 2000000 in
theorem ct_law20_HistoryTurned (l_0 : (List Law20_Act)) (q_1 : Law20_Change) (key_2 : ByteArray) (r : Bool) (hF : law20_HistoryTurned l_0 q_1 key_2 = some r) : Ct Try.prog 8 [.g (.d (.sl 4 (List.map encLaw20_Act l_0))), .g (.agg (encLaw20_Change q_1)), .g (.d (vS key_2))] (.one (.d (vB r))) := by
  unfold law20_HistoryTurned at hF
  refine Ct.intro Try.func8 rfl Try.ntmps8 rfl rfl fun M w => ?_
  refine G.seq ?_
  refine G.region ?_
  refine G.op2 (op_boxA (k := 1004) (Ev.t 1 (.g (.agg [vI q_1.At, vI q_1.What, vI q_1.To, vS q_1.Dep.Key, vI q_1.Dep.Stamp.N, vI q_1.Dep.Stamp.Site]))) rfl) rfl ⟨rfl, trivial⟩ ⟨rfl, trivial⟩ ?_
  refine G.op1 (op_assign (Ev.c _ rfl) rfl) rfl trivial trivial ?_
  refine G.endOps ?_
  refine G.seq ?_
  refine G.region ?_
  obtain ⟨r1, hr1, hF⟩ := bindS hF
  refine G.op1 (op_callQ (sv := oB r1) cf9 (ct_law20_awake r1 hr1) rfl rfl EvQL.nil rfl) rfl trivial trivial ?_
  refine G.op1 (op_assign (Ev.t 11 (bB r1)) rfl) rfl ⟨rfl, trivial⟩ trivial ?_
  refine G.endOps ?_
  refine G.seq ?_
  refine G.region ?_
  refine G.op1 (op_move (Ev.t 0 (.g (.d (.sl 4 (List.map encLaw20_Act l_0))))) rfl) rfl ⟨rfl, trivial⟩ trivial ?_
  obtain ⟨r2, hr2, hF⟩ := bindS hF
  refine G.op2 (op_callNew (k := 2013) cf10 (ct_law20_made l_0 r2 hr2) (EvL.cons (Ev.t 12 (.g (.d (.sl 4 (List.map encLaw20_Act l_0))))) EvL.nil) rfl) rfl ⟨rfl, trivial⟩ ⟨rfl, trivial⟩ ?_
  refine G.op1 (op_assign (Ev.t 13 (.own 2013 (List.map encApi_Event r2))) rfl) rfl ⟨rfl, trivial⟩ trivial ?_
  refine G.endOps ?_
  refine G.seq ?_
  refine G.seq ?_
  refine G.region ?_
  refine G.op1 (op_move (Ev.t 8 (.own 2013 (List.map encApi_Event r2))) rfl) rfl ⟨rfl, trivial⟩ trivial ?_
  refine G.op1 (OpL.cast (op_lenO Try.underlying24 (Ev.t 14 (.own 2013 (List.map encApi_Event r2))) rfl) (by rw [List.length_map])) rfl ⟨rfl, trivial⟩ ⟨rfl, trivial⟩ ?_
  refine G.op1 (op_gtr (Ev.t 15 (bI .i64 (r2.length : Int))) (Ev.c _ rfl) rfl) rfl ⟨rfl, trivial⟩ trivial ?_
  refine G.endOps ?_
  refine G.joinC (T := (List Api_Event)) (fun y3 => ⟨[(2, oS key_2), (4, .one (.ptr 1004 0)), (7, oB r1), (8, .one (.own 2013 (List.map encApi_Event y3)))], [(1004, some (.blk 54 [bI .i64 q_1.At, bI .i64 q_1.What, bI .i64 q_1.To, bS q_1.Dep.Key, bI .i64 q_1.Dep.Stamp.N, bI .i64 q_1.Dep.Stamp.Site])), (2013, some (.row 30 6 (List.map encApi_Event y3) true))]⟩) (fun y3 => law20_HistoryTurned_k1 q_1 key_2 r1 y3 = some r) (fun y3 hF => ?_) (fun J6 => ?_)
  · unfold law20_HistoryTurned_k1 at hF
    refine G.seq ?_
    refine G.region ?_
    refine G.op1 (op_move (Ev.t 7 (bB r1)) rfl) rfl ⟨rfl, trivial⟩ trivial ?_
    refine G.op1 (op_move (Ev.t 79 (bB r1)) rfl) rfl ⟨rfl, trivial⟩ trivial ?_
    refine ifS hF (fun hc4 hF => ?_) (fun hc4 hF => ?_)
    · refine G.known (t := 80) hc4 rfl ?_
      refine G.opG1 (op_move (Ev.t 8 (.own 2013 (List.map encApi_Event y3))) rfl) rfl rfl rfl ⟨rfl, trivial⟩ trivial ?_
      refine G.opG1 (op_move (Ev.t 2 (bS key_2)) rfl) rfl rfl rfl ⟨rfl, trivial⟩ trivial ?_
      refine G.opG1 (op_fieldP (off' := 2) Try.underlying54 rfl ti3 (by decide) rfl (Ev.t 4 (.ptr 1004 0)) rfl) rfl rfl rfl ⟨rfl, trivial⟩ trivial ?_
      refine G.opG1 (op_load1P (c := bI .i64 q_1.To) Try.underlying3 rfl rfl (Ev.t 83 (.ptr 1004 2)) rfl) rfl rfl rfl ⟨rfl, trivial⟩ ⟨rfl, trivial⟩ ?_
      refine G.opG1 (op_fieldP (off' := 0) Try.underlying54 rfl ti3 (by decide) rfl (Ev.t 4 (.ptr 1004 0)) rfl) rfl rfl rfl ⟨rfl, trivial⟩ trivial ?_
      refine G.opG1 (op_load1P (c := bI .i64 q_1.At) Try.underlying3 rfl rfl (Ev.t 85 (.ptr 1004 0)) rfl) rfl rfl rfl ⟨rfl, trivial⟩ ⟨rfl, trivial⟩ ?_
      refine G.opG1 (op_buildA (zs := [vI 0, vI 0]) (ds := List.flatMap encI_i64 [q_1.To, q_1.At]) Try.underlying48 ti48 ti3 ⟨.v _ rfl, .v _ rfl, trivial⟩ (EvP.cons (Ev.t 84 (bI .i64 q_1.To)) (EvP.cons (Ev.t 86 (bI .i64 q_1.At)) EvP.nil)) rfl rfl) rfl rfl rfl ⟨rfl, rfl, trivial⟩ trivial ?_
      obtain ⟨r5, hr5, hF⟩ := bindS hF
      refine G.opG1 (op_callQ (sv := oB r5) cf20 (ct_law20_tells y3 key_2 ([q_1.To, q_1.At]) r5 hr5) rfl rfl (EvQL.cons (EvQ.own (Ev.t 81 (.own 2013 (List.map encApi_Event y3)))) (EvQL.cons (EvQ.g (Ev.t 82 (bS key_2))) (EvQL.cons (EvQ.g (Ev.t 87 (.g (.agg (List.flatMap encI_i64 ([q_1.To, q_1.At])))))) EvQL.nil))) rfl) rfl rfl rfl ⟨rfl, rfl, rfl, trivial⟩ ⟨rfl, trivial⟩ ?_
      refine G.op1 (op_pickT (Ev.t 80 (bB true)) (Ev.t 88 (bB r5)) rfl) rfl ⟨rfl, rfl, trivial⟩ trivial ?_
      refine G.op1 (op_assign (Ev.t 89 (bB r5)) rfl) rfl ⟨rfl, trivial⟩ trivial ?_
      refine G.endOps ?_
      cases hF
      exact G.ret1 Try.results8 (RVar.tmp 6 _) ⟨rfl, trivial⟩ trivial
    · refine G.known (t := 80) hc4 rfl ?_
      refine G.opN1 rfl rfl rfl rfl rfl ?_
      refine G.opN1 rfl rfl rfl rfl rfl ?_
      refine G.opN1 rfl rfl rfl rfl rfl ?_
      refine G.opN1 rfl rfl rfl rfl rfl ?_
      refine G.opN1 rfl rfl rfl rfl rfl ?_
      refine G.opN1 rfl rfl rfl rfl rfl ?_
      refine G.opN1 rfl rfl rfl rfl rfl ?_
      refine G.opN1 rfl rfl rfl rfl rfl ?_
      refine G.op1 (op_pickF (Ev.t 80 (bB false)) (Ev.c _ rfl) rfl) rfl ⟨rfl, trivial⟩ trivial ?_
      refine G.op1 (op_assign (Ev.t 89 (bB false)) rfl) rfl ⟨rfl, trivial⟩ trivial ?_
      refine G.endOps ?_
      cases hF
      exact G.ret1 Try.results8 (RVar.tmp 6 _) ⟨rfl, trivial⟩ trivial
  refine ifS hF (fun hc7 hF => ?_) (fun hc7 hF => ?_)
  · refine G.cond rfl (fun _ => ?_) (fun hx => by rw [hc7] at hx; cases hx)
    refine G.seq ?_
    refine G.region ?_
    refine G.op1 (op_fieldP (off' := 0) Try.underlying54 rfl ti3 (by decide) rfl (Ev.t 4 (.ptr 1004 0)) rfl) rfl ⟨rfl, trivial⟩ trivial ?_
    refine G.op1 (op_load1P (c := bI .i64 q_1.At) Try.underlying3 rfl rfl (Ev.t 17 (.ptr 1004 0)) rfl) rfl ⟨rfl, trivial⟩ ⟨rfl, trivial⟩ ?_
    refine G.op1 (op_move (Ev.t 8 (.own 2013 (List.map encApi_Event r2))) rfl) rfl ⟨rfl, trivial⟩ trivial ?_
    refine G.op1 (OpL.cast (op_lenO Try.underlying24 (Ev.t 19 (.own 2013 (List.map encApi_Event r2))) rfl) (by rw [List.length_map])) rfl ⟨rfl, trivial⟩ ⟨rfl, trivial⟩ ?_
    obtain ⟨hz8, hF⟩ := chkS hF
    refine G.op1 (op_rem (by simpa using hz8) (Ev.t 18 (bI .i64 q_1.At)) (Ev.t 20 (bI .i64 (r2.length : Int))) rfl) rfl ⟨rfl, rfl, trivial⟩ trivial ?_
    refine G.op1 (op_move (Ev.t 8 (.own 2013 (List.map encApi_Event r2))) rfl) rfl ⟨rfl, trivial⟩ trivial ?_
    refine G.op1 (OpL.cast (op_lenO Try.underlying24 (Ev.t 22 (.own 2013 (List.map encApi_Event r2))) rfl) (by rw [List.length_map])) rfl ⟨rfl, trivial⟩ ⟨rfl, trivial⟩ ?_
    refine G.op1 (op_add (Ev.t 21 (bI .i64 (Int.tmod q_1.At (r2.length : Int)))) (Ev.t 23 (bI .i64 (r2.length : Int))) rfl) rfl ⟨rfl, rfl, trivial⟩ trivial ?_
    refine G.op1 (op_move (Ev.t 8 (.own 2013 (List.map encApi_Event r2))) rfl) rfl ⟨rfl, trivial⟩ trivial ?_
    refine G.op1 (OpL.cast (op_lenO Try.underlying24 (Ev.t 25 (.own 2013 (List.map encApi_Event r2))) rfl) (by rw [List.length_map])) rfl ⟨rfl, trivial⟩ ⟨rfl, trivial⟩ ?_
    obtain ⟨hz9, hF⟩ := chkS hF
    refine G.op1 (op_rem (by simpa using hz9) (Ev.t 24 (bI .i64 (IntKind.wrap .i64 ((Int.tmod q_1.At (r2.length : Int)) + (r2.length : Int))))) (Ev.t 26 (bI .i64 (r2.length : Int))) rfl) rfl ⟨rfl, rfl, trivial⟩ trivial ?_
    refine G.op1 (op_assign (Ev.t 27 (bI .i64 (Int.tmod (IntKind.wrap .i64 ((Int.tmod q_1.At (r2.length : Int)) + (r2.length : Int))) (r2.length : Int)))) rfl) rfl ⟨rfl, trivial⟩ trivial ?_
    refine G.endOps ?_
    refine G.seq ?_
    refine G.region ?_
    refine G.op1 (op_move (Ev.t 8 (.own 2013 (List.map encApi_Event r2))) rfl) rfl ⟨rfl, trivial⟩ trivial ?_
    refine G.op1 (op_move (Ev.t 9 (bI .i64 (Int.tmod (IntKind.wrap .i64 ((Int.tmod q_1.At (r2.length : Int)) + (r2.length : Int))) (r2.length : Int)))) rfl) rfl ⟨rfl, trivial⟩ trivial ?_
    obtain ⟨x10, hx10, hF⟩ := bindS hF
    refine G.loadRow (cs := [vI x10.Kind, vI x10.Client, vS x10.Key, vI x10.Stamp.N, vI x10.Stamp.Site, .sl 3 (List.map encApi_Dep x10.Seen)]) Try.underlying24 Try.underlying30 rfl ti30 (idx_ok hx10).1 (idx_get hx10 encApi_Event) (Ev.t 28 (.own 2013 (List.map encApi_Event r2))) (Ev.t 29 (bI .i64 (Int.tmod (IntKind.wrap .i64 ((Int.tmod q_1.At (r2.length : Int)) + (r2.length : Int))) (r2.length : Int)))) rfl rfl ⟨rfl, rfl, trivial⟩ rfl ?_
    refine G.op2 (op_alloc (k := 1010) (cs := [bI .i64 0, bI .i64 0, bS ByteArray.empty, bI .i64 0, bI .i64 0, .g (.d (.sl 3 (List.map encApi_Dep ([] : (List Api_Dep)))))]) ti30 ⟨.v _ rfl, .v _ rfl, .v _ rfl, .v _ rfl, .v _ rfl, .n 3, trivial⟩ rfl) rfl trivial ⟨rfl, trivial⟩ ?_
    refine G.op3 (op_storeA (cs' := [bI .i64 x10.Kind, bI .i64 x10.Client, bS x10.Key, bI .i64 x10.Stamp.N, bI .i64 x10.Stamp.Site, .g (.d (.sl 3 (List.map encApi_Dep x10.Seen)))]) ti30 rfl rfl (Ev.t 10 (.ptr 1010 0)) (Ev.t 31 (.g (.agg [vI x10.Kind, vI x10.Client, vS x10.Key, vI x10.Stamp.N, vI x10.Stamp.Site, .sl 3 (List.map encApi_Dep x10.Seen)])))) rfl ⟨rfl, rfl, trivial⟩ ⟨rfl, trivial⟩ ?_
    refine G.endOps ?_
    refine G.seq ?_
    refine G.seq ?_
    refine G.region ?_
    refine G.op1 (op_fieldP (off' := 1) Try.underlying54 rfl ti3 (by decide) rfl (Ev.t 4 (.ptr 1004 0)) rfl) rfl ⟨rfl, trivial⟩ trivial ?_
    refine G.op1 (op_load1P (c := bI .i64 q_1.What) Try.underlying3 rfl rfl (Ev.t 32 (.ptr 1004 1)) rfl) rfl ⟨rfl, trivial⟩ ⟨rfl, trivial⟩ ?_
    refine G.op1 (op_and (Ev.t 33 (bI .i64 q_1.What)) (Ev.c _ rfl) rfl) rfl ⟨rfl, trivial⟩ trivial ?_
    refine G.endOps ?_
    refine G.block ?_
    refine G.seq ?_
    refine G.region ?_
    refine G.op1 (op_eqI (Ev.t 34 (bI .i64 (IntKind.wrap .i64 (BitVec.ofInt (IntKind.bits .i64) q_1.What &&& BitVec.ofInt (IntKind.bits .i64) 7).toNat))) (Ev.c _ rfl) rfl) rfl ⟨rfl, trivial⟩ trivial ?_
    refine G.op1 (op_assign (Ev.t 36 (bB (decide ((IntKind.wrap .i64 (BitVec.ofInt (IntKind.bits .i64) q_1.What &&& BitVec.ofInt (IntKind.bits .i64) 7).toNat) = 1)))) rfl) rfl ⟨rfl, trivial⟩ trivial ?_
    refine G.endOps ?_
    refine G.joinC (T := Int × Int × ByteArray × Int × Int × (List Api_Dep)) (fun y11 => ⟨[(2, oS key_2), (4, .one (.ptr 1004 0)), (7, oB r1), (8, .one (.own 2013 (List.map encApi_Event r2))), (9, oI (Int.tmod (IntKind.wrap .i64 ((Int.tmod q_1.At (r2.length : Int)) + (r2.length : Int))) (r2.length : Int))), (10, .one (.ptr 1010 0))], [(1004, some (.blk 54 [bI .i64 q_1.At, bI .i64 q_1.What, bI .i64 q_1.To, bS q_1.Dep.Key, bI .i64 q_1.Dep.Stamp.N, bI .i64 q_1.Dep.Stamp.Site])), (1010, some (.blk 30 [bI .i64 y11.1, bI .i64 y11.2.1, bS y11.2.2.1, bI .i64 y11.2.2.2.1, bI .i64 y11.2.2.2.2.1, .g (.d (.sl 3 (List.map encApi_Dep y11.2.2.2.2.2)))])), (2013, some (.row 30 6 (List.map encApi_Event r2) true))]⟩) (fun y11 => law20_HistoryTurned_k2 q_1 key_2 r1 r2 y11 = some r) (fun y11 hF => ?_) (fun J13 => ?_)
    · unfold law20_HistoryTurned_k2 at hF
      refine G.endBlock ?_
      refine G.region ?_
      refine G.op1 (op_move (Ev.t 8 (.own 2013 (List.map encApi_Event r2))) rfl) rfl ⟨rfl, trivial⟩ trivial ?_
      refine G.op1 (op_move (Ev.t 9 (bI .i64 (Int.tmod (IntKind.wrap .i64 ((Int.tmod q_1.At (r2.length : Int)) + (r2.length : Int))) (r2.length : Int)))) rfl) rfl ⟨rfl, trivial⟩ trivial ?_
      refine G.op1 (op_loadAP (ds := [vI y11.1, vI y11.2.1, vS y11.2.2.1, vI y11.2.2.2.1, vI y11.2.2.2.2.1, .sl 3 (List.map encApi_Dep y11.2.2.2.2.2)]) Try.underlying30 rfl ti30 rfl (Ev.t 10 (.ptr 1010 0)) rfl) rfl ⟨rfl, trivial⟩ ⟨rfl, trivial⟩ ?_
      obtain ⟨l12, hl12, hF⟩ := bindS hF
      refine G.storeRow Try.underlying24 ti30 rfl (sets_ok hl12 encApi_Event).1 (sets_ok hl12 encApi_Event).2.1 (sets_ok hl12 encApi_Event).2.2 (Ev.t 75 (.own 2013 (List.map encApi_Event r2))) (Ev.t 76 (bI .i64 (Int.tmod (IntKind.wrap .i64 ((Int.tmod q_1.At (r2.length : Int)) + (r2.length : Int))) (r2.length : Int)))) (Ev.t 77 (.g (.agg [vI y11.1, vI y11.2.1, vS y11.2.2.1, vI y11.2.2.2.1, vI y11.2.2.2.2.1, .sl 3 (List.map encApi_Dep y11.2.2.2.2.2)]))) (by simp) rfl ⟨rfl, rfl, rfl, trivial⟩ rfl ?_
      refine G.renew (t := 8) rfl rfl (sets_len hl12 encApi_Event) ?_
      refine G.renew (t := 75) rfl rfl (sets_len hl12 encApi_Event) ?_
      refine G.endOps ?_
      exact G.arr (J6 l12 hF) ⟨rfl, rfl, rfl, rfl, trivial⟩ ⟨rfl, rfl, trivial⟩ rfl
    refine ifS hF (fun hc14 hF => ?_) (fun hc14 hF => ?_)
    · refine G.cond rfl (fun _ => ?_) (fun hx => by rw [hc14] at hx; cases hx)
      refine G.region ?_
      refine G.op1 (op_fieldP (off' := 3) Try.underlying54 rfl ti52 (by decide) rfl (Ev.t 4 (.ptr 1004 0)) rfl) rfl ⟨rfl, trivial⟩ trivial ?_
      refine G.op1 (op_fieldP (off' := 4) Try.underlying52 rfl ti27 (by decide) rfl (Ev.t 37 (.ptr 1004 3)) rfl) rfl ⟨rfl, trivial⟩ trivial ?_
      refine G.op1 (op_loadAP (ds := [vI q_1.Dep.Stamp.N, vI q_1.Dep.Stamp.Site]) Try.underlying27 rfl ti27 rfl (Ev.t 38 (.ptr 1004 4)) rfl) rfl ⟨rfl, trivial⟩ ⟨rfl, trivial⟩ ?_
      refine G.op1 (op_fieldP (off' := 3) Try.underlying30 rfl ti27 (by decide) rfl (Ev.t 10 (.ptr 1010 0)) rfl) rfl ⟨rfl, trivial⟩ trivial ?_
      refine G.op3 (op_storeA (cs' := [bI .i64 x10.Kind, bI .i64 x10.Client, bS x10.Key, bI .i64 q_1.Dep.Stamp.N, bI .i64 q_1.Dep.Stamp.Site, .g (.d (.sl 3 (List.map encApi_Dep x10.Seen)))]) ti27 rfl rfl (Ev.t 40 (.ptr 1010 3)) (Ev.t 39 (.g (.agg [vI q_1.Dep.Stamp.N, vI q_1.Dep.Stamp.Site])))) rfl ⟨rfl, rfl, trivial⟩ ⟨rfl, trivial⟩ ?_
      refine G.endOps ?_
      exact G.arr (J13 (x10.Kind, x10.Client, x10.Key, q_1.Dep.Stamp.N, q_1.Dep.Stamp.Site, x10.Seen) hF) ⟨rfl, rfl, rfl, rfl, rfl, rfl, trivial⟩ ⟨rfl, rfl, rfl, trivial⟩ rfl
    · refine G.cond rfl (fun hx => by rw [hc14] at hx; cases hx) (fun _ => ?_)
      refine G.seq ?_
      refine G.region ?_
      refine G.op1 (op_eqI (Ev.t 34 (bI .i64 (IntKind.wrap .i64 (BitVec.ofInt (IntKind.bits .i64) q_1.What &&& BitVec.ofInt (IntKind.bits .i64) 7).toNat))) (Ev.c _ rfl) rfl) rfl ⟨rfl, trivial⟩ trivial ?_
      refine G.op1 (op_assign (Ev.t 42 (bB (decide ((IntKind.wrap .i64 (BitVec.ofInt (IntKind.bits .i64) q_1.What &&& BitVec.ofInt (IntKind.bits .i64) 7).toNat) = 2)))) rfl) rfl ⟨rfl, trivial⟩ trivial ?_
      refine G.endOps ?_
      refine ifS hF (fun hc15 hF => ?_) (fun hc15 hF => ?_)
      · refine G.cond rfl (fun _ => ?_) (fun hx => by rw [hc15] at hx; cases hx)
        refine G.region ?_
        refine G.op1 (op_fieldP (off' := 3) Try.underlying54 rfl ti52 (by decide) rfl (Ev.t 4 (.ptr 1004 0)) rfl) rfl ⟨rfl, trivial⟩ trivial ?_
        refine G.op1 (op_fieldP (off' := 3) Try.underlying52 rfl ti9 (by decide) rfl (Ev.t 43 (.ptr 1004 3)) rfl) rfl ⟨rfl, trivial⟩ trivial ?_
        refine G.op1 (op_load1P (c := bS q_1.Dep.Key) Try.underlying9 rfl rfl (Ev.t 44 (.ptr 1004 3)) rfl) rfl ⟨rfl, trivial⟩ ⟨rfl, trivial⟩ ?_
        obtain ⟨r16, hr16, hF⟩ := bindS hF
        refine G.op1 (op_callQ (sv := oS r16) cf22 (ct_law20_short q_1.Dep.Key r16 hr16) rfl rfl (EvQL.cons (EvQ.g (Ev.t 45 (bS q_1.Dep.Key))) EvQL.nil) rfl) rfl ⟨rfl, trivial⟩ trivial ?_
        refine G.op1 (op_fieldP (off' := 2) Try.underlying30 rfl ti9 (by decide) rfl (Ev.t 10 (.ptr 1010 0)) rfl) rfl ⟨rfl, trivial⟩ trivial ?_
        refine G.op3 (op_store1 (cs' := [bI .i64 x10.Kind, bI .i64 x10.Client, bS r16, bI .i64 x10.Stamp.N, bI .i64 x10.Stamp.Site, .g (.d (.sl 3 (List.map encApi_Dep x10.Seen)))]) (c := bS r16) trivial ti9 rfl rfl (Ev.t 47 (.ptr 1010 2)) (Ev.t 46 (bS r16))) rfl ⟨rfl, rfl, trivial⟩ ⟨rfl, trivial⟩ ?_
        refine G.endOps ?_
        exact G.arr (J13 (x10.Kind, x10.Client, r16, x10.Stamp.N, x10.Stamp.Site, x10.Seen) hF) ⟨rfl, rfl, rfl, rfl, rfl, rfl, trivial⟩ ⟨rfl, rfl, rfl, trivial⟩ rfl
      · refine G.cond rfl (fun hx => by rw [hc15] at hx; cases hx) (fun _ => ?_)
        refine G.seq ?_
        refine G.region ?_
        refine G.op1 (op_eqI (Ev.t 34 (bI .i64 (IntKind.wrap .i64 (BitVec.ofInt (IntKind.bits .i64) q_1.What &&& BitVec.ofInt (IntKind.bits .i64) 7).toNat))) (Ev.c _ rfl) rfl) rfl ⟨rfl, trivial⟩ trivial ?_
        refine G.op1 (op_assign (Ev.t 49 (bB (decide ((IntKind.wrap .i64 (BitVec.ofInt (IntKind.bits .i64) q_1.What &&& BitVec.ofInt (IntKind.bits .i64) 7).toNat) = 3)))) rfl) rfl ⟨rfl, trivial⟩ trivial ?_
        refine G.endOps ?_
        refine ifS hF (fun hc17 hF => ?_) (fun hc17 hF => ?_)
        · refine G.cond rfl (fun _ => ?_) (fun hx => by rw [hc17] at hx; cases hx)
          refine G.region ?_
          refine G.op1 (op_fieldP (off' := 2) Try.underlying54 rfl ti3 (by decide) rfl (Ev.t 4 (.ptr 1004 0)) rfl) rfl ⟨rfl, trivial⟩ trivial ?_
          refine G.op1 (op_load1P (c := bI .i64 q_1.To) Try.underlying3 rfl rfl (Ev.t 50 (.ptr 1004 2)) rfl) rfl ⟨rfl, trivial⟩ ⟨rfl, trivial⟩ ?_
          refine G.op1 (op_fieldP (off' := 0) Try.underlying30 rfl ti3 (by decide) rfl (Ev.t 10 (.ptr 1010 0)) rfl) rfl ⟨rfl, trivial⟩ trivial ?_
          refine G.op3 (op_store1 (cs' := [bI .i64 q_1.To, bI .i64 x10.Client, bS x10.Key, bI .i64 x10.Stamp.N, bI .i64 x10.Stamp.Site, .g (.d (.sl 3 (List.map encApi_Dep x10.Seen)))]) (c := bI .i64 q_1.To) trivial ti3 rfl rfl (Ev.t 52 (.ptr 1010 0)) (Ev.t 51 (bI .i64 q_1.To))) rfl ⟨rfl, rfl, trivial⟩ ⟨rfl, trivial⟩ ?_
          refine G.endOps ?_
          exact G.arr (J13 (q_1.To, x10.Client, x10.Key, x10.Stamp.N, x10.Stamp.Site, x10.Seen) hF) ⟨rfl, rfl, rfl, rfl, rfl, rfl, trivial⟩ ⟨rfl, rfl, rfl, trivial⟩ rfl
        · refine G.cond rfl (fun hx => by rw [hc17] at hx; cases hx) (fun _ => ?_)
          refine G.seq ?_
          refine G.region ?_
          refine G.op1 (op_eqI (Ev.t 34 (bI .i64 (IntKind.wrap .i64 (BitVec.ofInt (IntKind.bits .i64) q_1.What &&& BitVec.ofInt (IntKind.bits .i64) 7).toNat))) (Ev.c _ rfl) rfl) rfl ⟨rfl, trivial⟩ trivial ?_
          refine G.op1 (op_assign (Ev.t 54 (bB (decide ((IntKind.wrap .i64 (BitVec.ofInt (IntKind.bits .i64) q_1.What &&& BitVec.ofInt (IntKind.bits .i64) 7).toNat) = 4)))) rfl) rfl ⟨rfl, trivial⟩ trivial ?_
          refine G.endOps ?_
          refine ifS hF (fun hc18 hF => ?_) (fun hc18 hF => ?_)
          · refine G.cond rfl (fun _ => ?_) (fun hx => by rw [hc18] at hx; cases hx)
            refine G.region ?_
            refine G.op1 (op_fieldP (off' := 2) Try.underlying54 rfl ti3 (by decide) rfl (Ev.t 4 (.ptr 1004 0)) rfl) rfl ⟨rfl, trivial⟩ trivial ?_
            refine G.op1 (op_load1P (c := bI .i64 q_1.To) Try.underlying3 rfl rfl (Ev.t 55 (.ptr 1004 2)) rfl) rfl ⟨rfl, trivial⟩ ⟨rfl, trivial⟩ ?_
            refine G.op1 (op_fieldP (off' := 1) Try.underlying30 rfl ti3 (by decide) rfl (Ev.t 10 (.ptr 1010 0)) rfl) rfl ⟨rfl, trivial⟩ trivial ?_
            refine G.op3 (op_store1 (cs' := [bI .i64 x10.Kind, bI .i64 q_1.To, bS x10.Key, bI .i64 x10.Stamp.N, bI .i64 x10.Stamp.Site, .g (.d (.sl 3 (List.map encApi_Dep x10.Seen)))]) (c := bI .i64 q_1.To) trivial ti3 rfl rfl (Ev.t 57 (.ptr 1010 1)) (Ev.t 56 (bI .i64 q_1.To))) rfl ⟨rfl, rfl, trivial⟩ ⟨rfl, trivial⟩ ?_
            refine G.endOps ?_
            exact G.arr (J13 (x10.Kind, q_1.To, x10.Key, x10.Stamp.N, x10.Stamp.Site, x10.Seen) hF) ⟨rfl, rfl, rfl, rfl, rfl, rfl, trivial⟩ ⟨rfl, rfl, rfl, trivial⟩ rfl
          · refine G.cond rfl (fun hx => by rw [hc18] at hx; cases hx) (fun _ => ?_)
            refine G.seq ?_
            refine G.region ?_
            refine G.op1 (op_eqI (Ev.t 34 (bI .i64 (IntKind.wrap .i64 (BitVec.ofInt (IntKind.bits .i64) q_1.What &&& BitVec.ofInt (IntKind.bits .i64) 7).toNat))) (Ev.c _ rfl) rfl) rfl ⟨rfl, trivial⟩ trivial ?_
            refine G.op1 (op_assign (Ev.t 59 (bB (decide ((IntKind.wrap .i64 (BitVec.ofInt (IntKind.bits .i64) q_1.What &&& BitVec.ofInt (IntKind.bits .i64) 7).toNat) = 5)))) rfl) rfl ⟨rfl, trivial⟩ trivial ?_
            refine G.endOps ?_
            refine ifS hF (fun hc19 hF => ?_) (fun hc19 hF => ?_)
            · refine G.cond rfl (fun _ => ?_) (fun hx => by rw [hc19] at hx; cases hx)
              obtain ⟨r20, hr20, hF⟩ := bindS hF
              obtain ⟨r21, hr21, hF⟩ := bindS hF
              refine G.drawnI (deps := [[], [0], [], [2], [2, 3], [2, 3, 4], [], [6], [6, 7], [2, 3, 4, 5, 6, 7, 8], [0, 1, 2, 3, 4, 5, 6, 7, 8, 9], [0, 1, 2, 3, 4, 5, 6, 7, 8, 9, 10], [0, 1, 2, 3, 4, 5, 6, 7, 8, 9, 10, 11]]) (sl' := [(2, oS key_2), (4, .one (.ptr 1004 0)), (7, oB r1), (8, .one (.own 2013 (List.map encApi_Event r2))), (9, oI (Int.tmod (IntKind.wrap .i64 ((Int.tmod q_1.At (r2.length : Int)) + (r2.length : Int))) (r2.length : Int))), (10, .one (.ptr 1010 0))]) (hp' := [(1004, some (.blk 54 [bI .i64 q_1.At, bI .i64 q_1.What, bI .i64 q_1.To, bS q_1.Dep.Key, bI .i64 q_1.Dep.Stamp.N, bI .i64 q_1.Dep.Stamp.Site])), (1010, some (.blk 30 [bI .i64 x10.Kind, bI .i64 x10.Client, bS x10.Key, bI .i64 x10.Stamp.N, bI .i64 x10.Stamp.Site, .g (.d (.sl 3 (List.map encApi_Dep r21)))])), (2013, some (.row 30 6 (List.map encApi_Event r2) true))]) (.c (oP rfl rfl (op_fieldP (off' := 5) Try.underlying30 rfl ti28 (by decide) rfl (Ev.t 10 (.ptr 1010 0)) rfl)) (.c (oP rfl rfl (op_load1P (c := .g (.d (.sl 3 (List.map encApi_Dep x10.Seen)))) Try.underlying28 rfl rfl (Ev.t 60 (.ptr 1010 5)) rfl)) (.c (oP rfl rfl (op_fieldP (off' := 3) Try.underlying54 rfl ti52 (by decide) rfl (Ev.t 4 (.ptr 1004 0)) rfl)) (.c (oP rfl rfl (op_fieldP (off' := 3) Try.underlying52 rfl ti9 (by decide) rfl (Ev.t 62 (.ptr 1004 3)) rfl)) (.c (oP rfl rfl (op_load1P (c := bS q_1.Dep.Key) Try.underlying9 rfl rfl (Ev.t 63 (.ptr 1004 3)) rfl)) (.c (oP rfl rfl (op_callQ (sv := oS r20) cf22 (ct_law20_short q_1.Dep.Key r20 hr20) rfl rfl (EvQL.cons (EvQ.g (Ev.t 64 (bS q_1.Dep.Key))) EvQL.nil) rfl)) (.c (oP rfl rfl (op_fieldP (off' := 3) Try.underlying54 rfl ti52 (by decide) rfl (Ev.t 4 (.ptr 1004 0)) rfl)) (.c (oP rfl rfl (op_fieldP (off' := 4) Try.underlying52 rfl ti27 (by decide) rfl (Ev.t 66 (.ptr 1004 3)) rfl)) (.c (oP rfl rfl (op_loadAP (ds := [vI q_1.Dep.Stamp.N, vI q_1.Dep.Stamp.Site]) Try.underlying27 rfl ti27 rfl (Ev.t 67 (.ptr 1004 4)) rfl)) (.c (oP rfl rfl (op_build (zs := [vS ByteArray.empty, vI 0, vI 0]) (ds := [vS r20, vI q_1.Dep.Stamp.N, vI q_1.Dep.Stamp.Site]) Try.underlying52 ti52 (pl52 _ Try.underlying52) ⟨.v _ rfl, .v _ rfl, .v _ rfl, trivial⟩ (EvP.cons (Ev.t 65 (bS r20)) (EvP.cons (Ev.t 68 (.g (.agg [vI q_1.Dep.Stamp.N, vI q_1.Dep.Stamp.Site]))) EvP.nil)) rfl rfl)) (.c (oP rfl rfl (op_call (sv := .one (.g (.d (.sl 3 (List.map encApi_Dep r21))))) cf23 (ct_ref04_Add x10.Seen (Api_Dep.mk r20 q_1.Dep.Stamp) r21 hr21) rfl (EvL.cons (Ev.t 61 (.g (.d (.sl 3 (List.map encApi_Dep x10.Seen))))) (EvL.cons (Ev.t 69 (.g (.agg [vS r20, vI q_1.Dep.Stamp.N, vI q_1.Dep.Stamp.Site]))) EvL.nil)) rfl)) (.c (oP rfl rfl (op_fieldP (off' := 5) Try.underlying30 rfl ti28 (by decide) rfl (Ev.t 10 (.ptr 1010 0)) rfl)) (.c (oP rfl rfl (op_store1 (cs' := [bI .i64 x10.Kind, bI .i64 x10.Client, bS x10.Key, bI .i64 x10.Stamp.N, bI .i64 x10.Stamp.Site, .g (.d (.sl 3 (List.map encApi_Dep r21)))]) (c := .g (.d (.sl 3 (List.map encApi_Dep r21)))) trivial ti28 rfl rfl (Ev.t 71 (.ptr 1010 5)) (Ev.t 70 (.g (.d (.sl 3 (List.map encApi_Dep r21))))))) .nil))))))))))))) follows rfl rfl rfl ⟨⟨rfl, trivial⟩, trivial, ⟨rfl, trivial⟩, ⟨⟨rfl, rfl⟩, trivial⟩, ⟨rfl, trivial⟩, trivial, ⟨rfl, trivial⟩, trivial, ⟨rfl, trivial⟩, ⟨⟨rfl, rfl⟩, trivial⟩, ⟨rfl, trivial⟩, trivial, ⟨rfl, trivial⟩, trivial, ⟨rfl, trivial⟩, trivial, ⟨rfl, trivial⟩, ⟨⟨rfl, rfl⟩, trivial⟩, ⟨rfl, rfl, trivial⟩, trivial, ⟨rfl, rfl, trivial⟩, trivial, ⟨rfl, trivial⟩, trivial, ⟨rfl, rfl, trivial⟩, ⟨⟨rfl, rfl⟩, trivial⟩, trivial⟩ ⟨rfl, rfl, rfl, rfl, rfl, rfl, trivial⟩ ⟨rfl, rfl, rfl, trivial⟩ rfl ?_
              exact G.arr (J13 (x10.Kind, x10.Client, x10.Key, x10.Stamp.N, x10.Stamp.Site, r21) hF) ⟨rfl, rfl, rfl, rfl, rfl, rfl, trivial⟩ ⟨rfl, rfl, rfl, trivial⟩ rfl
            · refine G.cond rfl (fun hx => by rw [hc19] at hx; cases hx) (fun _ => ?_)
              refine G.seq ?_
              refine G.region ?_
              refine G.op1 (op_eqI (Ev.t 34 (bI .i64 (IntKind.wrap .i64 (BitVec.ofInt (IntKind.bits .i64) q_1.What &&& BitVec.ofInt (IntKind.bits .i64) 7).toNat))) (Ev.c _ rfl) rfl) rfl ⟨rfl, trivial⟩ trivial ?_
              refine G.op1 (op_assign (Ev.t 73 (bB (decide ((IntKind.wrap .i64 (BitVec.ofInt (IntKind.bits .i64) q_1.What &&& BitVec.ofInt (IntKind.bits .i64) 7).toNat) = 6)))) rfl) rfl ⟨rfl, trivial⟩ trivial ?_
              refine G.endOps ?_
              refine ifS hF (fun hc22 hF => ?_) (fun hc22 hF => ?_)
              · refine G.cond rfl (fun _ => ?_) (fun hx => by rw [hc22] at hx; cases hx)
                refine G.region ?_
                refine G.op1 (op_fieldP (off' := 5) Try.underlying30 rfl ti28 (by decide) rfl (Ev.t 10 (.ptr 1010 0)) rfl) rfl ⟨rfl, trivial⟩ trivial ?_
                refine G.op3 (op_store1 (cs' := [bI .i64 x10.Kind, bI .i64 x10.Client, bS x10.Key, bI .i64 x10.Stamp.N, bI .i64 x10.Stamp.Site, .g (.d (.sl 3 (List.map encApi_Dep ([] : (List Api_Dep)))))]) (c := .g (.d (.sl 3 (List.map encApi_Dep ([] : (List Api_Dep)))))) trivial ti28 rfl rfl (Ev.t 74 (.ptr 1010 5)) (Ev.n 3)) rfl ⟨rfl, trivial⟩ ⟨rfl, trivial⟩ ?_
                refine G.endOps ?_
                exact G.arr (J13 (x10.Kind, x10.Client, x10.Key, x10.Stamp.N, x10.Stamp.Site, ([] : (List Api_Dep))) hF) ⟨rfl, rfl, rfl, rfl, rfl, rfl, trivial⟩ ⟨rfl, rfl, rfl, trivial⟩ rfl
              · refine G.cond rfl (fun hx => by rw [hc22] at hx; cases hx) (fun _ => ?_)
                refine G.skip ?_
                exact G.arr (J13 (x10.Kind, x10.Client, x10.Key, x10.Stamp.N, x10.Stamp.Site, x10.Seen) hF) ⟨rfl, rfl, rfl, rfl, rfl, rfl, trivial⟩ ⟨rfl, rfl, rfl, trivial⟩ rfl
  · refine G.cond rfl (fun hx => by rw [hc7] at hx; cases hx) (fun _ => ?_)
    refine G.skip ?_
    exact G.arr (J6 r2 hF) ⟨rfl, rfl, rfl, rfl, trivial⟩ ⟨rfl, rfl, trivial⟩ rfl


end Go.Ark
