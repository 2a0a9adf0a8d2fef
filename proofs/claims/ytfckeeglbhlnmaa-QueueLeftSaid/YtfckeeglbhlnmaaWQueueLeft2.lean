/- Walks, printed by a program of mine: each function of the program computes the typed function of its name. Conditions: none. -/
import Derived.Test.YtfckeeglbhlnmaaWQueueLeft1
namespace Go.Ark
open Go Go.Ab Go.Proofs

set_option maxRecDepth 20000 in
set_option maxHeartbeats 2000000 in
theorem ct_law14_made (l_0 : (List Law14_Write)) (r : (List Api_Version)) (hF : law14_made l_0 = some r) : Ct Try.prog 10 [.g (.d (.sl 3 (List.map encLaw14_Write l_0)))] (.one (.d (.sl 6 (List.map encApi_Version r)))) := by
  unfold law14_made at hF
  refine Ct.intro Try.func10 rfl Try.ntmps10 rfl rfl fun M w => ?_
  refine G.seq ?_
  refine G.region ?_
  refine G.op1 (op_assign (Ev.n 6) rfl) rfl trivial trivial ?_
  refine G.endOps ?_
  refine G.seq ?_
  refine G.region ?_
  refine G.op2 (op_assignRow (E := 32) (size := 6) (k := 2003) (ex := false) rfl rfl) rfl trivial ⟨rfl, trivial⟩ ?_
  refine G.endOps ?_
  refine G.seq ?_
  refine G.seq ?_
  refine G.region ?_
  refine G.op1 (op_assign (Ev.c _ rfl) rfl) rfl trivial trivial ?_
  refine G.endOps ?_
  refine G.joinC (T := (List Api_Version)) (fun y1 => ⟨[(3, .one (.own 2003 (List.map encApi_Version y1)))], [(2003, some (.row 32 6 (List.map encApi_Version y1) false))]⟩) (fun y1 => law14_made_k1 y1 = some r) (fun y1 hF => ?_) (fun J2 => ?_)
  · unfold law14_made_k1 at hF
    refine G.seq ?_
    refine G.region ?_
    refine G.op1 (op_move (Ev.t 3 (.own 2003 (List.map encApi_Version y1))) rfl) rfl ⟨rfl, trivial⟩ trivial ?_
    refine G.op1 (op_assign (Ev.t 141 (.own 2003 (List.map encApi_Version y1))) rfl) rfl ⟨rfl, trivial⟩ trivial ?_
    refine G.endOps ?_
    refine G.view (t := 2) rfl rfl ?_
    cases hF
    exact G.ret1 Try.results10 (RVar.tmp 2 _) ⟨rfl, trivial⟩ trivial
  refine G.block ?_
  refine G.keep (sl' := [(0, .one (.g (.d (.sl 3 (List.map encLaw14_Write l_0))))), (3, .one (.own 2003 (List.map encApi_Version ([] : (List Api_Version))))), (4, .one (bI .i64 0))]) (hp' := [(2003, some (.row 32 6 (List.map encApi_Version ([] : (List Api_Version))) false))]) ⟨rfl, rfl, rfl, trivial⟩ ⟨rfl, trivial⟩ rfl ?_
  refine G.loopF (fun (v3 : Int × (List Api_Version)) => ⟨[(0, .one (.g (.d (.sl 3 (List.map encLaw14_Write l_0))))), (3, .one (.own 2003 (List.map encApi_Version v3.2))), (4, .one (bI .i64 v3.1))], [(2003, some (.row 32 6 (List.map encApi_Version v3.2) false))]⟩) hF rfl (fun K6 again5 v3 J4 hF => ?_)
  unfold law14_made_l2 at hF
  refine G.seq ?_
  refine G.seq ?_
  refine G.joinC (T := Bool) (fun y7 => ⟨[(0, .one (.g (.d (.sl 3 (List.map encLaw14_Write l_0))))), (3, .one (.own 2003 (List.map encApi_Version v3.2))), (4, .one (bI .i64 v3.1)), (20, .one (bB y7))], [(2003, some (.row 32 6 (List.map encApi_Version v3.2) false))]⟩) (fun y7 => law14_made_k3 l_0 again5 v3 y7 = some r) (fun y7 hF => ?_) (fun J55 => ?_)
  · unfold law14_made_k3 at hF
    refine ifS hF (fun hc8 hF => ?_) (fun hc8 hF => ?_)
    · refine G.cond rfl (fun _ => ?_) (fun hx => by rw [hc8] at hx; cases hx)
      refine G.skip ?_
      refine G.seq ?_
      refine G.joinC (T := (List Api_Version)) (fun y9 => ⟨[(0, .one (.g (.d (.sl 3 (List.map encLaw14_Write l_0))))), (3, .one (.own 2003 (List.map encApi_Version y9))), (4, .one (bI .i64 v3.1))], [(2003, some (.row 32 6 (List.map encApi_Version y9) false))]⟩) (fun y9 => law14_made_k4 again5 v3 y9 = some r) (fun y9 hF => ?_) (fun J10 => ?_)
      · unfold law14_made_k4 at hF
        refine G.region ?_
        refine G.op1 (op_move (Ev.t 4 (bI .i64 v3.1)) rfl) rfl ⟨rfl, trivial⟩ trivial ?_
        refine G.op1 (op_add (Ev.t 21 (bI .i64 v3.1)) (Ev.c _ rfl) rfl) rfl ⟨rfl, trivial⟩ trivial ?_
        refine G.op1 (op_assign (Ev.t 22 (bI .i64 (IntKind.wrap .i64 (v3.1 + 1)))) rfl) rfl ⟨rfl, trivial⟩ trivial ?_
        refine G.endOps ?_
        exact G.arr (J4 (IntKind.wrap .i64 (v3.1 + 1), y9) hF) ⟨rfl, rfl, rfl, trivial⟩ ⟨rfl, trivial⟩ rfl
      refine G.block ?_
      refine G.seq ?_
      refine G.region ?_
      refine G.op1 (op_assign (Ev.n 3) rfl) rfl trivial trivial ?_
      refine G.endOps ?_
      refine G.seq ?_
      refine G.region ?_
      refine G.op1 (op_assign (Ev.c _ rfl) rfl) rfl trivial trivial ?_
      refine G.endOps ?_
      refine G.seq ?_
      refine G.seq ?_
      refine G.region ?_
      refine G.op1 (op_assign (Ev.c _ rfl) rfl) rfl trivial trivial ?_
      refine G.endOps ?_
      refine G.joinC (T := (List Api_Dep)) (fun y11 => ⟨[(0, .one (.g (.d (.sl 3 (List.map encLaw14_Write l_0))))), (3, .one (.own 2003 (List.map encApi_Version v3.2))), (4, .one (bI .i64 v3.1)), (5, .one (.g (.d (.sl 3 (List.map encApi_Dep y11))))), (6, .one (bI .i64 0))], [(2003, some (.row 32 6 (List.map encApi_Version v3.2) false))]⟩) (fun y11 => law14_made_k5 l_0 again5 v3 y11 = some r) (fun y11 hF => ?_) (fun J38 => ?_)
      · unfold law14_made_k5 at hF
        refine G.seq ?_
        refine G.seq ?_
        refine G.region ?_
        refine G.op1 (op_assign (Ev.c _ rfl) rfl) rfl trivial trivial ?_
        refine G.endOps ?_
        refine G.joinC (T := Int) (fun y12 => ⟨[(0, .one (.g (.d (.sl 3 (List.map encLaw14_Write l_0))))), (3, .one (.own 2003 (List.map encApi_Version v3.2))), (4, .one (bI .i64 v3.1)), (5, .one (.g (.d (.sl 3 (List.map encApi_Dep y11))))), (6, .one (bI .i64 y12))], [(2003, some (.row 32 6 (List.map encApi_Version v3.2) false))]⟩) (fun y12 => law14_made_k6 l_0 again5 v3 y11 y12 = some r) (fun y12 hF => ?_) (fun J29 => ?_)
        · unfold law14_made_k6 at hF
          refine G.seq ?_
          obtain ⟨x13, hx13, hF⟩ := bindS hF
          obtain ⟨r14, hr14, hF⟩ := bindS hF
          obtain ⟨x15, hx15, hF⟩ := bindS hF
          refine G.drawn (effs := [⟨[(0, .one (.g (.d (.sl 3 (List.map encLaw14_Write l_0)))))], [], [(91, .one (.g (.d (.sl 3 (List.map encLaw14_Write l_0)))))], []⟩, ⟨[(4, .one (bI .i64 v3.1))], [], [(92, .one (bI .i64 v3.1))], []⟩, ⟨[(91, .one (.g (.d (.sl 3 (List.map encLaw14_Write l_0))))), (92, .one (bI .i64 v3.1))], [], [(93, .one (.ep [.v (.int .i64 x13.Key), .v (.int .i64 x13.Site), .sl 1 (List.map encI_i64 x13.Saw)]))], []⟩, ⟨[(93, .one (.ep [.v (.int .i64 x13.Key), .v (.int .i64 x13.Site), .sl 1 (List.map encI_i64 x13.Saw)]))], [], [(94, .one (.ep [.v (.int .i64 x13.Key), .v (.int .i64 x13.Site), .sl 1 (List.map encI_i64 x13.Saw)]))], []⟩, ⟨[(94, .one (.ep [.v (.int .i64 x13.Key), .v (.int .i64 x13.Site), .sl 1 (List.map encI_i64 x13.Saw)]))], [], [(95, .one (bI .i64 x13.Key))], []⟩, ⟨[(95, .one (bI .i64 x13.Key))], [], [(96, .one (bS r14))], []⟩, ⟨[(6, .one (bI .i64 y12))], [], [(97, .one (bI .i64 y12))], []⟩, ⟨[(97, .one (bI .i64 y12))], [], [(98, .one (bI .i64 (IntKind.wrap .i64 (y12 + 1))))], []⟩, ⟨[(0, .one (.g (.d (.sl 3 (List.map encLaw14_Write l_0)))))], [], [(99, .one (.g (.d (.sl 3 (List.map encLaw14_Write l_0)))))], []⟩, ⟨[(4, .one (bI .i64 v3.1))], [], [(100, .one (bI .i64 v3.1))], []⟩, ⟨[(99, .one (.g (.d (.sl 3 (List.map encLaw14_Write l_0))))), (100, .one (bI .i64 v3.1))], [], [(101, .one (.ep [.v (.int .i64 x15.Key), .v (.int .i64 x15.Site), .sl 1 (List.map encI_i64 x15.Saw)]))], []⟩, ⟨[(101, .one (.ep [.v (.int .i64 x15.Key), .v (.int .i64 x15.Site), .sl 1 (List.map encI_i64 x15.Saw)]))], [], [(102, .one (.ep [.v (.int .i64 x15.Site), .sl 1 (List.map encI_i64 x15.Saw)]))], []⟩, ⟨[(102, .one (.ep [.v (.int .i64 x15.Site), .sl 1 (List.map encI_i64 x15.Saw)]))], [], [(103, .one (bI .i64 x15.Site))], []⟩, ⟨[(103, .one (bI .i64 x15.Site))], [], [(104, .one (bI .i64 (IntKind.wrap .i64 (BitVec.ofInt (IntKind.bits .i64) x15.Site &&& BitVec.ofInt (IntKind.bits .i64) 3).toNat)))], []⟩, ⟨[(98, .one (bI .i64 (IntKind.wrap .i64 (y12 + 1)))), (104, .one (bI .i64 (IntKind.wrap .i64 (BitVec.ofInt (IntKind.bits .i64) x15.Site &&& BitVec.ofInt (IntKind.bits .i64) 3).toNat)))], [], [(105, .one (.g (.agg [.v (.int .i64 (IntKind.wrap .i64 (y12 + 1))), .v (.int .i64 (IntKind.wrap .i64 (BitVec.ofInt (IntKind.bits .i64) x15.Site &&& BitVec.ofInt (IntKind.bits .i64) 3).toNat))])))], []⟩, ⟨[(5, .one (.g (.d (.sl 3 (List.map encApi_Dep y11)))))], [], [(106, .one (.g (.d (.sl 3 (List.map encApi_Dep y11)))))], []⟩, ⟨[(96, .one (bS r14)), (105, .one (.g (.agg [.v (.int .i64 (IntKind.wrap .i64 (y12 + 1))), .v (.int .i64 (IntKind.wrap .i64 (BitVec.ofInt (IntKind.bits .i64) x15.Site &&& BitVec.ofInt (IntKind.bits .i64) 3).toNat))]))), (106, .one (.g (.d (.sl 3 (List.map encApi_Dep y11)))))], [], [(107, .one (.g (.agg [.v (.string r14), .v (.string ByteArray.empty), .v (.bool false), .v (.int .i64 (IntKind.wrap .i64 (y12 + 1))), .v (.int .i64 (IntKind.wrap .i64 (BitVec.ofInt (IntKind.bits .i64) x15.Site &&& BitVec.ofInt (IntKind.bits .i64) 3).toNat)), .sl 3 (List.map encApi_Dep y11)])))], []⟩, ⟨[], [(1010, none)], [(10, .one (.ptr 1010 0))], [(1010, some (.blk 32 [bS ByteArray.empty, bS ByteArray.empty, bB false, bI .i64 0, bI .i64 0, .g (.d (.sl 3 (List.map encApi_Dep ([] : (List Api_Dep)))))]))]⟩, ⟨[(10, .one (.ptr 1010 0)), (107, .one (.g (.agg [.v (.string r14), .v (.string ByteArray.empty), .v (.bool false), .v (.int .i64 (IntKind.wrap .i64 (y12 + 1))), .v (.int .i64 (IntKind.wrap .i64 (BitVec.ofInt (IntKind.bits .i64) x15.Site &&& BitVec.ofInt (IntKind.bits .i64) 3).toNat)), .sl 3 (List.map encApi_Dep y11)])))], [(1010, some (.blk 32 [bS ByteArray.empty, bS ByteArray.empty, bB false, bI .i64 0, bI .i64 0, .g (.d (.sl 3 (List.map encApi_Dep ([] : (List Api_Dep)))))]))], [], [(1010, some (.blk 32 [bS r14, bS ByteArray.empty, bB false, bI .i64 (IntKind.wrap .i64 (y12 + 1)), bI .i64 (IntKind.wrap .i64 (BitVec.ofInt (IntKind.bits .i64) x15.Site &&& BitVec.ofInt (IntKind.bits .i64) 3).toNat), .g (.d (.sl 3 (List.map encApi_Dep y11)))]))]⟩]) (deps := [[], [], [0, 1], [0, 1, 2], [0, 1, 2, 3], [0, 1, 2, 3, 4], [], [6], [], [], [8, 9], [8, 9, 10], [8, 9, 10, 11], [8, 9, 10, 11, 12], [6, 7, 8, 9, 10, 11, 12, 13], [], [0, 1, 2, 3, 4, 5, 6, 7, 8, 9, 10, 11, 12, 13, 14, 15], [], [0, 1, 2, 3, 4, 5, 6, 7, 8, 9, 10, 11, 12, 13, 14, 15, 16, 17]]) (sl' := [(0, .one (.g (.d (.sl 3 (List.map encLaw14_Write l_0))))), (3, .one (.own 2003 (List.map encApi_Version v3.2))), (4, .one (bI .i64 v3.1)), (10, .one (.ptr 1010 0))]) (hp' := [(1010, some (.blk 32 [bS r14, bS ByteArray.empty, bB false, bI .i64 (IntKind.wrap .i64 (y12 + 1)), bI .i64 (IntKind.wrap .i64 (BitVec.ofInt (IntKind.bits .i64) x15.Site &&& BitVec.ofInt (IntKind.bits .i64) 3).toNat), .g (.d (.sl 3 (List.map encApi_Dep y11)))])), (2003, some (.row 32 6 (List.map encApi_Version v3.2) false))]) follows rfl rfl rfl ⟨⟨rfl, trivial⟩, trivial, ⟨rfl, trivial⟩, trivial, ⟨rfl, rfl, trivial⟩, trivial, ⟨rfl, trivial⟩, trivial, ⟨rfl, trivial⟩, trivial, ⟨rfl, trivial⟩, trivial, ⟨rfl, trivial⟩, trivial, ⟨rfl, trivial⟩, trivial, ⟨rfl, trivial⟩, trivial, ⟨rfl, trivial⟩, trivial, ⟨rfl, rfl, trivial⟩, trivial, ⟨rfl, trivial⟩, trivial, ⟨rfl, trivial⟩, trivial, ⟨rfl, trivial⟩, trivial, ⟨rfl, rfl, trivial⟩, trivial, ⟨rfl, trivial⟩, trivial, ⟨rfl, rfl, rfl, trivial⟩, trivial, trivial, ⟨⟨rfl, rfl⟩, trivial⟩, ⟨rfl, rfl, trivial⟩, ⟨⟨rfl, rfl⟩, trivial⟩, trivial⟩ ⟨OpW.plain (op_move (Ev.t 0 (.g (.d (.sl 3 (List.map encLaw14_Write l_0))))) rfl) rfl rfl, OpW.plain (op_move (Ev.t 4 (bI .i64 v3.1)) rfl) rfl rfl, OpW.plain (op_index (cs := [.v (.int .i64 x13.Key), .v (.int .i64 x13.Site), .sl 1 (List.map encI_i64 x13.Saw)]) Try.underlying22 ti70 (idx_ok hx13).1 (idx_get hx13 encLaw14_Write) (Ev.t 91 (.g (.d (.sl 3 (List.map encLaw14_Write l_0))))) (Ev.t 92 (bI .i64 v3.1)) rfl) rfl rfl, OpW.plain (op_fieldE (cs' := [.v (.int .i64 x13.Key), .v (.int .i64 x13.Site), .sl 1 (List.map encI_i64 x13.Saw)]) Try.underlying70 rfl ti3 (by decide) rfl (Ev.t 93 (.ep [.v (.int .i64 x13.Key), .v (.int .i64 x13.Site), .sl 1 (List.map encI_i64 x13.Saw)])) rfl) rfl rfl, OpW.plain (op_load1E (c := .v (.int .i64 x13.Key)) Try.underlying3 rfl rfl (Ev.t 94 (.ep [.v (.int .i64 x13.Key), .v (.int .i64 x13.Site), .sl 1 (List.map encI_i64 x13.Saw)])) rfl) rfl rfl, OpW.plain (op_callQ (sv := .one (bS r14)) cf32 (ct_law14_word x13.Key r14 hr14) rfl rfl (EvQL.cons (EvQ.g (Ev.t 95 (bI .i64 x13.Key))) EvQL.nil) rfl) rfl rfl, OpW.plain (op_move (Ev.t 6 (bI .i64 y12)) rfl) rfl rfl, OpW.plain (op_add (Ev.t 97 (bI .i64 y12)) (Ev.c _ rfl) rfl) rfl rfl, OpW.plain (op_move (Ev.t 0 (.g (.d (.sl 3 (List.map encLaw14_Write l_0))))) rfl) rfl rfl, OpW.plain (op_move (Ev.t 4 (bI .i64 v3.1)) rfl) rfl rfl, OpW.plain (op_index (cs := [.v (.int .i64 x15.Key), .v (.int .i64 x15.Site), .sl 1 (List.map encI_i64 x15.Saw)]) Try.underlying22 ti70 (idx_ok hx15).1 (idx_get hx15 encLaw14_Write) (Ev.t 99 (.g (.d (.sl 3 (List.map encLaw14_Write l_0))))) (Ev.t 100 (bI .i64 v3.1)) rfl) rfl rfl, OpW.plain (op_fieldE (cs' := [.v (.int .i64 x15.Site), .sl 1 (List.map encI_i64 x15.Saw)]) Try.underlying70 rfl ti3 (by decide) rfl (Ev.t 101 (.ep [.v (.int .i64 x15.Key), .v (.int .i64 x15.Site), .sl 1 (List.map encI_i64 x15.Saw)])) rfl) rfl rfl, OpW.plain (op_load1E (c := .v (.int .i64 x15.Site)) Try.underlying3 rfl rfl (Ev.t 102 (.ep [.v (.int .i64 x15.Site), .sl 1 (List.map encI_i64 x15.Saw)])) rfl) rfl rfl, OpW.plain (op_and (Ev.t 103 (bI .i64 x15.Site)) (Ev.c _ rfl) rfl) rfl rfl, OpW.plain (op_build (zs := [.v (.int .i64 0), .v (.int .i64 0)]) (ds := [.v (.int .i64 (IntKind.wrap .i64 (y12 + 1))), .v (.int .i64 (IntKind.wrap .i64 (BitVec.ofInt (IntKind.bits .i64) x15.Site &&& BitVec.ofInt (IntKind.bits .i64) 3).toNat))]) Try.underlying29 ti29 (pl29 _ Try.underlying29) ⟨.v _ rfl, .v _ rfl, trivial⟩ (EvP.cons (Ev.t 98 (bI .i64 (IntKind.wrap .i64 (y12 + 1)))) (EvP.cons (Ev.t 104 (bI .i64 (IntKind.wrap .i64 (BitVec.ofInt (IntKind.bits .i64) x15.Site &&& BitVec.ofInt (IntKind.bits .i64) 3).toNat))) EvP.nil)) rfl rfl) rfl rfl, OpW.plain (op_move (Ev.t 5 (.g (.d (.sl 3 (List.map encApi_Dep y11))))) rfl) rfl rfl, OpW.plain (op_build (zs := [.v (.string ByteArray.empty), .v (.string ByteArray.empty), .v (.bool false), .v (.int .i64 0), .v (.int .i64 0), .sl 3 (List.map encApi_Dep ([] : (List Api_Dep)))]) (ds := [.v (.string r14), .v (.string ByteArray.empty), .v (.bool false), .v (.int .i64 (IntKind.wrap .i64 (y12 + 1))), .v (.int .i64 (IntKind.wrap .i64 (BitVec.ofInt (IntKind.bits .i64) x15.Site &&& BitVec.ofInt (IntKind.bits .i64) 3).toNat)), .sl 3 (List.map encApi_Dep y11)]) Try.underlying32 ti32 (pl32 _ Try.underlying32) ⟨.v _ rfl, .v _ rfl, .v _ rfl, .v _ rfl, .v _ rfl, .n 3, trivial⟩ (EvP.cons (Ev.t 96 (bS r14)) (EvP.cons (Ev.t 105 (.g (.agg [.v (.int .i64 (IntKind.wrap .i64 (y12 + 1))), .v (.int .i64 (IntKind.wrap .i64 (BitVec.ofInt (IntKind.bits .i64) x15.Site &&& BitVec.ofInt (IntKind.bits .i64) 3).toNat))]))) (EvP.cons (Ev.t 106 (.g (.d (.sl 3 (List.map encApi_Dep y11))))) EvP.nil))) rfl rfl) rfl rfl, OpW.plain (op_alloc (k := 1010) (cs := [bS ByteArray.empty, bS ByteArray.empty, bB false, bI .i64 0, bI .i64 0, .g (.d (.sl 3 (List.map encApi_Dep ([] : (List Api_Dep)))))]) ti32 ⟨.v _ rfl, .v _ rfl, .v _ rfl, .v _ rfl, .v _ rfl, .n 3, trivial⟩ rfl) rfl rfl, OpW.plain (op_storeA (cs' := [bS r14, bS ByteArray.empty, bB false, bI .i64 (IntKind.wrap .i64 (y12 + 1)), bI .i64 (IntKind.wrap .i64 (BitVec.ofInt (IntKind.bits .i64) x15.Site &&& BitVec.ofInt (IntKind.bits .i64) 3).toNat), .g (.d (.sl 3 (List.map encApi_Dep y11)))]) ti32 rfl rfl (Ev.t 10 (.ptr 1010 0)) (Ev.t 107 (.g (.agg [.v (.string r14), .v (.string ByteArray.empty), .v (.bool false), .v (.int .i64 (IntKind.wrap .i64 (y12 + 1))), .v (.int .i64 (IntKind.wrap .i64 (BitVec.ofInt (IntKind.bits .i64) x15.Site &&& BitVec.ofInt (IntKind.bits .i64) 3).toNat)), .sl 3 (List.map encApi_Dep y11)])))) rfl rfl, trivial⟩ ⟨rfl, rfl, rfl, rfl, trivial⟩ ⟨rfl, rfl, trivial⟩ rfl ?_
          refine G.seq ?_
          refine G.region ?_
          refine G.op1 (op_assign (Ev.c _ rfl) rfl) rfl trivial trivial ?_
          refine G.endOps ?_
          refine G.seq ?_
          refine G.seq ?_
          refine G.region ?_
          refine G.op1 (op_assign (Ev.c _ rfl) rfl) rfl trivial trivial ?_
          refine G.endOps ?_
          refine G.joinC (T := Bool) (fun y16 => ⟨[(0, .one (.g (.d (.sl 3 (List.map encLaw14_Write l_0))))), (3, .one (.own 2003 (List.map encApi_Version v3.2))), (4, .one (bI .i64 v3.1)), (10, .one (.ptr 1010 0)), (11, .one (bB y16))], [(1010, some (.blk 32 [bS r14, bS ByteArray.empty, bB false, bI .i64 (IntKind.wrap .i64 (y12 + 1)), bI .i64 (IntKind.wrap .i64 (BitVec.ofInt (IntKind.bits .i64) x15.Site &&& BitVec.ofInt (IntKind.bits .i64) 3).toNat), .g (.d (.sl 3 (List.map encApi_Dep y11)))])), (2003, some (.row 32 6 (List.map encApi_Version v3.2) false))]⟩) (fun y16 => law14_made_k7 again5 v3 y11 y12 r14 x15 y16 = some r) (fun y16 hF => ?_) (fun J19 => ?_)
          · unfold law14_made_k7 at hF
            refine G.seq ?_
            refine G.region ?_
            refine G.op1 (op_move (Ev.t 11 (bB y16)) rfl) rfl ⟨rfl, trivial⟩ trivial ?_
            refine G.op1 (op_not (Ev.t 135 (bB y16)) rfl) rfl ⟨rfl, trivial⟩ trivial ?_
            refine G.endOps ?_
            refine ifS hF (fun hc17 hF => ?_) (fun hc17 hF => ?_)
            · refine G.cond rfl (fun _ => ?_) (fun hx => by rw [hc17] at hx; cases hx)
              refine G.region ?_
              refine G.op1 (op_move (Ev.t 3 (.own 2003 (List.map encApi_Version v3.2))) rfl) rfl ⟨rfl, trivial⟩ trivial ?_
              refine G.op1 (op_loadAP (ds := [.v (.string r14), .v (.string ByteArray.empty), .v (.bool false), .v (.int .i64 (IntKind.wrap .i64 (y12 + 1))), .v (.int .i64 (IntKind.wrap .i64 (BitVec.ofInt (IntKind.bits .i64) x15.Site &&& BitVec.ofInt (IntKind.bits .i64) 3).toNat)), .sl 3 (List.map encApi_Dep y11)]) Try.underlying32 rfl ti32 rfl (Ev.t 10 (.ptr 1010 0)) rfl) rfl ⟨rfl, trivial⟩ ⟨rfl, trivial⟩ ?_
              refine G.op1 (op_buildSlice (es := List.map encApi_Version [(Api_Version.mk r14 ByteArray.empty false (Api_Stamp.mk (IntKind.wrap .i64 (y12 + 1)) (IntKind.wrap .i64 (BitVec.ofInt (IntKind.bits .i64) x15.Site &&& BitVec.ofInt (IntKind.bits .i64) 3).toNat)) y11)]) Try.underlying24 ti32 rfl rfl (EvP.cons (Ev.t 138 (.g (.agg [.v (.string r14), .v (.string ByteArray.empty), .v (.bool false), .v (.int .i64 (IntKind.wrap .i64 (y12 + 1))), .v (.int .i64 (IntKind.wrap .i64 (BitVec.ofInt (IntKind.bits .i64) x15.Site &&& BitVec.ofInt (IntKind.bits .i64) 3).toNat)), .sl 3 (List.map encApi_Dep y11)]))) EvP.nil) rfl rfl (by simp [encApi_Version]) rfl) rfl ⟨rfl, trivial⟩ trivial ?_
              obtain ⟨l18, hl18, hF⟩ := bindS hF
              refine G.op2 (op_appendO Try.underlying24 ti32 rfl (app_map hl18 encApi_Version) (app_b1 hl18 encApi_Version) (app_b2 hl18 encApi_Version) (Ev.t 137 (.own 2003 (List.map encApi_Version v3.2))) (Ev.t 139 (.g (.d (.sl 6 (List.map encApi_Version ([(Api_Version.mk r14 ByteArray.empty false (Api_Stamp.mk (IntKind.wrap .i64 (y12 + 1)) (IntKind.wrap .i64 (BitVec.ofInt (IntKind.bits .i64) x15.Site &&& BitVec.ofInt (IntKind.bits .i64) 3).toNat)) y11)])))))) rfl) rfl ⟨rfl, rfl, trivial⟩ ⟨rfl, trivial⟩ ?_
              refine G.op1 (op_assign (Ev.t 140 (.own 2003 (List.map encApi_Version l18))) rfl) rfl ⟨rfl, trivial⟩ trivial ?_
              refine G.endOps ?_
              refine G.endBlock ?_
              exact G.arr (J10 l18 hF) ⟨rfl, rfl, rfl, trivial⟩ ⟨rfl, trivial⟩ rfl
            · refine G.cond rfl (fun hx => by rw [hc17] at hx; cases hx) (fun _ => ?_)
              refine G.skip ?_
              refine G.endBlock ?_
              exact G.arr (J10 v3.2 hF) ⟨rfl, rfl, rfl, trivial⟩ ⟨rfl, trivial⟩ rfl
          refine G.block ?_
          refine G.keep (sl' := [(0, .one (.g (.d (.sl 3 (List.map encLaw14_Write l_0))))), (3, .one (.own 2003 (List.map encApi_Version v3.2))), (4, .one (bI .i64 v3.1)), (10, .one (.ptr 1010 0)), (11, .one (bB false)), (12, .one (bI .i64 0))]) (hp' := [(1010, some (.blk 32 [bS r14, bS ByteArray.empty, bB false, bI .i64 (IntKind.wrap .i64 (y12 + 1)), bI .i64 (IntKind.wrap .i64 (BitVec.ofInt (IntKind.bits .i64) x15.Site &&& BitVec.ofInt (IntKind.bits .i64) 3).toNat), .g (.d (.sl 3 (List.map encApi_Dep y11)))])), (2003, some (.row 32 6 (List.map encApi_Version v3.2) false))]) ⟨rfl, rfl, rfl, rfl, rfl, rfl, trivial⟩ ⟨rfl, rfl, trivial⟩ rfl ?_
          refine G.loopF (fun (v20 : Bool × Int) => ⟨[(0, .one (.g (.d (.sl 3 (List.map encLaw14_Write l_0))))), (3, .one (.own 2003 (List.map encApi_Version v3.2))), (4, .one (bI .i64 v3.1)), (10, .one (.ptr 1010 0)), (11, .one (bB v20.1)), (12, .one (bI .i64 v20.2))], [(1010, some (.blk 32 [bS r14, bS ByteArray.empty, bB false, bI .i64 (IntKind.wrap .i64 (y12 + 1)), bI .i64 (IntKind.wrap .i64 (BitVec.ofInt (IntKind.bits .i64) x15.Site &&& BitVec.ofInt (IntKind.bits .i64) 3).toNat), .g (.d (.sl 3 (List.map encApi_Dep y11)))])), (2003, some (.row 32 6 (List.map encApi_Version v3.2) false))]⟩) hF rfl (fun K23 again22 v20 J21 hF => ?_)
          unfold law14_made_l8 at hF
          refine G.seq ?_
          refine G.seq ?_
          refine G.region ?_
          refine G.op1 (op_move (Ev.t 12 (bI .i64 v20.2)) rfl) rfl ⟨rfl, trivial⟩ trivial ?_
          refine G.op1 (op_move (Ev.t 3 (.own 2003 (List.map encApi_Version v3.2))) rfl) rfl ⟨rfl, trivial⟩ trivial ?_
          refine G.op1 (OpL.cast (op_lenO Try.underlying24 (Ev.t 109 (.own 2003 (List.map encApi_Version v3.2))) rfl) (by rw [List.length_map])) rfl ⟨rfl, trivial⟩ ⟨rfl, trivial⟩ ?_
          refine G.op1 (op_lss (Ev.t 108 (bI .i64 v20.2)) (Ev.t 110 (bI .i64 (v3.2.length : Int))) rfl) rfl ⟨rfl, rfl, trivial⟩ trivial ?_
          refine G.endOps ?_
          refine ifS hF (fun hc24 hF => ?_) (fun hc24 hF => ?_)
          · refine G.cond rfl (fun _ => ?_) (fun hx => by rw [hc24] at hx; cases hx)
            refine G.skip ?_
            refine G.seq ?_
            refine G.block ?_
            refine ifS hF (fun hc25 hF => ?_) (fun hc25 hF => ?_)
            · refine G.known (t := 11) (c := true) hc25 rfl ?_
              refine G.drawn (effs := [⟨[(11, .one (bB true))], [], [(114, .one (bB true))], []⟩, ⟨[(114, .one (bB true))], [], [(115, .one (bB true))], []⟩, ⟨[(115, .one (bB true))], [], [(116, .one (.x Go.undef))], []⟩, ⟨[(115, .one (bB true))], [], [(117, .one (.x Go.undef))], []⟩, ⟨[(115, .one (bB true))], [], [(118, .one (.x Go.undef))], []⟩, ⟨[(115, .one (bB true))], [], [(119, .one (.x Go.undef))], []⟩, ⟨[(115, .one (bB true))], [], [(120, .one (.x Go.undef))], []⟩, ⟨[(115, .one (bB true))], [], [(121, .one (.x Go.undef))], []⟩, ⟨[(115, .one (bB true))], [], [(122, .one (.x Go.undef))], []⟩, ⟨[(115, .one (bB true))], [], [(123, .one (.x Go.undef))], []⟩, ⟨[(115, .one (bB true))], [], [(124, .one (.x Go.undef))], []⟩, ⟨[(124, .one (.x Go.undef))], [], [(125, .one (.x Go.undef))], []⟩, ⟨[(124, .one (.x Go.undef))], [], [(126, .one (.x Go.undef))], []⟩, ⟨[(124, .one (.x Go.undef))], [], [(127, .one (.x Go.undef))], []⟩, ⟨[(124, .one (.x Go.undef))], [], [(128, .one (.x Go.undef))], []⟩, ⟨[(124, .one (.x Go.undef))], [], [(129, .one (.x Go.undef))], []⟩, ⟨[(124, .one (.x Go.undef))], [], [(130, .one (.x Go.undef))], []⟩, ⟨[(124, .one (.x Go.undef))], [], [(131, .one (.x Go.undef))], []⟩, ⟨[(124, .one (.x Go.undef))], [], [(132, .one (.x Go.undef))], []⟩, ⟨[(115, .one (bB true))], [], [(133, .one (.x Go.undef))], []⟩, ⟨[(115, .one (bB true))], [], [(134, .one (bB true))], []⟩, ⟨[(134, .one (bB true))], [], [(11, .one (bB true))], []⟩]) (deps := [[], [0], [0, 1], [0, 1], [0, 1, 2, 3], [0, 1, 2, 3, 4], [0, 1, 2, 3, 4, 5], [0, 1], [0, 1, 7], [0, 1, 2, 3, 4, 5, 6, 7, 8], [0, 1, 2, 3, 4, 5, 6, 7, 8, 9], [0, 1, 2, 3, 4, 5, 6, 7, 8, 9, 10], [0, 1, 2, 3, 4, 5, 6, 7, 8, 9, 10], [0, 1, 2, 3, 4, 5, 6, 7, 8, 9, 10, 11, 12], [0, 1, 2, 3, 4, 5, 6, 7, 8, 9, 10, 11, 12, 13], [0, 1, 2, 3, 4, 5, 6, 7, 8, 9, 10, 11, 12, 13, 14], [0, 1, 2, 3, 4, 5, 6, 7, 8, 9, 10], [0, 1, 2, 3, 4, 5, 6, 7, 8, 9, 10, 16], [0, 1, 2, 3, 4, 5, 6, 7, 8, 9, 10, 11, 12, 13, 14, 15, 16, 17], [0, 1, 2, 3, 4, 5, 6, 7, 8, 9, 10, 11, 12, 13, 14, 15, 16, 17, 18], [0, 1, 2, 3, 4, 5, 6, 7, 8, 9, 10, 11, 12, 13, 14, 15, 16, 17, 18, 19], [0, 1, 2, 3, 4, 5, 6, 7, 8, 9, 10, 11, 12, 13, 14, 15, 16, 17, 18, 19, 20]]) (sl' := [(0, .one (.g (.d (.sl 3 (List.map encLaw14_Write l_0))))), (3, .one (.own 2003 (List.map encApi_Version v3.2))), (4, .one (bI .i64 v3.1)), (10, .one (.ptr 1010 0)), (11, .one (bB true)), (12, .one (bI .i64 v20.2))]) (hp' := [(1010, some (.blk 32 [bS r14, bS ByteArray.empty, bB false, bI .i64 (IntKind.wrap .i64 (y12 + 1)), bI .i64 (IntKind.wrap .i64 (BitVec.ofInt (IntKind.bits .i64) x15.Site &&& BitVec.ofInt (IntKind.bits .i64) 3).toNat), .g (.d (.sl 3 (List.map encApi_Dep y11)))])), (2003, some (.row 32 6 (List.map encApi_Version v3.2) false))]) follows rfl rfl rfl ⟨⟨⟨rfl, rfl⟩, trivial⟩, trivial, ⟨rfl, trivial⟩, trivial, ⟨rfl, trivial⟩, trivial, ⟨rfl, trivial⟩, trivial, ⟨rfl, trivial⟩, trivial, ⟨rfl, trivial⟩, trivial, ⟨rfl, trivial⟩, trivial, ⟨rfl, trivial⟩, trivial, ⟨rfl, trivial⟩, trivial, ⟨rfl, trivial⟩, trivial, ⟨rfl, trivial⟩, trivial, ⟨rfl, trivial⟩, trivial, ⟨rfl, trivial⟩, trivial, ⟨rfl, trivial⟩, trivial, ⟨rfl, trivial⟩, trivial, ⟨rfl, trivial⟩, trivial, ⟨rfl, trivial⟩, trivial, ⟨rfl, trivial⟩, trivial, ⟨rfl, trivial⟩, trivial, ⟨rfl, trivial⟩, trivial, ⟨rfl, trivial⟩, trivial, ⟨rfl, trivial⟩, trivial, trivial⟩ ⟨OpW.plain (op_move (Ev.t 11 (bB true)) rfl) rfl rfl, OpW.plain (op_move (Ev.t 114 (bB true)) rfl) rfl rfl, OpW.no rfl rfl rfl rfl rfl, OpW.no rfl rfl rfl rfl rfl, OpW.no rfl rfl rfl rfl rfl, OpW.no rfl rfl rfl rfl rfl, OpW.no rfl rfl rfl rfl rfl, OpW.no rfl rfl rfl rfl rfl, OpW.no rfl rfl rfl rfl rfl, OpW.no rfl rfl rfl rfl rfl, OpW.no rfl rfl rfl rfl rfl, OpW.un rfl rfl rfl rfl, OpW.un rfl rfl rfl rfl, OpW.un rfl rfl rfl rfl, OpW.un rfl rfl rfl rfl, OpW.un rfl rfl rfl rfl, OpW.un rfl rfl rfl rfl, OpW.un rfl rfl rfl rfl, OpW.un rfl rfl rfl rfl, OpW.no rfl rfl rfl rfl rfl, OpW.plain (op_pickT (Ev.t 115 (bB true)) (Ev.c _ rfl) rfl) rfl rfl, OpW.plain (op_assign (Ev.t 134 (bB true)) rfl) rfl rfl, trivial⟩ ⟨rfl, rfl, rfl, rfl, rfl, rfl, trivial⟩ ⟨rfl, rfl, trivial⟩ rfl ?_
              refine G.endBlock ?_
              refine G.region ?_
              refine G.op1 (op_move (Ev.t 12 (bI .i64 v20.2)) rfl) rfl ⟨rfl, trivial⟩ trivial ?_
              refine G.op1 (op_add (Ev.t 112 (bI .i64 v20.2)) (Ev.c _ rfl) rfl) rfl ⟨rfl, trivial⟩ trivial ?_
              refine G.op1 (op_assign (Ev.t 113 (bI .i64 (IntKind.wrap .i64 (v20.2 + 1)))) rfl) rfl ⟨rfl, trivial⟩ trivial ?_
              refine G.endOps ?_
              exact G.arr (J21 (true, IntKind.wrap .i64 (v20.2 + 1)) hF) ⟨rfl, rfl, rfl, rfl, rfl, rfl, trivial⟩ ⟨rfl, rfl, trivial⟩ rfl
            · refine G.known (t := 11) (c := false) hc25 rfl ?_
              obtain ⟨x26, hx26, hF⟩ := bindS hF
              refine ifS hF (fun hc27 hF => ?_) (fun hc27 hF => ?_)
              · obtain ⟨x28, hx28, hF⟩ := bindS hF
                refine G.drawn (effs := [⟨[(11, .one (bB false))], [], [(114, .one (bB false))], []⟩, ⟨[(114, .one (bB false))], [], [(115, .one (bB false))], []⟩, ⟨[(115, .one (bB false)), (3, .one (.own 2003 (List.map encApi_Version v3.2)))], [(2003, some (.row 32 6 (List.map encApi_Version v3.2) false))], [(116, .one (.g (.d (.sl 6 (List.map encApi_Version v3.2)))))], []⟩, ⟨[(115, .one (bB false)), (12, .one (bI .i64 v20.2))], [], [(117, .one (bI .i64 v20.2))], []⟩, ⟨[(115, .one (bB false)), (116, .one (.g (.d (.sl 6 (List.map encApi_Version v3.2))))), (117, .one (bI .i64 v20.2))], [], [(118, .one (.ep [.v (.string x26.Key), .v (.string x26.Value), .v (.bool x26.Gone), .v (.int .i64 x26.Stamp.N), .v (.int .i64 x26.Stamp.Site), .sl 3 (List.map encApi_Dep x26.Past)]))], []⟩, ⟨[(115, .one (bB false)), (118, .one (.ep [.v (.string x26.Key), .v (.string x26.Value), .v (.bool x26.Gone), .v (.int .i64 x26.Stamp.N), .v (.int .i64 x26.Stamp.Site), .sl 3 (List.map encApi_Dep x26.Past)]))], [], [(119, .one (.ep [.v (.string x26.Key), .v (.string x26.Value), .v (.bool x26.Gone), .v (.int .i64 x26.Stamp.N), .v (.int .i64 x26.Stamp.Site), .sl 3 (List.map encApi_Dep x26.Past)]))], []⟩, ⟨[(115, .one (bB false)), (119, .one (.ep [.v (.string x26.Key), .v (.string x26.Value), .v (.bool x26.Gone), .v (.int .i64 x26.Stamp.N), .v (.int .i64 x26.Stamp.Site), .sl 3 (List.map encApi_Dep x26.Past)]))], [], [(120, .one (bS x26.Key))], []⟩, ⟨[(115, .one (bB false)), (10, .one (.ptr 1010 0))], [], [(121, .one (.ptr 1010 0))], []⟩, ⟨[(115, .one (bB false)), (121, .one (.ptr 1010 0))], [(1010, some (.blk 32 [bS r14, bS ByteArray.empty, bB false, bI .i64 (IntKind.wrap .i64 (y12 + 1)), bI .i64 (IntKind.wrap .i64 (BitVec.ofInt (IntKind.bits .i64) x15.Site &&& BitVec.ofInt (IntKind.bits .i64) 3).toNat), .g (.d (.sl 3 (List.map encApi_Dep y11)))]))], [(122, .one (bS r14))], []⟩, ⟨[(115, .one (bB false)), (120, .one (bS x26.Key)), (122, .one (bS r14))], [], [(123, .one (bB true))], []⟩, ⟨[(115, .one (bB false)), (123, .one (bB true))], [], [(124, .one (bB true))], []⟩, ⟨[(124, .one (bB true)), (3, .one (.own 2003 (List.map encApi_Version v3.2)))], [(2003, some (.row 32 6 (List.map encApi_Version v3.2) false))], [(125, .one (.g (.d (.sl 6 (List.map encApi_Version v3.2)))))], []⟩, ⟨[(124, .one (bB true)), (12, .one (bI .i64 v20.2))], [], [(126, .one (bI .i64 v20.2))], []⟩, ⟨[(124, .one (bB true)), (125, .one (.g (.d (.sl 6 (List.map encApi_Version v3.2))))), (126, .one (bI .i64 v20.2))], [], [(127, .one (.ep [.v (.string x28.Key), .v (.string x28.Value), .v (.bool x28.Gone), .v (.int .i64 x28.Stamp.N), .v (.int .i64 x28.Stamp.Site), .sl 3 (List.map encApi_Dep x28.Past)]))], []⟩, ⟨[(124, .one (bB true)), (127, .one (.ep [.v (.string x28.Key), .v (.string x28.Value), .v (.bool x28.Gone), .v (.int .i64 x28.Stamp.N), .v (.int .i64 x28.Stamp.Site), .sl 3 (List.map encApi_Dep x28.Past)]))], [], [(128, .one (.ep [.v (.int .i64 x28.Stamp.N), .v (.int .i64 x28.Stamp.Site), .sl 3 (List.map encApi_Dep x28.Past)]))], []⟩, ⟨[(124, .one (bB true)), (128, .one (.ep [.v (.int .i64 x28.Stamp.N), .v (.int .i64 x28.Stamp.Site), .sl 3 (List.map encApi_Dep x28.Past)]))], [], [(129, .one (.g (.agg [.v (.int .i64 x28.Stamp.N), .v (.int .i64 x28.Stamp.Site)])))], []⟩, ⟨[(124, .one (bB true)), (10, .one (.ptr 1010 0))], [], [(130, .one (.ptr 1010 3))], []⟩, ⟨[(124, .one (bB true)), (130, .one (.ptr 1010 3))], [(1010, some (.blk 32 [bS r14, bS ByteArray.empty, bB false, bI .i64 (IntKind.wrap .i64 (y12 + 1)), bI .i64 (IntKind.wrap .i64 (BitVec.ofInt (IntKind.bits .i64) x15.Site &&& BitVec.ofInt (IntKind.bits .i64) 3).toNat), .g (.d (.sl 3 (List.map encApi_Dep y11)))]))], [(131, .one (.g (.agg [.v (.int .i64 (IntKind.wrap .i64 (y12 + 1))), .v (.int .i64 (IntKind.wrap .i64 (BitVec.ofInt (IntKind.bits .i64) x15.Site &&& BitVec.ofInt (IntKind.bits .i64) 3).toNat))])))], []⟩, ⟨[(124, .one (bB true)), (129, .one (.g (.agg [.v (.int .i64 x28.Stamp.N), .v (.int .i64 x28.Stamp.Site)]))), (131, .one (.g (.agg [.v (.int .i64 (IntKind.wrap .i64 (y12 + 1))), .v (.int .i64 (IntKind.wrap .i64 (BitVec.ofInt (IntKind.bits .i64) x15.Site &&& BitVec.ofInt (IntKind.bits .i64) 3).toNat))])))], [], [(132, .one (bB (decide (x28.Stamp.N = IntKind.wrap .i64 (y12 + 1)) && decide (x28.Stamp.Site = IntKind.wrap .i64 (BitVec.ofInt (IntKind.bits .i64) x15.Site &&& BitVec.ofInt (IntKind.bits .i64) 3).toNat))))], []⟩, ⟨[(115, .one (bB false)), (124, .one (bB true)), (132, .one (bB (decide (x28.Stamp.N = IntKind.wrap .i64 (y12 + 1)) && decide (x28.Stamp.Site = IntKind.wrap .i64 (BitVec.ofInt (IntKind.bits .i64) x15.Site &&& BitVec.ofInt (IntKind.bits .i64) 3).toNat))))], [], [(133, .one (bB (decide (x28.Stamp.N = IntKind.wrap .i64 (y12 + 1)) && decide (x28.Stamp.Site = IntKind.wrap .i64 (BitVec.ofInt (IntKind.bits .i64) x15.Site &&& BitVec.ofInt (IntKind.bits .i64) 3).toNat))))], []⟩, ⟨[(115, .one (bB false)), (133, .one (bB (decide (x28.Stamp.N = IntKind.wrap .i64 (y12 + 1)) && decide (x28.Stamp.Site = IntKind.wrap .i64 (BitVec.ofInt (IntKind.bits .i64) x15.Site &&& BitVec.ofInt (IntKind.bits .i64) 3).toNat))))], [], [(134, .one (bB (decide (x28.Stamp.N = IntKind.wrap .i64 (y12 + 1)) && decide (x28.Stamp.Site = IntKind.wrap .i64 (BitVec.ofInt (IntKind.bits .i64) x15.Site &&& BitVec.ofInt (IntKind.bits .i64) 3).toNat))))], []⟩, ⟨[(134, .one (bB (decide (x28.Stamp.N = IntKind.wrap .i64 (y12 + 1)) && decide (x28.Stamp.Site = IntKind.wrap .i64 (BitVec.ofInt (IntKind.bits .i64) x15.Site &&& BitVec.ofInt (IntKind.bits .i64) 3).toNat))))], [], [(11, .one (bB (decide (x28.Stamp.N = IntKind.wrap .i64 (y12 + 1)) && decide (x28.Stamp.Site = IntKind.wrap .i64 (BitVec.ofInt (IntKind.bits .i64) x15.Site &&& BitVec.ofInt (IntKind.bits .i64) 3).toNat))))], []⟩]) (deps := [[], [0], [0, 1], [0, 1], [0, 1, 2, 3], [0, 1, 2, 3, 4], [0, 1, 2, 3, 4, 5], [0, 1], [0, 1, 7], [0, 1, 2, 3, 4, 5, 6, 7, 8], [0, 1, 2, 3, 4, 5, 6, 7, 8, 9], [0, 1, 2, 3, 4, 5, 6, 7, 8, 9, 10], [0, 1, 2, 3, 4, 5, 6, 7, 8, 9, 10], [0, 1, 2, 3, 4, 5, 6, 7, 8, 9, 10, 11, 12], [0, 1, 2, 3, 4, 5, 6, 7, 8, 9, 10, 11, 12, 13], [0, 1, 2, 3, 4, 5, 6, 7, 8, 9, 10, 11, 12, 13, 14], [0, 1, 2, 3, 4, 5, 6, 7, 8, 9, 10], [0, 1, 2, 3, 4, 5, 6, 7, 8, 9, 10, 16], [0, 1, 2, 3, 4, 5, 6, 7, 8, 9, 10, 11, 12, 13, 14, 15, 16, 17], [0, 1, 2, 3, 4, 5, 6, 7, 8, 9, 10, 11, 12, 13, 14, 15, 16, 17, 18], [0, 1, 2, 3, 4, 5, 6, 7, 8, 9, 10, 11, 12, 13, 14, 15, 16, 17, 18, 19], [0, 1, 2, 3, 4, 5, 6, 7, 8, 9, 10, 11, 12, 13, 14, 15, 16, 17, 18, 19, 20]]) (sl' := [(0, .one (.g (.d (.sl 3 (List.map encLaw14_Write l_0))))), (3, .one (.own 2003 (List.map encApi_Version v3.2))), (4, .one (bI .i64 v3.1)), (10, .one (.ptr 1010 0)), (11, .one (bB (decide (x28.Stamp.N = IntKind.wrap .i64 (y12 + 1)) && decide (x28.Stamp.Site = IntKind.wrap .i64 (BitVec.ofInt (IntKind.bits .i64) x15.Site &&& BitVec.ofInt (IntKind.bits .i64) 3).toNat)))), (12, .one (bI .i64 v20.2))]) (hp' := [(1010, some (.blk 32 [bS r14, bS ByteArray.empty, bB false, bI .i64 (IntKind.wrap .i64 (y12 + 1)), bI .i64 (IntKind.wrap .i64 (BitVec.ofInt (IntKind.bits .i64) x15.Site &&& BitVec.ofInt (IntKind.bits .i64) 3).toNat), .g (.d (.sl 3 (List.map encApi_Dep y11)))])), (2003, some (.row 32 6 (List.map encApi_Version v3.2) false))]) follows rfl rfl rfl ⟨⟨⟨rfl, rfl⟩, trivial⟩, trivial, ⟨rfl, trivial⟩, trivial, ⟨rfl, rfl, trivial⟩, ⟨⟨rfl, rfl⟩, trivial⟩, ⟨rfl, rfl, trivial⟩, trivial, ⟨rfl, rfl, rfl, trivial⟩, trivial, ⟨rfl, rfl, trivial⟩, trivial, ⟨rfl, rfl, trivial⟩, trivial, ⟨rfl, rfl, trivial⟩, trivial, ⟨rfl, rfl, trivial⟩, ⟨⟨rfl, rfl⟩, trivial⟩, ⟨rfl, rfl, rfl, trivial⟩, trivial, ⟨rfl, rfl, trivial⟩, trivial, ⟨rfl, rfl, trivial⟩, ⟨⟨rfl, rfl⟩, trivial⟩, ⟨rfl, rfl, trivial⟩, trivial, ⟨rfl, rfl, rfl, trivial⟩, trivial, ⟨rfl, rfl, trivial⟩, trivial, ⟨rfl, rfl, trivial⟩, trivial, ⟨rfl, rfl, trivial⟩, trivial, ⟨rfl, rfl, trivial⟩, ⟨⟨rfl, rfl⟩, trivial⟩, ⟨rfl, rfl, rfl, trivial⟩, trivial, ⟨rfl, rfl, rfl, trivial⟩, trivial, ⟨rfl, rfl, trivial⟩, trivial, ⟨rfl, trivial⟩, trivial, trivial⟩ ⟨OpW.plain (op_move (Ev.t 11 (bB false)) rfl) rfl rfl, OpW.plain (op_move (Ev.t 114 (bB false)) rfl) rfl rfl, OpW.yes (op_moveView (T := 32) (size := 6) rfl) rfl rfl rfl, OpW.yes (op_move (Ev.t 12 (bI .i64 v20.2)) rfl) rfl rfl rfl, OpW.yes (op_index (cs := [.v (.string x26.Key), .v (.string x26.Value), .v (.bool x26.Gone), .v (.int .i64 x26.Stamp.N), .v (.int .i64 x26.Stamp.Site), .sl 3 (List.map encApi_Dep x26.Past)]) Try.underlying24 ti32 (idx_ok hx26).1 (idx_get hx26 encApi_Version) (Ev.t 116 (.g (.d (.sl 6 (List.map encApi_Version v3.2))))) (Ev.t 117 (bI .i64 v20.2)) rfl) rfl rfl rfl, OpW.yes (op_fieldE (cs' := [.v (.string x26.Key), .v (.string x26.Value), .v (.bool x26.Gone), .v (.int .i64 x26.Stamp.N), .v (.int .i64 x26.Stamp.Site), .sl 3 (List.map encApi_Dep x26.Past)]) Try.underlying32 rfl ti9 (by decide) rfl (Ev.t 118 (.ep [.v (.string x26.Key), .v (.string x26.Value), .v (.bool x26.Gone), .v (.int .i64 x26.Stamp.N), .v (.int .i64 x26.Stamp.Site), .sl 3 (List.map encApi_Dep x26.Past)])) rfl) rfl rfl rfl, OpW.yes (op_load1E (c := .v (.string x26.Key)) Try.underlying9 rfl rfl (Ev.t 119 (.ep [.v (.string x26.Key), .v (.string x26.Value), .v (.bool x26.Gone), .v (.int .i64 x26.Stamp.N), .v (.int .i64 x26.Stamp.Site), .sl 3 (List.map encApi_Dep x26.Past)])) rfl) rfl rfl rfl, OpW.yes (op_fieldP (off' := 0) Try.underlying32 rfl ti9 (by decide) rfl (Ev.t 10 (.ptr 1010 0)) rfl) rfl rfl rfl, OpW.yes (op_load1P (c := bS r14) Try.underlying9 rfl rfl (Ev.t 121 (.ptr 1010 0)) rfl) rfl rfl rfl, OpW.yes (OpL.cast (op_eqS (Ev.t 120 (bS x26.Key)) (Ev.t 122 (bS r14)) rfl) (congrArg (fun b => bB b) hc27)) rfl rfl rfl, OpW.yes (op_move (Ev.t 123 (bB true)) rfl) rfl rfl rfl, OpW.yes (op_moveView (T := 32) (size := 6) rfl) rfl rfl rfl, OpW.yes (op_move (Ev.t 12 (bI .i64 v20.2)) rfl) rfl rfl rfl, OpW.yes (op_index (cs := [.v (.string x28.Key), .v (.string x28.Value), .v (.bool x28.Gone), .v (.int .i64 x28.Stamp.N), .v (.int .i64 x28.Stamp.Site), .sl 3 (List.map encApi_Dep x28.Past)]) Try.underlying24 ti32 (idx_ok hx28).1 (idx_get hx28 encApi_Version) (Ev.t 125 (.g (.d (.sl 6 (List.map encApi_Version v3.2))))) (Ev.t 126 (bI .i64 v20.2)) rfl) rfl rfl rfl, OpW.yes (op_fieldE (cs' := [.v (.int .i64 x28.Stamp.N), .v (.int .i64 x28.Stamp.Site), .sl 3 (List.map encApi_Dep x28.Past)]) Try.underlying32 rfl ti29 (by decide) rfl (Ev.t 127 (.ep [.v (.string x28.Key), .v (.string x28.Value), .v (.bool x28.Gone), .v (.int .i64 x28.Stamp.N), .v (.int .i64 x28.Stamp.Site), .sl 3 (List.map encApi_Dep x28.Past)])) rfl) rfl rfl rfl, OpW.yes (op_loadAE (ds := [.v (.int .i64 x28.Stamp.N), .v (.int .i64 x28.Stamp.Site)]) Try.underlying29 rfl ti29 rfl (Ev.t 128 (.ep [.v (.int .i64 x28.Stamp.N), .v (.int .i64 x28.Stamp.Site), .sl 3 (List.map encApi_Dep x28.Past)])) rfl) rfl rfl rfl, OpW.yes (op_fieldP (off' := 3) Try.underlying32 rfl ti29 (by decide) rfl (Ev.t 10 (.ptr 1010 0)) rfl) rfl rfl rfl, OpW.yes (op_loadAP (ds := [.v (.int .i64 (IntKind.wrap .i64 (y12 + 1))), .v (.int .i64 (IntKind.wrap .i64 (BitVec.ofInt (IntKind.bits .i64) x15.Site &&& BitVec.ofInt (IntKind.bits .i64) 3).toNat))]) Try.underlying29 rfl ti29 rfl (Ev.t 130 (.ptr 1010 3)) rfl) rfl rfl rfl, OpW.yes (op_eqA (us := [.int .i64 x28.Stamp.N, .int .i64 x28.Stamp.Site]) (vs := [.int .i64 (IntKind.wrap .i64 (y12 + 1)), .int .i64 (IntKind.wrap .i64 (BitVec.ofInt (IntKind.bits .i64) x15.Site &&& BitVec.ofInt (IntKind.bits .i64) 3).toNat)]) rfl rfl Try.eqGuardType29 (fun w => eq29 x28.Stamp.N x28.Stamp.Site (IntKind.wrap .i64 (y12 + 1)) (IntKind.wrap .i64 (BitVec.ofInt (IntKind.bits .i64) x15.Site &&& BitVec.ofInt (IntKind.bits .i64) 3).toNat) w) (Ev.t 129 (.g (.agg [.v (.int .i64 x28.Stamp.N), .v (.int .i64 x28.Stamp.Site)]))) (Ev.t 131 (.g (.agg [.v (.int .i64 (IntKind.wrap .i64 (y12 + 1))), .v (.int .i64 (IntKind.wrap .i64 (BitVec.ofInt (IntKind.bits .i64) x15.Site &&& BitVec.ofInt (IntKind.bits .i64) 3).toNat))]))) rfl) rfl rfl rfl, OpW.yes (op_pickT (Ev.t 124 (bB true)) (Ev.t 132 (bB (decide (x28.Stamp.N = IntKind.wrap .i64 (y12 + 1)) && decide (x28.Stamp.Site = IntKind.wrap .i64 (BitVec.ofInt (IntKind.bits .i64) x15.Site &&& BitVec.ofInt (IntKind.bits .i64) 3).toNat)))) rfl) rfl rfl rfl, OpW.plain (op_pickF (Ev.t 115 (bB false)) (Ev.t 133 (bB (decide (x28.Stamp.N = IntKind.wrap .i64 (y12 + 1)) && decide (x28.Stamp.Site = IntKind.wrap .i64 (BitVec.ofInt (IntKind.bits .i64) x15.Site &&& BitVec.ofInt (IntKind.bits .i64) 3).toNat)))) rfl) rfl rfl, OpW.plain (op_assign (Ev.t 134 (bB (decide (x28.Stamp.N = IntKind.wrap .i64 (y12 + 1)) && decide (x28.Stamp.Site = IntKind.wrap .i64 (BitVec.ofInt (IntKind.bits .i64) x15.Site &&& BitVec.ofInt (IntKind.bits .i64) 3).toNat)))) rfl) rfl rfl, trivial⟩ ⟨rfl, rfl, rfl, rfl, rfl, rfl, trivial⟩ ⟨rfl, rfl, trivial⟩ rfl ?_
                refine G.endBlock ?_
                refine G.region ?_
                refine G.op1 (op_move (Ev.t 12 (bI .i64 v20.2)) rfl) rfl ⟨rfl, trivial⟩ trivial ?_
                refine G.op1 (op_add (Ev.t 112 (bI .i64 v20.2)) (Ev.c _ rfl) rfl) rfl ⟨rfl, trivial⟩ trivial ?_
                refine G.op1 (op_assign (Ev.t 113 (bI .i64 (IntKind.wrap .i64 (v20.2 + 1)))) rfl) rfl ⟨rfl, trivial⟩ trivial ?_
                refine G.endOps ?_
                exact G.arr (J21 ((decide (x28.Stamp.N = IntKind.wrap .i64 (y12 + 1)) && decide (x28.Stamp.Site = IntKind.wrap .i64 (BitVec.ofInt (IntKind.bits .i64) x15.Site &&& BitVec.ofInt (IntKind.bits .i64) 3).toNat)), IntKind.wrap .i64 (v20.2 + 1)) hF) ⟨rfl, rfl, rfl, rfl, rfl, rfl, trivial⟩ ⟨rfl, rfl, trivial⟩ rfl
              · refine G.drawn (effs := [⟨[(11, .one (bB false))], [], [(114, .one (bB false))], []⟩, ⟨[(114, .one (bB false))], [], [(115, .one (bB false))], []⟩, ⟨[(115, .one (bB false)), (3, .one (.own 2003 (List.map encApi_Version v3.2)))], [(2003, some (.row 32 6 (List.map encApi_Version v3.2) false))], [(116, .one (.g (.d (.sl 6 (List.map encApi_Version v3.2)))))], []⟩, ⟨[(115, .one (bB false)), (12, .one (bI .i64 v20.2))], [], [(117, .one (bI .i64 v20.2))], []⟩, ⟨[(115, .one (bB false)), (116, .one (.g (.d (.sl 6 (List.map encApi_Version v3.2))))), (117, .one (bI .i64 v20.2))], [], [(118, .one (.ep [.v (.string x26.Key), .v (.string x26.Value), .v (.bool x26.Gone), .v (.int .i64 x26.Stamp.N), .v (.int .i64 x26.Stamp.Site), .sl 3 (List.map encApi_Dep x26.Past)]))], []⟩, ⟨[(115, .one (bB false)), (118, .one (.ep [.v (.string x26.Key), .v (.string x26.Value), .v (.bool x26.Gone), .v (.int .i64 x26.Stamp.N), .v (.int .i64 x26.Stamp.Site), .sl 3 (List.map encApi_Dep x26.Past)]))], [], [(119, .one (.ep [.v (.string x26.Key), .v (.string x26.Value), .v (.bool x26.Gone), .v (.int .i64 x26.Stamp.N), .v (.int .i64 x26.Stamp.Site), .sl 3 (List.map encApi_Dep x26.Past)]))], []⟩, ⟨[(115, .one (bB false)), (119, .one (.ep [.v (.string x26.Key), .v (.string x26.Value), .v (.bool x26.Gone), .v (.int .i64 x26.Stamp.N), .v (.int .i64 x26.Stamp.Site), .sl 3 (List.map encApi_Dep x26.Past)]))], [], [(120, .one (bS x26.Key))], []⟩, ⟨[(115, .one (bB false)), (10, .one (.ptr 1010 0))], [], [(121, .one (.ptr 1010 0))], []⟩, ⟨[(115, .one (bB false)), (121, .one (.ptr 1010 0))], [(1010, some (.blk 32 [bS r14, bS ByteArray.empty, bB false, bI .i64 (IntKind.wrap .i64 (y12 + 1)), bI .i64 (IntKind.wrap .i64 (BitVec.ofInt (IntKind.bits .i64) x15.Site &&& BitVec.ofInt (IntKind.bits .i64) 3).toNat), .g (.d (.sl 3 (List.map encApi_Dep y11)))]))], [(122, .one (bS r14))], []⟩, ⟨[(115, .one (bB false)), (120, .one (bS x26.Key)), (122, .one (bS r14))], [], [(123, .one (bB false))], []⟩, ⟨[(115, .one (bB false)), (123, .one (bB false))], [], [(124, .one (bB false))], []⟩, ⟨[(124, .one (bB false))], [], [(125, .one (.x Go.undef))], []⟩, ⟨[(124, .one (bB false))], [], [(126, .one (.x Go.undef))], []⟩, ⟨[(124, .one (bB false))], [], [(127, .one (.x Go.undef))], []⟩, ⟨[(124, .one (bB false))], [], [(128, .one (.x Go.undef))], []⟩, ⟨[(124, .one (bB false))], [], [(129, .one (.x Go.undef))], []⟩, ⟨[(124, .one (bB false))], [], [(130, .one (.x Go.undef))], []⟩, ⟨[(124, .one (bB false))], [], [(131, .one (.x Go.undef))], []⟩, ⟨[(124, .one (bB false))], [], [(132, .one (.x Go.undef))], []⟩, ⟨[(115, .one (bB false)), (124, .one (bB false))], [], [(133, .one (bB false))], []⟩, ⟨[(115, .one (bB false)), (133, .one (bB false))], [], [(134, .one (bB false))], []⟩, ⟨[(134, .one (bB false))], [], [(11, .one (bB false))], []⟩]) (deps := [[], [0], [0, 1], [0, 1], [0, 1, 2, 3], [0, 1, 2, 3, 4], [0, 1, 2, 3, 4, 5], [0, 1], [0, 1, 7], [0, 1, 2, 3, 4, 5, 6, 7, 8], [0, 1, 2, 3, 4, 5, 6, 7, 8, 9], [0, 1, 2, 3, 4, 5, 6, 7, 8, 9, 10], [0, 1, 2, 3, 4, 5, 6, 7, 8, 9, 10], [0, 1, 2, 3, 4, 5, 6, 7, 8, 9, 10, 11, 12], [0, 1, 2, 3, 4, 5, 6, 7, 8, 9, 10, 11, 12, 13], [0, 1, 2, 3, 4, 5, 6, 7, 8, 9, 10, 11, 12, 13, 14], [0, 1, 2, 3, 4, 5, 6, 7, 8, 9, 10], [0, 1, 2, 3, 4, 5, 6, 7, 8, 9, 10, 16], [0, 1, 2, 3, 4, 5, 6, 7, 8, 9, 10, 11, 12, 13, 14, 15, 16, 17], [0, 1, 2, 3, 4, 5, 6, 7, 8, 9, 10, 11, 12, 13, 14, 15, 16, 17, 18], [0, 1, 2, 3, 4, 5, 6, 7, 8, 9, 10, 11, 12, 13, 14, 15, 16, 17, 18, 19], [0, 1, 2, 3, 4, 5, 6, 7, 8, 9, 10, 11, 12, 13, 14, 15, 16, 17, 18, 19, 20]]) (sl' := [(0, .one (.g (.d (.sl 3 (List.map encLaw14_Write l_0))))), (3, .one (.own 2003 (List.map encApi_Version v3.2))), (4, .one (bI .i64 v3.1)), (10, .one (.ptr 1010 0)), (11, .one (bB false)), (12, .one (bI .i64 v20.2))]) (hp' := [(1010, some (.blk 32 [bS r14, bS ByteArray.empty, bB false, bI .i64 (IntKind.wrap .i64 (y12 + 1)), bI .i64 (IntKind.wrap .i64 (BitVec.ofInt (IntKind.bits .i64) x15.Site &&& BitVec.ofInt (IntKind.bits .i64) 3).toNat), .g (.d (.sl 3 (List.map encApi_Dep y11)))])), (2003, some (.row 32 6 (List.map encApi_Version v3.2) false))]) follows rfl rfl rfl ⟨⟨⟨rfl, rfl⟩, trivial⟩, trivial, ⟨rfl, trivial⟩, trivial, ⟨rfl, rfl, trivial⟩, ⟨⟨rfl, rfl⟩, trivial⟩, ⟨rfl, rfl, trivial⟩, trivial, ⟨rfl, rfl, rfl, trivial⟩, trivial, ⟨rfl, rfl, trivial⟩, trivial, ⟨rfl, rfl, trivial⟩, trivial, ⟨rfl, rfl, trivial⟩, trivial, ⟨rfl, rfl, trivial⟩, ⟨⟨rfl, rfl⟩, trivial⟩, ⟨rfl, rfl, rfl, trivial⟩, trivial, ⟨rfl, rfl, trivial⟩, trivial, ⟨rfl, trivial⟩, trivial, ⟨rfl, trivial⟩, trivial, ⟨rfl, trivial⟩, trivial, ⟨rfl, trivial⟩, trivial, ⟨rfl, trivial⟩, trivial, ⟨rfl, trivial⟩, trivial, ⟨rfl, trivial⟩, trivial, ⟨rfl, trivial⟩, trivial, ⟨rfl, rfl, trivial⟩, trivial, ⟨rfl, rfl, trivial⟩, trivial, ⟨rfl, trivial⟩, trivial, trivial⟩ ⟨OpW.plain (op_move (Ev.t 11 (bB false)) rfl) rfl rfl, OpW.plain (op_move (Ev.t 114 (bB false)) rfl) rfl rfl, OpW.yes (op_moveView (T := 32) (size := 6) rfl) rfl rfl rfl, OpW.yes (op_move (Ev.t 12 (bI .i64 v20.2)) rfl) rfl rfl rfl, OpW.yes (op_index (cs := [.v (.string x26.Key), .v (.string x26.Value), .v (.bool x26.Gone), .v (.int .i64 x26.Stamp.N), .v (.int .i64 x26.Stamp.Site), .sl 3 (List.map encApi_Dep x26.Past)]) Try.underlying24 ti32 (idx_ok hx26).1 (idx_get hx26 encApi_Version) (Ev.t 116 (.g (.d (.sl 6 (List.map encApi_Version v3.2))))) (Ev.t 117 (bI .i64 v20.2)) rfl) rfl rfl rfl, OpW.yes (op_fieldE (cs' := [.v (.string x26.Key), .v (.string x26.Value), .v (.bool x26.Gone), .v (.int .i64 x26.Stamp.N), .v (.int .i64 x26.Stamp.Site), .sl 3 (List.map encApi_Dep x26.Past)]) Try.underlying32 rfl ti9 (by decide) rfl (Ev.t 118 (.ep [.v (.string x26.Key), .v (.string x26.Value), .v (.bool x26.Gone), .v (.int .i64 x26.Stamp.N), .v (.int .i64 x26.Stamp.Site), .sl 3 (List.map encApi_Dep x26.Past)])) rfl) rfl rfl rfl, OpW.yes (op_load1E (c := .v (.string x26.Key)) Try.underlying9 rfl rfl (Ev.t 119 (.ep [.v (.string x26.Key), .v (.string x26.Value), .v (.bool x26.Gone), .v (.int .i64 x26.Stamp.N), .v (.int .i64 x26.Stamp.Site), .sl 3 (List.map encApi_Dep x26.Past)])) rfl) rfl rfl rfl, OpW.yes (op_fieldP (off' := 0) Try.underlying32 rfl ti9 (by decide) rfl (Ev.t 10 (.ptr 1010 0)) rfl) rfl rfl rfl, OpW.yes (op_load1P (c := bS r14) Try.underlying9 rfl rfl (Ev.t 121 (.ptr 1010 0)) rfl) rfl rfl rfl, OpW.yes (OpL.cast (op_eqS (Ev.t 120 (bS x26.Key)) (Ev.t 122 (bS r14)) rfl) (congrArg (fun b => bB b) hc27)) rfl rfl rfl, OpW.yes (op_move (Ev.t 123 (bB false)) rfl) rfl rfl rfl, OpW.no rfl rfl rfl rfl rfl, OpW.no rfl rfl rfl rfl rfl, OpW.no rfl rfl rfl rfl rfl, OpW.no rfl rfl rfl rfl rfl, OpW.no rfl rfl rfl rfl rfl, OpW.no rfl rfl rfl rfl rfl, OpW.no rfl rfl rfl rfl rfl, OpW.no rfl rfl rfl rfl rfl, OpW.yes (op_pickF (Ev.t 124 (bB false)) (Ev.c _ rfl) rfl) rfl rfl rfl, OpW.plain (op_pickF (Ev.t 115 (bB false)) (Ev.t 133 (bB false)) rfl) rfl rfl, OpW.plain (op_assign (Ev.t 134 (bB false)) rfl) rfl rfl, trivial⟩ ⟨rfl, rfl, rfl, rfl, rfl, rfl, trivial⟩ ⟨rfl, rfl, trivial⟩ rfl ?_
                refine G.endBlock ?_
                refine G.region ?_
                refine G.op1 (op_move (Ev.t 12 (bI .i64 v20.2)) rfl) rfl ⟨rfl, trivial⟩ trivial ?_
                refine G.op1 (op_add (Ev.t 112 (bI .i64 v20.2)) (Ev.c _ rfl) rfl) rfl ⟨rfl, trivial⟩ trivial ?_
                refine G.op1 (op_assign (Ev.t 113 (bI .i64 (IntKind.wrap .i64 (v20.2 + 1)))) rfl) rfl ⟨rfl, trivial⟩ trivial ?_
                refine G.endOps ?_
                exact G.arr (J21 (false, IntKind.wrap .i64 (v20.2 + 1)) hF) ⟨rfl, rfl, rfl, rfl, rfl, rfl, trivial⟩ ⟨rfl, rfl, trivial⟩ rfl
          · refine G.cond rfl (fun hx => by rw [hc24] at hx; cases hx) (fun _ => ?_)
            refine G.exit ?_
            refine GX.c ?_
            refine GX.q ?_
            refine GX.bYes ?_
            exact G.arr (J19 v20.1 hF) ⟨rfl, rfl, rfl, rfl, rfl, trivial⟩ ⟨rfl, rfl, trivial⟩ rfl
        refine G.block ?_
        refine G.keep (sl' := [(0, .one (.g (.d (.sl 3 (List.map encLaw14_Write l_0))))), (3, .one (.own 2003 (List.map encApi_Version v3.2))), (4, .one (bI .i64 v3.1)), (5, .one (.g (.d (.sl 3 (List.map encApi_Dep y11))))), (6, .one (bI .i64 0)), (9, .one (bI .i64 0))]) (hp' := [(2003, some (.row 32 6 (List.map encApi_Version v3.2) false))]) ⟨rfl, rfl, rfl, rfl, rfl, rfl, trivial⟩ ⟨rfl, trivial⟩ rfl ?_
        refine G.loopF (fun (v30 : Int × Int) => ⟨[(0, .one (.g (.d (.sl 3 (List.map encLaw14_Write l_0))))), (3, .one (.own 2003 (List.map encApi_Version v3.2))), (4, .one (bI .i64 v3.1)), (5, .one (.g (.d (.sl 3 (List.map encApi_Dep y11))))), (6, .one (bI .i64 v30.1)), (9, .one (bI .i64 v30.2))], [(2003, some (.row 32 6 (List.map encApi_Version v3.2) false))]⟩) hF rfl (fun K33 again32 v30 J31 hF => ?_)
        unfold law14_made_l9 at hF
        refine G.seq ?_
        refine G.seq ?_
        refine G.region ?_
        refine G.op1 (op_move (Ev.t 9 (bI .i64 v30.2)) rfl) rfl ⟨rfl, trivial⟩ trivial ?_
        refine G.op1 (op_move (Ev.t 5 (.g (.d (.sl 3 (List.map encApi_Dep y11))))) rfl) rfl ⟨rfl, trivial⟩ trivial ?_
        refine G.op1 (OpL.cast (op_lenD Try.underlying30 (Ev.t 72 (.g (.d (.sl 3 (List.map encApi_Dep y11))))) rfl) (by rw [List.length_map])) rfl ⟨rfl, trivial⟩ trivial ?_
        refine G.op1 (op_lss (Ev.t 71 (bI .i64 v30.2)) (Ev.t 73 (bI .i64 (y11.length : Int))) rfl) rfl ⟨rfl, rfl, trivial⟩ trivial ?_
        refine G.endOps ?_
        refine ifS hF (fun hc34 hF => ?_) (fun hc34 hF => ?_)
        · refine G.cond rfl (fun _ => ?_) (fun hx => by rw [hc34] at hx; cases hx)
          refine G.skip ?_
          refine G.seq ?_
          refine G.block ?_
          refine G.seq ?_
          refine G.region ?_
          refine G.op1 (op_move (Ev.t 5 (.g (.d (.sl 3 (List.map encApi_Dep y11))))) rfl) rfl ⟨rfl, trivial⟩ trivial ?_
          refine G.op1 (op_move (Ev.t 9 (bI .i64 v30.2)) rfl) rfl ⟨rfl, trivial⟩ trivial ?_
          obtain ⟨x35, hx35, hF⟩ := bindS hF
          refine G.op1 (op_index (cs := [.v (.string x35.Key), .v (.int .i64 x35.Stamp.N), .v (.int .i64 x35.Stamp.Site)]) Try.underlying30 ti39 (idx_ok hx35).1 (idx_get hx35 encApi_Dep) (Ev.t 77 (.g (.d (.sl 3 (List.map encApi_Dep y11))))) (Ev.t 78 (bI .i64 v30.2)) rfl) rfl ⟨rfl, rfl, trivial⟩ trivial ?_
          refine G.op1 (op_fieldE (cs' := [.v (.int .i64 x35.Stamp.N), .v (.int .i64 x35.Stamp.Site)]) Try.underlying39 rfl ti29 (by decide) rfl (Ev.t 79 (.ep [.v (.string x35.Key), .v (.int .i64 x35.Stamp.N), .v (.int .i64 x35.Stamp.Site)])) rfl) rfl ⟨rfl, trivial⟩ trivial ?_
          refine G.op1 (op_fieldE (cs' := [.v (.int .i64 x35.Stamp.N), .v (.int .i64 x35.Stamp.Site)]) Try.underlying29 rfl ti3 (by decide) rfl (Ev.t 80 (.ep [.v (.int .i64 x35.Stamp.N), .v (.int .i64 x35.Stamp.Site)])) rfl) rfl ⟨rfl, trivial⟩ trivial ?_
          refine G.op1 (op_load1E (c := .v (.int .i64 x35.Stamp.N)) Try.underlying3 rfl rfl (Ev.t 81 (.ep [.v (.int .i64 x35.Stamp.N), .v (.int .i64 x35.Stamp.Site)])) rfl) rfl ⟨rfl, trivial⟩ trivial ?_
          refine G.op1 (op_move (Ev.t 6 (bI .i64 v30.1)) rfl) rfl ⟨rfl, trivial⟩ trivial ?_
          refine G.op1 (op_gtr (Ev.t 82 (bI .i64 x35.Stamp.N)) (Ev.t 83 (bI .i64 v30.1)) rfl) rfl ⟨rfl, rfl, trivial⟩ trivial ?_
          refine G.endOps ?_
          refine ifS hF (fun hc36 hF => ?_) (fun hc36 hF => ?_)
          · refine G.cond rfl (fun _ => ?_) (fun hx => by rw [hc36] at hx; cases hx)
            refine G.region ?_
            refine G.op1 (op_move (Ev.t 5 (.g (.d (.sl 3 (List.map encApi_Dep y11))))) rfl) rfl ⟨rfl, trivial⟩ trivial ?_
            refine G.op1 (op_move (Ev.t 9 (bI .i64 v30.2)) rfl) rfl ⟨rfl, trivial⟩ trivial ?_
            obtain ⟨x37, hx37, hF⟩ := bindS hF
            refine G.op1 (op_index (cs := [.v (.string x37.Key), .v (.int .i64 x37.Stamp.N), .v (.int .i64 x37.Stamp.Site)]) Try.underlying30 ti39 (idx_ok hx37).1 (idx_get hx37 encApi_Dep) (Ev.t 85 (.g (.d (.sl 3 (List.map encApi_Dep y11))))) (Ev.t 86 (bI .i64 v30.2)) rfl) rfl ⟨rfl, rfl, trivial⟩ trivial ?_
            refine G.op1 (op_fieldE (cs' := [.v (.int .i64 x37.Stamp.N), .v (.int .i64 x37.Stamp.Site)]) Try.underlying39 rfl ti29 (by decide) rfl (Ev.t 87 (.ep [.v (.string x37.Key), .v (.int .i64 x37.Stamp.N), .v (.int .i64 x37.Stamp.Site)])) rfl) rfl ⟨rfl, trivial⟩ trivial ?_
            refine G.op1 (op_fieldE (cs' := [.v (.int .i64 x37.Stamp.N), .v (.int .i64 x37.Stamp.Site)]) Try.underlying29 rfl ti3 (by decide) rfl (Ev.t 88 (.ep [.v (.int .i64 x37.Stamp.N), .v (.int .i64 x37.Stamp.Site)])) rfl) rfl ⟨rfl, trivial⟩ trivial ?_
            refine G.op1 (op_load1E (c := .v (.int .i64 x37.Stamp.N)) Try.underlying3 rfl rfl (Ev.t 89 (.ep [.v (.int .i64 x37.Stamp.N), .v (.int .i64 x37.Stamp.Site)])) rfl) rfl ⟨rfl, trivial⟩ trivial ?_
            refine G.op1 (op_assign (Ev.t 90 (bI .i64 x37.Stamp.N)) rfl) rfl ⟨rfl, trivial⟩ trivial ?_
            refine G.endOps ?_
            refine G.endBlock ?_
            refine G.region ?_
            refine G.op1 (op_move (Ev.t 9 (bI .i64 v30.2)) rfl) rfl ⟨rfl, trivial⟩ trivial ?_
            refine G.op1 (op_add (Ev.t 75 (bI .i64 v30.2)) (Ev.c _ rfl) rfl) rfl ⟨rfl, trivial⟩ trivial ?_
            refine G.op1 (op_assign (Ev.t 76 (bI .i64 (IntKind.wrap .i64 (v30.2 + 1)))) rfl) rfl ⟨rfl, trivial⟩ trivial ?_
            refine G.endOps ?_
            exact G.arr (J31 (x37.Stamp.N, IntKind.wrap .i64 (v30.2 + 1)) hF) ⟨rfl, rfl, rfl, rfl, rfl, rfl, trivial⟩ ⟨rfl, trivial⟩ rfl
          · refine G.cond rfl (fun hx => by rw [hc36] at hx; cases hx) (fun _ => ?_)
            refine G.skip ?_
            refine G.endBlock ?_
            refine G.region ?_
            refine G.op1 (op_move (Ev.t 9 (bI .i64 v30.2)) rfl) rfl ⟨rfl, trivial⟩ trivial ?_
            refine G.op1 (op_add (Ev.t 75 (bI .i64 v30.2)) (Ev.c _ rfl) rfl) rfl ⟨rfl, trivial⟩ trivial ?_
            refine G.op1 (op_assign (Ev.t 76 (bI .i64 (IntKind.wrap .i64 (v30.2 + 1)))) rfl) rfl ⟨rfl, trivial⟩ trivial ?_
            refine G.endOps ?_
            exact G.arr (J31 (v30.1, IntKind.wrap .i64 (v30.2 + 1)) hF) ⟨rfl, rfl, rfl, rfl, rfl, rfl, trivial⟩ ⟨rfl, trivial⟩ rfl
        · refine G.cond rfl (fun hx => by rw [hc34] at hx; cases hx) (fun _ => ?_)
          refine G.exit ?_
          refine GX.c ?_
          refine GX.q ?_
          refine GX.bYes ?_
          exact G.arr (J29 v30.1 hF) ⟨rfl, rfl, rfl, rfl, rfl, trivial⟩ ⟨rfl, trivial⟩ rfl
      refine G.block ?_
      refine G.keep (sl' := [(0, .one (.g (.d (.sl 3 (List.map encLaw14_Write l_0))))), (3, .one (.own 2003 (List.map encApi_Version v3.2))), (4, .one (bI .i64 v3.1)), (5, .one (.g (.d (.sl 3 (List.map encApi_Dep ([] : (List Api_Dep))))))), (6, .one (bI .i64 0)), (7, .one (bI .i64 0))]) (hp' := [(2003, some (.row 32 6 (List.map encApi_Version v3.2) false))]) ⟨rfl, rfl, rfl, rfl, rfl, rfl, trivial⟩ ⟨rfl, trivial⟩ rfl ?_
      refine G.loopF (fun (v39 : (List Api_Dep) × Int) => ⟨[(0, .one (.g (.d (.sl 3 (List.map encLaw14_Write l_0))))), (3, .one (.own 2003 (List.map encApi_Version v3.2))), (4, .one (bI .i64 v3.1)), (5, .one (.g (.d (.sl 3 (List.map encApi_Dep v39.1))))), (6, .one (bI .i64 0)), (7, .one (bI .i64 v39.2))], [(2003, some (.row 32 6 (List.map encApi_Version v3.2) false))]⟩) hF rfl (fun K42 again41 v39 J40 hF => ?_)
      unfold law14_made_l10 at hF
      refine G.seq ?_
      refine G.seq ?_
      refine G.joinC (T := Bool) (fun y43 => ⟨[(0, .one (.g (.d (.sl 3 (List.map encLaw14_Write l_0))))), (3, .one (.own 2003 (List.map encApi_Version v3.2))), (4, .one (bI .i64 v3.1)), (5, .one (.g (.d (.sl 3 (List.map encApi_Dep v39.1))))), (6, .one (bI .i64 0)), (7, .one (bI .i64 v39.2)), (34, .one (bB y43))], [(2003, some (.row 32 6 (List.map encApi_Version v3.2) false))]⟩) (fun y43 => law14_made_k11 l_0 again5 v3 again41 v39 y43 = some r) (fun y43 hF => ?_) (fun J52 => ?_)
      · unfold law14_made_k11 at hF
        refine ifS hF (fun hc44 hF => ?_) (fun hc44 hF => ?_)
        · refine G.cond rfl (fun _ => ?_) (fun hx => by rw [hc44] at hx; cases hx)
          refine G.skip ?_
          refine G.seq ?_
          refine G.block ?_
          refine G.seq ?_
          refine G.region ?_
          refine G.op1 (op_move (Ev.t 3 (.own 2003 (List.map encApi_Version v3.2))) rfl) rfl ⟨rfl, trivial⟩ trivial ?_
          refine G.op1 (OpL.cast (op_lenO Try.underlying24 (Ev.t 37 (.own 2003 (List.map encApi_Version v3.2))) rfl) (by rw [List.length_map])) rfl ⟨rfl, trivial⟩ ⟨rfl, trivial⟩ ?_
          refine G.op1 (op_gtr (Ev.t 38 (bI .i64 (v3.2.length : Int))) (Ev.c _ rfl) rfl) rfl ⟨rfl, trivial⟩ trivial ?_
          refine G.endOps ?_
          refine ifS hF (fun hc45 hF => ?_) (fun hc45 hF => ?_)
          · refine G.cond rfl (fun _ => ?_) (fun hx => by rw [hc45] at hx; cases hx)
            refine G.seq ?_
            refine G.region ?_
            refine G.op1 (op_move (Ev.t 3 (.own 2003 (List.map encApi_Version v3.2))) rfl) rfl ⟨rfl, trivial⟩ trivial ?_
            refine G.op1 (op_move (Ev.t 0 (.g (.d (.sl 3 (List.map encLaw14_Write l_0))))) rfl) rfl ⟨rfl, trivial⟩ trivial ?_
            refine G.op1 (op_move (Ev.t 4 (bI .i64 v3.1)) rfl) rfl ⟨rfl, trivial⟩ trivial ?_
            obtain ⟨x46, hx46, hF⟩ := bindS hF
            refine G.op1 (op_index (cs := [.v (.int .i64 x46.Key), .v (.int .i64 x46.Site), .sl 1 (List.map encI_i64 x46.Saw)]) Try.underlying22 ti70 (idx_ok hx46).1 (idx_get hx46 encLaw14_Write) (Ev.t 41 (.g (.d (.sl 3 (List.map encLaw14_Write l_0))))) (Ev.t 42 (bI .i64 v3.1)) rfl) rfl ⟨rfl, rfl, trivial⟩ trivial ?_
            refine G.op1 (op_fieldE (cs' := [.sl 1 (List.map encI_i64 x46.Saw)]) Try.underlying70 rfl ti55 (by decide) rfl (Ev.t 43 (.ep [.v (.int .i64 x46.Key), .v (.int .i64 x46.Site), .sl 1 (List.map encI_i64 x46.Saw)])) rfl) rfl ⟨rfl, trivial⟩ trivial ?_
            refine G.op1 (op_load1E (c := .sl 1 (List.map encI_i64 x46.Saw)) Try.underlying55 rfl rfl (Ev.t 44 (.ep [.sl 1 (List.map encI_i64 x46.Saw)])) rfl) rfl ⟨rfl, trivial⟩ trivial ?_
            refine G.op1 (op_move (Ev.t 7 (bI .i64 v39.2)) rfl) rfl ⟨rfl, trivial⟩ trivial ?_
            obtain ⟨x47, hx47, hF⟩ := bindS hF
            refine G.op1 (op_index (cs := [.v (.int .i64 x47)]) Try.underlying55 ti3 (idx_ok hx47).1 (idx_get hx47 encI_i64) (Ev.t 45 (.g (.d (.sl 1 (List.map encI_i64 x46.Saw))))) (Ev.t 46 (bI .i64 v39.2)) rfl) rfl ⟨rfl, rfl, trivial⟩ trivial ?_
            refine G.op1 (op_load1E (c := .v (.int .i64 x47)) Try.underlying3 rfl rfl (Ev.t 47 (.ep [.v (.int .i64 x47)])) rfl) rfl ⟨rfl, trivial⟩ trivial ?_
            refine G.op1 (op_move (Ev.t 3 (.own 2003 (List.map encApi_Version v3.2))) rfl) rfl ⟨rfl, trivial⟩ trivial ?_
            refine G.op1 (OpL.cast (op_lenO Try.underlying24 (Ev.t 49 (.own 2003 (List.map encApi_Version v3.2))) rfl) (by rw [List.length_map])) rfl ⟨rfl, trivial⟩ ⟨rfl, trivial⟩ ?_
            obtain ⟨hz48, hF⟩ := chkS hF
            refine G.op1 (op_rem (by simpa using hz48) (Ev.t 48 (bI .i64 x47)) (Ev.t 50 (bI .i64 (v3.2.length : Int))) rfl) rfl ⟨rfl, rfl, trivial⟩ trivial ?_
            refine G.op1 (op_move (Ev.t 3 (.own 2003 (List.map encApi_Version v3.2))) rfl) rfl ⟨rfl, trivial⟩ trivial ?_
            refine G.op1 (OpL.cast (op_lenO Try.underlying24 (Ev.t 52 (.own 2003 (List.map encApi_Version v3.2))) rfl) (by rw [List.length_map])) rfl ⟨rfl, trivial⟩ ⟨rfl, trivial⟩ ?_
            refine G.op1 (op_add (Ev.t 51 (bI .i64 (Int.tmod x47 (v3.2.length : Int)))) (Ev.t 53 (bI .i64 (v3.2.length : Int))) rfl) rfl ⟨rfl, rfl, trivial⟩ trivial ?_
            refine G.op1 (op_move (Ev.t 3 (.own 2003 (List.map encApi_Version v3.2))) rfl) rfl ⟨rfl, trivial⟩ trivial ?_
            refine G.op1 (OpL.cast (op_lenO Try.underlying24 (Ev.t 55 (.own 2003 (List.map encApi_Version v3.2))) rfl) (by rw [List.length_map])) rfl ⟨rfl, trivial⟩ ⟨rfl, trivial⟩ ?_
            obtain ⟨hz49, hF⟩ := chkS hF
            refine G.op1 (op_rem (by simpa using hz49) (Ev.t 54 (bI .i64 (IntKind.wrap .i64 ((Int.tmod x47 (v3.2.length : Int)) + (v3.2.length : Int))))) (Ev.t 56 (bI .i64 (v3.2.length : Int))) rfl) rfl ⟨rfl, rfl, trivial⟩ trivial ?_
            refine G.view (t := 40) rfl rfl ?_
            obtain ⟨x50, hx50, hF⟩ := bindS hF
            refine G.op1 (op_index (cs := [.v (.string x50.Key), .v (.string x50.Value), .v (.bool x50.Gone), .v (.int .i64 x50.Stamp.N), .v (.int .i64 x50.Stamp.Site), .sl 3 (List.map encApi_Dep x50.Past)]) Try.underlying24 ti32 (idx_ok hx50).1 (idx_get hx50 encApi_Version) (Ev.t 40 (.g (.d (.sl 6 (List.map encApi_Version v3.2))))) (Ev.t 57 (bI .i64 (Int.tmod (IntKind.wrap .i64 ((Int.tmod x47 (v3.2.length : Int)) + (v3.2.length : Int))) (v3.2.length : Int)))) rfl) rfl ⟨rfl, rfl, trivial⟩ trivial ?_
            refine G.op1 (op_loadAE (ds := [.v (.string x50.Key), .v (.string x50.Value), .v (.bool x50.Gone), .v (.int .i64 x50.Stamp.N), .v (.int .i64 x50.Stamp.Site), .sl 3 (List.map encApi_Dep x50.Past)]) Try.underlying32 rfl ti32 rfl (Ev.t 58 (.ep [.v (.string x50.Key), .v (.string x50.Value), .v (.bool x50.Gone), .v (.int .i64 x50.Stamp.N), .v (.int .i64 x50.Stamp.Site), .sl 3 (List.map encApi_Dep x50.Past)])) rfl) rfl ⟨rfl, trivial⟩ trivial ?_
            refine G.op2 (op_alloc (k := 1008) (cs := [bS ByteArray.empty, bS ByteArray.empty, bB false, bI .i64 0, bI .i64 0, .g (.d (.sl 3 (List.map encApi_Dep ([] : (List Api_Dep)))))]) ti32 ⟨.v _ rfl, .v _ rfl, .v _ rfl, .v _ rfl, .v _ rfl, .n 3, trivial⟩ rfl) rfl trivial ⟨rfl, trivial⟩ ?_
            refine G.op3 (op_storeA (cs' := [bS x50.Key, bS x50.Value, bB x50.Gone, bI .i64 x50.Stamp.N, bI .i64 x50.Stamp.Site, .g (.d (.sl 3 (List.map encApi_Dep x50.Past)))]) ti32 rfl rfl (Ev.t 8 (.ptr 1008 0)) (Ev.t 59 (.g (.agg [.v (.string x50.Key), .v (.string x50.Value), .v (.bool x50.Gone), .v (.int .i64 x50.Stamp.N), .v (.int .i64 x50.Stamp.Site), .sl 3 (List.map encApi_Dep x50.Past)])))) rfl ⟨rfl, rfl, trivial⟩ ⟨rfl, trivial⟩ ?_
            refine G.endOps ?_
            refine G.region ?_
            refine G.op1 (op_move (Ev.t 5 (.g (.d (.sl 3 (List.map encApi_Dep v39.1))))) rfl) rfl ⟨rfl, trivial⟩ trivial ?_
            refine G.op1 (op_fieldP (off' := 5) Try.underlying32 rfl ti30 (by decide) rfl (Ev.t 8 (.ptr 1008 0)) rfl) rfl ⟨rfl, trivial⟩ trivial ?_
            refine G.op1 (op_load1P (c := .g (.d (.sl 3 (List.map encApi_Dep x50.Past)))) Try.underlying30 rfl rfl (Ev.t 61 (.ptr 1008 5)) rfl) rfl ⟨rfl, trivial⟩ ⟨rfl, trivial⟩ ?_
            refine G.op1 (op_fieldP (off' := 0) Try.underlying32 rfl ti9 (by decide) rfl (Ev.t 8 (.ptr 1008 0)) rfl) rfl ⟨rfl, trivial⟩ trivial ?_
            refine G.op1 (op_load1P (c := bS x50.Key) Try.underlying9 rfl rfl (Ev.t 63 (.ptr 1008 0)) rfl) rfl ⟨rfl, trivial⟩ ⟨rfl, trivial⟩ ?_
            refine G.op1 (op_fieldP (off' := 3) Try.underlying32 rfl ti29 (by decide) rfl (Ev.t 8 (.ptr 1008 0)) rfl) rfl ⟨rfl, trivial⟩ trivial ?_
            refine G.op1 (op_loadAP (ds := [.v (.int .i64 x50.Stamp.N), .v (.int .i64 x50.Stamp.Site)]) Try.underlying29 rfl ti29 rfl (Ev.t 65 (.ptr 1008 3)) rfl) rfl ⟨rfl, trivial⟩ ⟨rfl, trivial⟩ ?_
            refine G.op1 (op_build (zs := [.v (.string ByteArray.empty), .v (.int .i64 0), .v (.int .i64 0)]) (ds := [.v (.string x50.Key), .v (.int .i64 x50.Stamp.N), .v (.int .i64 x50.Stamp.Site)]) Try.underlying39 ti39 (pl39 _ Try.underlying39) ⟨.v _ rfl, .v _ rfl, .v _ rfl, trivial⟩ (EvP.cons (Ev.t 64 (bS x50.Key)) (EvP.cons (Ev.t 66 (.g (.agg [.v (.int .i64 x50.Stamp.N), .v (.int .i64 x50.Stamp.Site)]))) EvP.nil)) rfl rfl) rfl ⟨rfl, rfl, trivial⟩ trivial ?_
            refine G.op1 (op_buildSlice (es := List.map encApi_Dep [(Api_Dep.mk x50.Key x50.Stamp)]) Try.underlying30 ti39 rfl rfl (EvP.cons (Ev.t 67 (.g (.agg [.v (.string x50.Key), .v (.int .i64 x50.Stamp.N), .v (.int .i64 x50.Stamp.Site)]))) EvP.nil) rfl rfl (by simp [encApi_Dep]) rfl) rfl ⟨rfl, trivial⟩ trivial ?_
            refine G.op1 (op_buildSlice (es := List.map encL_encApi_Dep [v39.1, x50.Past, [(Api_Dep.mk x50.Key x50.Stamp)]]) Try.underlying46 ti30 rfl rfl (EvP.cons (Ev.t 60 (.g (.d (.sl 3 (List.map encApi_Dep v39.1))))) (EvP.cons (Ev.t 62 (.g (.d (.sl 3 (List.map encApi_Dep x50.Past))))) (EvP.cons (Ev.t 68 (.g (.d (.sl 3 (List.map encApi_Dep ([(Api_Dep.mk x50.Key x50.Stamp)])))))) EvP.nil))) rfl rfl (by simp [encL_encApi_Dep]) rfl) rfl ⟨rfl, rfl, rfl, trivial⟩ trivial ?_
            obtain ⟨r51, hr51, hF⟩ := bindS hF
            refine G.op1 (op_call (sv := .one (.g (.d (.sl 3 (List.map encApi_Dep r51))))) cf19 (ct_ref04_Merge ([v39.1, x50.Past, [(Api_Dep.mk x50.Key x50.Stamp)]]) r51 hr51) rfl (EvL.cons (Ev.t 69 (.g (.d (.sl 1 (List.map encL_encApi_Dep ([v39.1, x50.Past, [(Api_Dep.mk x50.Key x50.Stamp)]])))))) EvL.nil) rfl) rfl ⟨rfl, trivial⟩ trivial ?_
            refine G.op1 (op_assign (Ev.t 70 (.g (.d (.sl 3 (List.map encApi_Dep r51))))) rfl) rfl ⟨rfl, trivial⟩ trivial ?_
            refine G.endOps ?_
            refine G.endBlock ?_
            refine G.region ?_
            refine G.op1 (op_move (Ev.t 7 (bI .i64 v39.2)) rfl) rfl ⟨rfl, trivial⟩ trivial ?_
            refine G.op1 (op_add (Ev.t 35 (bI .i64 v39.2)) (Ev.c _ rfl) rfl) rfl ⟨rfl, trivial⟩ trivial ?_
            refine G.op1 (op_assign (Ev.t 36 (bI .i64 (IntKind.wrap .i64 (v39.2 + 1)))) rfl) rfl ⟨rfl, trivial⟩ trivial ?_
            refine G.endOps ?_
            exact G.arr (J40 (r51, IntKind.wrap .i64 (v39.2 + 1)) hF) ⟨rfl, rfl, rfl, rfl, rfl, rfl, trivial⟩ ⟨rfl, trivial⟩ rfl
          · refine G.cond rfl (fun hx => by rw [hc45] at hx; cases hx) (fun _ => ?_)
            refine G.skip ?_
            refine G.endBlock ?_
            refine G.region ?_
            refine G.op1 (op_move (Ev.t 7 (bI .i64 v39.2)) rfl) rfl ⟨rfl, trivial⟩ trivial ?_
            refine G.op1 (op_add (Ev.t 35 (bI .i64 v39.2)) (Ev.c _ rfl) rfl) rfl ⟨rfl, trivial⟩ trivial ?_
            refine G.op1 (op_assign (Ev.t 36 (bI .i64 (IntKind.wrap .i64 (v39.2 + 1)))) rfl) rfl ⟨rfl, trivial⟩ trivial ?_
            refine G.endOps ?_
            exact G.arr (J40 (v39.1, IntKind.wrap .i64 (v39.2 + 1)) hF) ⟨rfl, rfl, rfl, rfl, rfl, rfl, trivial⟩ ⟨rfl, trivial⟩ rfl
        · refine G.cond rfl (fun hx => by rw [hc44] at hx; cases hx) (fun _ => ?_)
          refine G.exit ?_
          refine GX.c ?_
          refine GX.q ?_
          refine GX.bYes ?_
          exact G.arr (J38 v39.1 hF) ⟨rfl, rfl, rfl, rfl, rfl, trivial⟩ ⟨rfl, trivial⟩ rfl
      refine G.region ?_
      refine G.op1 (op_move (Ev.t 7 (bI .i64 v39.2)) rfl) rfl ⟨rfl, trivial⟩ trivial ?_
      refine G.op1 (op_move (Ev.t 0 (.g (.d (.sl 3 (List.map encLaw14_Write l_0))))) rfl) rfl ⟨rfl, trivial⟩ trivial ?_
      refine G.op1 (op_move (Ev.t 4 (bI .i64 v3.1)) rfl) rfl ⟨rfl, trivial⟩ trivial ?_
      obtain ⟨x53, hx53, hF⟩ := bindS hF
      refine G.op1 (op_index (cs := [.v (.int .i64 x53.Key), .v (.int .i64 x53.Site), .sl 1 (List.map encI_i64 x53.Saw)]) Try.underlying22 ti70 (idx_ok hx53).1 (idx_get hx53 encLaw14_Write) (Ev.t 24 (.g (.d (.sl 3 (List.map encLaw14_Write l_0))))) (Ev.t 25 (bI .i64 v3.1)) rfl) rfl ⟨rfl, rfl, trivial⟩ trivial ?_
      refine G.op1 (op_fieldE (cs' := [.sl 1 (List.map encI_i64 x53.Saw)]) Try.underlying70 rfl ti55 (by decide) rfl (Ev.t 26 (.ep [.v (.int .i64 x53.Key), .v (.int .i64 x53.Site), .sl 1 (List.map encI_i64 x53.Saw)])) rfl) rfl ⟨rfl, trivial⟩ trivial ?_
      refine G.op1 (op_load1E (c := .sl 1 (List.map encI_i64 x53.Saw)) Try.underlying55 rfl rfl (Ev.t 27 (.ep [.sl 1 (List.map encI_i64 x53.Saw)])) rfl) rfl ⟨rfl, trivial⟩ trivial ?_
      refine G.op1 (OpL.cast (op_lenD Try.underlying55 (Ev.t 28 (.g (.d (.sl 1 (List.map encI_i64 x53.Saw))))) rfl) (by rw [List.length_map])) rfl ⟨rfl, trivial⟩ trivial ?_
      refine G.op1 (op_lss (Ev.t 23 (bI .i64 v39.2)) (Ev.t 29 (bI .i64 (x53.Saw.length : Int))) rfl) rfl ⟨rfl, rfl, trivial⟩ trivial ?_
      refine G.op1 (op_move (Ev.t 30 (bB (decide (v39.2 < (x53.Saw.length : Int))))) rfl) rfl ⟨rfl, trivial⟩ trivial ?_
      refine ifS hF (fun hc54 hF => ?_) (fun hc54 hF => ?_)
      · refine G.known (t := 31) hc54 rfl ?_
        refine G.opG1 (op_move (Ev.t 7 (bI .i64 v39.2)) rfl) rfl rfl rfl ⟨rfl, trivial⟩ trivial ?_
        refine G.opG1 (op_lss (Ev.t 32 (bI .i64 v39.2)) (Ev.c _ rfl) rfl) rfl rfl rfl ⟨rfl, trivial⟩ trivial ?_
        refine G.op1 (op_pickT (Ev.t 31 (bB true)) (Ev.t 33 (bB (decide (v39.2 < 4)))) rfl) rfl ⟨rfl, rfl, trivial⟩ trivial ?_
        refine G.endOps ?_
        exact G.arr (J52 (decide (v39.2 < 4)) hF) ⟨rfl, rfl, rfl, rfl, rfl, rfl, rfl, trivial⟩ ⟨rfl, trivial⟩ rfl
      · refine G.known (t := 31) hc54 rfl ?_
        refine G.opN1 rfl rfl rfl rfl rfl ?_
        refine G.opN1 rfl rfl rfl rfl rfl ?_
        refine G.op1 (op_pickF (Ev.t 31 (bB false)) (Ev.c _ rfl) rfl) rfl ⟨rfl, trivial⟩ trivial ?_
        refine G.endOps ?_
        exact G.arr (J52 false hF) ⟨rfl, rfl, rfl, rfl, rfl, rfl, rfl, trivial⟩ ⟨rfl, trivial⟩ rfl
    · refine G.cond rfl (fun hx => by rw [hc8] at hx; cases hx) (fun _ => ?_)
      refine G.exit ?_
      refine GX.c ?_
      refine GX.q ?_
      refine GX.bYes ?_
      exact G.arr (J2 v3.2 hF) ⟨rfl, trivial⟩ ⟨rfl, trivial⟩ rfl
  refine G.region ?_
  refine G.op1 (op_move (Ev.t 4 (bI .i64 v3.1)) rfl) rfl ⟨rfl, trivial⟩ trivial ?_
  refine G.op1 (op_move (Ev.t 0 (.g (.d (.sl 3 (List.map encLaw14_Write l_0))))) rfl) rfl ⟨rfl, trivial⟩ trivial ?_
  refine G.op1 (OpL.cast (op_lenD Try.underlying22 (Ev.t 14 (.g (.d (.sl 3 (List.map encLaw14_Write l_0))))) rfl) (by rw [List.length_map])) rfl ⟨rfl, trivial⟩ trivial ?_
  refine G.op1 (op_lss (Ev.t 13 (bI .i64 v3.1)) (Ev.t 15 (bI .i64 (l_0.length : Int))) rfl) rfl ⟨rfl, rfl, trivial⟩ trivial ?_
  refine G.op1 (op_move (Ev.t 16 (bB (decide (v3.1 < (l_0.length : Int))))) rfl) rfl ⟨rfl, trivial⟩ trivial ?_
  refine ifS hF (fun hc56 hF => ?_) (fun hc56 hF => ?_)
  · refine G.known (t := 17) hc56 rfl ?_
    refine G.opG1 (op_move (Ev.t 4 (bI .i64 v3.1)) rfl) rfl rfl rfl ⟨rfl, trivial⟩ trivial ?_
    refine G.opG1 (op_lss (Ev.t 18 (bI .i64 v3.1)) (Ev.c _ rfl) rfl) rfl rfl rfl ⟨rfl, trivial⟩ trivial ?_
    refine G.op1 (op_pickT (Ev.t 17 (bB true)) (Ev.t 19 (bB (decide (v3.1 < 14)))) rfl) rfl ⟨rfl, rfl, trivial⟩ trivial ?_
    refine G.endOps ?_
    exact G.arr (J55 (decide (v3.1 < 14)) hF) ⟨rfl, rfl, rfl, rfl, trivial⟩ ⟨rfl, trivial⟩ rfl
  · refine G.known (t := 17) hc56 rfl ?_
    refine G.opN1 rfl rfl rfl rfl rfl ?_
    refine G.opN1 rfl rfl rfl rfl rfl ?_
    refine G.op1 (op_pickF (Ev.t 17 (bB false)) (Ev.c _ rfl) rfl) rfl ⟨rfl, trivial⟩ trivial ?_
    refine G.endOps ?_
    exact G.arr (J55 false hF) ⟨rfl, rfl, rfl, rfl, trivial⟩ ⟨rfl, trivial⟩ rfl


set_option maxRecDepth 20000 in
set_option maxHeartbeats 2000000 in
theorem ct_law14_ranges (n_0 : Int) (r : (List Api_Range)) (hF : law14_ranges n_0 = some r) : Ct Try.prog 11 [.g (.d (.v (.int .i64 n_0)))] (.one (.d (.sl 2 (List.map encApi_Range r)))) := by
  unfold law14_ranges at hF
  refine Ct.intro Try.func11 rfl Try.ntmps11 rfl rfl fun M w => ?_
  refine G.seq ?_
  refine G.region ?_
  refine G.op1 (op_assign (Ev.n 2) rfl) rfl trivial trivial ?_
  refine G.endOps ?_
  refine G.seq ?_
  refine G.seq ?_
  refine G.region ?_
  refine G.op1 (op_move (Ev.t 0 (bI .i64 n_0)) rfl) rfl ⟨rfl, trivial⟩ trivial ?_
  refine G.op1 (op_and (Ev.t 3 (bI .i64 n_0)) (Ev.c _ rfl) rfl) rfl ⟨rfl, trivial⟩ trivial ?_
  refine G.endOps ?_
  refine G.block ?_
  refine G.seq ?_
  refine G.region ?_
  refine G.op1 (op_eqI (Ev.t 4 (bI .i64 (IntKind.wrap .i64 (BitVec.ofInt (IntKind.bits .i64) n_0 &&& BitVec.ofInt (IntKind.bits .i64) 3).toNat))) (Ev.c _ rfl) rfl) rfl ⟨rfl, trivial⟩ trivial ?_
  refine G.op1 (op_assign (Ev.t 6 (bB (decide ((IntKind.wrap .i64 (BitVec.ofInt (IntKind.bits .i64) n_0 &&& BitVec.ofInt (IntKind.bits .i64) 3).toNat) = 0)))) rfl) rfl ⟨rfl, trivial⟩ trivial ?_
  refine G.endOps ?_
  refine ifS hF (fun hc1 hF => ?_) (fun hc1 hF => ?_)
  · refine G.cond rfl (fun _ => ?_) (fun hx => by rw [hc1] at hx; cases hx)
    refine G.seq ?_
    refine G.region ?_
    refine G.op1 (op_build (zs := [.v (.string ByteArray.empty), .v (.string ByteArray.empty)]) (ds := [.v (.string ByteArray.empty), .v (.string ByteArray.empty)]) Try.underlying51 ti51 (pl51 _ Try.underlying51) ⟨.v _ rfl, .v _ rfl, trivial⟩ EvP.nil rfl rfl) rfl trivial trivial ?_
    refine G.op1 (op_buildSlice (es := List.map encApi_Range [(Api_Range.mk ByteArray.empty ByteArray.empty)]) Try.underlying26 ti51 rfl rfl (EvP.cons (Ev.t 7 (.g (.agg [.v (.string ByteArray.empty), .v (.string ByteArray.empty)]))) EvP.nil) rfl rfl (by simp [encApi_Range]) rfl) rfl ⟨rfl, trivial⟩ trivial ?_
    refine G.op1 (op_assign (Ev.t 8 (.g (.d (.sl 2 (List.map encApi_Range ([(Api_Range.mk ByteArray.empty ByteArray.empty)])))))) rfl) rfl ⟨rfl, trivial⟩ trivial ?_
    refine G.endOps ?_
    cases hF
    exact G.ret1 Try.results11 (RVar.tmp 2 _) ⟨rfl, trivial⟩ trivial
  · refine G.cond rfl (fun hx => by rw [hc1] at hx; cases hx) (fun _ => ?_)
    refine G.seq ?_
    refine G.region ?_
    refine G.op1 (op_eqI (Ev.t 4 (bI .i64 (IntKind.wrap .i64 (BitVec.ofInt (IntKind.bits .i64) n_0 &&& BitVec.ofInt (IntKind.bits .i64) 3).toNat))) (Ev.c _ rfl) rfl) rfl ⟨rfl, trivial⟩ trivial ?_
    refine G.op1 (op_assign (Ev.t 10 (bB (decide ((IntKind.wrap .i64 (BitVec.ofInt (IntKind.bits .i64) n_0 &&& BitVec.ofInt (IntKind.bits .i64) 3).toNat) = 1)))) rfl) rfl ⟨rfl, trivial⟩ trivial ?_
    refine G.endOps ?_
    refine ifS hF (fun hc2 hF => ?_) (fun hc2 hF => ?_)
    · refine G.cond rfl (fun _ => ?_) (fun hx => by rw [hc2] at hx; cases hx)
      refine G.seq ?_
      refine G.region ?_
      refine G.op1 (op_build (zs := [.v (.string ByteArray.empty), .v (.string ByteArray.empty)]) (ds := [.v (.string ByteArray.empty), .v (.string (ByteArray.mk #[106]))]) Try.underlying51 ti51 (pl51 _ Try.underlying51) ⟨.v _ rfl, .v _ rfl, trivial⟩ (EvP.cons (Ev.c _ rfl) EvP.nil) rfl rfl) rfl trivial trivial ?_
      refine G.op1 (op_buildSlice (es := List.map encApi_Range [(Api_Range.mk ByteArray.empty (ByteArray.mk #[106]))]) Try.underlying26 ti51 rfl rfl (EvP.cons (Ev.t 11 (.g (.agg [.v (.string ByteArray.empty), .v (.string (ByteArray.mk #[106]))]))) EvP.nil) rfl rfl (by simp [encApi_Range]) rfl) rfl ⟨rfl, trivial⟩ trivial ?_
      refine G.op1 (op_assign (Ev.t 12 (.g (.d (.sl 2 (List.map encApi_Range ([(Api_Range.mk ByteArray.empty (ByteArray.mk #[106]))])))))) rfl) rfl ⟨rfl, trivial⟩ trivial ?_
      refine G.endOps ?_
      cases hF
      exact G.ret1 Try.results11 (RVar.tmp 2 _) ⟨rfl, trivial⟩ trivial
    · refine G.cond rfl (fun hx => by rw [hc2] at hx; cases hx) (fun _ => ?_)
      refine G.seq ?_
      refine G.region ?_
      refine G.op1 (op_eqI (Ev.t 4 (bI .i64 (IntKind.wrap .i64 (BitVec.ofInt (IntKind.bits .i64) n_0 &&& BitVec.ofInt (IntKind.bits .i64) 3).toNat))) (Ev.c _ rfl) rfl) rfl ⟨rfl, trivial⟩ trivial ?_
      refine G.op1 (op_assign (Ev.t 14 (bB (decide ((IntKind.wrap .i64 (BitVec.ofInt (IntKind.bits .i64) n_0 &&& BitVec.ofInt (IntKind.bits .i64) 3).toNat) = 2)))) rfl) rfl ⟨rfl, trivial⟩ trivial ?_
      refine G.endOps ?_
      refine ifS hF (fun hc3 hF => ?_) (fun hc3 hF => ?_)
      · refine G.cond rfl (fun _ => ?_) (fun hx => by rw [hc3] at hx; cases hx)
        refine G.seq ?_
        refine G.region ?_
        refine G.op1 (op_build (zs := [.v (.string ByteArray.empty), .v (.string ByteArray.empty)]) (ds := [.v (.string (ByteArray.mk #[100])), .v (.string (ByteArray.mk #[109]))]) Try.underlying51 ti51 (pl51 _ Try.underlying51) ⟨.v _ rfl, .v _ rfl, trivial⟩ (EvP.cons (Ev.c _ rfl) (EvP.cons (Ev.c _ rfl) EvP.nil)) rfl rfl) rfl trivial trivial ?_
        refine G.op1 (op_build (zs := [.v (.string ByteArray.empty), .v (.string ByteArray.empty)]) (ds := [.v (.string (ByteArray.mk #[115])), .v (.string ByteArray.empty)]) Try.underlying51 ti51 (pl51 _ Try.underlying51) ⟨.v _ rfl, .v _ rfl, trivial⟩ (EvP.cons (Ev.c _ rfl) EvP.nil) rfl rfl) rfl trivial trivial ?_
        refine G.op1 (op_buildSlice (es := List.map encApi_Range [(Api_Range.mk (ByteArray.mk #[100]) (ByteArray.mk #[109])), (Api_Range.mk (ByteArray.mk #[115]) ByteArray.empty)]) Try.underlying26 ti51 rfl rfl (EvP.cons (Ev.t 15 (.g (.agg [.v (.string (ByteArray.mk #[100])), .v (.string (ByteArray.mk #[109]))]))) (EvP.cons (Ev.t 16 (.g (.agg [.v (.string (ByteArray.mk #[115])), .v (.string ByteArray.empty)]))) EvP.nil)) rfl rfl (by simp [encApi_Range]) rfl) rfl ⟨rfl, rfl, trivial⟩ trivial ?_
        refine G.op1 (op_assign (Ev.t 17 (.g (.d (.sl 2 (List.map encApi_Range ([(Api_Range.mk (ByteArray.mk #[100]) (ByteArray.mk #[109])), (Api_Range.mk (ByteArray.mk #[115]) ByteArray.empty)])))))) rfl) rfl ⟨rfl, trivial⟩ trivial ?_
        refine G.endOps ?_
        cases hF
        exact G.ret1 Try.results11 (RVar.tmp 2 _) ⟨rfl, trivial⟩ trivial
      · refine G.cond rfl (fun hx => by rw [hc3] at hx; cases hx) (fun _ => ?_)
        refine G.skip ?_
        refine G.endBlock ?_
        refine G.seq ?_
        refine G.region ?_
        refine G.op1 (op_assign (Ev.n 2) rfl) rfl trivial trivial ?_
        refine G.endOps ?_
        cases hF
        exact G.ret1 Try.results11 (RVar.tmp 2 _) ⟨rfl, trivial⟩ trivial


set_option maxRecDepth 20000 in
set_option maxHeartbeats 2000000 in
theorem ct_ref02_Has (r_0 : Api_Range) (key_1 : ByteArray) (r : Bool) (hF : ref02_Has r_0 key_1 = some r) : Ct Try.prog 47 [.g (.agg (encApi_Range r_0)), .g (.d (.v (.string key_1)))] (.one (.d (.v (.bool r)))) := by
  unfold ref02_Has at hF
  refine Ct.intro Try.func47 rfl Try.ntmps47 rfl rfl fun M w => ?_
  refine G.seq ?_
  refine G.region ?_
  refine G.op2 (op_boxA (k := 1002) (Ev.t 0 (.g (.agg [.v (.string r_0.From), .v (.string r_0.To)]))) rfl) rfl ⟨rfl, trivial⟩ ⟨rfl, trivial⟩ ?_
  refine G.op1 (op_assign (Ev.c _ rfl) rfl) rfl trivial trivial ?_
  refine G.endOps ?_
  refine G.seq ?_
  refine G.region ?_
  refine G.op1 (op_move (Ev.t 1 (bS key_1)) rfl) rfl ⟨rfl, trivial⟩ trivial ?_
  refine G.op1 (op_fieldP (off' := 0) Try.underlying51 rfl ti9 (by decide) rfl (Ev.t 2 (.ptr 1002 0)) rfl) rfl ⟨rfl, trivial⟩ trivial ?_
  refine G.op1 (op_load1P (c := bS r_0.From) Try.underlying9 rfl rfl (Ev.t 6 (.ptr 1002 0)) rfl) rfl ⟨rfl, trivial⟩ ⟨rfl, trivial⟩ ?_
  refine G.op1 (op_geS (Ev.t 5 (bS key_1)) (Ev.t 7 (bS r_0.From)) rfl) rfl ⟨rfl, rfl, trivial⟩ trivial ?_
  refine G.op1 (op_move (Ev.t 8 (bB (!slt key_1 r_0.From))) rfl) rfl ⟨rfl, trivial⟩ trivial ?_
  refine ifS hF (fun hc1 hF => ?_) (fun hc1 hF => ?_)
  · refine G.known (t := 9) hc1 rfl ?_
    refine G.opG1 (op_fieldP (off' := 1) Try.underlying51 rfl ti9 (by decide) rfl (Ev.t 2 (.ptr 1002 0)) rfl) rfl rfl rfl ⟨rfl, trivial⟩ trivial ?_
    refine G.opG1 (op_load1P (c := bS r_0.To) Try.underlying9 rfl rfl (Ev.t 10 (.ptr 1002 1)) rfl) rfl rfl rfl ⟨rfl, trivial⟩ ⟨rfl, trivial⟩ ?_
    refine G.opG1 (op_eqS (Ev.t 11 (bS r_0.To)) (Ev.c _ rfl) rfl) rfl rfl rfl ⟨rfl, trivial⟩ trivial ?_
    refine G.opG1 (op_move (Ev.t 12 (bB (seq r_0.To ByteArray.empty))) rfl) rfl rfl rfl ⟨rfl, trivial⟩ trivial ?_
    refine ifS hF (fun hc2 hF => ?_) (fun hc2 hF => ?_)
    · refine G.known (t := 13) hc2 rfl ?_
      refine G.opN1 rfl rfl rfl rfl rfl ?_
      refine G.opN1 rfl rfl rfl rfl rfl ?_
      refine G.opN1 rfl rfl rfl rfl rfl ?_
      refine G.opN1 rfl rfl rfl rfl rfl ?_
      refine G.opG1 (op_pickT (Ev.t 13 (bB true)) (Ev.c _ rfl) rfl) rfl rfl rfl ⟨rfl, trivial⟩ trivial ?_
      refine G.op1 (op_pickT (Ev.t 9 (bB true)) (Ev.t 18 (bB true)) rfl) rfl ⟨rfl, rfl, trivial⟩ trivial ?_
      refine G.op1 (op_assign (Ev.t 19 (bB true)) rfl) rfl ⟨rfl, trivial⟩ trivial ?_
      refine G.endOps ?_
      cases hF
      exact G.ret1 Try.results47 (RVar.tmp 4 _) ⟨rfl, trivial⟩ trivial
    · refine G.known (t := 13) hc2 rfl ?_
      refine G.opG1 (op_move (Ev.t 1 (bS key_1)) rfl) rfl rfl rfl ⟨rfl, trivial⟩ trivial ?_
      refine G.opG1 (op_fieldP (off' := 1) Try.underlying51 rfl ti9 (by decide) rfl (Ev.t 2 (.ptr 1002 0)) rfl) rfl rfl rfl ⟨rfl, trivial⟩ trivial ?_
      refine G.opG1 (op_load1P (c := bS r_0.To) Try.underlying9 rfl rfl (Ev.t 15 (.ptr 1002 1)) rfl) rfl rfl rfl ⟨rfl, trivial⟩ ⟨rfl, trivial⟩ ?_
      refine G.opG1 (op_ltS (Ev.t 14 (bS key_1)) (Ev.t 16 (bS r_0.To)) rfl) rfl rfl rfl ⟨rfl, rfl, trivial⟩ trivial ?_
      refine G.opG1 (op_pickF (Ev.t 13 (bB false)) (Ev.t 17 (bB (slt key_1 r_0.To))) rfl) rfl rfl rfl ⟨rfl, rfl, trivial⟩ trivial ?_
      refine G.op1 (op_pickT (Ev.t 9 (bB true)) (Ev.t 18 (bB (slt key_1 r_0.To))) rfl) rfl ⟨rfl, rfl, trivial⟩ trivial ?_
      refine G.op1 (op_assign (Ev.t 19 (bB (slt key_1 r_0.To))) rfl) rfl ⟨rfl, trivial⟩ trivial ?_
      refine G.endOps ?_
      cases hF
      exact G.ret1 Try.results47 (RVar.tmp 4 _) ⟨rfl, trivial⟩ trivial
  · refine G.known (t := 9) hc1 rfl ?_
    refine G.opN1 rfl rfl rfl rfl rfl ?_
    refine G.opN1 rfl rfl rfl rfl rfl ?_
    refine G.opN1 rfl rfl rfl rfl rfl ?_
    refine G.opN1 rfl rfl rfl rfl rfl ?_
    refine G.opU rfl rfl rfl rfl ?_
    refine G.opU rfl rfl rfl rfl ?_
    refine G.opU rfl rfl rfl rfl ?_
    refine G.opU rfl rfl rfl rfl ?_
    refine G.opN1 rfl rfl rfl rfl rfl ?_
    refine G.op1 (op_pickF (Ev.t 9 (bB false)) (Ev.c _ rfl) rfl) rfl ⟨rfl, trivial⟩ trivial ?_
    refine G.op1 (op_assign (Ev.t 19 (bB false)) rfl) rfl ⟨rfl, trivial⟩ trivial ?_
    refine G.endOps ?_
    cases hF
    exact G.ret1 Try.results47 (RVar.tmp 4 _) ⟨rfl, trivial⟩ trivial


set_option maxRecDepth 20000 in
set_option maxHeartbeats 2000000 in
theorem ct_ref02_Find (l_0 : (List Api_Range)) (key_1 : ByteArray) (r : Int) (hF : ref02_Find l_0 key_1 = some r) : Ct Try.prog 33 [.g (.d (.sl 2 (List.map encApi_Range l_0))), .g (.d (.v (.string key_1)))] (.one (.d (.v (.int .i64 r)))) := by
  unfold ref02_Find at hF
  refine Ct.intro Try.func33 rfl Try.ntmps33 rfl rfl fun M w => ?_
  refine G.seq ?_
  refine G.region ?_
  refine G.op1 (op_assign (Ev.c _ rfl) rfl) rfl trivial trivial ?_
  refine G.endOps ?_
  refine G.seq ?_
  refine G.seq ?_
  refine G.region ?_
  refine G.op1 (op_assign (Ev.c _ rfl) rfl) rfl trivial trivial ?_
  refine G.endOps ?_
  refine G.joinC (T := Unit) (fun y1 => ⟨[], []⟩) (fun y1 => ref02_Find_k1 y1 = some r) (fun y1 hF => ?_) (fun J2 => ?_)
  · unfold ref02_Find_k1 at hF
    refine G.seq ?_
    refine G.region ?_
    refine G.op1 (op_assign (Ev.c _ rfl) rfl) rfl trivial trivial ?_
    refine G.endOps ?_
    cases hF
    exact G.ret1 Try.results33 (RVar.tmp 4 _) ⟨rfl, trivial⟩ trivial
  refine G.block ?_
  refine G.keep (sl' := [(0, .one (.g (.d (.sl 2 (List.map encApi_Range l_0))))), (1, .one (bS key_1)), (5, .one (bI .i64 0))]) (hp' := []) ⟨rfl, rfl, rfl, trivial⟩ trivial rfl ?_
  refine G.loopF (fun (v3 : Int) => ⟨[(0, .one (.g (.d (.sl 2 (List.map encApi_Range l_0))))), (1, .one (bS key_1)), (5, .one (bI .i64 v3))], []⟩) hF rfl (fun K6 again5 v3 J4 hF => ?_)
  unfold ref02_Find_l2 at hF
  refine G.seq ?_
  refine G.seq ?_
  refine G.region ?_
  refine G.op1 (op_move (Ev.t 5 (bI .i64 v3)) rfl) rfl ⟨rfl, trivial⟩ trivial ?_
  refine G.op1 (op_move (Ev.t 0 (.g (.d (.sl 2 (List.map encApi_Range l_0))))) rfl) rfl ⟨rfl, trivial⟩ trivial ?_
  refine G.op1 (OpL.cast (op_lenD Try.underlying26 (Ev.t 8 (.g (.d (.sl 2 (List.map encApi_Range l_0))))) rfl) (by rw [List.length_map])) rfl ⟨rfl, trivial⟩ trivial ?_
  refine G.op1 (op_lss (Ev.t 7 (bI .i64 v3)) (Ev.t 9 (bI .i64 (l_0.length : Int))) rfl) rfl ⟨rfl, rfl, trivial⟩ trivial ?_
  refine G.endOps ?_
  refine ifS hF (fun hc7 hF => ?_) (fun hc7 hF => ?_)
  · refine G.cond rfl (fun _ => ?_) (fun hx => by rw [hc7] at hx; cases hx)
    refine G.skip ?_
    refine G.seq ?_
    refine G.block ?_
    refine G.seq ?_
    refine G.region ?_
    refine G.op1 (op_move (Ev.t 0 (.g (.d (.sl 2 (List.map encApi_Range l_0))))) rfl) rfl ⟨rfl, trivial⟩ trivial ?_
    refine G.op1 (op_move (Ev.t 5 (bI .i64 v3)) rfl) rfl ⟨rfl, trivial⟩ trivial ?_
    obtain ⟨x8, hx8, hF⟩ := bindS hF
    refine G.op1 (op_index (cs := [.v (.string x8.From), .v (.string x8.To)]) Try.underlying26 ti51 (idx_ok hx8).1 (idx_get hx8 encApi_Range) (Ev.t 13 (.g (.d (.sl 2 (List.map encApi_Range l_0))))) (Ev.t 14 (bI .i64 v3)) rfl) rfl ⟨rfl, rfl, trivial⟩ trivial ?_
    refine G.op1 (op_loadAE (ds := [.v (.string x8.From), .v (.string x8.To)]) Try.underlying51 rfl ti51 rfl (Ev.t 15 (.ep [.v (.string x8.From), .v (.string x8.To)])) rfl) rfl ⟨rfl, trivial⟩ trivial ?_
    refine G.op1 (op_move (Ev.t 1 (bS key_1)) rfl) rfl ⟨rfl, trivial⟩ trivial ?_
    obtain ⟨r9, hr9, hF⟩ := bindS hF
    refine G.op1 (op_callQ (sv := .one (bB r9)) cf47 (ct_ref02_Has x8 key_1 r9 hr9) rfl rfl (EvQL.cons (EvQ.g (Ev.t 16 (.g (.agg [.v (.string x8.From), .v (.string x8.To)])))) (EvQL.cons (EvQ.g (Ev.t 17 (bS key_1))) EvQL.nil)) rfl) rfl ⟨rfl, rfl, trivial⟩ trivial ?_
    refine G.op1 (op_assign (Ev.t 18 (bB r9)) rfl) rfl ⟨rfl, trivial⟩ trivial ?_
    refine G.endOps ?_
    refine G.seq ?_
    refine G.region ?_
    refine G.op1 (op_move (Ev.t 6 (bB r9)) rfl) rfl ⟨rfl, trivial⟩ trivial ?_
    refine G.endOps ?_
    refine ifS hF (fun hc10 hF => ?_) (fun hc10 hF => ?_)
    · refine G.cond rfl (fun _ => ?_) (fun hx => by rw [hc10] at hx; cases hx)
      refine G.seq ?_
      refine G.region ?_
      refine G.op1 (op_move (Ev.t 5 (bI .i64 v3)) rfl) rfl ⟨rfl, trivial⟩ trivial ?_
      refine G.op1 (op_assign (Ev.t 20 (bI .i64 v3)) rfl) rfl ⟨rfl, trivial⟩ trivial ?_
      refine G.endOps ?_
      cases hF
      exact G.ret1 Try.results33 (RVar.tmp 4 _) ⟨rfl, trivial⟩ trivial
    · refine G.cond rfl (fun hx => by rw [hc10] at hx; cases hx) (fun _ => ?_)
      refine G.skip ?_
      refine G.endBlock ?_
      refine G.region ?_
      refine G.op1 (op_move (Ev.t 5 (bI .i64 v3)) rfl) rfl ⟨rfl, trivial⟩ trivial ?_
      refine G.op1 (op_add (Ev.t 11 (bI .i64 v3)) (Ev.c _ rfl) rfl) rfl ⟨rfl, trivial⟩ trivial ?_
      refine G.op1 (op_assign (Ev.t 12 (bI .i64 (IntKind.wrap .i64 (v3 + 1)))) rfl) rfl ⟨rfl, trivial⟩ trivial ?_
      refine G.endOps ?_
      exact G.arr (J4 (IntKind.wrap .i64 (v3 + 1)) hF) ⟨rfl, rfl, rfl, trivial⟩ trivial rfl
  · refine G.cond rfl (fun hx => by rw [hc7] at hx; cases hx) (fun _ => ?_)
    refine G.exit ?_
    refine GX.c ?_
    refine GX.q ?_
    refine GX.bYes ?_
    exact G.arr (J2 () hF) trivial trivial rfl


set_option maxRecDepth 20000 in
set_option maxHeartbeats 2000000 in
theorem ct_ref04_Only (p_0 : (List Api_Dep)) (l_1 : (List Api_Range)) (r : (List Api_Dep)) (hF : ref04_Only p_0 l_1 = some r) : Ct Try.prog 13 [.g (.d (.sl 3 (List.map encApi_Dep p_0))), .g (.d (.sl 2 (List.map encApi_Range l_1)))] (.one (.d (.sl 3 (List.map encApi_Dep r)))) := by
  unfold ref04_Only at hF
  refine Ct.intro Try.func13 rfl Try.ntmps13 rfl rfl fun M w => ?_
  refine G.seq ?_
  refine G.region ?_
  refine G.op1 (op_assign (Ev.n 3) rfl) rfl trivial trivial ?_
  refine G.endOps ?_
  refine G.seq ?_
  refine G.region ?_
  refine G.op2 (op_assignRow (E := 39) (size := 3) (k := 2005) (ex := false) rfl rfl) rfl trivial ⟨rfl, trivial⟩ ?_
  refine G.endOps ?_
  refine G.seq ?_
  refine G.seq ?_
  refine G.region ?_
  refine G.op1 (op_assign (Ev.c _ rfl) rfl) rfl trivial trivial ?_
  refine G.endOps ?_
  refine G.joinC (T := (List Api_Dep)) (fun y1 => ⟨[(5, .one (.own 2005 (List.map encApi_Dep y1)))], [(2005, some (.row 39 3 (List.map encApi_Dep y1) false))]⟩) (fun y1 => ref04_Only_k1 y1 = some r) (fun y1 hF => ?_) (fun J2 => ?_)
  · unfold ref04_Only_k1 at hF
    refine G.seq ?_
    refine G.region ?_
    refine G.op1 (op_move (Ev.t 5 (.own 2005 (List.map encApi_Dep y1))) rfl) rfl ⟨rfl, trivial⟩ trivial ?_
    refine G.op1 (op_assign (Ev.t 28 (.own 2005 (List.map encApi_Dep y1))) rfl) rfl ⟨rfl, trivial⟩ trivial ?_
    refine G.endOps ?_
    refine G.view (t := 4) rfl rfl ?_
    cases hF
    exact G.ret1 Try.results13 (RVar.tmp 4 _) ⟨rfl, trivial⟩ trivial
  refine G.block ?_
  refine G.keep (sl' := [(0, .one (.g (.d (.sl 3 (List.map encApi_Dep p_0))))), (1, .one (.g (.d (.sl 2 (List.map encApi_Range l_1))))), (5, .one (.own 2005 (List.map encApi_Dep ([] : (List Api_Dep))))), (6, .one (bI .i64 0))]) (hp' := [(2005, some (.row 39 3 (List.map encApi_Dep ([] : (List Api_Dep))) false))]) ⟨rfl, rfl, rfl, rfl, trivial⟩ ⟨rfl, trivial⟩ rfl ?_
  refine G.loopF (fun (v3 : Int × (List Api_Dep)) => ⟨[(0, .one (.g (.d (.sl 3 (List.map encApi_Dep p_0))))), (1, .one (.g (.d (.sl 2 (List.map encApi_Range l_1))))), (5, .one (.own 2005 (List.map encApi_Dep v3.2))), (6, .one (bI .i64 v3.1))], [(2005, some (.row 39 3 (List.map encApi_Dep v3.2) false))]⟩) hF rfl (fun K6 again5 v3 J4 hF => ?_)
  unfold ref04_Only_l2 at hF
  refine G.seq ?_
  refine G.seq ?_
  refine G.region ?_
  refine G.op1 (op_move (Ev.t 6 (bI .i64 v3.1)) rfl) rfl ⟨rfl, trivial⟩ trivial ?_
  refine G.op1 (op_move (Ev.t 0 (.g (.d (.sl 3 (List.map encApi_Dep p_0))))) rfl) rfl ⟨rfl, trivial⟩ trivial ?_
  refine G.op1 (OpL.cast (op_lenD Try.underlying30 (Ev.t 8 (.g (.d (.sl 3 (List.map encApi_Dep p_0))))) rfl) (by rw [List.length_map])) rfl ⟨rfl, trivial⟩ trivial ?_
  refine G.op1 (op_lss (Ev.t 7 (bI .i64 v3.1)) (Ev.t 9 (bI .i64 (p_0.length : Int))) rfl) rfl ⟨rfl, rfl, trivial⟩ trivial ?_
  refine G.endOps ?_
  refine ifS hF (fun hc7 hF => ?_) (fun hc7 hF => ?_)
  · refine G.cond rfl (fun _ => ?_) (fun hx => by rw [hc7] at hx; cases hx)
    refine G.skip ?_
    refine G.seq ?_
    refine G.block ?_
    refine G.seq ?_
    refine G.region ?_
    refine G.op1 (op_move (Ev.t 1 (.g (.d (.sl 2 (List.map encApi_Range l_1))))) rfl) rfl ⟨rfl, trivial⟩ trivial ?_
    refine G.op1 (op_move (Ev.t 0 (.g (.d (.sl 3 (List.map encApi_Dep p_0))))) rfl) rfl ⟨rfl, trivial⟩ trivial ?_
    refine G.op1 (op_move (Ev.t 6 (bI .i64 v3.1)) rfl) rfl ⟨rfl, trivial⟩ trivial ?_
    obtain ⟨x8, hx8, hF⟩ := bindS hF
    refine G.op1 (op_index (cs := [.v (.string x8.Key), .v (.int .i64 x8.Stamp.N), .v (.int .i64 x8.Stamp.Site)]) Try.underlying30 ti39 (idx_ok hx8).1 (idx_get hx8 encApi_Dep) (Ev.t 14 (.g (.d (.sl 3 (List.map encApi_Dep p_0))))) (Ev.t 15 (bI .i64 v3.1)) rfl) rfl ⟨rfl, rfl, trivial⟩ trivial ?_
    refine G.op1 (op_fieldE (cs' := [.v (.string x8.Key), .v (.int .i64 x8.Stamp.N), .v (.int .i64 x8.Stamp.Site)]) Try.underlying39 rfl ti9 (by decide) rfl (Ev.t 16 (.ep [.v (.string x8.Key), .v (.int .i64 x8.Stamp.N), .v (.int .i64 x8.Stamp.Site)])) rfl) rfl ⟨rfl, trivial⟩ trivial ?_
    refine G.op1 (op_load1E (c := .v (.string x8.Key)) Try.underlying9 rfl rfl (Ev.t 17 (.ep [.v (.string x8.Key), .v (.int .i64 x8.Stamp.N), .v (.int .i64 x8.Stamp.Site)])) rfl) rfl ⟨rfl, trivial⟩ trivial ?_
    obtain ⟨r9, hr9, hF⟩ := bindS hF
    refine G.op1 (op_callQ (sv := .one (bI .i64 r9)) cf33 (ct_ref02_Find l_1 x8.Key r9 hr9) rfl rfl (EvQL.cons (EvQ.g (Ev.t 13 (.g (.d (.sl 2 (List.map encApi_Range l_1)))))) (EvQL.cons (EvQ.g (Ev.t 18 (bS x8.Key))) EvQL.nil)) rfl) rfl ⟨rfl, rfl, trivial⟩ trivial ?_
    refine G.op1 (op_geq (Ev.t 19 (bI .i64 r9)) (Ev.c _ rfl) rfl) rfl ⟨rfl, trivial⟩ trivial ?_
    refine G.endOps ?_
    refine ifS hF (fun hc10 hF => ?_) (fun hc10 hF => ?_)
    · refine G.cond rfl (fun _ => ?_) (fun hx => by rw [hc10] at hx; cases hx)
      refine G.region ?_
      refine G.op1 (op_move (Ev.t 5 (.own 2005 (List.map encApi_Dep v3.2))) rfl) rfl ⟨rfl, trivial⟩ trivial ?_
      refine G.op1 (op_move (Ev.t 0 (.g (.d (.sl 3 (List.map encApi_Dep p_0))))) rfl) rfl ⟨rfl, trivial⟩ trivial ?_
      refine G.op1 (op_move (Ev.t 6 (bI .i64 v3.1)) rfl) rfl ⟨rfl, trivial⟩ trivial ?_
      obtain ⟨x11, hx11, hF⟩ := bindS hF
      refine G.op1 (op_index (cs := [.v (.string x11.Key), .v (.int .i64 x11.Stamp.N), .v (.int .i64 x11.Stamp.Site)]) Try.underlying30 ti39 (idx_ok hx11).1 (idx_get hx11 encApi_Dep) (Ev.t 22 (.g (.d (.sl 3 (List.map encApi_Dep p_0))))) (Ev.t 23 (bI .i64 v3.1)) rfl) rfl ⟨rfl, rfl, trivial⟩ trivial ?_
      refine G.op1 (op_loadAE (ds := [.v (.string x11.Key), .v (.int .i64 x11.Stamp.N), .v (.int .i64 x11.Stamp.Site)]) Try.underlying39 rfl ti39 rfl (Ev.t 24 (.ep [.v (.string x11.Key), .v (.int .i64 x11.Stamp.N), .v (.int .i64 x11.Stamp.Site)])) rfl) rfl ⟨rfl, trivial⟩ trivial ?_
      refine G.op1 (op_buildSlice (es := List.map encApi_Dep [x11]) Try.underlying30 ti39 rfl rfl (EvP.cons (Ev.t 25 (.g (.agg [.v (.string x11.Key), .v (.int .i64 x11.Stamp.N), .v (.int .i64 x11.Stamp.Site)]))) EvP.nil) rfl rfl (by simp [encApi_Dep]) rfl) rfl ⟨rfl, trivial⟩ trivial ?_
      obtain ⟨l12, hl12, hF⟩ := bindS hF
      refine G.op2 (op_appendO Try.underlying30 ti39 rfl (app_map hl12 encApi_Dep) (app_b1 hl12 encApi_Dep) (app_b2 hl12 encApi_Dep) (Ev.t 21 (.own 2005 (List.map encApi_Dep v3.2))) (Ev.t 26 (.g (.d (.sl 3 (List.map encApi_Dep ([x11])))))) rfl) rfl ⟨rfl, rfl, trivial⟩ ⟨rfl, trivial⟩ ?_
      refine G.op1 (op_assign (Ev.t 27 (.own 2005 (List.map encApi_Dep l12))) rfl) rfl ⟨rfl, trivial⟩ trivial ?_
      refine G.endOps ?_
      refine G.endBlock ?_
      refine G.region ?_
      refine G.op1 (op_move (Ev.t 6 (bI .i64 v3.1)) rfl) rfl ⟨rfl, trivial⟩ trivial ?_
      refine G.op1 (op_add (Ev.t 11 (bI .i64 v3.1)) (Ev.c _ rfl) rfl) rfl ⟨rfl, trivial⟩ trivial ?_
      refine G.op1 (op_assign (Ev.t 12 (bI .i64 (IntKind.wrap .i64 (v3.1 + 1)))) rfl) rfl ⟨rfl, trivial⟩ trivial ?_
      refine G.endOps ?_
      exact G.arr (J4 (IntKind.wrap .i64 (v3.1 + 1), l12) hF) ⟨rfl, rfl, rfl, rfl, trivial⟩ ⟨rfl, trivial⟩ rfl
    · refine G.cond rfl (fun hx => by rw [hc10] at hx; cases hx) (fun _ => ?_)
      refine G.skip ?_
      refine G.endBlock ?_
      refine G.region ?_
      refine G.op1 (op_move (Ev.t 6 (bI .i64 v3.1)) rfl) rfl ⟨rfl, trivial⟩ trivial ?_
      refine G.op1 (op_add (Ev.t 11 (bI .i64 v3.1)) (Ev.c _ rfl) rfl) rfl ⟨rfl, trivial⟩ trivial ?_
      refine G.op1 (op_assign (Ev.t 12 (bI .i64 (IntKind.wrap .i64 (v3.1 + 1)))) rfl) rfl ⟨rfl, trivial⟩ trivial ?_
      refine G.endOps ?_
      exact G.arr (J4 (IntKind.wrap .i64 (v3.1 + 1), v3.2) hF) ⟨rfl, rfl, rfl, rfl, trivial⟩ ⟨rfl, trivial⟩ rfl
  · refine G.cond rfl (fun hx => by rw [hc7] at hx; cases hx) (fun _ => ?_)
    refine G.exit ?_
    refine GX.c ?_
    refine GX.q ?_
    refine GX.bYes ?_
    exact G.arr (J2 v3.2 hF) ⟨rfl, trivial⟩ ⟨rfl, trivial⟩ rfl


set_option maxRecDepth 20000 in
set_option maxHeartbeats 2000000 in
theorem ct_ref04_Get (p_0 : (List Api_Dep)) (key_1 : ByteArray) (r : Api_Stamp) (hF : ref04_Get p_0 key_1 = some r) : Ct Try.prog 18 [.g (.d (.sl 3 (List.map encApi_Dep p_0))), .g (.d (.v (.string key_1)))] (.one (.agg (encApi_Stamp r))) := by
  unfold ref04_Get at hF
  refine Ct.intro Try.func18 rfl Try.ntmps18 rfl rfl fun M w => ?_
  refine G.seq ?_
  refine G.region ?_
  refine G.op2 (op_alloc (k := 1004) (cs := [bI .i64 0, bI .i64 0]) ti29 ⟨.v _ rfl, .v _ rfl, trivial⟩ rfl) rfl trivial ⟨rfl, trivial⟩ ?_
  refine G.endOps ?_
  refine G.seq ?_
  refine G.seq ?_
  refine G.region ?_
  refine G.op1 (op_assign (Ev.c _ rfl) rfl) rfl trivial trivial ?_
  refine G.endOps ?_
  refine G.joinC (T := Unit) (fun y1 => ⟨[(4, .one (.ptr 1004 0))], [(1004, some (.blk 29 [bI .i64 0, bI .i64 0]))]⟩) (fun y1 => ref04_Get_k1 y1 = some r) (fun y1 hF => ?_) (fun J2 => ?_)
  · unfold ref04_Get_k1 at hF
    refine G.seq ?_
    refine G.region ?_
    refine G.op1 (op_build (zs := [.v (.int .i64 0), .v (.int .i64 0)]) (ds := [.v (.int .i64 0), .v (.int .i64 0)]) Try.underlying29 ti29 (pl29 _ Try.underlying29) ⟨.v _ rfl, .v _ rfl, trivial⟩ EvP.nil rfl rfl) rfl trivial trivial ?_
    refine G.op3 (op_storeA (cs' := [bI .i64 0, bI .i64 0]) ti29 rfl rfl (Ev.t 4 (.ptr 1004 0)) (Ev.t 24 (.g (.agg [.v (.int .i64 0), .v (.int .i64 0)])))) rfl ⟨rfl, rfl, trivial⟩ ⟨rfl, trivial⟩ ?_
    refine G.endOps ?_
    cases hF
    exact G.ret1 Try.results18 (RVar.cellA (ds := [.v (.int .i64 0), .v (.int .i64 0)]) Try.underlying29 rfl ti29 rfl) ⟨rfl, trivial⟩ ⟨rfl, trivial⟩
  refine G.block ?_
  refine G.keep (sl' := [(0, .one (.g (.d (.sl 3 (List.map encApi_Dep p_0))))), (1, .one (bS key_1)), (4, .one (.ptr 1004 0)), (5, .one (bI .i64 0))]) (hp' := [(1004, some (.blk 29 [bI .i64 0, bI .i64 0]))]) ⟨rfl, rfl, rfl, rfl, trivial⟩ ⟨rfl, trivial⟩ rfl ?_
  refine G.loopF (fun (v3 : Int) => ⟨[(0, .one (.g (.d (.sl 3 (List.map encApi_Dep p_0))))), (1, .one (bS key_1)), (4, .one (.ptr 1004 0)), (5, .one (bI .i64 v3))], [(1004, some (.blk 29 [bI .i64 0, bI .i64 0]))]⟩) hF rfl (fun K6 again5 v3 J4 hF => ?_)
  unfold ref04_Get_l2 at hF
  refine G.seq ?_
  refine G.seq ?_
  refine G.region ?_
  refine G.op1 (op_move (Ev.t 5 (bI .i64 v3)) rfl) rfl ⟨rfl, trivial⟩ trivial ?_
  refine G.op1 (op_move (Ev.t 0 (.g (.d (.sl 3 (List.map encApi_Dep p_0))))) rfl) rfl ⟨rfl, trivial⟩ trivial ?_
  refine G.op1 (OpL.cast (op_lenD Try.underlying30 (Ev.t 7 (.g (.d (.sl 3 (List.map encApi_Dep p_0))))) rfl) (by rw [List.length_map])) rfl ⟨rfl, trivial⟩ trivial ?_
  refine G.op1 (op_lss (Ev.t 6 (bI .i64 v3)) (Ev.t 8 (bI .i64 (p_0.length : Int))) rfl) rfl ⟨rfl, rfl, trivial⟩ trivial ?_
  refine G.endOps ?_
  refine ifS hF (fun hc7 hF => ?_) (fun hc7 hF => ?_)
  · refine G.cond rfl (fun _ => ?_) (fun hx => by rw [hc7] at hx; cases hx)
    refine G.skip ?_
    refine G.seq ?_
    refine G.block ?_
    refine G.seq ?_
    refine G.region ?_
    refine G.op1 (op_move (Ev.t 0 (.g (.d (.sl 3 (List.map encApi_Dep p_0))))) rfl) rfl ⟨rfl, trivial⟩ trivial ?_
    refine G.op1 (op_move (Ev.t 5 (bI .i64 v3)) rfl) rfl ⟨rfl, trivial⟩ trivial ?_
    obtain ⟨x8, hx8, hF⟩ := bindS hF
    refine G.op1 (op_index (cs := [.v (.string x8.Key), .v (.int .i64 x8.Stamp.N), .v (.int .i64 x8.Stamp.Site)]) Try.underlying30 ti39 (idx_ok hx8).1 (idx_get hx8 encApi_Dep) (Ev.t 12 (.g (.d (.sl 3 (List.map encApi_Dep p_0))))) (Ev.t 13 (bI .i64 v3)) rfl) rfl ⟨rfl, rfl, trivial⟩ trivial ?_
    refine G.op1 (op_fieldE (cs' := [.v (.string x8.Key), .v (.int .i64 x8.Stamp.N), .v (.int .i64 x8.Stamp.Site)]) Try.underlying39 rfl ti9 (by decide) rfl (Ev.t 14 (.ep [.v (.string x8.Key), .v (.int .i64 x8.Stamp.N), .v (.int .i64 x8.Stamp.Site)])) rfl) rfl ⟨rfl, trivial⟩ trivial ?_
    refine G.op1 (op_load1E (c := .v (.string x8.Key)) Try.underlying9 rfl rfl (Ev.t 15 (.ep [.v (.string x8.Key), .v (.int .i64 x8.Stamp.N), .v (.int .i64 x8.Stamp.Site)])) rfl) rfl ⟨rfl, trivial⟩ trivial ?_
    refine G.op1 (op_move (Ev.t 1 (bS key_1)) rfl) rfl ⟨rfl, trivial⟩ trivial ?_
    refine G.op1 (op_eqS (Ev.t 16 (bS x8.Key)) (Ev.t 17 (bS key_1)) rfl) rfl ⟨rfl, rfl, trivial⟩ trivial ?_
    refine G.endOps ?_
    refine ifS hF (fun hc9 hF => ?_) (fun hc9 hF => ?_)
    · refine G.cond rfl (fun _ => ?_) (fun hx => by rw [hc9] at hx; cases hx)
      refine G.seq ?_
      refine G.region ?_
      refine G.op1 (op_move (Ev.t 0 (.g (.d (.sl 3 (List.map encApi_Dep p_0))))) rfl) rfl ⟨rfl, trivial⟩ trivial ?_
      refine G.op1 (op_move (Ev.t 5 (bI .i64 v3)) rfl) rfl ⟨rfl, trivial⟩ trivial ?_
      obtain ⟨x10, hx10, hF⟩ := bindS hF
      refine G.op1 (op_index (cs := [.v (.string x10.Key), .v (.int .i64 x10.Stamp.N), .v (.int .i64 x10.Stamp.Site)]) Try.underlying30 ti39 (idx_ok hx10).1 (idx_get hx10 encApi_Dep) (Ev.t 19 (.g (.d (.sl 3 (List.map encApi_Dep p_0))))) (Ev.t 20 (bI .i64 v3)) rfl) rfl ⟨rfl, rfl, trivial⟩ trivial ?_
      refine G.op1 (op_fieldE (cs' := [.v (.int .i64 x10.Stamp.N), .v (.int .i64 x10.Stamp.Site)]) Try.underlying39 rfl ti29 (by decide) rfl (Ev.t 21 (.ep [.v (.string x10.Key), .v (.int .i64 x10.Stamp.N), .v (.int .i64 x10.Stamp.Site)])) rfl) rfl ⟨rfl, trivial⟩ trivial ?_
      refine G.op1 (op_loadAE (ds := [.v (.int .i64 x10.Stamp.N), .v (.int .i64 x10.Stamp.Site)]) Try.underlying29 rfl ti29 rfl (Ev.t 22 (.ep [.v (.int .i64 x10.Stamp.N), .v (.int .i64 x10.Stamp.Site)])) rfl) rfl ⟨rfl, trivial⟩ trivial ?_
      refine G.op3 (op_storeA (cs' := [bI .i64 x10.Stamp.N, bI .i64 x10.Stamp.Site]) ti29 rfl rfl (Ev.t 4 (.ptr 1004 0)) (Ev.t 23 (.g (.agg [.v (.int .i64 x10.Stamp.N), .v (.int .i64 x10.Stamp.Site)])))) rfl ⟨rfl, rfl, trivial⟩ ⟨rfl, trivial⟩ ?_
      refine G.endOps ?_
      cases hF
      exact G.ret1 Try.results18 (RVar.cellA (ds := [.v (.int .i64 x10.Stamp.N), .v (.int .i64 x10.Stamp.Site)]) Try.underlying29 rfl ti29 rfl) ⟨rfl, trivial⟩ ⟨rfl, trivial⟩
    · refine G.cond rfl (fun hx => by rw [hc9] at hx; cases hx) (fun _ => ?_)
      refine G.skip ?_
      refine G.endBlock ?_
      refine G.region ?_
      refine G.op1 (op_move (Ev.t 5 (bI .i64 v3)) rfl) rfl ⟨rfl, trivial⟩ trivial ?_
      refine G.op1 (op_add (Ev.t 10 (bI .i64 v3)) (Ev.c _ rfl) rfl) rfl ⟨rfl, trivial⟩ trivial ?_
      refine G.op1 (op_assign (Ev.t 11 (bI .i64 (IntKind.wrap .i64 (v3 + 1)))) rfl) rfl ⟨rfl, trivial⟩ trivial ?_
      refine G.endOps ?_
      exact G.arr (J4 (IntKind.wrap .i64 (v3 + 1)) hF) ⟨rfl, rfl, rfl, rfl, trivial⟩ ⟨rfl, trivial⟩ rfl
  · refine G.cond rfl (fun hx => by rw [hc7] at hx; cases hx) (fun _ => ?_)
    refine G.exit ?_
    refine GX.c ?_
    refine GX.q ?_
    refine GX.bYes ?_
    exact G.arr (J2 () hF) ⟨rfl, trivial⟩ ⟨rfl, trivial⟩ rfl


set_option maxRecDepth 20000 in
set_option maxHeartbeats 2000000 in
theorem ct_ref04_Covers (p_0 : (List Api_Dep)) (q_1 : (List Api_Dep)) (r : Bool) (hF : ref04_Covers p_0 q_1 = some r) : Ct Try.prog 14 [.g (.d (.sl 3 (List.map encApi_Dep p_0))), .g (.d (.sl 3 (List.map encApi_Dep q_1)))] (.one (.d (.v (.bool r)))) := by
  unfold ref04_Covers at hF
  refine Ct.intro Try.func14 rfl Try.ntmps14 rfl rfl fun M w => ?_
  refine G.seq ?_
  refine G.region ?_
  refine G.op1 (op_assign (Ev.c _ rfl) rfl) rfl trivial trivial ?_
  refine G.endOps ?_
  refine G.seq ?_
  refine G.seq ?_
  refine G.region ?_
  refine G.op1 (op_assign (Ev.c _ rfl) rfl) rfl trivial trivial ?_
  refine G.endOps ?_
  refine G.joinC (T := Unit) (fun y1 => ⟨[], []⟩) (fun y1 => ref04_Covers_k1 y1 = some r) (fun y1 hF => ?_) (fun J2 => ?_)
  · unfold ref04_Covers_k1 at hF
    refine G.seq ?_
    refine G.region ?_
    refine G.op1 (op_assign (Ev.c _ rfl) rfl) rfl trivial trivial ?_
    refine G.endOps ?_
    cases hF
    exact G.ret1 Try.results14 (RVar.tmp 4 _) ⟨rfl, trivial⟩ trivial
  refine G.block ?_
  refine G.keep (sl' := [(0, .one (.g (.d (.sl 3 (List.map encApi_Dep p_0))))), (1, .one (.g (.d (.sl 3 (List.map encApi_Dep q_1))))), (5, .one (bI .i64 0))]) (hp' := []) ⟨rfl, rfl, rfl, trivial⟩ trivial rfl ?_
  refine G.loopF (fun (v3 : Int) => ⟨[(0, .one (.g (.d (.sl 3 (List.map encApi_Dep p_0))))), (1, .one (.g (.d (.sl 3 (List.map encApi_Dep q_1))))), (5, .one (bI .i64 v3))], []⟩) hF rfl (fun K6 again5 v3 J4 hF => ?_)
  unfold ref04_Covers_l2 at hF
  refine G.seq ?_
  refine G.seq ?_
  refine G.region ?_
  refine G.op1 (op_move (Ev.t 5 (bI .i64 v3)) rfl) rfl ⟨rfl, trivial⟩ trivial ?_
  refine G.op1 (op_move (Ev.t 1 (.g (.d (.sl 3 (List.map encApi_Dep q_1))))) rfl) rfl ⟨rfl, trivial⟩ trivial ?_
  refine G.op1 (OpL.cast (op_lenD Try.underlying30 (Ev.t 8 (.g (.d (.sl 3 (List.map encApi_Dep q_1))))) rfl) (by rw [List.length_map])) rfl ⟨rfl, trivial⟩ trivial ?_
  refine G.op1 (op_lss (Ev.t 7 (bI .i64 v3)) (Ev.t 9 (bI .i64 (q_1.length : Int))) rfl) rfl ⟨rfl, rfl, trivial⟩ trivial ?_
  refine G.endOps ?_
  refine ifS hF (fun hc7 hF => ?_) (fun hc7 hF => ?_)
  · refine G.cond rfl (fun _ => ?_) (fun hx => by rw [hc7] at hx; cases hx)
    refine G.skip ?_
    refine G.seq ?_
    refine G.block ?_
    refine G.seq ?_
    refine G.region ?_
    refine G.op1 (op_move (Ev.t 0 (.g (.d (.sl 3 (List.map encApi_Dep p_0))))) rfl) rfl ⟨rfl, trivial⟩ trivial ?_
    refine G.op1 (op_move (Ev.t 1 (.g (.d (.sl 3 (List.map encApi_Dep q_1))))) rfl) rfl ⟨rfl, trivial⟩ trivial ?_
    refine G.op1 (op_move (Ev.t 5 (bI .i64 v3)) rfl) rfl ⟨rfl, trivial⟩ trivial ?_
    obtain ⟨x8, hx8, hF⟩ := bindS hF
    refine G.op1 (op_index (cs := [.v (.string x8.Key), .v (.int .i64 x8.Stamp.N), .v (.int .i64 x8.Stamp.Site)]) Try.underlying30 ti39 (idx_ok hx8).1 (idx_get hx8 encApi_Dep) (Ev.t 14 (.g (.d (.sl 3 (List.map encApi_Dep q_1))))) (Ev.t 15 (bI .i64 v3)) rfl) rfl ⟨rfl, rfl, trivial⟩ trivial ?_
    refine G.op1 (op_fieldE (cs' := [.v (.string x8.Key), .v (.int .i64 x8.Stamp.N), .v (.int .i64 x8.Stamp.Site)]) Try.underlying39 rfl ti9 (by decide) rfl (Ev.t 16 (.ep [.v (.string x8.Key), .v (.int .i64 x8.Stamp.N), .v (.int .i64 x8.Stamp.Site)])) rfl) rfl ⟨rfl, trivial⟩ trivial ?_
    refine G.op1 (op_load1E (c := .v (.string x8.Key)) Try.underlying9 rfl rfl (Ev.t 17 (.ep [.v (.string x8.Key), .v (.int .i64 x8.Stamp.N), .v (.int .i64 x8.Stamp.Site)])) rfl) rfl ⟨rfl, trivial⟩ trivial ?_
    obtain ⟨r9, hr9, hF⟩ := bindS hF
    refine G.op1 (op_callQ (sv := .one (.g (.agg [.v (.int .i64 r9.N), .v (.int .i64 r9.Site)]))) cf18 (ct_ref04_Get p_0 x8.Key r9 hr9) rfl rfl (EvQL.cons (EvQ.g (Ev.t 13 (.g (.d (.sl 3 (List.map encApi_Dep p_0)))))) (EvQL.cons (EvQ.g (Ev.t 18 (bS x8.Key))) EvQL.nil)) rfl) rfl ⟨rfl, rfl, trivial⟩ trivial ?_
    refine G.op2 (op_alloc (k := 1006) (cs := [bI .i64 0, bI .i64 0]) ti29 ⟨.v _ rfl, .v _ rfl, trivial⟩ rfl) rfl trivial ⟨rfl, trivial⟩ ?_
    refine G.op3 (op_storeA (cs' := [bI .i64 r9.N, bI .i64 r9.Site]) ti29 rfl rfl (Ev.t 6 (.ptr 1006 0)) (Ev.t 19 (.g (.agg [.v (.int .i64 r9.N), .v (.int .i64 r9.Site)])))) rfl ⟨rfl, rfl, trivial⟩ ⟨rfl, trivial⟩ ?_
    refine G.endOps ?_
    refine G.seq ?_
    obtain ⟨x10, hx10, hF⟩ := bindS hF
    obtain ⟨r11, hr11, hF⟩ := bindS hF
    refine G.drawn (effs := [⟨[(6, .one (.ptr 1006 0))], [(1006, some (.blk 29 [bI .i64 r9.N, bI .i64 r9.Site]))], [(20, .one (.g (.agg [.v (.int .i64 r9.N), .v (.int .i64 r9.Site)])))], []⟩, ⟨[(1, .one (.g (.d (.sl 3 (List.map encApi_Dep q_1)))))], [], [(21, .one (.g (.d (.sl 3 (List.map encApi_Dep q_1)))))], []⟩, ⟨[(5, .one (bI .i64 v3))], [], [(22, .one (bI .i64 v3))], []⟩, ⟨[(21, .one (.g (.d (.sl 3 (List.map encApi_Dep q_1))))), (22, .one (bI .i64 v3))], [], [(23, .one (.ep [.v (.string x10.Key), .v (.int .i64 x10.Stamp.N), .v (.int .i64 x10.Stamp.Site)]))], []⟩, ⟨[(23, .one (.ep [.v (.string x10.Key), .v (.int .i64 x10.Stamp.N), .v (.int .i64 x10.Stamp.Site)]))], [], [(24, .one (.ep [.v (.int .i64 x10.Stamp.N), .v (.int .i64 x10.Stamp.Site)]))], []⟩, ⟨[(24, .one (.ep [.v (.int .i64 x10.Stamp.N), .v (.int .i64 x10.Stamp.Site)]))], [], [(25, .one (.g (.agg [.v (.int .i64 x10.Stamp.N), .v (.int .i64 x10.Stamp.Site)])))], []⟩, ⟨[(20, .one (.g (.agg [.v (.int .i64 r9.N), .v (.int .i64 r9.Site)]))), (25, .one (.g (.agg [.v (.int .i64 x10.Stamp.N), .v (.int .i64 x10.Stamp.Site)])))], [], [(26, .one (bB r11))], []⟩]) (deps := [[], [], [], [1, 2], [1, 2, 3], [1, 2, 3, 4], [0, 1, 2, 3, 4, 5]]) (sl' := [(0, .one (.g (.d (.sl 3 (List.map encApi_Dep p_0))))), (1, .one (.g (.d (.sl 3 (List.map encApi_Dep q_1))))), (5, .one (bI .i64 v3)), (26, .one (bB r11))]) (hp' := []) follows rfl rfl rfl ⟨⟨rfl, trivial⟩, ⟨⟨rfl, rfl⟩, trivial⟩, ⟨rfl, trivial⟩, trivial, ⟨rfl, trivial⟩, trivial, ⟨rfl, rfl, trivial⟩, trivial, ⟨rfl, trivial⟩, trivial, ⟨rfl, trivial⟩, trivial, ⟨rfl, rfl, trivial⟩, trivial, trivial⟩ ⟨OpW.plain (op_loadAP (ds := [.v (.int .i64 r9.N), .v (.int .i64 r9.Site)]) Try.underlying29 rfl ti29 rfl (Ev.t 6 (.ptr 1006 0)) rfl) rfl rfl, OpW.plain (op_move (Ev.t 1 (.g (.d (.sl 3 (List.map encApi_Dep q_1))))) rfl) rfl rfl, OpW.plain (op_move (Ev.t 5 (bI .i64 v3)) rfl) rfl rfl, OpW.plain (op_index (cs := [.v (.string x10.Key), .v (.int .i64 x10.Stamp.N), .v (.int .i64 x10.Stamp.Site)]) Try.underlying30 ti39 (idx_ok hx10).1 (idx_get hx10 encApi_Dep) (Ev.t 21 (.g (.d (.sl 3 (List.map encApi_Dep q_1))))) (Ev.t 22 (bI .i64 v3)) rfl) rfl rfl, OpW.plain (op_fieldE (cs' := [.v (.int .i64 x10.Stamp.N), .v (.int .i64 x10.Stamp.Site)]) Try.underlying39 rfl ti29 (by decide) rfl (Ev.t 23 (.ep [.v (.string x10.Key), .v (.int .i64 x10.Stamp.N), .v (.int .i64 x10.Stamp.Site)])) rfl) rfl rfl, OpW.plain (op_loadAE (ds := [.v (.int .i64 x10.Stamp.N), .v (.int .i64 x10.Stamp.Site)]) Try.underlying29 rfl ti29 rfl (Ev.t 24 (.ep [.v (.int .i64 x10.Stamp.N), .v (.int .i64 x10.Stamp.Site)])) rfl) rfl rfl, OpW.plain (op_callQ (sv := .one (bB r11)) cf17 (ct_ref03_Less r9 x10.Stamp r11 hr11) rfl rfl (EvQL.cons (EvQ.g (Ev.t 20 (.g (.agg [.v (.int .i64 r9.N), .v (.int .i64 r9.Site)])))) (EvQL.cons (EvQ.g (Ev.t 25 (.g (.agg [.v (.int .i64 x10.Stamp.N), .v (.int .i64 x10.Stamp.Site)])))) EvQL.nil)) rfl) rfl rfl, trivial⟩ ⟨rfl, rfl, rfl, rfl, trivial⟩ trivial rfl ?_
    refine ifS hF (fun hc12 hF => ?_) (fun hc12 hF => ?_)
    · refine G.cond rfl (fun _ => ?_) (fun hx => by rw [hc12] at hx; cases hx)
      refine G.seq ?_
      refine G.region ?_
      refine G.op1 (op_assign (Ev.c _ rfl) rfl) rfl trivial trivial ?_
      refine G.endOps ?_
      cases hF
      exact G.ret1 Try.results14 (RVar.tmp 4 _) ⟨rfl, trivial⟩ trivial
    · refine G.cond rfl (fun hx => by rw [hc12] at hx; cases hx) (fun _ => ?_)
      refine G.skip ?_
      refine G.endBlock ?_
      refine G.region ?_
      refine G.op1 (op_move (Ev.t 5 (bI .i64 v3)) rfl) rfl ⟨rfl, trivial⟩ trivial ?_
      refine G.op1 (op_add (Ev.t 11 (bI .i64 v3)) (Ev.c _ rfl) rfl) rfl ⟨rfl, trivial⟩ trivial ?_
      refine G.op1 (op_assign (Ev.t 12 (bI .i64 (IntKind.wrap .i64 (v3 + 1)))) rfl) rfl ⟨rfl, trivial⟩ trivial ?_
      refine G.endOps ?_
      exact G.arr (J4 (IntKind.wrap .i64 (v3 + 1)) hF) ⟨rfl, rfl, rfl, trivial⟩ trivial rfl
  · refine G.cond rfl (fun hx => by rw [hc7] at hx; cases hx) (fun _ => ?_)
    refine G.exit ?_
    refine GX.c ?_
    refine GX.q ?_
    refine GX.bYes ?_
    exact G.arr (J2 () hF) trivial trivial rfl


set_option maxRecDepth 20000 in
set_option maxHeartbeats 2000000 in
theorem ct_law14_QueueLeft (l_0 : (List Law14_Write)) (out_1 : Int) (which_2 : Int) (r : Bool) (hF : law14_QueueLeft l_0 out_1 which_2 = some r) : Ct Try.prog 3 [.g (.d (.sl 3 (List.map encLaw14_Write l_0))), .g (.d (.v (.int .i64 out_1))), .g (.d (.v (.int .i64 which_2)))] (.one (.d (.v (.bool r)))) := by
  unfold law14_QueueLeft at hF
  refine Ct.intro Try.func3 rfl Try.ntmps3 rfl rfl fun M w => ?_
  refine G.seq ?_
  refine G.region ?_
  refine G.op1 (op_assign (Ev.c _ rfl) rfl) rfl trivial trivial ?_
  refine G.endOps ?_
  refine G.seq ?_
  refine G.region ?_
  obtain ⟨r1, hr1, hF⟩ := bindS hF
  refine G.op1 (op_callQ (sv := .one (bB r1)) cf9 (ct_law14_awake r1 hr1) rfl rfl EvQL.nil rfl) rfl trivial trivial ?_
  refine G.op1 (op_assign (Ev.t 21 (bB r1)) rfl) rfl ⟨rfl, trivial⟩ trivial ?_
  refine G.endOps ?_
  refine G.seq ?_
  refine G.region ?_
  refine G.op1 (op_move (Ev.t 0 (.g (.d (.sl 3 (List.map encLaw14_Write l_0))))) rfl) rfl ⟨rfl, trivial⟩ trivial ?_
  obtain ⟨r2, hr2, hF⟩ := bindS hF
  refine G.op1 (op_call (sv := .one (.g (.d (.sl 6 (List.map encApi_Version r2))))) cf10 (ct_law14_made l_0 r2 hr2) rfl (EvL.cons (Ev.t 22 (.g (.d (.sl 3 (List.map encLaw14_Write l_0))))) EvL.nil) rfl) rfl ⟨rfl, trivial⟩ trivial ?_
  refine G.op1 (op_assign (Ev.t 23 (.g (.d (.sl 6 (List.map encApi_Version r2))))) rfl) rfl ⟨rfl, trivial⟩ trivial ?_
  refine G.endOps ?_
  refine G.seq ?_
  refine G.region ?_
  refine G.op1 (op_move (Ev.t 2 (bI .i64 which_2)) rfl) rfl ⟨rfl, trivial⟩ trivial ?_
  obtain ⟨r3, hr3, hF⟩ := bindS hF
  refine G.op1 (op_call (sv := .one (.g (.d (.sl 2 (List.map encApi_Range r3))))) cf11 (ct_law14_ranges which_2 r3 hr3) rfl (EvL.cons (Ev.t 24 (bI .i64 which_2)) EvL.nil) rfl) rfl ⟨rfl, trivial⟩ trivial ?_
  refine G.op1 (op_assign (Ev.t 25 (.g (.d (.sl 2 (List.map encApi_Range r3))))) rfl) rfl ⟨rfl, trivial⟩ trivial ?_
  refine G.endOps ?_
  refine G.seq ?_
  refine G.region ?_
  refine G.op2 (op_assignRow (E := 32) (size := 6) (k := 2010) (ex := false) rfl rfl) rfl trivial ⟨rfl, trivial⟩ ?_
  refine G.endOps ?_
  refine G.seq ?_
  refine G.seq ?_
  refine G.region ?_
  refine G.op1 (op_assign (Ev.c _ rfl) rfl) rfl trivial trivial ?_
  refine G.endOps ?_
  refine G.joinC (T := (List Api_Version)) (fun y4 => ⟨[(7, .one (bB r1)), (9, .one (.g (.d (.sl 2 (List.map encApi_Range r3))))), (10, .one (.own 2010 (List.map encApi_Version y4)))], [(2010, some (.row 32 6 (List.map encApi_Version y4) false))]⟩) (fun y4 => law14_QueueLeft_k1 r1 r3 y4 = some r) (fun y4 hF => ?_) (fun J33 => ?_)
  · unfold law14_QueueLeft_k1 at hF
    refine G.seq ?_
    refine G.region ?_
    refine G.op1 (op_assign (Ev.n 3) rfl) rfl trivial trivial ?_
    refine G.endOps ?_
    refine G.seq ?_
    refine G.seq ?_
    refine G.region ?_
    refine G.op1 (op_assign (Ev.c _ rfl) rfl) rfl trivial trivial ?_
    refine G.endOps ?_
    refine G.joinC (T := (List Api_Version) × (List Api_Dep)) (fun y5 => ⟨[(7, .one (bB r1)), (9, .one (.g (.d (.sl 2 (List.map encApi_Range r3))))), (10, .one (.g (.d (.sl 6 (List.map encApi_Version y5.1))))), (12, .one (.g (.d (.sl 3 (List.map encApi_Dep y5.2)))))], []⟩) (fun y5 => law14_QueueLeft_k2 r1 r3 y5 = some r) (fun y5 hF => ?_) (fun J21 => ?_)
    · unfold law14_QueueLeft_k2 at hF
      refine G.seq ?_
      refine G.seq ?_
      refine G.region ?_
      refine G.op1 (op_assign (Ev.c _ rfl) rfl) rfl trivial trivial ?_
      refine G.endOps ?_
      refine G.joinC (T := Unit) (fun y6 => ⟨[(7, .one (bB r1))], []⟩) (fun y6 => law14_QueueLeft_k3 r1 y6 = some r) (fun y6 hF => ?_) (fun J7 => ?_)
      · unfold law14_QueueLeft_k3 at hF
        refine G.seq ?_
        refine G.region ?_
        refine G.op1 (op_move (Ev.t 7 (bB r1)) rfl) rfl ⟨rfl, trivial⟩ trivial ?_
        refine G.op1 (op_assign (Ev.t 108 (bB r1)) rfl) rfl ⟨rfl, trivial⟩ trivial ?_
        refine G.endOps ?_
        cases hF
        exact G.ret1 Try.results3 (RVar.tmp 6 _) ⟨rfl, trivial⟩ trivial
      refine G.block ?_
      refine G.keep (sl' := [(7, .one (bB r1)), (9, .one (.g (.d (.sl 2 (List.map encApi_Range r3))))), (10, .one (.g (.d (.sl 6 (List.map encApi_Version y5.1))))), (12, .one (.g (.d (.sl 3 (List.map encApi_Dep y5.2))))), (19, .one (bI .i64 0))]) (hp' := []) ⟨rfl, rfl, rfl, rfl, rfl, trivial⟩ trivial rfl ?_
      refine G.loopF (fun (v8 : Int) => ⟨[(7, .one (bB r1)), (9, .one (.g (.d (.sl 2 (List.map encApi_Range r3))))), (10, .one (.g (.d (.sl 6 (List.map encApi_Version y5.1))))), (12, .one (.g (.d (.sl 3 (List.map encApi_Dep y5.2))))), (19, .one (bI .i64 v8))], []⟩) hF rfl (fun K11 again10 v8 J9 hF => ?_)
      unfold law14_QueueLeft_l4 at hF
      refine G.seq ?_
      refine G.seq ?_
      refine G.region ?_
      refine G.op1 (op_move (Ev.t 19 (bI .i64 v8)) rfl) rfl ⟨rfl, trivial⟩ trivial ?_
      refine G.op1 (op_move (Ev.t 10 (.g (.d (.sl 6 (List.map encApi_Version y5.1))))) rfl) rfl ⟨rfl, trivial⟩ trivial ?_
      refine G.op1 (OpL.cast (op_lenD Try.underlying24 (Ev.t 79 (.g (.d (.sl 6 (List.map encApi_Version y5.1))))) rfl) (by rw [List.length_map])) rfl ⟨rfl, trivial⟩ trivial ?_
      refine G.op1 (op_lss (Ev.t 78 (bI .i64 v8)) (Ev.t 80 (bI .i64 (y5.1.length : Int))) rfl) rfl ⟨rfl, rfl, trivial⟩ trivial ?_
      refine G.endOps ?_
      refine ifS hF (fun hc12 hF => ?_) (fun hc12 hF => ?_)
      · refine G.cond rfl (fun _ => ?_) (fun hx => by rw [hc12] at hx; cases hx)
        refine G.skip ?_
        refine G.seq ?_
        refine G.block ?_
        refine G.seq ?_
        refine G.region ?_
        refine G.op1 (op_move (Ev.t 10 (.g (.d (.sl 6 (List.map encApi_Version y5.1))))) rfl) rfl ⟨rfl, trivial⟩ trivial ?_
        refine G.op1 (op_move (Ev.t 19 (bI .i64 v8)) rfl) rfl ⟨rfl, trivial⟩ trivial ?_
        obtain ⟨x13, hx13, hF⟩ := bindS hF
        refine G.op1 (op_index (cs := [.v (.string x13.Key), .v (.string x13.Value), .v (.bool x13.Gone), .v (.int .i64 x13.Stamp.N), .v (.int .i64 x13.Stamp.Site), .sl 3 (List.map encApi_Dep x13.Past)]) Try.underlying24 ti32 (idx_ok hx13).1 (idx_get hx13 encApi_Version) (Ev.t 84 (.g (.d (.sl 6 (List.map encApi_Version y5.1))))) (Ev.t 85 (bI .i64 v8)) rfl) rfl ⟨rfl, rfl, trivial⟩ trivial ?_
        refine G.op1 (op_loadAE (ds := [.v (.string x13.Key), .v (.string x13.Value), .v (.bool x13.Gone), .v (.int .i64 x13.Stamp.N), .v (.int .i64 x13.Stamp.Site), .sl 3 (List.map encApi_Dep x13.Past)]) Try.underlying32 rfl ti32 rfl (Ev.t 86 (.ep [.v (.string x13.Key), .v (.string x13.Value), .v (.bool x13.Gone), .v (.int .i64 x13.Stamp.N), .v (.int .i64 x13.Stamp.Site), .sl 3 (List.map encApi_Dep x13.Past)])) rfl) rfl ⟨rfl, trivial⟩ trivial ?_
        refine G.op1 (op_move (Ev.t 12 (.g (.d (.sl 3 (List.map encApi_Dep y5.2))))) rfl) rfl ⟨rfl, trivial⟩ trivial ?_
        refine G.op1 (op_move (Ev.t 9 (.g (.d (.sl 2 (List.map encApi_Range r3))))) rfl) rfl ⟨rfl, trivial⟩ trivial ?_
        obtain ⟨r14, hr14, hF⟩ := bindS hF
        refine G.op1 (op_call (sv := .one (.g (.d (.sl 3 (List.map encApi_Dep r14))))) cf16 (ct_queue_Misses x13 y5.2 r3 r14 hr14) rfl (EvL.cons (Ev.t 87 (.g (.agg [.v (.string x13.Key), .v (.string x13.Value), .v (.bool x13.Gone), .v (.int .i64 x13.Stamp.N), .v (.int .i64 x13.Stamp.Site), .sl 3 (List.map encApi_Dep x13.Past)]))) (EvL.cons (Ev.t 88 (.g (.d (.sl 3 (List.map encApi_Dep y5.2))))) (EvL.cons (Ev.t 89 (.g (.d (.sl 2 (List.map encApi_Range r3))))) EvL.nil))) rfl) rfl ⟨rfl, rfl, rfl, trivial⟩ trivial ?_
        refine G.op1 (op_assign (Ev.t 90 (.g (.d (.sl 3 (List.map encApi_Dep r14))))) rfl) rfl ⟨rfl, trivial⟩ trivial ?_
        refine G.endOps ?_
        refine G.seq ?_
        refine ifS hF (fun hc15 hF => ?_) (fun hc15 hF => ?_)
        · refine G.drawn (effs := [⟨[(20, .one (.g (.d (.sl 3 (List.map encApi_Dep r14)))))], [], [(91, .one (.g (.d (.sl 3 (List.map encApi_Dep r14)))))], []⟩, ⟨[(91, .one (.g (.d (.sl 3 (List.map encApi_Dep r14)))))], [], [(92, .one (bI .i64 (r14.length : Int)))], []⟩, ⟨[(92, .one (bI .i64 (r14.length : Int)))], [], [(93, .one (bB true))], []⟩, ⟨[(93, .one (bB true))], [], [(94, .one (bB true))], []⟩, ⟨[(94, .one (bB true))], [], [(95, .one (.x Go.undef))], []⟩, ⟨[(94, .one (bB true))], [], [(96, .one (.x Go.undef))], []⟩, ⟨[(94, .one (bB true))], [], [(97, .one (.x Go.undef))], []⟩, ⟨[(94, .one (bB true))], [], [(98, .one (.x Go.undef))], []⟩, ⟨[(94, .one (bB true))], [], [(99, .one (.x Go.undef))], []⟩, ⟨[(94, .one (bB true))], [], [(100, .one (.x Go.undef))], []⟩, ⟨[(94, .one (bB true))], [], [(101, .one (.x Go.undef))], []⟩, ⟨[(94, .one (bB true))], [], [(102, .one (.x Go.undef))], []⟩, ⟨[(94, .one (bB true))], [], [(103, .one (.x Go.undef))], []⟩, ⟨[(94, .one (bB true))], [], [(104, .one (.x Go.undef))], []⟩, ⟨[(94, .one (bB true))], [], [(105, .one (.x Go.undef))], []⟩, ⟨[(94, .one (bB true))], [], [(106, .one (.x Go.undef))], []⟩, ⟨[(94, .one (bB true))], [], [(107, .one (bB true))], []⟩]) (deps := [[], [0], [0, 1], [0, 1, 2], [0, 1, 2, 3], [0, 1, 2, 3], [0, 1, 2, 3, 5], [0, 1, 2, 3, 5, 6], [0, 1, 2, 3, 5, 6, 7], [0, 1, 2, 3, 4, 5, 6, 7, 8], [0, 1, 2, 3], [0, 1, 2, 3, 10], [0, 1, 2, 3, 10, 11], [0, 1, 2, 3, 10, 11, 12], [0, 1, 2, 3, 4, 5, 6, 7, 8, 9, 10, 11, 12, 13], [0, 1, 2, 3, 4, 5, 6, 7, 8, 9, 10, 11, 12, 13, 14], [0, 1, 2, 3, 4, 5, 6, 7, 8, 9, 10, 11, 12, 13, 14, 15]]) (sl' := [(7, .one (bB r1)), (9, .one (.g (.d (.sl 2 (List.map encApi_Range r3))))), (10, .one (.g (.d (.sl 6 (List.map encApi_Version y5.1))))), (12, .one (.g (.d (.sl 3 (List.map encApi_Dep y5.2))))), (19, .one (bI .i64 v8)), (107, .one (bB true))]) (hp' := []) follows rfl rfl rfl ⟨⟨rfl, trivial⟩, trivial, ⟨rfl, trivial⟩, trivial, ⟨rfl, trivial⟩, trivial, ⟨rfl, trivial⟩, trivial, ⟨rfl, trivial⟩, trivial, ⟨rfl, trivial⟩, trivial, ⟨rfl, trivial⟩, trivial, ⟨rfl, trivial⟩, trivial, ⟨rfl, trivial⟩, trivial, ⟨rfl, trivial⟩, trivial, ⟨rfl, trivial⟩, trivial, ⟨rfl, trivial⟩, trivial, ⟨rfl, trivial⟩, trivial, ⟨rfl, trivial⟩, trivial, ⟨rfl, trivial⟩, trivial, ⟨rfl, trivial⟩, trivial, ⟨rfl, trivial⟩, trivial, trivial⟩ ⟨OpW.plain (op_move (Ev.t 20 (.g (.d (.sl 3 (List.map encApi_Dep r14))))) rfl) rfl rfl, OpW.plain (OpL.cast (op_lenD Try.underlying30 (Ev.t 91 (.g (.d (.sl 3 (List.map encApi_Dep r14))))) rfl) (by rw [List.length_map])) rfl rfl, OpW.plain (OpL.cast (op_eqI (Ev.t 92 (bI .i64 (r14.length : Int))) (Ev.c _ rfl) rfl) (congrArg (fun b => bB b) hc15)) rfl rfl, OpW.plain (op_move (Ev.t 93 (bB true)) rfl) rfl rfl, OpW.no rfl rfl rfl rfl rfl, OpW.no rfl rfl rfl rfl rfl, OpW.no rfl rfl rfl rfl rfl, OpW.no rfl rfl rfl rfl rfl, OpW.no rfl rfl rfl rfl rfl, OpW.no rfl rfl rfl rfl rfl, OpW.no rfl rfl rfl rfl rfl, OpW.no rfl rfl rfl rfl rfl, OpW.no rfl rfl rfl rfl rfl, OpW.no rfl rfl rfl rfl rfl, OpW.no rfl rfl rfl rfl rfl, OpW.no rfl rfl rfl rfl rfl, OpW.plain (op_pickT (Ev.t 94 (bB true)) (Ev.c _ rfl) rfl) rfl rfl, trivial⟩ ⟨rfl, rfl, rfl, rfl, rfl, rfl, trivial⟩ trivial rfl ?_
          refine G.condT rfl ?_
          refine G.seq ?_
          refine G.region ?_
          refine G.op1 (op_assign (Ev.c _ rfl) rfl) rfl trivial trivial ?_
          refine G.endOps ?_
          cases hF
          exact G.ret1 Try.results3 (RVar.tmp 6 _) ⟨rfl, trivial⟩ trivial
        · obtain ⟨x16, hx16, hF⟩ := bindS hF
          obtain ⟨r17, hr17, hF⟩ := bindS hF
          obtain ⟨x18, hx18, hF⟩ := bindS hF
          obtain ⟨r19, hr19, hF⟩ := bindS hF
          refine G.drawn (effs := [⟨[(20, .one (.g (.d (.sl 3 (List.map encApi_Dep r14)))))], [], [(91, .one (.g (.d (.sl 3 (List.map encApi_Dep r14)))))], []⟩, ⟨[(91, .one (.g (.d (.sl 3 (List.map encApi_Dep r14)))))], [], [(92, .one (bI .i64 (r14.length : Int)))], []⟩, ⟨[(92, .one (bI .i64 (r14.length : Int)))], [], [(93, .one (bB false))], []⟩, ⟨[(93, .one (bB false))], [], [(94, .one (bB false))], []⟩, ⟨[(94, .one (bB false)), (12, .one (.g (.d (.sl 3 (List.map encApi_Dep y5.2)))))], [], [(95, .one (.g (.d (.sl 3 (List.map encApi_Dep y5.2)))))], []⟩, ⟨[(94, .one (bB false)), (20, .one (.g (.d (.sl 3 (List.map encApi_Dep r14)))))], [], [(96, .one (.g (.d (.sl 3 (List.map encApi_Dep r14)))))], []⟩, ⟨[(94, .one (bB false)), (96, .one (.g (.d (.sl 3 (List.map encApi_Dep r14)))))], [], [(97, .one (.ep [.v (.string x16.Key), .v (.int .i64 x16.Stamp.N), .v (.int .i64 x16.Stamp.Site)]))], []⟩, ⟨[(94, .one (bB false)), (97, .one (.ep [.v (.string x16.Key), .v (.int .i64 x16.Stamp.N), .v (.int .i64 x16.Stamp.Site)]))], [], [(98, .one (.ep [.v (.string x16.Key), .v (.int .i64 x16.Stamp.N), .v (.int .i64 x16.Stamp.Site)]))], []⟩, ⟨[(94, .one (bB false)), (98, .one (.ep [.v (.string x16.Key), .v (.int .i64 x16.Stamp.N), .v (.int .i64 x16.Stamp.Site)]))], [], [(99, .one (bS x16.Key))], []⟩, ⟨[(94, .one (bB false)), (95, .one (.g (.d (.sl 3 (List.map encApi_Dep y5.2))))), (99, .one (bS x16.Key))], [], [(100, .one (.g (.agg [.v (.int .i64 r17.N), .v (.int .i64 r17.Site)])))], []⟩, ⟨[(94, .one (bB false)), (20, .one (.g (.d (.sl 3 (List.map encApi_Dep r14)))))], [], [(101, .one (.g (.d (.sl 3 (List.map encApi_Dep r14)))))], []⟩, ⟨[(94, .one (bB false)), (101, .one (.g (.d (.sl 3 (List.map encApi_Dep r14)))))], [], [(102, .one (.ep [.v (.string x18.Key), .v (.int .i64 x18.Stamp.N), .v (.int .i64 x18.Stamp.Site)]))], []⟩, ⟨[(94, .one (bB false)), (102, .one (.ep [.v (.string x18.Key), .v (.int .i64 x18.Stamp.N), .v (.int .i64 x18.Stamp.Site)]))], [], [(103, .one (.ep [.v (.int .i64 x18.Stamp.N), .v (.int .i64 x18.Stamp.Site)]))], []⟩, ⟨[(94, .one (bB false)), (103, .one (.ep [.v (.int .i64 x18.Stamp.N), .v (.int .i64 x18.Stamp.Site)]))], [], [(104, .one (.g (.agg [.v (.int .i64 x18.Stamp.N), .v (.int .i64 x18.Stamp.Site)])))], []⟩, ⟨[(94, .one (bB false)), (100, .one (.g (.agg [.v (.int .i64 r17.N), .v (.int .i64 r17.Site)]))), (104, .one (.g (.agg [.v (.int .i64 x18.Stamp.N), .v (.int .i64 x18.Stamp.Site)])))], [], [(105, .one (bB r19))], []⟩, ⟨[(94, .one (bB false)), (105, .one (bB r19))], [], [(106, .one (bB (!r19)))], []⟩, ⟨[(94, .one (bB false)), (106, .one (bB (!r19)))], [], [(107, .one (bB (!r19)))], []⟩]) (deps := [[], [0], [0, 1], [0, 1, 2], [0, 1, 2, 3], [0, 1, 2, 3], [0, 1, 2, 3, 5], [0, 1, 2, 3, 5, 6], [0, 1, 2, 3, 5, 6, 7], [0, 1, 2, 3, 4, 5, 6, 7, 8], [0, 1, 2, 3], [0, 1, 2, 3, 10], [0, 1, 2, 3, 10, 11], [0, 1, 2, 3, 10, 11, 12], [0, 1, 2, 3, 4, 5, 6, 7, 8, 9, 10, 11, 12, 13], [0, 1, 2, 3, 4, 5, 6, 7, 8, 9, 10, 11, 12, 13, 14], [0, 1, 2, 3, 4, 5, 6, 7, 8, 9, 10, 11, 12, 13, 14, 15]]) (sl' := [(7, .one (bB r1)), (9, .one (.g (.d (.sl 2 (List.map encApi_Range r3))))), (10, .one (.g (.d (.sl 6 (List.map encApi_Version y5.1))))), (12, .one (.g (.d (.sl 3 (List.map encApi_Dep y5.2))))), (19, .one (bI .i64 v8)), (107, .one (bB (!r19)))]) (hp' := []) follows rfl rfl rfl ⟨⟨rfl, trivial⟩, trivial, ⟨rfl, trivial⟩, trivial, ⟨rfl, trivial⟩, trivial, ⟨rfl, trivial⟩, trivial, ⟨rfl, rfl, trivial⟩, trivial, ⟨rfl, rfl, trivial⟩, trivial, ⟨rfl, rfl, trivial⟩, trivial, ⟨rfl, rfl, trivial⟩, trivial, ⟨rfl, rfl, trivial⟩, trivial, ⟨rfl, rfl, rfl, trivial⟩, trivial, ⟨rfl, rfl, trivial⟩, trivial, ⟨rfl, rfl, trivial⟩, trivial, ⟨rfl, rfl, trivial⟩, trivial, ⟨rfl, rfl, trivial⟩, trivial, ⟨rfl, rfl, rfl, trivial⟩, trivial, ⟨rfl, rfl, trivial⟩, trivial, ⟨rfl, rfl, trivial⟩, trivial, trivial⟩ ⟨OpW.plain (op_move (Ev.t 20 (.g (.d (.sl 3 (List.map encApi_Dep r14))))) rfl) rfl rfl, OpW.plain (OpL.cast (op_lenD Try.underlying30 (Ev.t 91 (.g (.d (.sl 3 (List.map encApi_Dep r14))))) rfl) (by rw [List.length_map])) rfl rfl, OpW.plain (OpL.cast (op_eqI (Ev.t 92 (bI .i64 (r14.length : Int))) (Ev.c _ rfl) rfl) (congrArg (fun b => bB b) hc15)) rfl rfl, OpW.plain (op_move (Ev.t 93 (bB false)) rfl) rfl rfl, OpW.yes (op_move (Ev.t 12 (.g (.d (.sl 3 (List.map encApi_Dep y5.2))))) rfl) rfl rfl rfl, OpW.yes (op_move (Ev.t 20 (.g (.d (.sl 3 (List.map encApi_Dep r14))))) rfl) rfl rfl rfl, OpW.yes (op_index (cs := [.v (.string x16.Key), .v (.int .i64 x16.Stamp.N), .v (.int .i64 x16.Stamp.Site)]) Try.underlying30 ti39 (idx_ok hx16).1 (idx_get hx16 encApi_Dep) (Ev.t 96 (.g (.d (.sl 3 (List.map encApi_Dep r14))))) (Ev.c _ rfl) rfl) rfl rfl rfl, OpW.yes (op_fieldE (cs' := [.v (.string x16.Key), .v (.int .i64 x16.Stamp.N), .v (.int .i64 x16.Stamp.Site)]) Try.underlying39 rfl ti9 (by decide) rfl (Ev.t 97 (.ep [.v (.string x16.Key), .v (.int .i64 x16.Stamp.N), .v (.int .i64 x16.Stamp.Site)])) rfl) rfl rfl rfl, OpW.yes (op_load1E (c := .v (.string x16.Key)) Try.underlying9 rfl rfl (Ev.t 98 (.ep [.v (.string x16.Key), .v (.int .i64 x16.Stamp.N), .v (.int .i64 x16.Stamp.Site)])) rfl) rfl rfl rfl, OpW.yes (op_callQ (sv := .one (.g (.agg [.v (.int .i64 r17.N), .v (.int .i64 r17.Site)]))) cf18 (ct_ref04_Get y5.2 x16.Key r17 hr17) rfl rfl (EvQL.cons (EvQ.g (Ev.t 95 (.g (.d (.sl 3 (List.map encApi_Dep y5.2)))))) (EvQL.cons (EvQ.g (Ev.t 99 (bS x16.Key))) EvQL.nil)) rfl) rfl rfl rfl, OpW.yes (op_move (Ev.t 20 (.g (.d (.sl 3 (List.map encApi_Dep r14))))) rfl) rfl rfl rfl, OpW.yes (op_index (cs := [.v (.string x18.Key), .v (.int .i64 x18.Stamp.N), .v (.int .i64 x18.Stamp.Site)]) Try.underlying30 ti39 (idx_ok hx18).1 (idx_get hx18 encApi_Dep) (Ev.t 101 (.g (.d (.sl 3 (List.map encApi_Dep r14))))) (Ev.c _ rfl) rfl) rfl rfl rfl, OpW.yes (op_fieldE (cs' := [.v (.int .i64 x18.Stamp.N), .v (.int .i64 x18.Stamp.Site)]) Try.underlying39 rfl ti29 (by decide) rfl (Ev.t 102 (.ep [.v (.string x18.Key), .v (.int .i64 x18.Stamp.N), .v (.int .i64 x18.Stamp.Site)])) rfl) rfl rfl rfl, OpW.yes (op_loadAE (ds := [.v (.int .i64 x18.Stamp.N), .v (.int .i64 x18.Stamp.Site)]) Try.underlying29 rfl ti29 rfl (Ev.t 103 (.ep [.v (.int .i64 x18.Stamp.N), .v (.int .i64 x18.Stamp.Site)])) rfl) rfl rfl rfl, OpW.yes (op_callQ (sv := .one (bB r19)) cf17 (ct_ref03_Less r17 x18.Stamp r19 hr19) rfl rfl (EvQL.cons (EvQ.g (Ev.t 100 (.g (.agg [.v (.int .i64 r17.N), .v (.int .i64 r17.Site)])))) (EvQL.cons (EvQ.g (Ev.t 104 (.g (.agg [.v (.int .i64 x18.Stamp.N), .v (.int .i64 x18.Stamp.Site)])))) EvQL.nil)) rfl) rfl rfl rfl, OpW.yes (op_not (Ev.t 105 (bB r19)) rfl) rfl rfl rfl, OpW.plain (op_pickF (Ev.t 94 (bB false)) (Ev.t 106 (bB (!r19))) rfl) rfl rfl, trivial⟩ ⟨rfl, rfl, rfl, rfl, rfl, rfl, trivial⟩ trivial rfl ?_
          refine ifS hF (fun hc20 hF => ?_) (fun hc20 hF => ?_)
          · refine G.cond rfl (fun _ => ?_) (fun hx => by rw [hc20] at hx; cases hx)
            refine G.seq ?_
            refine G.region ?_
            refine G.op1 (op_assign (Ev.c _ rfl) rfl) rfl trivial trivial ?_
            refine G.endOps ?_
            cases hF
            exact G.ret1 Try.results3 (RVar.tmp 6 _) ⟨rfl, trivial⟩ trivial
          · refine G.cond rfl (fun hx => by rw [hc20] at hx; cases hx) (fun _ => ?_)
            refine G.skip ?_
            refine G.endBlock ?_
            refine G.region ?_
            refine G.op1 (op_move (Ev.t 19 (bI .i64 v8)) rfl) rfl ⟨rfl, trivial⟩ trivial ?_
            refine G.op1 (op_add (Ev.t 82 (bI .i64 v8)) (Ev.c _ rfl) rfl) rfl ⟨rfl, trivial⟩ trivial ?_
            refine G.op1 (op_assign (Ev.t 83 (bI .i64 (IntKind.wrap .i64 (v8 + 1)))) rfl) rfl ⟨rfl, trivial⟩ trivial ?_
            refine G.endOps ?_
            exact G.arr (J9 (IntKind.wrap .i64 (v8 + 1)) hF) ⟨rfl, rfl, rfl, rfl, rfl, trivial⟩ trivial rfl
      · refine G.cond rfl (fun hx => by rw [hc12] at hx; cases hx) (fun _ => ?_)
        refine G.exit ?_
        refine GX.c ?_
        refine GX.q ?_
        refine GX.bYes ?_
        exact G.arr (J7 () hF) ⟨rfl, trivial⟩ trivial rfl
    refine G.block ?_
    refine G.view (t := 10) rfl rfl ?_
    refine G.keep (sl' := [(7, .one (bB r1)), (9, .one (.g (.d (.sl 2 (List.map encApi_Range r3))))), (10, .one (.g (.d (.sl 6 (List.map encApi_Version y4))))), (12, .one (.g (.d (.sl 3 (List.map encApi_Dep ([] : (List Api_Dep))))))), (13, .one (bI .i64 0))]) (hp' := []) ⟨rfl, rfl, rfl, rfl, rfl, trivial⟩ trivial rfl ?_
    refine G.loopF (fun (v22 : (List Api_Version) × (List Api_Dep) × Int) => ⟨[(7, .one (bB r1)), (9, .one (.g (.d (.sl 2 (List.map encApi_Range r3))))), (10, .one (.g (.d (.sl 6 (List.map encApi_Version v22.1))))), (12, .one (.g (.d (.sl 3 (List.map encApi_Dep v22.2.1))))), (13, .one (bI .i64 v22.2.2))], []⟩) hF rfl (fun K25 again24 v22 J23 hF => ?_)
    unfold law14_QueueLeft_l5 at hF
    refine G.seq ?_
    refine G.seq ?_
    refine G.region ?_
    refine G.op1 (op_move (Ev.t 13 (bI .i64 v22.2.2)) rfl) rfl ⟨rfl, trivial⟩ trivial ?_
    refine G.op1 (op_lss (Ev.t 47 (bI .i64 v22.2.2)) (Ev.c _ rfl) rfl) rfl ⟨rfl, trivial⟩ trivial ?_
    refine G.endOps ?_
    refine ifS hF (fun hc26 hF => ?_) (fun hc26 hF => ?_)
    · refine G.cond rfl (fun _ => ?_) (fun hx => by rw [hc26] at hx; cases hx)
      refine G.skip ?_
      refine G.seq ?_
      refine G.block ?_
      refine G.seq ?_
      refine G.region ?_
      refine G.op1 (op_move (Ev.t 10 (.g (.d (.sl 6 (List.map encApi_Version v22.1))))) rfl) rfl ⟨rfl, trivial⟩ trivial ?_
      refine G.op1 (op_move (Ev.t 12 (.g (.d (.sl 3 (List.map encApi_Dep v22.2.1))))) rfl) rfl ⟨rfl, trivial⟩ trivial ?_
      refine G.op1 (op_move (Ev.t 9 (.g (.d (.sl 2 (List.map encApi_Range r3))))) rfl) rfl ⟨rfl, trivial⟩ trivial ?_
      obtain ⟨r27, hr27, hF⟩ := bindS hF
      refine G.op1 (op_call (sv := .tup [.g (.agg [.v (.string r27.1.Key), .v (.string r27.1.Value), .v (.bool r27.1.Gone), .v (.int .i64 r27.1.Stamp.N), .v (.int .i64 r27.1.Stamp.Site), .sl 3 (List.map encApi_Dep r27.1.Past)]), .g (.d (.sl 6 (List.map encApi_Version r27.2.1))), bB r27.2.2]) cf12 (ct_queue_Next v22.1 v22.2.1 r3 r27 hr27) rfl (EvL.cons (Ev.t 52 (.g (.d (.sl 6 (List.map encApi_Version v22.1))))) (EvL.cons (Ev.t 53 (.g (.d (.sl 3 (List.map encApi_Dep v22.2.1))))) (EvL.cons (Ev.t 54 (.g (.d (.sl 2 (List.map encApi_Range r3))))) EvL.nil))) rfl) rfl ⟨rfl, rfl, rfl, trivial⟩ trivial ?_
      refine G.op1 (op_moveS (t := 55) (sv := .tup [.g (.agg [.v (.string r27.1.Key), .v (.string r27.1.Value), .v (.bool r27.1.Gone), .v (.int .i64 r27.1.Stamp.N), .v (.int .i64 r27.1.Stamp.Site), .sl 3 (List.map encApi_Dep r27.1.Past)]), .g (.d (.sl 6 (List.map encApi_Version r27.2.1))), bB r27.2.2]) rfl) rfl ⟨rfl, trivial⟩ trivial ?_
      refine G.op1 (op_extract (l := [.g (.agg [.v (.string r27.1.Key), .v (.string r27.1.Value), .v (.bool r27.1.Gone), .v (.int .i64 r27.1.Stamp.N), .v (.int .i64 r27.1.Stamp.Site), .sl 3 (List.map encApi_Dep r27.1.Past)]), .g (.d (.sl 6 (List.map encApi_Version r27.2.1))), bB r27.2.2]) (c := .g (.agg [.v (.string r27.1.Key), .v (.string r27.1.Value), .v (.bool r27.1.Gone), .v (.int .i64 r27.1.Stamp.N), .v (.int .i64 r27.1.Stamp.Site), .sl 3 (List.map encApi_Dep r27.1.Past)])) rfl rfl) rfl ⟨rfl, trivial⟩ trivial ?_
      refine G.op1 (op_extract (l := [.g (.agg [.v (.string r27.1.Key), .v (.string r27.1.Value), .v (.bool r27.1.Gone), .v (.int .i64 r27.1.Stamp.N), .v (.int .i64 r27.1.Stamp.Site), .sl 3 (List.map encApi_Dep r27.1.Past)]), .g (.d (.sl 6 (List.map encApi_Version r27.2.1))), bB r27.2.2]) (c := .g (.d (.sl 6 (List.map encApi_Version r27.2.1)))) rfl rfl) rfl ⟨rfl, trivial⟩ trivial ?_
      refine G.op1 (op_extract (l := [.g (.agg [.v (.string r27.1.Key), .v (.string r27.1.Value), .v (.bool r27.1.Gone), .v (.int .i64 r27.1.Stamp.N), .v (.int .i64 r27.1.Stamp.Site), .sl 3 (List.map encApi_Dep r27.1.Past)]), .g (.d (.sl 6 (List.map encApi_Version r27.2.1))), bB r27.2.2]) (c := bB r27.2.2) rfl rfl) rfl ⟨rfl, trivial⟩ trivial ?_
      refine G.op2 (op_alloc (k := 1014) (cs := [bS ByteArray.empty, bS ByteArray.empty, bB false, bI .i64 0, bI .i64 0, .g (.d (.sl 3 (List.map encApi_Dep ([] : (List Api_Dep)))))]) ti32 ⟨.v _ rfl, .v _ rfl, .v _ rfl, .v _ rfl, .v _ rfl, .n 3, trivial⟩ rfl) rfl trivial ⟨rfl, trivial⟩ ?_
      refine G.op3 (op_storeA (cs' := [bS r27.1.Key, bS r27.1.Value, bB r27.1.Gone, bI .i64 r27.1.Stamp.N, bI .i64 r27.1.Stamp.Site, .g (.d (.sl 3 (List.map encApi_Dep r27.1.Past)))]) ti32 rfl rfl (Ev.t 14 (.ptr 1014 0)) (Ev.t 56 (.g (.agg [.v (.string r27.1.Key), .v (.string r27.1.Value), .v (.bool r27.1.Gone), .v (.int .i64 r27.1.Stamp.N), .v (.int .i64 r27.1.Stamp.Site), .sl 3 (List.map encApi_Dep r27.1.Past)])))) rfl ⟨rfl, rfl, trivial⟩ ⟨rfl, trivial⟩ ?_
      refine G.op1 (op_assign (Ev.t 57 (.g (.d (.sl 6 (List.map encApi_Version r27.2.1))))) rfl) rfl ⟨rfl, trivial⟩ trivial ?_
      refine G.op1 (op_assign (Ev.t 58 (bB r27.2.2)) rfl) rfl ⟨rfl, trivial⟩ trivial ?_
      refine G.endOps ?_
      refine G.seq ?_
      refine G.seq ?_
      refine G.region ?_
      refine G.op1 (op_move (Ev.t 16 (bB r27.2.2)) rfl) rfl ⟨rfl, trivial⟩ trivial ?_
      refine G.op1 (op_not (Ev.t 59 (bB r27.2.2)) rfl) rfl ⟨rfl, trivial⟩ trivial ?_
      refine G.endOps ?_
      refine ifS hF (fun hc28 hF => ?_) (fun hc28 hF => ?_)
      · refine G.cond rfl (fun _ => ?_) (fun hx => by rw [hc28] at hx; cases hx)
        refine G.exit ?_
        refine GX.c ?_
        refine GX.bNo rfl ?_
        refine GX.c ?_
        refine GX.q ?_
        refine GX.bYes ?_
        exact G.arr (J21 (v22.1, v22.2.1) hF) ⟨rfl, rfl, rfl, rfl, trivial⟩ trivial rfl
      · refine G.cond rfl (fun hx => by rw [hc28] at hx; cases hx) (fun _ => ?_)
        refine G.skip ?_
        refine G.seq ?_
        refine G.region ?_
        refine G.op1 (op_fieldP (off' := 5) Try.underlying32 rfl ti30 (by decide) rfl (Ev.t 14 (.ptr 1014 0)) rfl) rfl ⟨rfl, trivial⟩ trivial ?_
        refine G.op1 (op_load1P (c := .g (.d (.sl 3 (List.map encApi_Dep r27.1.Past)))) Try.underlying30 rfl rfl (Ev.t 61 (.ptr 1014 5)) rfl) rfl ⟨rfl, trivial⟩ ⟨rfl, trivial⟩ ?_
        refine G.op1 (op_move (Ev.t 9 (.g (.d (.sl 2 (List.map encApi_Range r3))))) rfl) rfl ⟨rfl, trivial⟩ trivial ?_
        obtain ⟨r29, hr29, hF⟩ := bindS hF
        refine G.op1 (op_call (sv := .one (.g (.d (.sl 3 (List.map encApi_Dep r29))))) cf13 (ct_ref04_Only r27.1.Past r3 r29 hr29) rfl (EvL.cons (Ev.t 62 (.g (.d (.sl 3 (List.map encApi_Dep r27.1.Past))))) (EvL.cons (Ev.t 63 (.g (.d (.sl 2 (List.map encApi_Range r3))))) EvL.nil)) rfl) rfl ⟨rfl, rfl, trivial⟩ trivial ?_
        refine G.op1 (op_assign (Ev.t 64 (.g (.d (.sl 3 (List.map encApi_Dep r29))))) rfl) rfl ⟨rfl, trivial⟩ trivial ?_
        refine G.endOps ?_
        refine G.seq ?_
        refine G.region ?_
        refine G.op1 (op_move (Ev.t 12 (.g (.d (.sl 3 (List.map encApi_Dep v22.2.1))))) rfl) rfl ⟨rfl, trivial⟩ trivial ?_
        refine G.op1 (op_move (Ev.t 17 (.g (.d (.sl 3 (List.map encApi_Dep r29))))) rfl) rfl ⟨rfl, trivial⟩ trivial ?_
        obtain ⟨r30, hr30, hF⟩ := bindS hF
        refine G.op1 (op_callQ (sv := .one (bB r30)) cf14 (ct_ref04_Covers v22.2.1 r29 r30 hr30) rfl rfl (EvQL.cons (EvQ.g (Ev.t 65 (.g (.d (.sl 3 (List.map encApi_Dep v22.2.1)))))) (EvQL.cons (EvQ.g (Ev.t 66 (.g (.d (.sl 3 (List.map encApi_Dep r29)))))) EvQL.nil)) rfl) rfl ⟨rfl, rfl, trivial⟩ trivial ?_
        refine G.op1 (op_assign (Ev.t 67 (bB r30)) rfl) rfl ⟨rfl, trivial⟩ trivial ?_
        refine G.endOps ?_
        refine G.seq ?_
        refine G.seq ?_
        refine G.region ?_
        refine G.op1 (op_move (Ev.t 18 (bB r30)) rfl) rfl ⟨rfl, trivial⟩ trivial ?_
        refine G.op1 (op_not (Ev.t 68 (bB r30)) rfl) rfl ⟨rfl, trivial⟩ trivial ?_
        refine G.endOps ?_
        refine ifS hF (fun hc31 hF => ?_) (fun hc31 hF => ?_)
        · refine G.cond rfl (fun _ => ?_) (fun hx => by rw [hc31] at hx; cases hx)
          refine G.seq ?_
          refine G.region ?_
          refine G.op1 (op_assign (Ev.c _ rfl) rfl) rfl trivial trivial ?_
          refine G.endOps ?_
          cases hF
          exact G.ret1 Try.results3 (RVar.tmp 6 _) ⟨rfl, trivial⟩ trivial
        · refine G.cond rfl (fun hx => by rw [hc31] at hx; cases hx) (fun _ => ?_)
          refine G.skip ?_
          refine G.seq ?_
          refine G.region ?_
          refine G.op1 (op_move (Ev.t 12 (.g (.d (.sl 3 (List.map encApi_Dep v22.2.1))))) rfl) rfl ⟨rfl, trivial⟩ trivial ?_
          refine G.op1 (op_fieldP (off' := 0) Try.underlying32 rfl ti9 (by decide) rfl (Ev.t 14 (.ptr 1014 0)) rfl) rfl ⟨rfl, trivial⟩ trivial ?_
          refine G.op1 (op_load1P (c := bS r27.1.Key) Try.underlying9 rfl rfl (Ev.t 71 (.ptr 1014 0)) rfl) rfl ⟨rfl, trivial⟩ ⟨rfl, trivial⟩ ?_
          refine G.op1 (op_fieldP (off' := 3) Try.underlying32 rfl ti29 (by decide) rfl (Ev.t 14 (.ptr 1014 0)) rfl) rfl ⟨rfl, trivial⟩ trivial ?_
          refine G.op1 (op_loadAP (ds := [.v (.int .i64 r27.1.Stamp.N), .v (.int .i64 r27.1.Stamp.Site)]) Try.underlying29 rfl ti29 rfl (Ev.t 73 (.ptr 1014 3)) rfl) rfl ⟨rfl, trivial⟩ ⟨rfl, trivial⟩ ?_
          refine G.op1 (op_build (zs := [.v (.string ByteArray.empty), .v (.int .i64 0), .v (.int .i64 0)]) (ds := [.v (.string r27.1.Key), .v (.int .i64 r27.1.Stamp.N), .v (.int .i64 r27.1.Stamp.Site)]) Try.underlying39 ti39 (pl39 _ Try.underlying39) ⟨.v _ rfl, .v _ rfl, .v _ rfl, trivial⟩ (EvP.cons (Ev.t 72 (bS r27.1.Key)) (EvP.cons (Ev.t 74 (.g (.agg [.v (.int .i64 r27.1.Stamp.N), .v (.int .i64 r27.1.Stamp.Site)]))) EvP.nil)) rfl rfl) rfl ⟨rfl, rfl, trivial⟩ trivial ?_
          obtain ⟨r32, hr32, hF⟩ := bindS hF
          refine G.op1 (op_call (sv := .one (.g (.d (.sl 3 (List.map encApi_Dep r32))))) cf15 (ct_ref04_Add v22.2.1 (Api_Dep.mk r27.1.Key r27.1.Stamp) r32 hr32) rfl (EvL.cons (Ev.t 70 (.g (.d (.sl 3 (List.map encApi_Dep v22.2.1))))) (EvL.cons (Ev.t 75 (.g (.agg [.v (.string r27.1.Key), .v (.int .i64 r27.1.Stamp.N), .v (.int .i64 r27.1.Stamp.Site)]))) EvL.nil)) rfl) rfl ⟨rfl, rfl, trivial⟩ trivial ?_
          refine G.op1 (op_assign (Ev.t 76 (.g (.d (.sl 3 (List.map encApi_Dep r32))))) rfl) rfl ⟨rfl, trivial⟩ trivial ?_
          refine G.endOps ?_
          refine G.region ?_
          refine G.op1 (op_move (Ev.t 15 (.g (.d (.sl 6 (List.map encApi_Version r27.2.1))))) rfl) rfl ⟨rfl, trivial⟩ trivial ?_
          refine G.op1 (op_assign (Ev.t 77 (.g (.d (.sl 6 (List.map encApi_Version r27.2.1))))) rfl) rfl ⟨rfl, trivial⟩ trivial ?_
          refine G.endOps ?_
          refine G.endBlock ?_
          refine G.region ?_
          refine G.op1 (op_move (Ev.t 13 (bI .i64 v22.2.2)) rfl) rfl ⟨rfl, trivial⟩ trivial ?_
          refine G.op1 (op_add (Ev.t 49 (bI .i64 v22.2.2)) (Ev.c _ rfl) rfl) rfl ⟨rfl, trivial⟩ trivial ?_
          refine G.op1 (op_assign (Ev.t 50 (bI .i64 (IntKind.wrap .i64 (v22.2.2 + 1)))) rfl) rfl ⟨rfl, trivial⟩ trivial ?_
          refine G.endOps ?_
          exact G.arr (J23 (r27.2.1, r32, IntKind.wrap .i64 (v22.2.2 + 1)) hF) ⟨rfl, rfl, rfl, rfl, rfl, trivial⟩ trivial rfl
    · refine G.cond rfl (fun hx => by rw [hc26] at hx; cases hx) (fun _ => ?_)
      refine G.exit ?_
      refine GX.c ?_
      refine GX.q ?_
      refine GX.bYes ?_
      exact G.arr (J21 (v22.1, v22.2.1) hF) ⟨rfl, rfl, rfl, rfl, trivial⟩ trivial rfl
  refine G.block ?_
  refine G.keep (sl' := [(1, .one (bI .i64 out_1)), (7, .one (bB r1)), (8, .one (.g (.d (.sl 6 (List.map encApi_Version r2))))), (9, .one (.g (.d (.sl 2 (List.map encApi_Range r3))))), (10, .one (.own 2010 (List.map encApi_Version ([] : (List Api_Version))))), (11, .one (bI .i64 0))]) (hp' := [(2010, some (.row 32 6 (List.map encApi_Version ([] : (List Api_Version))) false))]) ⟨rfl, rfl, rfl, rfl, rfl, rfl, trivial⟩ ⟨rfl, trivial⟩ rfl ?_
  refine G.loopF (fun (v34 : Int × (List Api_Version)) => ⟨[(1, .one (bI .i64 out_1)), (7, .one (bB r1)), (8, .one (.g (.d (.sl 6 (List.map encApi_Version r2))))), (9, .one (.g (.d (.sl 2 (List.map encApi_Range r3))))), (10, .one (.own 2010 (List.map encApi_Version v34.2))), (11, .one (bI .i64 v34.1))], [(2010, some (.row 32 6 (List.map encApi_Version v34.2) false))]⟩) hF rfl (fun K37 again36 v34 J35 hF => ?_)
  unfold law14_QueueLeft_l6 at hF
  refine G.seq ?_
  refine G.seq ?_
  refine G.region ?_
  refine G.op1 (op_move (Ev.t 11 (bI .i64 v34.1)) rfl) rfl ⟨rfl, trivial⟩ trivial ?_
  refine G.op1 (op_move (Ev.t 8 (.g (.d (.sl 6 (List.map encApi_Version r2))))) rfl) rfl ⟨rfl, trivial⟩ trivial ?_
  refine G.op1 (OpL.cast (op_lenD Try.underlying24 (Ev.t 27 (.g (.d (.sl 6 (List.map encApi_Version r2))))) rfl) (by rw [List.length_map])) rfl ⟨rfl, trivial⟩ trivial ?_
  refine G.op1 (op_lss (Ev.t 26 (bI .i64 v34.1)) (Ev.t 28 (bI .i64 (r2.length : Int))) rfl) rfl ⟨rfl, rfl, trivial⟩ trivial ?_
  refine G.endOps ?_
  refine ifS hF (fun hc38 hF => ?_) (fun hc38 hF => ?_)
  · refine G.cond rfl (fun _ => ?_) (fun hx => by rw [hc38] at hx; cases hx)
    refine G.skip ?_
    refine G.seq ?_
    refine G.block ?_
    refine G.seq ?_
    refine G.region ?_
    refine G.op1 (op_move (Ev.t 11 (bI .i64 v34.1)) rfl) rfl ⟨rfl, trivial⟩ trivial ?_
    refine G.op1 (op_move (Ev.t 1 (bI .i64 out_1)) rfl) rfl ⟨rfl, trivial⟩ trivial ?_
    refine G.op1 (op_and (Ev.t 33 (bI .i64 out_1)) (Ev.c _ rfl) rfl) rfl ⟨rfl, trivial⟩ trivial ?_
    refine G.op1 (op_neI (Ev.t 32 (bI .i64 v34.1)) (Ev.t 34 (bI .i64 (IntKind.wrap .i64 (BitVec.ofInt (IntKind.bits .i64) out_1 &&& BitVec.ofInt (IntKind.bits .i64) 15).toNat))) rfl) rfl ⟨rfl, rfl, trivial⟩ trivial ?_
    refine G.endOps ?_
    refine ifS hF (fun hc39 hF => ?_) (fun hc39 hF => ?_)
    · refine G.cond rfl (fun _ => ?_) (fun hx => by rw [hc39] at hx; cases hx)
      refine G.region ?_
      refine G.op1 (op_move (Ev.t 10 (.own 2010 (List.map encApi_Version v34.2))) rfl) rfl ⟨rfl, trivial⟩ trivial ?_
      refine G.op1 (op_move (Ev.t 8 (.g (.d (.sl 6 (List.map encApi_Version r2))))) rfl) rfl ⟨rfl, trivial⟩ trivial ?_
      refine G.op1 (op_move (Ev.t 8 (.g (.d (.sl 6 (List.map encApi_Version r2))))) rfl) rfl ⟨rfl, trivial⟩ trivial ?_
      refine G.op1 (OpL.cast (op_lenD Try.underlying24 (Ev.t 38 (.g (.d (.sl 6 (List.map encApi_Version r2))))) rfl) (by rw [List.length_map])) rfl ⟨rfl, trivial⟩ trivial ?_
      refine G.op1 (op_sub (Ev.t 39 (bI .i64 (r2.length : Int))) (Ev.c _ rfl) rfl) rfl ⟨rfl, trivial⟩ trivial ?_
      refine G.op1 (op_move (Ev.t 11 (bI .i64 v34.1)) rfl) rfl ⟨rfl, trivial⟩ trivial ?_
      refine G.op1 (op_sub (Ev.t 40 (bI .i64 (IntKind.wrap .i64 ((r2.length : Int) - 1)))) (Ev.t 41 (bI .i64 v34.1)) rfl) rfl ⟨rfl, rfl, trivial⟩ trivial ?_
      obtain ⟨x40, hx40, hF⟩ := bindS hF
      refine G.op1 (op_index (cs := [.v (.string x40.Key), .v (.string x40.Value), .v (.bool x40.Gone), .v (.int .i64 x40.Stamp.N), .v (.int .i64 x40.Stamp.Site), .sl 3 (List.map encApi_Dep x40.Past)]) Try.underlying24 ti32 (idx_ok hx40).1 (idx_get hx40 encApi_Version) (Ev.t 37 (.g (.d (.sl 6 (List.map encApi_Version r2))))) (Ev.t 42 (bI .i64 (IntKind.wrap .i64 ((IntKind.wrap .i64 ((r2.length : Int) - 1)) - v34.1)))) rfl) rfl ⟨rfl, rfl, trivial⟩ trivial ?_
      refine G.op1 (op_loadAE (ds := [.v (.string x40.Key), .v (.string x40.Value), .v (.bool x40.Gone), .v (.int .i64 x40.Stamp.N), .v (.int .i64 x40.Stamp.Site), .sl 3 (List.map encApi_Dep x40.Past)]) Try.underlying32 rfl ti32 rfl (Ev.t 43 (.ep [.v (.string x40.Key), .v (.string x40.Value), .v (.bool x40.Gone), .v (.int .i64 x40.Stamp.N), .v (.int .i64 x40.Stamp.Site), .sl 3 (List.map encApi_Dep x40.Past)])) rfl) rfl ⟨rfl, trivial⟩ trivial ?_
      refine G.op1 (op_buildSlice (es := List.map encApi_Version [x40]) Try.underlying24 ti32 rfl rfl (EvP.cons (Ev.t 44 (.g (.agg [.v (.string x40.Key), .v (.string x40.Value), .v (.bool x40.Gone), .v (.int .i64 x40.Stamp.N), .v (.int .i64 x40.Stamp.Site), .sl 3 (List.map encApi_Dep x40.Past)]))) EvP.nil) rfl rfl (by simp [encApi_Version]) rfl) rfl ⟨rfl, trivial⟩ trivial ?_
      obtain ⟨l41, hl41, hF⟩ := bindS hF
      refine G.op2 (op_appendO Try.underlying24 ti32 rfl (app_map hl41 encApi_Version) (app_b1 hl41 encApi_Version) (app_b2 hl41 encApi_Version) (Ev.t 36 (.own 2010 (List.map encApi_Version v34.2))) (Ev.t 45 (.g (.d (.sl 6 (List.map encApi_Version ([x40])))))) rfl) rfl ⟨rfl, rfl, trivial⟩ ⟨rfl, trivial⟩ ?_
      refine G.op1 (op_assign (Ev.t 46 (.own 2010 (List.map encApi_Version l41))) rfl) rfl ⟨rfl, trivial⟩ trivial ?_
      refine G.endOps ?_
      refine G.endBlock ?_
      refine G.region ?_
      refine G.op1 (op_move (Ev.t 11 (bI .i64 v34.1)) rfl) rfl ⟨rfl, trivial⟩ trivial ?_
      refine G.op1 (op_add (Ev.t 30 (bI .i64 v34.1)) (Ev.c _ rfl) rfl) rfl ⟨rfl, trivial⟩ trivial ?_
      refine G.op1 (op_assign (Ev.t 31 (bI .i64 (IntKind.wrap .i64 (v34.1 + 1)))) rfl) rfl ⟨rfl, trivial⟩ trivial ?_
      refine G.endOps ?_
      exact G.arr (J35 (IntKind.wrap .i64 (v34.1 + 1), l41) hF) ⟨rfl, rfl, rfl, rfl, rfl, rfl, trivial⟩ ⟨rfl, trivial⟩ rfl
    · refine G.cond rfl (fun hx => by rw [hc39] at hx; cases hx) (fun _ => ?_)
      refine G.skip ?_
      refine G.endBlock ?_
      refine G.region ?_
      refine G.op1 (op_move (Ev.t 11 (bI .i64 v34.1)) rfl) rfl ⟨rfl, trivial⟩ trivial ?_
      refine G.op1 (op_add (Ev.t 30 (bI .i64 v34.1)) (Ev.c _ rfl) rfl) rfl ⟨rfl, trivial⟩ trivial ?_
      refine G.op1 (op_assign (Ev.t 31 (bI .i64 (IntKind.wrap .i64 (v34.1 + 1)))) rfl) rfl ⟨rfl, trivial⟩ trivial ?_
      refine G.endOps ?_
      exact G.arr (J35 (IntKind.wrap .i64 (v34.1 + 1), v34.2) hF) ⟨rfl, rfl, rfl, rfl, rfl, rfl, trivial⟩ ⟨rfl, trivial⟩ rfl
  · refine G.cond rfl (fun hx => by rw [hc38] at hx; cases hx) (fun _ => ?_)
    refine G.exit ?_
    refine GX.c ?_
    refine GX.q ?_
    refine GX.bYes ?_
    exact G.arr (J33 v34.2 hF) ⟨rfl, rfl, rfl, trivial⟩ ⟨rfl, trivial⟩ rfl


end Go.Ark
