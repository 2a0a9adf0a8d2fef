/- Walks, printed by a program of mine: each function of the program computes the typed function of its name. Conditions: none. -/
import Derived.Test.YtfckeeglbhlnmaaWQueueAll1
namespace Go.Ark
open Go Go.Ab Go.Proofs

set_option maxRecDepth 20000 in
set_option maxHeartbeats 2000000 in
theorem ct_law14_made (l_0 : (List Law14_Write)) (r : (List Api_Version)) (hF : law14_made l_0 = some r) : Ct Try.prog 10 [.g (.d (.sl 3 (List.map encLaw14_Write l_0)))] (.one (.d (.sl 6 (List.map encApi_Version r)))) := by
  unfold law14_made at hF
  refine Ct.intro Try.func10 rfl Try.ntmps10 rfl rfl fun M w => ?_
  refine G.seq ?_
  refine G.region ?_
  refine G.op1 (op_assign (Ev.n 6) rfl) rfl trivial trivial ?_
  refine G.endOps ?_
  refine G.seq ?_
  refine G.region ?_
  refine G.op2 (op_assignRow (E := 32) (size := 6) (k := 2003) (ex := false) rfl rfl) rfl trivial ⟨rfl, trivial⟩ ?_
  refine G.endOps ?_
  refine G.seq ?_
  refine G.seq ?_
  refine G.region ?_
  refine G.op1 (op_assign (Ev.c _ rfl) rfl) rfl trivial trivial ?_
  refine G.endOps ?_
  refine G.joinC (T := (List Api_Version)) (fun y1 => ⟨[(3, .one (.own 2003 (List.map encApi_Version y1)))], [(2003, some (.row 32 6 (List.map encApi_Version y1) false))]⟩) (fun y1 => law14_made_k1 y1 = some r) (fun y1 hF => ?_) (fun J2 => ?_)
  · unfold law14_made_k1 at hF
    refine G.seq ?_
    refine G.region ?_
    refine G.op1 (op_move (Ev.t 3 (.own 2003 (List.map encApi_Version y1))) rfl) rfl ⟨rfl, trivial⟩ trivial ?_
    refine G.op1 (op_assign (Ev.t 141 (.own 2003 (List.map encApi_Version y1))) rfl) rfl ⟨rfl, trivial⟩ trivial ?_
    refine G.endOps ?_
    refine G.view (t := 2) rfl rfl ?_
    cases hF
    exact G.ret1 Try.results10 (RVar.tmp 2 _) ⟨rfl, trivial⟩ trivial
  refine G.block ?_
  refine G.keep (sl' := [(0, .one (.g (.d (.sl 3 (List.map encLaw14_Write l_0))))), (3, .one (.own 2003 (List.map encApi_Version ([] : (List Api_Version))))), (4, .one (bI .i64 0))]) (hp' := [(2003, some (.row 32 6 (List.map encApi_Version ([] : (List Api_Version))) false))]) ⟨rfl, rfl, rfl, trivial⟩ ⟨rfl, trivial⟩ rfl ?_
  refine G.loopF (fun (v3 : Int × (List Api_Version)) => ⟨[(0, .one (.g (.d (.sl 3 (List.map encLaw14_Write l_0))))), (3, .one (.own 2003 (List.map encApi_Version v3.2))), (4, .one (bI .i64 v3.1))], [(2003, some (.row 32 6 (List.map encApi_Version v3.2) false))]⟩) hF rfl (fun K6 again5 v3 J4 hF => ?_)
  unfold law14_made_l2 at hF
  refine G.seq ?_
  refine G.seq ?_
  refine G.joinC (T := Bool) (fun y7 => ⟨[(0, .one (.g (.d (.sl 3 (List.map encLaw14_Write l_0))))), (3, .one (.own 2003 (List.map encApi_Version v3.2))), (4, .one (bI .i64 v3.1)), (20, .one (bB y7))], [(2003, some (.row 32 6 (List.map encApi_Version v3.2) false))]⟩) (fun y7 => law14_made_k3 l_0 again5 v3 y7 = some r) (fun y7 hF => ?_) (fun J55 => ?_)
  · unfold law14_made_k3 at hF
    refine ifS hF (fun hc8 hF => ?_) (fun hc8 hF => ?_)
    · refine G.cond rfl (fun _ => ?_) (fun hx => by rw [hc8] at hx; cases hx)
      refine G.skip ?_
      refine G.seq ?_
      refine G.joinC (T := (List Api_Version)) (fun y9 => ⟨[(0, .one (.g (.d (.sl 3 (List.map encLaw14_Write l_0))))), (3, .one (.own 2003 (List.map encApi_Version y9))), (4, .one (bI .i64 v3.1))], [(2003, some (.row 32 6 (List.map encApi_Version y9) false))]⟩) (fun y9 => law14_made_k4 again5 v3 y9 = some r) (fun y9 hF => ?_) (fun J10 => ?_)
      · unfold law14_made_k4 at hF
        refine G.region ?_
        refine G.op1 (op_move (Ev.t 4 (bI .i64 v3.1)) rfl) rfl ⟨rfl, trivial⟩ trivial ?_
        refine G.op1 (op_add (Ev.t 21 (bI .i64 v3.1)) (Ev.c _ rfl) rfl) rfl ⟨rfl, trivial⟩ trivial ?_
        refine G.op1 (op_assign (Ev.t 22 (bI .i64 (IntKind.wrap .i64 (v3.1 + 1)))) rfl) rfl ⟨rfl, trivial⟩ trivial ?_
        refine G.endOps ?_
        exact G.arr (J4 (IntKind.wrap .i64 (v3.1 + 1), y9) hF) ⟨rfl, rfl, rfl, trivial⟩ ⟨rfl, trivial⟩ rfl
      refine G.block ?_
      refine G.seq ?_
      refine G.region ?_
      refine G.op1 (op_assign (Ev.n 3) rfl) rfl trivial trivial ?_
      refine G.endOps ?_
      refine G.seq ?_
      refine G.region ?_
      refine G.op1 (op_assign (Ev.c _ rfl) rfl) rfl trivial trivial ?_
      refine G.endOps ?_
      refine G.seq ?_
      refine G.seq ?_
      refine G.region ?_
      refine G.op1 (op_assign (Ev.c _ rfl) rfl) rfl trivial trivial ?_
      refine G.endOps ?_
      refine G.joinC (T := (List Api_Dep)) (fun y11 => ⟨[(0, .one (.g (.d (.sl 3 (List.map encLaw14_Write l_0))))), (3, .one (.own 2003 (List.map encApi_Version v3.2))), (4, .one (bI .i64 v3.1)), (5, .one (.g (.d (.sl 3 (List.map encApi_Dep y11))))), (6, .one (bI .i64 0))], [(2003, some (.row 32 6 (List.map encApi_Version v3.2) false))]⟩) (fun y11 => law14_made_k5 l_0 again5 v3 y11 = some r) (fun y11 hF => ?_) (fun J38 => ?_)
      · unfold law14_made_k5 at hF
        refine G.seq ?_
        refine G.seq ?_
        refine G.region ?_
        refine G.op1 (op_assign (Ev.c _ rfl) rfl) rfl trivial trivial ?_
        refine G.endOps ?_
        refine G.joinC (T := Int) (fun y12 => ⟨[(0, .one (.g (.d (.sl 3 (List.map encLaw14_Write l_0))))), (3, .one (.own 2003 (List.map encApi_Version v3.2))), (4, .one (bI .i64 v3.1)), (5, .one (.g (.d (.sl 3 (List.map encApi_Dep y11))))), (6, .one (bI .i64 y12))], [(2003, some (.row 32 6 (List.map encApi_Version v3.2) false))]⟩) (fun y12 => law14_made_k6 l_0 again5 v3 y11 y12 = some r) (fun y12 hF => ?_) (fun J29 => ?_)
        · unfold law14_made_k6 at hF
          refine G.seq ?_
          obtain ⟨x13, hx13, hF⟩ := bindS hF
          obtain ⟨r14, hr14, hF⟩ := bindS hF
          obtain ⟨x15, hx15, hF⟩ := bindS hF
          refine G.drawn (effs := [⟨[(0, .one (.g (.d (.sl 3 (List.map encLaw14_Write l_0)))))], [], [(91, .one (.g (.d (.sl 3 (List.map encLaw14_Write l_0)))))], []⟩, ⟨[(4, .one (bI .i64 v3.1))], [], [(92, .one (bI .i64 v3.1))], []⟩, ⟨[(91, .one (.g (.d (.sl 3 (List.map encLaw14_Write l_0))))), (92, .one (bI .i64 v3.1))], [], [(93, .one (.ep [.v (.int .i64 x13.Key), .v (.int .i64 x13.Site), .sl 1 (List.map encI_i64 x13.Saw)]))], []⟩, ⟨[(93, .one (.ep [.v (.int .i64 x13.Key), .v (.int .i64 x13.Site), .sl 1 (List.map encI_i64 x13.Saw)]))], [], [(94, .one (.ep [.v (.int .i64 x13.Key), .v (.int .i64 x13.Site), .sl 1 (List.map encI_i64 x13.Saw)]))], []⟩, ⟨[(94, .one (.ep [.v (.int .i64 x13.Key), .v (.int .i64 x13.Site), .sl 1 (List.map encI_i64 x13.Saw)]))], [], [(95, .one (bI .i64 x13.Key))], []⟩, ⟨[(95, .one (bI .i64 x13.Key))], [], [(96, .one (bS r14))], []⟩, ⟨[(6, .one (bI .i64 y12))], [], [(97, .one (bI .i64 y12))], []⟩, ⟨[(97, .one (bI .i64 y12))], [], [(98, .one (bI .i64 (IntKind.wrap .i64 (y12 + 1))))], []⟩, ⟨[(0, .one (.g (.d (.sl 3 (List.map encLaw14_Write l_0)))))], [], [(99, .one (.g (.d (.sl 3 (List.map encLaw14_Write l_0)))))], []⟩, ⟨[(4, .one (bI .i64 v3.1))], [], [(100, .one (bI .i64 v3.1))], []⟩, ⟨[(99, .one (.g (.d (.sl 3 (List.map encLaw14_Write l_0))))), (100, .one (bI .i64 v3.1))], [], [(101, .one (.ep [.v (.int .i64 x15.Key), .v (.int .i64 x15.Site), .sl 1 (List.map encI_i64 x15.Saw)]))], []⟩, ⟨[(101, .one (.ep [.v (.int .i64 x15.Key), .v (.int .i64 x15.Site), .sl 1 (List.map encI_i64 x15.Saw)]))], [], [(102, .one (.ep [.v (.int .i64 x15.Site), .sl 1 (List.map encI_i64 x15.Saw)]))], []⟩, ⟨[(102, .one (.ep [.v (.int .i64 x15.Site), .sl 1 (List.map encI_i64 x15.Saw)]))], [], [(103, .one (bI .i64 x15.Site))], []⟩, ⟨[(103, .one (bI .i64 x15.Site))], [], [(104, .one (bI .i64 (IntKind.wrap .i64 (BitVec.ofInt (IntKind.bits .i64) x15.Site &&& BitVec.ofInt (IntKind.bits .i64) 3).toNat)))], []⟩, ⟨[(98, .one (bI .i64 (IntKind.wrap .i64 (y12 + 1)))), (104, .one (bI .i64 (IntKind.wrap .i64 (BitVec.ofInt (IntKind.bits .i64) x15.Site &&& BitVec.ofInt (IntKind.bits .i64) 3).toNat)))], [], [(105, .one (.g (.agg [.v (.int .i64 (IntKind.wrap .i64 (y12 + 1))), .v (.int .i64 (IntKind.wrap .i64 (BitVec.ofInt (IntKind.bits .i64) x15.Site &&& BitVec.ofInt (IntKind.bits .i64) 3).toNat))])))], []⟩, ⟨[(5, .one (.g (.d (.sl 3 (List.map encApi_Dep y11)))))], [], [(106, .one (.g (.d (.sl 3 (List.map encApi_Dep y11)))))], []⟩, ⟨[(96, .one (bS r14)), (105, .one (.g (.agg [.v (.int .i64 (IntKind.wrap .i64 (y12 + 1))), .v (.int .i64 (IntKind.wrap .i64 (BitVec.ofInt (IntKind.bits .i64) x15.Site &&& BitVec.ofInt (IntKind.bits .i64) 3).toNat))]))), (106, .one (.g (.d (.sl 3 (List.map encApi_Dep y11)))))], [], [(107, .one (.g (.agg [.v (.string r14), .v (.string ByteArray.empty), .v (.bool false), .v (.int .i64 (IntKind.wrap .i64 (y12 + 1))), .v (.int .i64 (IntKind.wrap .i64 (BitVec.ofInt (IntKind.bits .i64) x15.Site &&& BitVec.ofInt (IntKind.bits .i64) 3).toNat)), .sl 3 (List.map encApi_Dep y11)])))], []⟩, ⟨[], [(1010, none)], [(10, .one (.ptr 1010 0))], [(1010, some (.blk 32 [bS ByteArray.empty, bS ByteArray.empty, bB false, bI .i64 0, bI .i64 0, .g (.d (.sl 3 (List.map encApi_Dep ([] : (List Api_Dep)))))]))]⟩, ⟨[(10, .one (.ptr 1010 0)), (107, .one (.g (.agg [.v (.string r14), .v (.string ByteArray.empty), .v (.bool false), .v (.int .i64 (IntKind.wrap .i64 (y12 + 1))), .v (.int .i64 (IntKind.wrap .i64 (BitVec.ofInt (IntKind.bits .i64) x15.Site &&& BitVec.ofInt (IntKind.bits .i64) 3).toNat)), .sl 3 (List.map encApi_Dep y11)])))], [(1010, some (.blk 32 [bS ByteArray.empty, bS ByteArray.empty, bB false, bI .i64 0, bI .i64 0, .g (.d (.sl 3 (List.map encApi_Dep ([] : (List Api_Dep)))))]))], [], [(1010, some (.blk 32 [bS r14, bS ByteArray.empty, bB false, bI .i64 (IntKind.wrap .i64 (y12 + 1)), bI .i64 (IntKind.wrap .i64 (BitVec.ofInt (IntKind.bits .i64) x15.Site &&& BitVec.ofInt (IntKind.bits .i64) 3).toNat), .g (.d (.sl 3 (List.map encApi_Dep y11)))]))]⟩]) (deps := [[], [], [0, 1], [0, 1, 2], [0, 1, 2, 3], [0, 1, 2, 3, 4], [], [6], [], [], [8, 9], [8, 9, 10], [8, 9, 10, 11], [8, 9, 10, 11, 12], [6, 7, 8, 9, 10, 11, 12, 13], [], [0, 1, 2, 3, 4, 5, 6, 7, 8, 9, 10, 11, 12, 13, 14, 15], [], [0, 1, 2, 3, 4, 5, 6, 7, 8, 9, 10, 11, 12, 13, 14, 15, 16, 17]]) (sl' := [(0, .one (.g (.d (.sl 3 (List.map encLaw14_Write l_0))))), (3, .one (.own 2003 (List.map encApi_Version v3.2))), (4, .one (bI .i64 v3.1)), (10, .one (.ptr 1010 0))]) (hp' := [(1010, some (.blk 32 [bS r14, bS ByteArray.empty, bB false, bI .i64 (IntKind.wrap .i64 (y12 + 1)), bI .i64 (IntKind.wrap .i64 (BitVec.ofInt (IntKind.bits .i64) x15.Site &&& BitVec.ofInt (IntKind.bits .i64) 3).toNat), .g (.d (.sl 3 (List.map encApi_Dep y11)))])), (2003, some (.row 32 6 (List.map encApi_Version v3.2) false))]) follows rfl rfl rfl ⟨⟨rfl, trivial⟩, trivial, ⟨rfl, trivial⟩, trivial, ⟨rfl, rfl, trivial⟩, trivial, ⟨rfl, trivial⟩, trivial, ⟨rfl, trivial⟩, trivial, ⟨rfl, trivial⟩, trivial, ⟨rfl, trivial⟩, trivial, ⟨rfl, trivial⟩, trivial, ⟨rfl, trivial⟩, trivial, ⟨rfl, trivial⟩, trivial, ⟨rfl, rfl, trivial⟩, trivial, ⟨rfl, trivial⟩, trivial, ⟨rfl, trivial⟩, trivial, ⟨rfl, trivial⟩, trivial, ⟨rfl, rfl, trivial⟩, trivial, ⟨rfl, trivial⟩, trivial, ⟨rfl, rfl, rfl, trivial⟩, trivial, trivial, ⟨⟨rfl, rfl⟩, trivial⟩, ⟨rfl, rfl, trivial⟩, ⟨⟨rfl, rfl⟩, trivial⟩, trivial⟩ ⟨OpW.plain (op_move (Ev.t 0 (.g (.d (.sl 3 (List.map encLaw14_Write l_0))))) rfl) rfl rfl, OpW.plain (op_move (Ev.t 4 (bI .i64 v3.1)) rfl) rfl rfl, OpW.plain (op_index (cs := [.v (.int .i64 x13.Key), .v (.int .i64 x13.Site), .sl 1 (List.map encI_i64 x13.Saw)]) Try.underlying22 ti70 (idx_ok hx13).1 (idx_get hx13 encLaw14_Write) (Ev.t 91 (.g (.d (.sl 3 (List.map encLaw14_Write l_0))))) (Ev.t 92 (bI .i64 v3.1)) rfl) rfl rfl, OpW.plain (op_fieldE (cs' := [.v (.int .i64 x13.Key), .v (.int .i64 x13.Site), .sl 1 (List.map encI_i64 x13.Saw)]) Try.underlying70 rfl ti3 (by decide) rfl (Ev.t 93 (.ep [.v (.int .i64 x13.Key), .v (.int .i64 x13.Site), .sl 1 (List.map encI_i64 x13.Saw)])) rfl) rfl rfl, OpW.plain (op_load1E (c := .v (.int .i64 x13.Key)) Try.underlying3 rfl rfl (Ev.t 94 (.ep [.v (.int .i64 x13.Key), .v (.int .i64 x13.Site), .sl 1 (List.map encI_i64 x13.Saw)])) rfl) rfl rfl, OpW.plain (op_callQ (sv := .one (bS r14)) cf32 (ct_law14_word x13.Key r14 hr14) rfl rfl (EvQL.cons (EvQ.g (Ev.t 95 (bI .i64 x13.Key))) EvQL.nil) rfl) rfl rfl, OpW.plain (op_move (Ev.t 6 (bI .i64 y12)) rfl) rfl rfl, OpW.plain (op_add (Ev.t 97 (bI .i64 y12)) (Ev.c _ rfl) rfl) rfl rfl, OpW.plain (op_move (Ev.t 0 (.g (.d (.sl 3 (List.map encLaw14_Write l_0))))) rfl) rfl rfl, OpW.plain (op_move (Ev.t 4 (bI .i64 v3.1)) rfl) rfl rfl, OpW.plain (op_index (cs := [.v (.int .i64 x15.Key), .v (.int .i64 x15.Site), .sl 1 (List.map encI_i64 x15.Saw)]) Try.underlying22 ti70 (idx_ok hx15).1 (idx_get hx15 encLaw14_Write) (Ev.t 99 (.g (.d (.sl 3 (List.map encLaw14_Write l_0))))) (Ev.t 100 (bI .i64 v3.1)) rfl) rfl rfl, OpW.plain (op_fieldE (cs' := [.v (.int .i64 x15.Site), .sl 1 (List.map encI_i64 x15.Saw)]) Try.underlying70 rfl ti3 (by decide) rfl (Ev.t 101 (.ep [.v (.int .i64 x15.Key), .v (.int .i64 x15.Site), .sl 1 (List.map encI_i64 x15.Saw)])) rfl) rfl rfl, OpW.plain (op_load1E (c := .v (.int .i64 x15.Site)) Try.underlying3 rfl rfl (Ev.t 102 (.ep [.v (.int .i64 x15.Site), .sl 1 (List.map encI_i64 x15.Saw)])) rfl) rfl rfl, OpW.plain (op_and (Ev.t 103 (bI .i64 x15.Site)) (Ev.c _ rfl) rfl) rfl rfl, OpW.plain (op_build (zs := [.v (.int .i64 0), .v (.int .i64 0)]) (ds := [.v (.int .i64 (IntKind.wrap .i64 (y12 + 1))), .v (.int .i64 (IntKind.wrap .i64 (BitVec.ofInt (IntKind.bits .i64) x15.Site &&& BitVec.ofInt (IntKind.bits .i64) 3).toNat))]) Try.underlying29 ti29 (pl29 _ Try.underlying29) ⟨.v _ rfl, .v _ rfl, trivial⟩ (EvP.cons (Ev.t 98 (bI .i64 (IntKind.wrap .i64 (y12 + 1)))) (EvP.cons (Ev.t 104 (bI .i64 (IntKind.wrap .i64 (BitVec.ofInt (IntKind.bits .i64) x15.Site &&& BitVec.ofInt (IntKind.bits .i64) 3).toNat))) EvP.nil)) rfl rfl) rfl rfl, OpW.plain (op_move (Ev.t 5 (.g (.d (.sl 3 (List.map encApi_Dep y11))))) rfl) rfl rfl, OpW.plain (op_build (zs := [.v (.string ByteArray.empty), .v (.string ByteArray.empty), .v (.bool false), .v (.int .i64 0), .v (.int .i64 0), .sl 3 (List.map encApi_Dep ([] : (List Api_Dep)))]) (ds := [.v (.string r14), .v (.string ByteArray.empty), .v (.bool false), .v (.int .i64 (IntKind.wrap .i64 (y12 + 1))), .v (.int .i64 (IntKind.wrap .i64 (BitVec.ofInt (IntKind.bits .i64) x15.Site &&& BitVec.ofInt (IntKind.bits .i64) 3).toNat)), .sl 3 (List.map encApi_Dep y11)]) Try.underlying32 ti32 (pl32 _ Try.underlying32) ⟨.v _ rfl, .v _ rfl, .v _ rfl, .v _ rfl, .v _ rfl, .n 3, trivial⟩ (EvP.cons (Ev.t 96 (bS r14)) (EvP.cons (Ev.t 105 (.g (.agg [.v (.int .i64 (IntKind.wrap .i64 (y12 + 1))), .v (.int .i64 (IntKind.wrap .i64 (BitVec.ofInt (IntKind.bits .i64) x15.Site &&& BitVec.ofInt (IntKind.bits .i64) 3).toNat))]))) (EvP.cons (Ev.t 106 (.g (.d (.sl 3 (List.map encApi_Dep y11))))) EvP.nil))) rfl rfl) rfl rfl, OpW.plain (op_alloc (k := 1010) (cs := [bS ByteArray.empty, bS ByteArray.empty, bB false, bI .i64 0, bI .i64 0, .g (.d (.sl 3 (List.map encApi_Dep ([] : (List Api_Dep)))))]) ti32 ⟨.v _ rfl, .v _ rfl, .v _ rfl, .v _ rfl, .v _ rfl, .n 3, trivial⟩ rfl) rfl rfl, OpW.plain (op_storeA (cs' := [bS r14, bS ByteArray.empty, bB false, bI .i64 (IntKind.wrap .i64 (y12 + 1)), bI .i64 (IntKind.wrap .i64 (BitVec.ofInt (IntKind.bits .i64) x15.Site &&& BitVec.ofInt (IntKind.bits .i64) 3).toNat), .g (.d (.sl 3 (List.map encApi_Dep y11)))]) ti32 rfl rfl (Ev.t 10 (.ptr 1010 0)) (Ev.t 107 (.g (.agg [.v (.string r14), .v (.string ByteArray.empty), .v (.bool false), .v (.int .i64 (IntKind.wrap .i64 (y12 + 1))), .v (.int .i64 (IntKind.wrap .i64 (BitVec.ofInt (IntKind.bits .i64) x15.Site &&& BitVec.ofInt (IntKind.bits .i64) 3).toNat)), .sl 3 (List.map encApi_Dep y11)])))) rfl rfl, trivial⟩ ⟨rfl, rfl, rfl, rfl, trivial⟩ ⟨rfl, rfl, trivial⟩ rfl ?_
          refine G.seq ?_
          refine G.region ?_
          refine G.op1 (op_assign (Ev.c _ rfl) rfl) rfl trivial trivial ?_
          refine G.endOps ?_
          refine G.seq ?_
          refine G.seq ?_
          refine G.region ?_
          refine G.op1 (op_assign (Ev.c _ rfl) rfl) rfl trivial trivial ?_
          refine G.endOps ?_
          refine G.joinC (T := Bool) (fun y16 => ⟨[(0, .one (.g (.d (.sl 3 (List.map encLaw14_Write l_0))))), (3, .one (.own 2003 (List.map encApi_Version v3.2))), (4, .one (bI .i64 v3.1)), (10, .one (.ptr 1010 0)), (11, .one (bB y16))], [(1010, some (.blk 32 [bS r14, bS ByteArray.empty, bB false, bI .i64 (IntKind.wrap .i64 (y12 + 1)), bI .i64 (IntKind.wrap .i64 (BitVec.ofInt (IntKind.bits .i64) x15.Site &&& BitVec.ofInt (IntKind.bits .i64) 3).toNat), .g (.d (.sl 3 (List.map encApi_Dep y11)))])), (2003, some (.row 32 6 (List.map encApi_Version v3.2) false))]⟩) (fun y16 => law14_made_k7 again5 v3 y11 y12 r14 x15 y16 = some r) (fun y16 hF => ?_) (fun J19 => ?_)
          · unfold law14_made_k7 at hF
            refine G.seq ?_
            refine G.region ?_
            refine G.op1 (op_move (Ev.t 11 (bB y16)) rfl) rfl ⟨rfl, trivial⟩ trivial ?_
            refine G.op1 (op_not (Ev.t 135 (bB y16)) rfl) rfl ⟨rfl, trivial⟩ trivial ?_
            refine G.endOps ?_
            refine ifS hF (fun hc17 hF => ?_) (fun hc17 hF => ?_)
            · refine G.cond rfl (fun _ => ?_) (fun hx => by rw [hc17] at hx; cases hx)
              refine G.region ?_
              refine G.op1 (op_move (Ev.t 3 (.own 2003 (List.map encApi_Version v3.2))) rfl) rfl ⟨rfl, trivial⟩ trivial ?_
              refine G.op1 (op_loadAP (ds := [.v (.string r14), .v (.string ByteArray.empty), .v (.bool false), .v (.int .i64 (IntKind.wrap .i64 (y12 + 1))), .v (.int .i64 (IntKind.wrap .i64 (BitVec.ofInt (IntKind.bits .i64) x15.Site &&& BitVec.ofInt (IntKind.bits .i64) 3).toNat)), .sl 3 (List.map encApi_Dep y11)]) Try.underlying32 rfl ti32 rfl (Ev.t 10 (.ptr 1010 0)) rfl) rfl ⟨rfl, trivial⟩ ⟨rfl, trivial⟩ ?_
              refine G.op1 (op_buildSlice (es := List.map encApi_Version [(Api_Version.mk r14 ByteArray.empty false (Api_Stamp.mk (IntKind.wrap .i64 (y12 + 1)) (IntKind.wrap .i64 (BitVec.ofInt (IntKind.bits .i64) x15.Site &&& BitVec.ofInt (IntKind.bits .i64) 3).toNat)) y11)]) Try.underlying24 ti32 rfl rfl (EvP.cons (Ev.t 138 (.g (.agg [.v (.string r14), .v (.string ByteArray.empty), .v (.bool false), .v (.int .i64 (IntKind.wrap .i64 (y12 + 1))), .v (.int .i64 (IntKind.wrap .i64 (BitVec.ofInt (IntKind.bits .i64) x15.Site &&& BitVec.ofInt (IntKind.bits .i64) 3).toNat)), .sl 3 (List.map encApi_Dep y11)]))) EvP.nil) rfl rfl (by simp [encApi_Version]) rfl) rfl ⟨rfl, trivial⟩ trivial ?_
              obtain ⟨l18, hl18, hF⟩ := bindS hF
              refine G.op2 (op_appendO Try.underlying24 ti32 rfl (app_map hl18 encApi_Version) (app_b1 hl18 encApi_Version) (app_b2 hl18 encApi_Version) (Ev.t 137 (.own 2003 (List.map encApi_Version v3.2))) (Ev.t 139 (.g (.d (.sl 6 (List.map encApi_Version ([(Api_Version.mk r14 ByteArray.empty false (Api_Stamp.mk (IntKind.wrap .i64 (y12 + 1)) (IntKind.wrap .i64 (BitVec.ofInt (IntKind.bits .i64) x15.Site &&& BitVec.ofInt (IntKind.bits .i64) 3).toNat)) y11)])))))) rfl) rfl ⟨rfl, rfl, trivial⟩ ⟨rfl, trivial⟩ ?_
              refine G.op1 (op_assign (Ev.t 140 (.own 2003 (List.map encApi_Version l18))) rfl) rfl ⟨rfl, trivial⟩ trivial ?_
              refine G.endOps ?_
              refine G.endBlock ?_
              exact G.arr (J10 l18 hF) ⟨rfl, rfl, rfl, trivial⟩ ⟨rfl, trivial⟩ rfl
            · refine G.cond rfl (fun hx => by rw [hc17] at hx; cases hx) (fun _ => ?_)
              refine G.skip ?_
              refine G.endBlock ?_
              exact G.arr (J10 v3.2 hF) ⟨rfl, rfl, rfl, trivial⟩ ⟨rfl, trivial⟩ rfl
          refine G.block ?_
          refine G.keep (sl' := [(0, .one (.g (.d (.sl 3 (List.map encLaw14_Write l_0))))), (3, .one (.own 2003 (List.map encApi_Version v3.2))), (4, .one (bI .i64 v3.1)), (10, .one (.ptr 1010 0)), (11, .one (bB false)), (12, .one (bI .i64 0))]) (hp' := [(1010, some (.blk 32 [bS r14, bS ByteArray.empty, bB false, bI .i64 (IntKind.wrap .i64 (y12 + 1)), bI .i64 (IntKind.wrap .i64 (BitVec.ofInt (IntKind.bits .i64) x15.Site &&& BitVec.ofInt (IntKind.bits .i64) 3).toNat), .g (.d (.sl 3 (List.map encApi_Dep y11)))])), (2003, some (.row 32 6 (List.map encApi_Version v3.2) false))]) ⟨rfl, rfl, rfl, rfl, rfl, rfl, trivial⟩ ⟨rfl, rfl, trivial⟩ rfl ?_
          refine G.loopF (fun (v20 : Bool × Int) => ⟨[(0, .one (.g (.d (.sl 3 (List.map encLaw14_Write l_0))))), (3, .one (.own 2003 (List.map encApi_Version v3.2))), (4, .one (bI .i64 v3.1)), (10, .one (.ptr 1010 0)), (11, .one (bB v20.1)), (12, .one (bI .i64 v20.2))], [(1010, some (.blk 32 [bS r14, bS ByteArray.empty, bB false, bI .i64 (IntKind.wrap .i64 (y12 + 1)), bI .i64 (IntKind.wrap .i64 (BitVec.ofInt (IntKind.bits .i64) x15.Site &&& BitVec.ofInt (IntKind.bits .i64) 3).toNat), .g (.d (.sl 3 (List.map encApi_Dep y11)))])), (2003, some (.row 32 6 (List.map encApi_Version v3.2) false))]⟩) hF rfl (fun K23 again22 v20 J21 hF => ?_)
          unfold law14_made_l8 at hF
          refine G.seq ?_
          refine G.seq ?_
          refine G.region ?_
          refine G.op1 (op_move (Ev.t 12 (bI .i64 v20.2)) rfl) rfl ⟨rfl, trivial⟩ trivial ?_
          refine G.op1 (op_move (Ev.t 3 (.own 2003 (List.map encApi_Version v3.2))) rfl) rfl ⟨rfl, trivial⟩ trivial ?_
          refine G.op1 (OpL.cast (op_lenO Try.underlying24 (Ev.t 109 (.own 2003 (List.map encApi_Version v3.2))) rfl) (by rw [List.length_map])) rfl ⟨rfl, trivial⟩ ⟨rfl, trivial⟩ ?_
          refine G.op1 (op_lss (Ev.t 108 (bI .i64 v20.2)) (Ev.t 110 (bI .i64 (v3.2.length : Int))) rfl) rfl ⟨rfl, rfl, trivial⟩ trivial ?_
          refine G.endOps ?_
          refine ifS hF (fun hc24 hF => ?_) (fun hc24 hF => ?_)
          · refine G.cond rfl (fun _ => ?_) (fun hx => by rw [hc24] at hx; cases hx)
            refine G.skip ?_
            refine G.seq ?_
            refine G.block ?_
            refine ifS hF (fun hc25 hF => ?_) (fun hc25 hF => ?_)
            · refine G.known (t := 11) (c := true) hc25 rfl ?_
              refine G.drawn (effs := (⟨[(11, .one (bB true))], [], [(114, .one (bB true))], []⟩ :: ⟨[(114, .one (bB true))], [], [(115, .one (bB true))], []⟩ :: ⟨[(115, .one (bB true))], [], [(116, .one (.x Go.undef))], []⟩ :: ⟨[(115, .one (bB true))], [], [(117, .one (.x Go.undef))], []⟩ :: ⟨[(115, .one (bB true))], [], [(118, .one (.x Go.undef))], []⟩ :: ⟨[(115, .one (bB true))], [], [(119, .one (.x Go.undef))], []⟩ :: ⟨[(115, .one (bB true))], [], [(120, .one (.x Go.undef))], []⟩ :: ⟨[(115, .one (bB true))], [], [(121, .one (.x Go.undef))], []⟩ :: ⟨[(115, .one (bB true))], [], [(122, .one (.x Go.undef))], []⟩ :: ⟨[(115, .one (bB true))], [], [(123, .one (.x Go.undef))], []⟩ :: ⟨[(115, .one (bB true))], [], [(124, .one (.x Go.undef))], []⟩ :: ⟨[(124, .one (.x Go.undef))], [], [(125, .one (.x Go.undef))], []⟩ :: ⟨[(124, .one (.x Go.undef))], [], [(126, .one (.x Go.undef))], []⟩ :: ⟨[(124, .one (.x Go.undef))], [], [(127, .one (.x Go.undef))], []⟩ :: ⟨[(124, .one (.x Go.undef))], [], [(128, .one (.x Go.undef))], []⟩ :: ⟨[(124, .one (.x Go.undef))], [], [(129, .one (.x Go.undef))], []⟩ :: ⟨[(124, .one (.x Go.undef))], [], [(130, .one (.x Go.undef))], []⟩ :: ⟨[(124, .one (.x Go.undef))], [], [(131, .one (.x Go.undef))], []⟩ :: ⟨[(124, .one (.x Go.undef))], [], [(132, .one (.x Go.undef))], []⟩ :: ⟨[(115, .one (bB true))], [], [(133, .one (.x Go.undef))], []⟩ :: ⟨[(115, .one (bB true))], [], [(134, .one (bB true))], []⟩ :: ⟨[(134, .one (bB true))], [], [(11, .one (bB true))], []⟩ :: [])) (deps := ([] :: [0] :: [0, 1] :: [0, 1] :: [0, 1, 2, 3] :: [0, 1, 2, 3, 4] :: [0, 1, 2, 3, 4, 5] :: [0, 1] :: [0, 1, 7] :: [0, 1, 2, 3, 4, 5, 6, 7, 8] :: [0, 1, 2, 3, 4, 5, 6, 7, 8, 9] :: [0, 1, 2, 3, 4, 5, 6, 7, 8, 9, 10] :: [0, 1, 2, 3, 4, 5, 6, 7, 8, 9, 10] :: [0, 1, 2, 3, 4, 5, 6, 7, 8, 9, 10, 11, 12] :: [0, 1, 2, 3, 4, 5, 6, 7, 8, 9, 10, 11, 12, 13] :: [0, 1, 2, 3, 4, 5, 6, 7, 8, 9, 10, 11, 12, 13, 14] :: [0, 1, 2, 3, 4, 5, 6, 7, 8, 9, 10] :: [0, 1, 2, 3, 4, 5, 6, 7, 8, 9, 10, 16] :: [0, 1, 2, 3, 4, 5, 6, 7, 8, 9, 10, 11, 12, 13, 14, 15, 16, 17] :: [0, 1, 2, 3, 4, 5, 6, 7, 8, 9, 10, 11, 12, 13, 14, 15, 16, 17, 18] :: [0, 1, 2, 3, 4, 5, 6, 7, 8, 9, 10, 11, 12, 13, 14, 15, 16, 17, 18, 19] :: (0 :: 1 :: 2 :: 3 :: 4 :: 5 :: 6 :: 7 :: 8 :: 9 :: 10 :: 11 :: 12 :: 13 :: 14 :: 15 :: 16 :: 17 :: 18 :: 19 :: 20 :: []) :: [])) (sl' := [(0, .one (.g (.d (.sl 3 (List.map encLaw14_Write l_0))))), (3, .one (.own 2003 (List.map encApi_Version v3.2))), (4, .one (bI .i64 v3.1)), (10, .one (.ptr 1010 0)), (11, .one (bB true)), (12, .one (bI .i64 v20.2))]) (hp' := [(1010, some (.blk 32 [bS r14, bS ByteArray.empty, bB false, bI .i64 (IntKind.wrap .i64 (y12 + 1)), bI .i64 (IntKind.wrap .i64 (BitVec.ofInt (IntKind.bits .i64) x15.Site &&& BitVec.ofInt (IntKind.bits .i64) 3).toNat), .g (.d (.sl 3 (List.map encApi_Dep y11)))])), (2003, some (.row 32 6 (List.map encApi_Version v3.2) false))]) follows rfl rfl rfl ⟨⟨⟨rfl, rfl⟩, trivial⟩, trivial, ⟨rfl, trivial⟩, trivial, ⟨rfl, trivial⟩, trivial, ⟨rfl, trivial⟩, trivial, ⟨rfl, trivial⟩, trivial, ⟨rfl, trivial⟩, trivial, ⟨rfl, trivial⟩, trivial, ⟨rfl, trivial⟩, trivial, ⟨rfl, trivial⟩, trivial, ⟨rfl, trivial⟩, trivial, ⟨rfl, trivial⟩, trivial, ⟨rfl, trivial⟩, trivial, ⟨rfl, trivial⟩, trivial, ⟨rfl, trivial⟩, trivial, ⟨rfl, trivial⟩, trivial, ⟨rfl, trivial⟩, trivial, ⟨rfl, trivial⟩, trivial, ⟨rfl, trivial⟩, trivial, ⟨rfl, trivial⟩, trivial, ⟨rfl, trivial⟩, trivial, ⟨rfl, trivial⟩, trivial, ⟨rfl, trivial⟩, trivial, trivial⟩ ⟨OpW.plain (op_move (Ev.t 11 (bB true)) rfl) rfl rfl, OpW.plain (op_move (Ev.t 114 (bB true)) rfl) rfl rfl, OpW.no rfl rfl rfl rfl rfl, OpW.no rfl rfl rfl rfl rfl, OpW.no rfl rfl rfl rfl rfl, OpW.no rfl rfl rfl rfl rfl, OpW.no rfl rfl rfl rfl rfl, OpW.no rfl rfl rfl rfl rfl, OpW.no rfl rfl rfl rfl rfl, OpW.no rfl rfl rfl rfl rfl, OpW.no rfl rfl rfl rfl rfl, OpW.un rfl rfl rfl rfl, OpW.un rfl rfl rfl rfl, OpW.un rfl rfl rfl rfl, OpW.un rfl rfl rfl rfl, OpW.un rfl rfl rfl rfl, OpW.un rfl rfl rfl rfl, OpW.un rfl rfl rfl rfl, OpW.un rfl rfl rfl rfl, OpW.no rfl rfl rfl rfl rfl, OpW.plain (op_pickT (Ev.t 115 (bB true)) (Ev.c _ rfl) rfl) rfl rfl, OpW.plain (op_assign (Ev.t 134 (bB true)) rfl) rfl rfl, trivial⟩ ⟨rfl, rfl, rfl, rfl, rfl, rfl, trivial⟩ ⟨rfl, rfl, trivial⟩ rfl ?_
              refine G.endBlock ?_
              refine G.region ?_
              refine G.op1 (op_move (Ev.t 12 (bI .i64 v20.2)) rfl) rfl ⟨rfl, trivial⟩ trivial ?_
              refine G.op1 (op_add (Ev.t 112 (bI .i64 v20.2)) (Ev.c _ rfl) rfl) rfl ⟨rfl, trivial⟩ trivial ?_
              refine G.op1 (op_assign (Ev.t 113 (bI .i64 (IntKind.wrap .i64 (v20.2 + 1)))) rfl) rfl ⟨rfl, trivial⟩ trivial ?_
              refine G.endOps ?_
              exact G.arr (J21 (true, IntKind.wrap .i64 (v20.2 + 1)) hF) ⟨rfl, rfl, rfl, rfl, rfl, rfl, trivial⟩ ⟨rfl, rfl, trivial⟩ rfl
            · refine G.known (t := 11) (c := false) hc25 rfl ?_
              obtain ⟨x26, hx26, hF⟩ := bindS hF
              refine ifS hF (fun hc27 hF => ?_) (fun hc27 hF => ?_)
              · obtain ⟨x28, hx28, hF⟩ := bindS hF
                refine G.drawn (effs := (⟨[(11, .one (bB false))], [], [(114, .one (bB false))], []⟩ :: ⟨[(114, .one (bB false))], [], [(115, .one (bB false))], []⟩ :: ⟨[(115, .one (bB false)), (3, .one (.own 2003 (List.map encApi_Version v3.2)))], [(2003, some (.row 32 6 (List.map encApi_Version v3.2) false))], [(116, .one (.g (.d (.sl 6 (List.map encApi_Version v3.2)))))], []⟩ :: ⟨[(115, .one (bB false)), (12, .one (bI .i64 v20.2))], [], [(117, .one (bI .i64 v20.2))], []⟩ :: ⟨[(115, .one (bB false)), (116, .one (.g (.d (.sl 6 (List.map encApi_Version v3.2))))), (117, .one (bI .i64 v20.2))], [], [(118, .one (.ep [.v (.string x26.Key), .v (.string x26.Value), .v (.bool x26.Gone), .v (.int .i64 x26.Stamp.N), .v (.int .i64 x26.Stamp.Site), .sl 3 (List.map encApi_Dep x26.Past)]))], []⟩ :: ⟨[(115, .one (bB false)), (118, .one (.ep [.v (.string x26.Key), .v (.string x26.Value), .v (.bool x26.Gone), .v (.int .i64 x26.Stamp.N), .v (.int .i64 x26.Stamp.Site), .sl 3 (List.map encApi_Dep x26.Past)]))], [], [(119, .one (.ep [.v (.string x26.Key), .v (.string x26.Value), .v (.bool x26.Gone), .v (.int .i64 x26.Stamp.N), .v (.int .i64 x26.Stamp.Site), .sl 3 (List.map encApi_Dep x26.Past)]))], []⟩ :: ⟨[(115, .one (bB false)), (119, .one (.ep [.v (.string x26.Key), .v (.string x26.Value), .v (.bool x26.Gone), .v (.int .i64 x26.Stamp.N), .v (.int .i64 x26.Stamp.Site), .sl 3 (List.map encApi_Dep x26.Past)]))], [], [(120, .one (bS x26.Key))], []⟩ :: ⟨[(115, .one (bB false)), (10, .one (.ptr 1010 0))], [], [(121, .one (.ptr 1010 0))], []⟩ :: ⟨[(115, .one (bB false)), (121, .one (.ptr 1010 0))], [(1010, some (.blk 32 [bS r14, bS ByteArray.empty, bB false, bI .i64 (IntKind.wrap .i64 (y12 + 1)), bI .i64 (IntKind.wrap .i64 (BitVec.ofInt (IntKind.bits .i64) x15.Site &&& BitVec.ofInt (IntKind.bits .i64) 3).toNat), .g (.d (.sl 3 (List.map encApi_Dep y11)))]))], [(122, .one (bS r14))], []⟩ :: ⟨[(115, .one (bB false)), (120, .one (bS x26.Key)), (122, .one (bS r14))], [], [(123, .one (bB true))], []⟩ :: ⟨[(115, .one (bB false)), (123, .one (bB true))], [], [(124, .one (bB true))], []⟩ :: ⟨[(124, .one (bB true)), (3, .one (.own 2003 (List.map encApi_Version v3.2)))], [(2003, some (.row 32 6 (List.map encApi_Version v3.2) false))], [(125, .one (.g (.d (.sl 6 (List.map encApi_Version v3.2)))))], []⟩ :: ⟨[(124, .one (bB true)), (12, .one (bI .i64 v20.2))], [], [(126, .one (bI .i64 v20.2))], []⟩ :: ⟨[(124, .one (bB true)), (125, .one (.g (.d (.sl 6 (List.map encApi_Version v3.2))))), (126, .one (bI .i64 v20.2))], [], [(127, .one (.ep [.v (.string x28.Key), .v (.string x28.Value), .v (.bool x28.Gone), .v (.int .i64 x28.Stamp.N), .v (.int .i64 x28.Stamp.Site), .sl 3 (List.map encApi_Dep x28.Past)]))], []⟩ :: ⟨[(124, .one (bB true)), (127, .one (.ep [.v (.string x28.Key), .v (.string x28.Value), .v (.bool x28.Gone), .v (.int .i64 x28.Stamp.N), .v (.int .i64 x28.Stamp.Site), .sl 3 (List.map encApi_Dep x28.Past)]))], [], [(128, .one (.ep [.v (.int .i64 x28.Stamp.N), .v (.int .i64 x28.Stamp.Site), .sl 3 (List.map encApi_Dep x28.Past)]))], []⟩ :: ⟨[(124, .one (bB true)), (128, .one (.ep [.v (.int .i64 x28.Stamp.N), .v (.int .i64 x28.Stamp.Site), .sl 3 (List.map encApi_Dep x28.Past)]))], [], [(129, .one (.g (.agg [.v (.int .i64 x28.Stamp.N), .v (.int .i64 x28.Stamp.Site)])))], []⟩ :: ⟨[(124, .one (bB true)), (10, .one (.ptr 1010 0))], [], [(130, .one (.ptr 1010 3))], []⟩ :: ⟨[(124, .one (bB true)), (130, .one (.ptr 1010 3))], [(1010, some (.blk 32 [bS r14, bS ByteArray.empty, bB false, bI .i64 (IntKind.wrap .i64 (y12 + 1)), bI .i64 (IntKind.wrap .i64 (BitVec.ofInt (IntKind.bits .i64) x15.Site &&& BitVec.ofInt (IntKind.bits .i64) 3).toNat), .g (.d (.sl 3 (List.map encApi_Dep y11)))]))], [(131, .one (.g (.agg [.v (.int .i64 (IntKind.wrap .i64 (y12 + 1))), .v (.int .i64 (IntKind.wrap .i64 (BitVec.ofInt (IntKind.bits .i64) x15.Site &&& BitVec.ofInt (IntKind.bits .i64) 3).toNat))])))], []⟩ :: ⟨[(124, .one (bB true)), (129, .one (.g (.agg [.v (.int .i64 x28.Stamp.N), .v (.int .i64 x28.Stamp.Site)]))), (131, .one (.g (.agg [.v (.int .i64 (IntKind.wrap .i64 (y12 + 1))), .v (.int .i64 (IntKind.wrap .i64 (BitVec.ofInt (IntKind.bits .i64) x15.Site &&& BitVec.ofInt (IntKind.bits .i64) 3).toNat))])))], [], [(132, .one (bB (decide (x28.Stamp.N = IntKind.wrap .i64 (y12 + 1)) && decide (x28.Stamp.Site = IntKind.wrap .i64 (BitVec.ofInt (IntKind.bits .i64) x15.Site &&& BitVec.ofInt (IntKind.bits .i64) 3).toNat))))], []⟩ :: ⟨[(115, .one (bB false)), (124, .one (bB true)), (132, .one (bB (decide (x28.Stamp.N = IntKind.wrap .i64 (y12 + 1)) && decide (x28.Stamp.Site = IntKind.wrap .i64 (BitVec.ofInt (IntKind.bits .i64) x15.Site &&& BitVec.ofInt (IntKind.bits .i64) 3).toNat))))], [], [(133, .one (bB (decide (x28.Stamp.N = IntKind.wrap .i64 (y12 + 1)) && decide (x28.Stamp.Site = IntKind.wrap .i64 (BitVec.ofInt (IntKind.bits .i64) x15.Site &&& BitVec.ofInt (IntKind.bits .i64) 3).toNat))))], []⟩ :: ⟨[(115, .one (bB false)), (133, .one (bB (decide (x28.Stamp.N = IntKind.wrap .i64 (y12 + 1)) && decide (x28.Stamp.Site = IntKind.wrap .i64 (BitVec.ofInt (IntKind.bits .i64) x15.Site &&& BitVec.ofInt (IntKind.bits .i64) 3).toNat))))], [], [(134, .one (bB (decide (x28.Stamp.N = IntKind.wrap .i64 (y12 + 1)) && decide (x28.Stamp.Site = IntKind.wrap .i64 (BitVec.ofInt (IntKind.bits .i64) x15.Site &&& BitVec.ofInt (IntKind.bits .i64) 3).toNat))))], []⟩ :: ⟨[(134, .one (bB (decide (x28.Stamp.N = IntKind.wrap .i64 (y12 + 1)) && decide (x28.Stamp.Site = IntKind.wrap .i64 (BitVec.ofInt (IntKind.bits .i64) x15.Site &&& BitVec.ofInt (IntKind.bits .i64) 3).toNat))))], [], [(11, .one (bB (decide (x28.Stamp.N = IntKind.wrap .i64 (y12 + 1)) && decide (x28.Stamp.Site = IntKind.wrap .i64 (BitVec.ofInt (IntKind.bits .i64) x15.Site &&& BitVec.ofInt (IntKind.bits .i64) 3).toNat))))], []⟩ :: [])) (deps := ([] :: [0] :: [0, 1] :: [0, 1] :: [0, 1, 2, 3] :: [0, 1, 2, 3, 4] :: [0, 1, 2, 3, 4, 5] :: [0, 1] :: [0, 1, 7] :: [0, 1, 2, 3, 4, 5, 6, 7, 8] :: [0, 1, 2, 3, 4, 5, 6, 7, 8, 9] :: [0, 1, 2, 3, 4, 5, 6, 7, 8, 9, 10] :: [0, 1, 2, 3, 4, 5, 6, 7, 8, 9, 10] :: [0, 1, 2, 3, 4, 5, 6, 7, 8, 9, 10, 11, 12] :: [0, 1, 2, 3, 4, 5, 6, 7, 8, 9, 10, 11, 12, 13] :: [0, 1, 2, 3, 4, 5, 6, 7, 8, 9, 10, 11, 12, 13, 14] :: [0, 1, 2, 3, 4, 5, 6, 7, 8, 9, 10] :: [0, 1, 2, 3, 4, 5, 6, 7, 8, 9, 10, 16] :: [0, 1, 2, 3, 4, 5, 6, 7, 8, 9, 10, 11, 12, 13, 14, 15, 16, 17] :: [0, 1, 2, 3, 4, 5, 6, 7, 8, 9, 10, 11, 12, 13, 14, 15, 16, 17, 18] :: [0, 1, 2, 3, 4, 5, 6, 7, 8, 9, 10, 11, 12, 13, 14, 15, 16, 17, 18, 19] :: (0 :: 1 :: 2 :: 3 :: 4 :: 5 :: 6 :: 7 :: 8 :: 9 :: 10 :: 11 :: 12 :: 13 :: 14 :: 15 :: 16 :: 17 :: 18 :: 19 :: 20 :: []) :: [])) (sl' := [(0, .one (.g (.d (.sl 3 (List.map encLaw14_Write l_0))))), (3, .one (.own 2003 (List.map encApi_Version v3.2))), (4, .one (bI .i64 v3.1)), (10, .one (.ptr 1010 0)), (11, .one (bB (decide (x28.Stamp.N = IntKind.wrap .i64 (y12 + 1)) && decide (x28.Stamp.Site = IntKind.wrap .i64 (BitVec.ofInt (IntKind.bits .i64) x15.Site &&& BitVec.ofInt (IntKind.bits .i64) 3).toNat)))), (12, .one (bI .i64 v20.2))]) (hp' := [(1010, some (.blk 32 [bS r14, bS ByteArray.empty, bB false, bI .i64 (IntKind.wrap .i64 (y12 + 1)), bI .i64 (IntKind.wrap .i64 (BitVec.ofInt (IntKind.bits .i64) x15.Site &&& BitVec.ofInt (IntKind.bits .i64) 3).toNat), .g (.d (.sl 3 (List.map encApi_Dep y11)))])), (2003, some (.row 32 6 (List.map encApi_Version v3.2) false))]) follows rfl rfl rfl ⟨⟨⟨rfl, rfl⟩, trivial⟩, trivial, ⟨rfl, trivial⟩, trivial, ⟨rfl, rfl, trivial⟩, ⟨⟨rfl, rfl⟩, trivial⟩, ⟨rfl, rfl, trivial⟩, trivial, ⟨rfl, rfl, rfl, trivial⟩, trivial, ⟨rfl, rfl, trivial⟩, trivial, ⟨rfl, rfl, trivial⟩, trivial, ⟨rfl, rfl, trivial⟩, trivial, ⟨rfl, rfl, trivial⟩, ⟨⟨rfl, rfl⟩, trivial⟩, ⟨rfl, rfl, rfl, trivial⟩, trivial, ⟨rfl, rfl, trivial⟩, trivial, ⟨rfl, rfl, trivial⟩, ⟨⟨rfl, rfl⟩, trivial⟩, ⟨rfl, rfl, trivial⟩, trivial, ⟨rfl, rfl, rfl, trivial⟩, trivial, ⟨rfl, rfl, trivial⟩, trivial, ⟨rfl, rfl, trivial⟩, trivial, ⟨rfl, rfl, trivial⟩, trivial, ⟨rfl, rfl, trivial⟩, ⟨⟨rfl, rfl⟩, trivial⟩, ⟨rfl, rfl, rfl, trivial⟩, trivial, ⟨rfl, rfl, rfl, trivial⟩, trivial, ⟨rfl, rfl, trivial⟩, trivial, ⟨rfl, trivial⟩, trivial, trivial⟩ ⟨OpW.plain (op_move (Ev.t 11 (bB false)) rfl) rfl rfl, OpW.plain (op_move (Ev.t 114 (bB false)) rfl) rfl rfl, OpW.yes (op_moveView (T := 32) (size := 6) rfl) rfl rfl rfl, OpW.yes (op_move (Ev.t 12 (bI .i64 v20.2)) rfl) rfl rfl rfl, OpW.yes (op_index (cs := [.v (.string x26.Key), .v (.string x26.Value), .v (.bool x26.Gone), .v (.int .i64 x26.Stamp.N), .v (.int .i64 x26.Stamp.Site), .sl 3 (List.map encApi_Dep x26.Past)]) Try.underlying24 ti32 (idx_ok hx26).1 (idx_get hx26 encApi_Version) (Ev.t 116 (.g (.d (.sl 6 (List.map encApi_Version v3.2))))) (Ev.t 117 (bI .i64 v20.2)) rfl) rfl rfl rfl, OpW.yes (op_fieldE (cs' := [.v (.string x26.Key), .v (.string x26.Value), .v (.bool x26.Gone), .v (.int .i64 x26.Stamp.N), .v (.int .i64 x26.Stamp.Site), .sl 3 (List.map encApi_Dep x26.Past)]) Try.underlying32 rfl ti9 (by decide) rfl (Ev.t 118 (.ep [.v (.string x26.Key), .v (.string x26.Value), .v (.bool x26.Gone), .v (.int .i64 x26.Stamp.N), .v (.int .i64 x26.Stamp.Site), .sl 3 (List.map encApi_Dep x26.Past)])) rfl) rfl rfl rfl, OpW.yes (op_load1E (c := .v (.string x26.Key)) Try.underlying9 rfl rfl (Ev.t 119 (.ep [.v (.string x26.Key), .v (.string x26.Value), .v (.bool x26.Gone), .v (.int .i64 x26.Stamp.N), .v (.int .i64 x26.Stamp.Site), .sl 3 (List.map encApi_Dep x26.Past)])) rfl) rfl rfl rfl, OpW.yes (op_fieldP (off' := 0) Try.underlying32 rfl ti9 (by decide) rfl (Ev.t 10 (.ptr 1010 0)) rfl) rfl rfl rfl, OpW.yes (op_load1P (c := bS r14) Try.underlying9 rfl rfl (Ev.t 121 (.ptr 1010 0)) rfl) rfl rfl rfl, OpW.yes (OpL.cast (op_eqS (Ev.t 120 (bS x26.Key)) (Ev.t 122 (bS r14)) rfl) (congrArg (fun b => bB b) hc27)) rfl rfl rfl, OpW.yes (op_move (Ev.t 123 (bB true)) rfl) rfl rfl rfl, OpW.yes (op_moveView (T := 32) (size := 6) rfl) rfl rfl rfl, OpW.yes (op_move (Ev.t 12 (bI .i64 v20.2)) rfl) rfl rfl rfl, OpW.yes (op_index (cs := [.v (.string x28.Key), .v (.string x28.Value), .v (.bool x28.Gone), .v (.int .i64 x28.Stamp.N), .v (.int .i64 x28.Stamp.Site), .sl 3 (List.map encApi_Dep x28.Past)]) Try.underlying24 ti32 (idx_ok hx28).1 (idx_get hx28 encApi_Version) (Ev.t 125 (.g (.d (.sl 6 (List.map encApi_Version v3.2))))) (Ev.t 126 (bI .i64 v20.2)) rfl) rfl rfl rfl, OpW.yes (op_fieldE (cs' := [.v (.int .i64 x28.Stamp.N), .v (.int .i64 x28.Stamp.Site), .sl 3 (List.map encApi_Dep x28.Past)]) Try.underlying32 rfl ti29 (by decide) rfl (Ev.t 127 (.ep [.v (.string x28.Key), .v (.string x28.Value), .v (.bool x28.Gone), .v (.int .i64 x28.Stamp.N), .v (.int .i64 x28.Stamp.Site), .sl 3 (List.map encApi_Dep x28.Past)])) rfl) rfl rfl rfl, OpW.yes (op_loadAE (ds := [.v (.int .i64 x28.Stamp.N), .v (.int .i64 x28.Stamp.Site)]) Try.underlying29 rfl ti29 rfl (Ev.t 128 (.ep [.v (.int .i64 x28.Stamp.N), .v (.int .i64 x28.Stamp.Site), .sl 3 (List.map encApi_Dep x28.Past)])) rfl) rfl rfl rfl, OpW.yes (op_fieldP (off' := 3) Try.underlying32 rfl ti29 (by decide) rfl (Ev.t 10 (.ptr 1010 0)) rfl) rfl rfl rfl, OpW.yes (op_loadAP (ds := [.v (.int .i64 (IntKind.wrap .i64 (y12 + 1))), .v (.int .i64 (IntKind.wrap .i64 (BitVec.ofInt (IntKind.bits .i64) x15.Site &&& BitVec.ofInt (IntKind.bits .i64) 3).toNat))]) Try.underlying29 rfl ti29 rfl (Ev.t 130 (.ptr 1010 3)) rfl) rfl rfl rfl, OpW.yes (op_eqA (us := [.int .i64 x28.Stamp.N, .int .i64 x28.Stamp.Site]) (vs := [.int .i64 (IntKind.wrap .i64 (y12 + 1)), .int .i64 (IntKind.wrap .i64 (BitVec.ofInt (IntKind.bits .i64) x15.Site &&& BitVec.ofInt (IntKind.bits .i64) 3).toNat)]) rfl rfl Try.eqGuardType29 (fun w => eq29 x28.Stamp.N x28.Stamp.Site (IntKind.wrap .i64 (y12 + 1)) (IntKind.wrap .i64 (BitVec.ofInt (IntKind.bits .i64) x15.Site &&& BitVec.ofInt (IntKind.bits .i64) 3).toNat) w) (Ev.t 129 (.g (.agg [.v (.int .i64 x28.Stamp.N), .v (.int .i64 x28.Stamp.Site)]))) (Ev.t 131 (.g (.agg [.v (.int .i64 (IntKind.wrap .i64 (y12 + 1))), .v (.int .i64 (IntKind.wrap .i64 (BitVec.ofInt (IntKind.bits .i64) x15.Site &&& BitVec.ofInt (IntKind.bits .i64) 3).toNat))]))) rfl) rfl rfl rfl, OpW.yes (op_pickT (Ev.t 124 (bB true)) (Ev.t 132 (bB (decide (x28.Stamp.N = IntKind.wrap .i64 (y12 + 1)) && decide (x28.Stamp.Site = IntKind.wrap .i64 (BitVec.ofInt (IntKind.bits .i64) x15.Site &&& BitVec.ofInt (IntKind.bits .i64) 3).toNat)))) rfl) rfl rfl rfl, OpW.plain (op_pickF (Ev.t 115 (bB false)) (Ev.t 133 (bB (decide (x28.Stamp.N = IntKind.wrap .i64 (y12 + 1)) && decide (x28.Stamp.Site = IntKind.wrap .i64 (BitVec.ofInt (IntKind.bits .i64) x15.Site &&& BitVec.ofInt (IntKind.bits .i64) 3).toNat)))) rfl) rfl rfl, OpW.plain (op_assign (Ev.t 134 (bB (decide (x28.Stamp.N = IntKind.wrap .i64 (y12 + 1)) && decide (x28.Stamp.Site = IntKind.wrap .i64 (BitVec.ofInt (IntKind.bits .i64) x15.Site &&& BitVec.ofInt (IntKind.bits .i64) 3).toNat)))) rfl) rfl rfl, trivial⟩ ⟨rfl, rfl, rfl, rfl, rfl, rfl, trivial⟩ ⟨rfl, rfl, trivial⟩ rfl ?_
                refine G.endBlock ?_
                refine G.region ?_
                refine G.op1 (op_move (Ev.t 12 (bI .i64 v20.2)) rfl) rfl ⟨rfl, trivial⟩ trivial ?_
                refine G.op1 (op_add (Ev.t 112 (bI .i64 v20.2)) (Ev.c _ rfl) rfl) rfl ⟨rfl, trivial⟩ trivial ?_
                refine G.op1 (op_assign (Ev.t 113 (bI .i64 (IntKind.wrap .i64 (v20.2 + 1)))) rfl) rfl ⟨rfl, trivial⟩ trivial ?_
                refine G.endOps ?_
                exact G.arr (J21 ((decide (x28.Stamp.N = IntKind.wrap .i64 (y12 + 1)) && decide (x28.Stamp.Site = IntKind.wrap .i64 (BitVec.ofInt (IntKind.bits .i64) x15.Site &&& BitVec.ofInt (IntKind.bits .i64) 3).toNat)), IntKind.wrap .i64 (v20.2 + 1)) hF) ⟨rfl, rfl, rfl, rfl, rfl, rfl, trivial⟩ ⟨rfl, rfl, trivial⟩ rfl
              · refine G.drawn (effs := (⟨[(11, .one (bB false))], [], [(114, .one (bB false))], []⟩ :: ⟨[(114, .one (bB false))], [], [(115, .one (bB false))], []⟩ :: ⟨[(115, .one (bB false)), (3, .one (.own 2003 (List.map encApi_Version v3.2)))], [(2003, some (.row 32 6 (List.map encApi_Version v3.2) false))], [(116, .one (.g (.d (.sl 6 (List.map encApi_Version v3.2)))))], []⟩ :: ⟨[(115, .one (bB false)), (12, .one (bI .i64 v20.2))], [], [(117, .one (bI .i64 v20.2))], []⟩ :: ⟨[(115, .one (bB false)), (116, .one (.g (.d (.sl 6 (List.map encApi_Version v3.2))))), (117, .one (bI .i64 v20.2))], [], [(118, .one (.ep [.v (.string x26.Key), .v (.string x26.Value), .v (.bool x26.Gone), .v (.int .i64 x26.Stamp.N), .v (.int .i64 x26.Stamp.Site), .sl 3 (List.map encApi_Dep x26.Past)]))], []⟩ :: ⟨[(115, .one (bB false)), (118, .one (.ep [.v (.string x26.Key), .v (.string x26.Value), .v (.bool x26.Gone), .v (.int .i64 x26.Stamp.N), .v (.int .i64 x26.Stamp.Site), .sl 3 (List.map encApi_Dep x26.Past)]))], [], [(119, .one (.ep [.v (.string x26.Key), .v (.string x26.Value), .v (.bool x26.Gone), .v (.int .i64 x26.Stamp.N), .v (.int .i64 x26.Stamp.Site), .sl 3 (List.map encApi_Dep x26.Past)]))], []⟩ :: ⟨[(115, .one (bB false)), (119, .one (.ep [.v (.string x26.Key), .v (.string x26.Value), .v (.bool x26.Gone), .v (.int .i64 x26.Stamp.N), .v (.int .i64 x26.Stamp.Site), .sl 3 (List.map encApi_Dep x26.Past)]))], [], [(120, .one (bS x26.Key))], []⟩ :: ⟨[(115, .one (bB false)), (10, .one (.ptr 1010 0))], [], [(121, .one (.ptr 1010 0))], []⟩ :: ⟨[(115, .one (bB false)), (121, .one (.ptr 1010 0))], [(1010, some (.blk 32 [bS r14, bS ByteArray.empty, bB false, bI .i64 (IntKind.wrap .i64 (y12 + 1)), bI .i64 (IntKind.wrap .i64 (BitVec.ofInt (IntKind.bits .i64) x15.Site &&& BitVec.ofInt (IntKind.bits .i64) 3).toNat), .g (.d (.sl 3 (List.map encApi_Dep y11)))]))], [(122, .one (bS r14))], []⟩ :: ⟨[(115, .one (bB false)), (120, .one (bS x26.Key)), (122, .one (bS r14))], [], [(123, .one (bB false))], []⟩ :: ⟨[(115, .one (bB false)), (123, .one (bB false))], [], [(124, .one (bB false))], []⟩ :: ⟨[(124, .one (bB false))], [], [(125, .one (.x Go.undef))], []⟩ :: ⟨[(124, .one (bB false))], [], [(126, .one (.x Go.undef))], []⟩ :: ⟨[(124, .one (bB false))], [], [(127, .one (.x Go.undef))], []⟩ :: ⟨[(124, .one (bB false))], [], [(128, .one (.x Go.undef))], []⟩ :: ⟨[(124, .one (bB false))], [], [(129, .one (.x Go.undef))], []⟩ :: ⟨[(124, .one (bB false))], [], [(130, .one (.x Go.undef))], []⟩ :: ⟨[(124, .one (bB false))], [], [(131, .one (.x Go.undef))], []⟩ :: ⟨[(124, .one (bB false))], [], [(132, .one (.x Go.undef))], []⟩ :: ⟨[(115, .one (bB false)), (124, .one (bB false))], [], [(133, .one (bB false))], []⟩ :: ⟨[(115, .one (bB false)), (133, .one (bB false))], [], [(134, .one (bB false))], []⟩ :: ⟨[(134, .one (bB false))], [], [(11, .one (bB false))], []⟩ :: [])) (deps := ([] :: [0] :: [0, 1] :: [0, 1] :: [0, 1, 2, 3] :: [0, 1, 2, 3, 4] :: [0, 1, 2, 3, 4, 5] :: [0, 1] :: [0, 1, 7] :: [0, 1, 2, 3, 4, 5, 6, 7, 8] :: [0, 1, 2, 3, 4, 5, 6, 7, 8, 9] :: [0, 1, 2, 3, 4, 5, 6, 7, 8, 9, 10] :: [0, 1, 2, 3, 4, 5, 6, 7, 8, 9, 10] :: [0, 1, 2, 3, 4, 5, 6, 7, 8, 9, 10, 11, 12] :: [0, 1, 2, 3, 4, 5, 6, 7, 8, 9, 10, 11, 12, 13] :: [0, 1, 2, 3, 4, 5, 6, 7, 8, 9, 10, 11, 12, 13, 14] :: [0, 1, 2, 3, 4, 5, 6, 7, 8, 9, 10] :: [0, 1, 2, 3, 4, 5, 6, 7, 8, 9, 10, 16] :: [0, 1, 2, 3, 4, 5, 6, 7, 8, 9, 10, 11, 12, 13, 14, 15, 16, 17] :: [0, 1, 2, 3, 4, 5, 6, 7, 8, 9, 10, 11, 12, 13, 14, 15, 16, 17, 18] :: [0, 1, 2, 3, 4, 5, 6, 7, 8, 9, 10, 11, 12, 13, 14, 15, 16, 17, 18, 19] :: (0 :: 1 :: 2 :: 3 :: 4 :: 5 :: 6 :: 7 :: 8 :: 9 :: 10 :: 11 :: 12 :: 13 :: 14 :: 15 :: 16 :: 17 :: 18 :: 19 :: 20 :: []) :: [])) (sl' := [(0, .one (.g (.d (.sl 3 (List.map encLaw14_Write l_0))))), (3, .one (.own 2003 (List.map encApi_Version v3.2))), (4, .one (bI .i64 v3.1)), (10, .one (.ptr 1010 0)), (11, .one (bB false)), (12, .one (bI .i64 v20.2))]) (hp' := [(1010, some (.blk 32 [bS r14, bS ByteArray.empty, bB false, bI .i64 (IntKind.wrap .i64 (y12 + 1)), bI .i64 (IntKind.wrap .i64 (BitVec.ofInt (IntKind.bits .i64) x15.Site &&& BitVec.ofInt (IntKind.bits .i64) 3).toNat), .g (.d (.sl 3 (List.map encApi_Dep y11)))])), (2003, some (.row 32 6 (List.map encApi_Version v3.2) false))]) follows rfl rfl rfl ⟨⟨⟨rfl, rfl⟩, trivial⟩, trivial, ⟨rfl, trivial⟩, trivial, ⟨rfl, rfl, trivial⟩, ⟨⟨rfl, rfl⟩, trivial⟩, ⟨rfl, rfl, trivial⟩, trivial, ⟨rfl, rfl, rfl, trivial⟩, trivial, ⟨rfl, rfl, trivial⟩, trivial, ⟨rfl, rfl, trivial⟩, trivial, ⟨rfl, rfl, trivial⟩, trivial, ⟨rfl, rfl, trivial⟩, ⟨⟨rfl, rfl⟩, trivial⟩, ⟨rfl, rfl, rfl, trivial⟩, trivial, ⟨rfl, rfl, trivial⟩, trivial, ⟨rfl, trivial⟩, trivial, ⟨rfl, trivial⟩, trivial, ⟨rfl, trivial⟩, trivial, ⟨rfl, trivial⟩, trivial, ⟨rfl, trivial⟩, trivial, ⟨rfl, trivial⟩, trivial, ⟨rfl, trivial⟩, trivial, ⟨rfl, trivial⟩, trivial, ⟨rfl, rfl, trivial⟩, trivial, ⟨rfl, rfl, trivial⟩, trivial, ⟨rfl, trivial⟩, trivial, trivial⟩ ⟨OpW.plain (op_move (Ev.t 11 (bB false)) rfl) rfl rfl, OpW.plain (op_move (Ev.t 114 (bB false)) rfl) rfl rfl, OpW.yes (op_moveView (T := 32) (size := 6) rfl) rfl rfl rfl, OpW.yes (op_move (Ev.t 12 (bI .i64 v20.2)) rfl) rfl rfl rfl, OpW.yes (op_index (cs := [.v (.string x26.Key), .v (.string x26.Value), .v (.bool x26.Gone), .v (.int .i64 x26.Stamp.N), .v (.int .i64 x26.Stamp.Site), .sl 3 (List.map encApi_Dep x26.Past)]) Try.underlying24 ti32 (idx_ok hx26).1 (idx_get hx26 encApi_Version) (Ev.t 116 (.g (.d (.sl 6 (List.map encApi_Version v3.2))))) (Ev.t 117 (bI .i64 v20.2)) rfl) rfl rfl rfl, OpW.yes (op_fieldE (cs' := [.v (.string x26.Key), .v (.string x26.Value), .v (.bool x26.Gone), .v (.int .i64 x26.Stamp.N), .v (.int .i64 x26.Stamp.Site), .sl 3 (List.map encApi_Dep x26.Past)]) Try.underlying32 rfl ti9 (by decide) rfl (Ev.t 118 (.ep [.v (.string x26.Key), .v (.string x26.Value), .v (.bool x26.Gone), .v (.int .i64 x26.Stamp.N), .v (.int .i64 x26.Stamp.Site), .sl 3 (List.map encApi_Dep x26.Past)])) rfl) rfl rfl rfl, OpW.yes (op_load1E (c := .v (.string x26.Key)) Try.underlying9 rfl rfl (Ev.t 119 (.ep [.v (.string x26.Key), .v (.string x26.Value), .v (.bool x26.Gone), .v (.int .i64 x26.Stamp.N), .v (.int .i64 x26.Stamp.Site), .sl 3 (List.map encApi_Dep x26.Past)])) rfl) rfl rfl rfl, OpW.yes (op_fieldP (off' := 0) Try.underlying32 rfl ti9 (by decide) rfl (Ev.t 10 (.ptr 1010 0)) rfl) rfl rfl rfl, OpW.yes (op_load1P (c := bS r14) Try.underlying9 rfl rfl (Ev.t 121 (.ptr 1010 0)) rfl) rfl rfl rfl, OpW.yes (OpL.cast (op_eqS (Ev.t 120 (bS x26.Key)) (Ev.t 122 (bS r14)) rfl) (congrArg (fun b => bB b) hc27)) rfl rfl rfl, OpW.yes (op_move (Ev.t 123 (bB false)) rfl) rfl rfl rfl, OpW.no rfl rfl rfl rfl rfl, OpW.no rfl rfl rfl rfl rfl, OpW.no rfl rfl rfl rfl rfl, OpW.no rfl rfl rfl rfl rfl, OpW.no rfl rfl rfl rfl rfl, OpW.no rfl rfl rfl rfl rfl, OpW.no rfl rfl rfl rfl rfl, OpW.no rfl rfl rfl rfl rfl, OpW.yes (op_pickF (Ev.t 124 (bB false)) (Ev.c _ rfl) rfl) rfl rfl rfl, OpW.plain (op_pickF (Ev.t 115 (bB false)) (Ev.t 133 (bB false)) rfl) rfl rfl, OpW.plain (op_assign (Ev.t 134 (bB false)) rfl) rfl rfl, trivial⟩ ⟨rfl, rfl, rfl, rfl, rfl, rfl, trivial⟩ ⟨rfl, rfl, trivial⟩ rfl ?_
                refine G.endBlock ?_
                refine G.region ?_
                refine G.op1 (op_move (Ev.t 12 (bI .i64 v20.2)) rfl) rfl ⟨rfl, trivial⟩ trivial ?_
                refine G.op1 (op_add (Ev.t 112 (bI .i64 v20.2)) (Ev.c _ rfl) rfl) rfl ⟨rfl, trivial⟩ trivial ?_
                refine G.op1 (op_assign (Ev.t 113 (bI .i64 (IntKind.wrap .i64 (v20.2 + 1)))) rfl) rfl ⟨rfl, trivial⟩ trivial ?_
                refine G.endOps ?_
                exact G.arr (J21 (false, IntKind.wrap .i64 (v20.2 + 1)) hF) ⟨rfl, rfl, rfl, rfl, rfl, rfl, trivial⟩ ⟨rfl, rfl, trivial⟩ rfl
          · refine G.cond rfl (fun hx => by rw [hc24] at hx; cases hx) (fun _ => ?_)
            refine G.exit ?_
            refine GX.c ?_
            refine GX.q ?_
            refine GX.bYes ?_
            exact G.arr (J19 v20.1 hF) ⟨rfl, rfl, rfl, rfl, rfl, trivial⟩ ⟨rfl, rfl, trivial⟩ rfl
        refine G.block ?_
        refine G.keep (sl' := [(0, .one (.g (.d (.sl 3 (List.map encLaw14_Write l_0))))), (3, .one (.own 2003 (List.map encApi_Version v3.2))), (4, .one (bI .i64 v3.1)), (5, .one (.g (.d (.sl 3 (List.map encApi_Dep y11))))), (6, .one (bI .i64 0)), (9, .one (bI .i64 0))]) (hp' := [(2003, some (.row 32 6 (List.map encApi_Version v3.2) false))]) ⟨rfl, rfl, rfl, rfl, rfl, rfl, trivial⟩ ⟨rfl, trivial⟩ rfl ?_
        refine G.loopF (fun (v30 : Int × Int) => ⟨[(0, .one (.g (.d (.sl 3 (List.map encLaw14_Write l_0))))), (3, .one (.own 2003 (List.map encApi_Version v3.2))), (4, .one (bI .i64 v3.1)), (5, .one (.g (.d (.sl 3 (List.map encApi_Dep y11))))), (6, .one (bI .i64 v30.1)), (9, .one (bI .i64 v30.2))], [(2003, some (.row 32 6 (List.map encApi_Version v3.2) false))]⟩) hF rfl (fun K33 again32 v30 J31 hF => ?_)
        unfold law14_made_l9 at hF
        refine G.seq ?_
        refine G.seq ?_
        refine G.region ?_
        refine G.op1 (op_move (Ev.t 9 (bI .i64 v30.2)) rfl) rfl ⟨rfl, trivial⟩ trivial ?_
        refine G.op1 (op_move (Ev.t 5 (.g (.d (.sl 3 (List.map encApi_Dep y11))))) rfl) rfl ⟨rfl, trivial⟩ trivial ?_
        refine G.op1 (OpL.cast (op_lenD Try.underlying30 (Ev.t 72 (.g (.d (.sl 3 (List.map encApi_Dep y11))))) rfl) (by rw [List.length_map])) rfl ⟨rfl, trivial⟩ trivial ?_
        refine G.op1 (op_lss (Ev.t 71 (bI .i64 v30.2)) (Ev.t 73 (bI .i64 (y11.length : Int))) rfl) rfl ⟨rfl, rfl, trivial⟩ trivial ?_
        refine G.endOps ?_
        refine ifS hF (fun hc34 hF => ?_) (fun hc34 hF => ?_)
        · refine G.cond rfl (fun _ => ?_) (fun hx => by rw [hc34] at hx; cases hx)
          refine G.skip ?_
          refine G.seq ?_
          refine G.block ?_
          refine G.seq ?_
          refine G.region ?_
          refine G.op1 (op_move (Ev.t 5 (.g (.d (.sl 3 (List.map encApi_Dep y11))))) rfl) rfl ⟨rfl, trivial⟩ trivial ?_
          refine G.op1 (op_move (Ev.t 9 (bI .i64 v30.2)) rfl) rfl ⟨rfl, trivial⟩ trivial ?_
          obtain ⟨x35, hx35, hF⟩ := bindS hF
          refine G.op1 (op_index (cs := [.v (.string x35.Key), .v (.int .i64 x35.Stamp.N), .v (.int .i64 x35.Stamp.Site)]) Try.underlying30 ti39 (idx_ok hx35).1 (idx_get hx35 encApi_Dep) (Ev.t 77 (.g (.d (.sl 3 (List.map encApi_Dep y11))))) (Ev.t 78 (bI .i64 v30.2)) rfl) rfl ⟨rfl, rfl, trivial⟩ trivial ?_
          refine G.op1 (op_fieldE (cs' := [.v (.int .i64 x35.Stamp.N), .v (.int .i64 x35.Stamp.Site)]) Try.underlying39 rfl ti29 (by decide) rfl (Ev.t 79 (.ep [.v (.string x35.Key), .v (.int .i64 x35.Stamp.N), .v (.int .i64 x35.Stamp.Site)])) rfl) rfl ⟨rfl, trivial⟩ trivial ?_
          refine G.op1 (op_fieldE (cs' := [.v (.int .i64 x35.Stamp.N), .v (.int .i64 x35.Stamp.Site)]) Try.underlying29 rfl ti3 (by decide) rfl (Ev.t 80 (.ep [.v (.int .i64 x35.Stamp.N), .v (.int .i64 x35.Stamp.Site)])) rfl) rfl ⟨rfl, trivial⟩ trivial ?_
          refine G.op1 (op_load1E (c := .v (.int .i64 x35.Stamp.N)) Try.underlying3 rfl rfl (Ev.t 81 (.ep [.v (.int .i64 x35.Stamp.N), .v (.int .i64 x35.Stamp.Site)])) rfl) rfl ⟨rfl, trivial⟩ trivial ?_
          refine G.op1 (op_move (Ev.t 6 (bI .i64 v30.1)) rfl) rfl ⟨rfl, trivial⟩ trivial ?_
          refine G.op1 (op_gtr (Ev.t 82 (bI .i64 x35.Stamp.N)) (Ev.t 83 (bI .i64 v30.1)) rfl) rfl ⟨rfl, rfl, trivial⟩ trivial ?_
          refine G.endOps ?_
          refine ifS hF (fun hc36 hF => ?_) (fun hc36 hF => ?_)
          · refine G.cond rfl (fun _ => ?_) (fun hx => by rw [hc36] at hx; cases hx)
            refine G.region ?_
            refine G.op1 (op_move (Ev.t 5 (.g (.d (.sl 3 (List.map encApi_Dep y11))))) rfl) rfl ⟨rfl, trivial⟩ trivial ?_
            refine G.op1 (op_move (Ev.t 9 (bI .i64 v30.2)) rfl) rfl ⟨rfl, trivial⟩ trivial ?_
            obtain ⟨x37, hx37, hF⟩ := bindS hF
            refine G.op1 (op_index (cs := [.v (.string x37.Key), .v (.int .i64 x37.Stamp.N), .v (.int .i64 x37.Stamp.Site)]) Try.underlying30 ti39 (idx_ok hx37).1 (idx_get hx37 encApi_Dep) (Ev.t 85 (.g (.d (.sl 3 (List.map encApi_Dep y11))))) (Ev.t 86 (bI .i64 v30.2)) rfl) rfl ⟨rfl, rfl, trivial⟩ trivial ?_
            refine G.op1 (op_fieldE (cs' := [.v (.int .i64 x37.Stamp.N), .v (.int .i64 x37.Stamp.Site)]) Try.underlying39 rfl ti29 (by decide) rfl (Ev.t 87 (.ep [.v (.string x37.Key), .v (.int .i64 x37.Stamp.N), .v (.int .i64 x37.Stamp.Site)])) rfl) rfl ⟨rfl, trivial⟩ trivial ?_
            refine G.op1 (op_fieldE (cs' := [.v (.int .i64 x37.Stamp.N), .v (.int .i64 x37.Stamp.Site)]) Try.underlying29 rfl ti3 (by decide) rfl (Ev.t 88 (.ep [.v (.int .i64 x37.Stamp.N), .v (.int .i64 x37.Stamp.Site)])) rfl) rfl ⟨rfl, trivial⟩ trivial ?_
            refine G.op1 (op_load1E (c := .v (.int .i64 x37.Stamp.N)) Try.underlying3 rfl rfl (Ev.t 89 (.ep [.v (.int .i64 x37.Stamp.N), .v (.int .i64 x37.Stamp.Site)])) rfl) rfl ⟨rfl, trivial⟩ trivial ?_
            refine G.op1 (op_assign (Ev.t 90 (bI .i64 x37.Stamp.N)) rfl) rfl ⟨rfl, trivial⟩ trivial ?_
            refine G.endOps ?_
            refine G.endBlock ?_
            refine G.region ?_
            refine G.op1 (op_move (Ev.t 9 (bI .i64 v30.2)) rfl) rfl ⟨rfl, trivial⟩ trivial ?_
            refine G.op1 (op_add (Ev.t 75 (bI .i64 v30.2)) (Ev.c _ rfl) rfl) rfl ⟨rfl, trivial⟩ trivial ?_
            refine G.op1 (op_assign (Ev.t 76 (bI .i64 (IntKind.wrap .i64 (v30.2 + 1)))) rfl) rfl ⟨rfl, trivial⟩ trivial ?_
            refine G.endOps ?_
            exact G.arr (J31 (x37.Stamp.N, IntKind.wrap .i64 (v30.2 + 1)) hF) ⟨rfl, rfl, rfl, rfl, rfl, rfl, trivial⟩ ⟨rfl, trivial⟩ rfl
          · refine G.cond rfl (fun hx => by rw [hc36] at hx; cases hx) (fun _ => ?_)
            refine G.skip ?_
            refine G.endBlock ?_
            refine G.region ?_
            refine G.op1 (op_move (Ev.t 9 (bI .i64 v30.2)) rfl) rfl ⟨rfl, trivial⟩ trivial ?_
            refine G.op1 (op_add (Ev.t 75 (bI .i64 v30.2)) (Ev.c _ rfl) rfl) rfl ⟨rfl, trivial⟩ trivial ?_
            refine G.op1 (op_assign (Ev.t 76 (bI .i64 (IntKind.wrap .i64 (v30.2 + 1)))) rfl) rfl ⟨rfl, trivial⟩ trivial ?_
            refine G.endOps ?_
            exact G.arr (J31 (v30.1, IntKind.wrap .i64 (v30.2 + 1)) hF) ⟨rfl, rfl, rfl, rfl, rfl, rfl, trivial⟩ ⟨rfl, trivial⟩ rfl
        · refine G.cond rfl (fun hx => by rw [hc34] at hx; cases hx) (fun _ => ?_)
          refine G.exit ?_
          refine GX.c ?_
          refine GX.q ?_
          refine GX.bYes ?_
          exact G.arr (J29 v30.1 hF) ⟨rfl, rfl, rfl, rfl, rfl, trivial⟩ ⟨rfl, trivial⟩ rfl
      refine G.block ?_
      refine G.keep (sl' := [(0, .one (.g (.d (.sl 3 (List.map encLaw14_Write l_0))))), (3, .one (.own 2003 (List.map encApi_Version v3.2))), (4, .one (bI .i64 v3.1)), (5, .one (.g (.d (.sl 3 (List.map encApi_Dep ([] : (List Api_Dep))))))), (6, .one (bI .i64 0)), (7, .one (bI .i64 0))]) (hp' := [(2003, some (.row 32 6 (List.map encApi_Version v3.2) false))]) ⟨rfl, rfl, rfl, rfl, rfl, rfl, trivial⟩ ⟨rfl, trivial⟩ rfl ?_
      refine G.loopF (fun (v39 : (List Api_Dep) × Int) => ⟨[(0, .one (.g (.d (.sl 3 (List.map encLaw14_Write l_0))))), (3, .one (.own 2003 (List.map encApi_Version v3.2))), (4, .one (bI .i64 v3.1)), (5, .one (.g (.d (.sl 3 (List.map encApi_Dep v39.1))))), (6, .one (bI .i64 0)), (7, .one (bI .i64 v39.2))], [(2003, some (.row 32 6 (List.map encApi_Version v3.2) false))]⟩) hF rfl (fun K42 again41 v39 J40 hF => ?_)
      unfold law14_made_l10 at hF
      refine G.seq ?_
      refine G.seq ?_
      refine G.joinC (T := Bool) (fun y43 => ⟨[(0, .one (.g (.d (.sl 3 (List.map encLaw14_Write l_0))))), (3, .one (.own 2003 (List.map encApi_Version v3.2))), (4, .one (bI .i64 v3.1)), (5, .one (.g (.d (.sl 3 (List.map encApi_Dep v39.1))))), (6, .one (bI .i64 0)), (7, .one (bI .i64 v39.2)), (34, .one (bB y43))], [(2003, some (.row 32 6 (List.map encApi_Version v3.2) false))]⟩) (fun y43 => law14_made_k11 l_0 again5 v3 again41 v39 y43 = some r) (fun y43 hF => ?_) (fun J52 => ?_)
      · unfold law14_made_k11 at hF
        refine ifS hF (fun hc44 hF => ?_) (fun hc44 hF => ?_)
        · refine G.cond rfl (fun _ => ?_) (fun hx => by rw [hc44] at hx; cases hx)
          refine G.skip ?_
          refine G.seq ?_
          refine G.block ?_
          refine G.seq ?_
          refine G.region ?_
          refine G.op1 (op_move (Ev.t 3 (.own 2003 (List.map encApi_Version v3.2))) rfl) rfl ⟨rfl, trivial⟩ trivial ?_
          refine G.op1 (OpL.cast (op_lenO Try.underlying24 (Ev.t 37 (.own 2003 (List.map encApi_Version v3.2))) rfl) (by rw [List.length_map])) rfl ⟨rfl, trivial⟩ ⟨rfl, trivial⟩ ?_
          refine G.op1 (op_gtr (Ev.t 38 (bI .i64 (v3.2.length : Int))) (Ev.c _ rfl) rfl) rfl ⟨rfl, trivial⟩ trivial ?_
          refine G.endOps ?_
          refine ifS hF (fun hc45 hF => ?_) (fun hc45 hF => ?_)
          · refine G.cond rfl (fun _ => ?_) (fun hx => by rw [hc45] at hx; cases hx)
            refine G.seq ?_
            refine G.region ?_
            refine G.op1 (op_move (Ev.t 3 (.own 2003 (List.map encApi_Version v3.2))) rfl) rfl ⟨rfl, trivial⟩ trivial ?_
            refine G.op1 (op_move (Ev.t 0 (.g (.d (.sl 3 (List.map encLaw14_Write l_0))))) rfl) rfl ⟨rfl, trivial⟩ trivial ?_
            refine G.op1 (op_move (Ev.t 4 (bI .i64 v3.1)) rfl) rfl ⟨rfl, trivial⟩ trivial ?_
            obtain ⟨x46, hx46, hF⟩ := bindS hF
            refine G.op1 (op_index (cs := [.v (.int .i64 x46.Key), .v (.int .i64 x46.Site), .sl 1 (List.map encI_i64 x46.Saw)]) Try.underlying22 ti70 (idx_ok hx46).1 (idx_get hx46 encLaw14_Write) (Ev.t 41 (.g (.d (.sl 3 (List.map encLaw14_Write l_0))))) (Ev.t 42 (bI .i64 v3.1)) rfl) rfl ⟨rfl, rfl, trivial⟩ trivial ?_
            refine G.op1 (op_fieldE (cs' := [.sl 1 (List.map encI_i64 x46.Saw)]) Try.underlying70 rfl ti55 (by decide) rfl (Ev.t 43 (.ep [.v (.int .i64 x46.Key), .v (.int .i64 x46.Site), .sl 1 (List.map encI_i64 x46.Saw)])) rfl) rfl ⟨rfl, trivial⟩ trivial ?_
            refine G.op1 (op_load1E (c := .sl 1 (List.map encI_i64 x46.Saw)) Try.underlying55 rfl rfl (Ev.t 44 (.ep [.sl 1 (List.map encI_i64 x46.Saw)])) rfl) rfl ⟨rfl, trivial⟩ trivial ?_
            refine G.op1 (op_move (Ev.t 7 (bI .i64 v39.2)) rfl) rfl ⟨rfl, trivial⟩ trivial ?_
            obtain ⟨x47, hx47, hF⟩ := bindS hF
            refine G.op1 (op_index (cs := [.v (.int .i64 x47)]) Try.underlying55 ti3 (idx_ok hx47).1 (idx_get hx47 encI_i64) (Ev.t 45 (.g (.d (.sl 1 (List.map encI_i64 x46.Saw))))) (Ev.t 46 (bI .i64 v39.2)) rfl) rfl ⟨rfl, rfl, trivial⟩ trivial ?_
            refine G.op1 (op_load1E (c := .v (.int .i64 x47)) Try.underlying3 rfl rfl (Ev.t 47 (.ep [.v (.int .i64 x47)])) rfl) rfl ⟨rfl, trivial⟩ trivial ?_
            refine G.op1 (op_move (Ev.t 3 (.own 2003 (List.map encApi_Version v3.2))) rfl) rfl ⟨rfl, trivial⟩ trivial ?_
            refine G.op1 (OpL.cast (op_lenO Try.underlying24 (Ev.t 49 (.own 2003 (List.map encApi_Version v3.2))) rfl) (by rw [List.length_map])) rfl ⟨rfl, trivial⟩ ⟨rfl, trivial⟩ ?_
            obtain ⟨hz48, hF⟩ := chkS hF
            refine G.op1 (op_rem (by simpa using hz48) (Ev.t 48 (bI .i64 x47)) (Ev.t 50 (bI .i64 (v3.2.length : Int))) rfl) rfl ⟨rfl, rfl, trivial⟩ trivial ?_
            refine G.op1 (op_move (Ev.t 3 (.own 2003 (List.map encApi_Version v3.2))) rfl) rfl ⟨rfl, trivial⟩ trivial ?_
            refine G.op1 (OpL.cast (op_lenO Try.underlying24 (Ev.t 52 (.own 2003 (List.map encApi_Version v3.2))) rfl) (by rw [List.length_map])) rfl ⟨rfl, trivial⟩ ⟨rfl, trivial⟩ ?_
            refine G.op1 (op_add (Ev.t 51 (bI .i64 (Int.tmod x47 (v3.2.length : Int)))) (Ev.t 53 (bI .i64 (v3.2.length : Int))) rfl) rfl ⟨rfl, rfl, trivial⟩ trivial ?_
            refine G.op1 (op_move (Ev.t 3 (.own 2003 (List.map encApi_Version v3.2))) rfl) rfl ⟨rfl, trivial⟩ trivial ?_
            refine G.op1 (OpL.cast (op_lenO Try.underlying24 (Ev.t 55 (.own 2003 (List.map encApi_Version v3.2))) rfl) (by rw [List.length_map])) rfl ⟨rfl, trivial⟩ ⟨rfl, trivial⟩ ?_
            obtain ⟨hz49, hF⟩ := chkS hF
            refine G.op1 (op_rem (by simpa using hz49) (Ev.t 54 (bI .i64 (IntKind.wrap .i64 ((Int.tmod x47 (v3.2.length : Int)) + (v3.2.length : Int))))) (Ev.t 56 (bI .i64 (v3.2.length : Int))) rfl) rfl ⟨rfl, rfl, trivial⟩ trivial ?_
            refine G.view (t := 40) rfl rfl ?_
            obtain ⟨x50, hx50, hF⟩ := bindS hF
            refine G.op1 (op_index (cs := [.v (.string x50.Key), .v (.string x50.Value), .v (.bool x50.Gone), .v (.int .i64 x50.Stamp.N), .v (.int .i64 x50.Stamp.Site), .sl 3 (List.map encApi_Dep x50.Past)]) Try.underlying24 ti32 (idx_ok hx50).1 (idx_get hx50 encApi_Version) (Ev.t 40 (.g (.d (.sl 6 (List.map encApi_Version v3.2))))) (Ev.t 57 (bI .i64 (Int.tmod (IntKind.wrap .i64 ((Int.tmod x47 (v3.2.length : Int)) + (v3.2.length : Int))) (v3.2.length : Int)))) rfl) rfl ⟨rfl, rfl, trivial⟩ trivial ?_
            refine G.op1 (op_loadAE (ds := [.v (.string x50.Key), .v (.string x50.Value), .v (.bool x50.Gone), .v (.int .i64 x50.Stamp.N), .v (.int .i64 x50.Stamp.Site), .sl 3 (List.map encApi_Dep x50.Past)]) Try.underlying32 rfl ti32 rfl (Ev.t 58 (.ep [.v (.string x50.Key), .v (.string x50.Value), .v (.bool x50.Gone), .v (.int .i64 x50.Stamp.N), .v (.int .i64 x50.Stamp.Site), .sl 3 (List.map encApi_Dep x50.Past)])) rfl) rfl ⟨rfl, trivial⟩ trivial ?_
            refine G.op2 (op_alloc (k := 1008) (cs := [bS ByteArray.empty, bS ByteArray.empty, bB false, bI .i64 0, bI .i64 0, .g (.d (.sl 3 (List.map encApi_Dep ([] : (List Api_Dep)))))]) ti32 ⟨.v _ rfl, .v _ rfl, .v _ rfl, .v _ rfl, .v _ rfl, .n 3, trivial⟩ rfl) rfl trivial ⟨rfl, trivial⟩ ?_
            refine G.op3 (op_storeA (cs' := [bS x50.Key, bS x50.Value, bB x50.Gone, bI .i64 x50.Stamp.N, bI .i64 x50.Stamp.Site, .g (.d (.sl 3 (List.map encApi_Dep x50.Past)))]) ti32 rfl rfl (Ev.t 8 (.ptr 1008 0)) (Ev.t 59 (.g (.agg [.v (.string x50.Key), .v (.string x50.Value), .v (.bool x50.Gone), .v (.int .i64 x50.Stamp.N), .v (.int .i64 x50.Stamp.Site), .sl 3 (List.map encApi_Dep x50.Past)])))) rfl ⟨rfl, rfl, trivial⟩ ⟨rfl, trivial⟩ ?_
            refine G.endOps ?_
            refine G.region ?_
            refine G.op1 (op_move (Ev.t 5 (.g (.d (.sl 3 (List.map encApi_Dep v39.1))))) rfl) rfl ⟨rfl, trivial⟩ trivial ?_
            refine G.op1 (op_fieldP (off' := 5) Try.underlying32 rfl ti30 (by decide) rfl (Ev.t 8 (.ptr 1008 0)) rfl) rfl ⟨rfl, trivial⟩ trivial ?_
            refine G.op1 (op_load1P (c := .g (.d (.sl 3 (List.map encApi_Dep x50.Past)))) Try.underlying30 rfl rfl (Ev.t 61 (.ptr 1008 5)) rfl) rfl ⟨rfl, trivial⟩ ⟨rfl, trivial⟩ ?_
            refine G.op1 (op_fieldP (off' := 0) Try.underlying32 rfl ti9 (by decide) rfl (Ev.t 8 (.ptr 1008 0)) rfl) rfl ⟨rfl, trivial⟩ trivial ?_
            refine G.op1 (op_load1P (c := bS x50.Key) Try.underlying9 rfl rfl (Ev.t 63 (.ptr 1008 0)) rfl) rfl ⟨rfl, trivial⟩ ⟨rfl, trivial⟩ ?_
            refine G.op1 (op_fieldP (off' := 3) Try.underlying32 rfl ti29 (by decide) rfl (Ev.t 8 (.ptr 1008 0)) rfl) rfl ⟨rfl, trivial⟩ trivial ?_
            refine G.op1 (op_loadAP (ds := [.v (.int .i64 x50.Stamp.N), .v (.int .i64 x50.Stamp.Site)]) Try.underlying29 rfl ti29 rfl (Ev.t 65 (.ptr 1008 3)) rfl) rfl ⟨rfl, trivial⟩ ⟨rfl, trivial⟩ ?_
            refine G.op1 (op_build (zs := [.v (.string ByteArray.empty), .v (.int .i64 0), .v (.int .i64 0)]) (ds := [.v (.string x50.Key), .v (.int .i64 x50.Stamp.N), .v (.int .i64 x50.Stamp.Site)]) Try.underlying39 ti39 (pl39 _ Try.underlying39) ⟨.v _ rfl, .v _ rfl, .v _ rfl, trivial⟩ (EvP.cons (Ev.t 64 (bS x50.Key)) (EvP.cons (Ev.t 66 (.g (.agg [.v (.int .i64 x50.Stamp.N), .v (.int .i64 x50.Stamp.Site)]))) EvP.nil)) rfl rfl) rfl ⟨rfl, rfl, trivial⟩ trivial ?_
            refine G.op1 (op_buildSlice (es := List.map encApi_Dep [(Api_Dep.mk x50.Key x50.Stamp)]) Try.underlying30 ti39 rfl rfl (EvP.cons (Ev.t 67 (.g (.agg [.v (.string x50.Key), .v (.int .i64 x50.Stamp.N), .v (.int .i64 x50.Stamp.Site)]))) EvP.nil) rfl rfl (by simp [encApi_Dep]) rfl) rfl ⟨rfl, trivial⟩ trivial ?_
            refine G.op1 (op_buildSlice (es := List.map encL_encApi_Dep [v39.1, x50.Past, [(Api_Dep.mk x50.Key x50.Stamp)]]) Try.underlying46 ti30 rfl rfl (EvP.cons (Ev.t 60 (.g (.d (.sl 3 (List.map encApi_Dep v39.1))))) (EvP.cons (Ev.t 62 (.g (.d (.sl 3 (List.map encApi_Dep x50.Past))))) (EvP.cons (Ev.t 68 (.g (.d (.sl 3 (List.map encApi_Dep ([(Api_Dep.mk x50.Key x50.Stamp)])))))) EvP.nil))) rfl rfl (by simp [encL_encApi_Dep]) rfl) rfl ⟨rfl, rfl, rfl, trivial⟩ trivial ?_
            obtain ⟨r51, hr51, hF⟩ := bindS hF
            refine G.op1 (op_call (sv := .one (.g (.d (.sl 3 (List.map encApi_Dep r51))))) cf19 (ct_ref04_Merge ([v39.1, x50.Past, [(Api_Dep.mk x50.Key x50.Stamp)]]) r51 hr51) rfl (EvL.cons (Ev.t 69 (.g (.d (.sl 1 (List.map encL_encApi_Dep ([v39.1, x50.Past, [(Api_Dep.mk x50.Key x50.Stamp)]])))))) EvL.nil) rfl) rfl ⟨rfl, trivial⟩ trivial ?_
            refine G.op1 (op_assign (Ev.t 70 (.g (.d (.sl 3 (List.map encApi_Dep r51))))) rfl) rfl ⟨rfl, trivial⟩ trivial ?_
            refine G.endOps ?_
            refine G.endBlock ?_
            refine G.region ?_
            refine G.op1 (op_move (Ev.t 7 (bI .i64 v39.2)) rfl) rfl ⟨rfl, trivial⟩ trivial ?_
            refine G.op1 (op_add (Ev.t 35 (bI .i64 v39.2)) (Ev.c _ rfl) rfl) rfl ⟨rfl, trivial⟩ trivial ?_
            refine G.op1 (op_assign (Ev.t 36 (bI .i64 (IntKind.wrap .i64 (v39.2 + 1)))) rfl) rfl ⟨rfl, trivial⟩ trivial ?_
            refine G.endOps ?_
            exact G.arr (J40 (r51, IntKind.wrap .i64 (v39.2 + 1)) hF) ⟨rfl, rfl, rfl, rfl, rfl, rfl, trivial⟩ ⟨rfl, trivial⟩ rfl
          · refine G.cond rfl (fun hx => by rw [hc45] at hx; cases hx) (fun _ => ?_)
            refine G.skip ?_
            refine G.endBlock ?_
            refine G.region ?_
            refine G.op1 (op_move (Ev.t 7 (bI .i64 v39.2)) rfl) rfl ⟨rfl, trivial⟩ trivial ?_
            refine G.op1 (op_add (Ev.t 35 (bI .i64 v39.2)) (Ev.c _ rfl) rfl) rfl ⟨rfl, trivial⟩ trivial ?_
            refine G.op1 (op_assign (Ev.t 36 (bI .i64 (IntKind.wrap .i64 (v39.2 + 1)))) rfl) rfl ⟨rfl, trivial⟩ trivial ?_
            refine G.endOps ?_
            exact G.arr (J40 (v39.1, IntKind.wrap .i64 (v39.2 + 1)) hF) ⟨rfl, rfl, rfl, rfl, rfl, rfl, trivial⟩ ⟨rfl, trivial⟩ rfl
        · refine G.cond rfl (fun hx => by rw [hc44] at hx; cases hx) (fun _ => ?_)
          refine G.exit ?_
          refine GX.c ?_
          refine GX.q ?_
          refine GX.bYes ?_
          exact G.arr (J38 v39.1 hF) ⟨rfl, rfl, rfl, rfl, rfl, trivial⟩ ⟨rfl, trivial⟩ rfl
      refine G.region ?_
      refine G.op1 (op_move (Ev.t 7 (bI .i64 v39.2)) rfl) rfl ⟨rfl, trivial⟩ trivial ?_
      refine G.op1 (op_move (Ev.t 0 (.g (.d (.sl 3 (List.map encLaw14_Write l_0))))) rfl) rfl ⟨rfl, trivial⟩ trivial ?_
      refine G.op1 (op_move (Ev.t 4 (bI .i64 v3.1)) rfl) rfl ⟨rfl, trivial⟩ trivial ?_
      obtain ⟨x53, hx53, hF⟩ := bindS hF
      refine G.op1 (op_index (cs := [.v (.int .i64 x53.Key), .v (.int .i64 x53.Site), .sl 1 (List.map encI_i64 x53.Saw)]) Try.underlying22 ti70 (idx_ok hx53).1 (idx_get hx53 encLaw14_Write) (Ev.t 24 (.g (.d (.sl 3 (List.map encLaw14_Write l_0))))) (Ev.t 25 (bI .i64 v3.1)) rfl) rfl ⟨rfl, rfl, trivial⟩ trivial ?_
      refine G.op1 (op_fieldE (cs' := [.sl 1 (List.map encI_i64 x53.Saw)]) Try.underlying70 rfl ti55 (by decide) rfl (Ev.t 26 (.ep [.v (.int .i64 x53.Key), .v (.int .i64 x53.Site), .sl 1 (List.map encI_i64 x53.Saw)])) rfl) rfl ⟨rfl, trivial⟩ trivial ?_
      refine G.op1 (op_load1E (c := .sl 1 (List.map encI_i64 x53.Saw)) Try.underlying55 rfl rfl (Ev.t 27 (.ep [.sl 1 (List.map encI_i64 x53.Saw)])) rfl) rfl ⟨rfl, trivial⟩ trivial ?_
      refine G.op1 (OpL.cast (op_lenD Try.underlying55 (Ev.t 28 (.g (.d (.sl 1 (List.map encI_i64 x53.Saw))))) rfl) (by rw [List.length_map])) rfl ⟨rfl, trivial⟩ trivial ?_
      refine G.op1 (op_lss (Ev.t 23 (bI .i64 v39.2)) (Ev.t 29 (bI .i64 (x53.Saw.length : Int))) rfl) rfl ⟨rfl, rfl, trivial⟩ trivial ?_
      refine G.op1 (op_move (Ev.t 30 (bB (decide (v39.2 < (x53.Saw.length : Int))))) rfl) rfl ⟨rfl, trivial⟩ trivial ?_
      refine ifS hF (fun hc54 hF => ?_) (fun hc54 hF => ?_)
      · refine G.known (t := 31) hc54 rfl ?_
        refine G.opG1 (op_move (Ev.t 7 (bI .i64 v39.2)) rfl) rfl rfl rfl ⟨rfl, trivial⟩ trivial ?_
        refine G.opG1 (op_lss (Ev.t 32 (bI .i64 v39.2)) (Ev.c _ rfl) rfl) rfl rfl rfl ⟨rfl, trivial⟩ trivial ?_
        refine G.op1 (op_pickT (Ev.t 31 (bB true)) (Ev.t 33 (bB (decide (v39.2 < 4)))) rfl) rfl ⟨rfl, rfl, trivial⟩ trivial ?_
        refine G.endOps ?_
        exact G.arr (J52 (decide (v39.2 < 4)) hF) ⟨rfl, rfl, rfl, rfl, rfl, rfl, rfl, trivial⟩ ⟨rfl, trivial⟩ rfl
      · refine G.known (t := 31) hc54 rfl ?_
        refine G.opN1 rfl rfl rfl rfl rfl ?_
        refine G.opN1 rfl rfl rfl rfl rfl ?_
        refine G.op1 (op_pickF (Ev.t 31 (bB false)) (Ev.c _ rfl) rfl) rfl ⟨rfl, trivial⟩ trivial ?_
        refine G.endOps ?_
        exact G.arr (J52 false hF) ⟨rfl, rfl, rfl, rfl, rfl, rfl, rfl, trivial⟩ ⟨rfl, trivial⟩ rfl
    · refine G.cond rfl (fun hx => by rw [hc8] at hx; cases hx) (fun _ => ?_)
      refine G.exit ?_
      refine GX.c ?_
      refine GX.q ?_
      refine GX.bYes ?_
      exact G.arr (J2 v3.2 hF) ⟨rfl, trivial⟩ ⟨rfl, trivial⟩ rfl
  refine G.region ?_
  refine G.op1 (op_move (Ev.t 4 (bI .i64 v3.1)) rfl) rfl ⟨rfl, trivial⟩ trivial ?_
  refine G.op1 (op_move (Ev.t 0 (.g (.d (.sl 3 (List.map encLaw14_Write l_0))))) rfl) rfl ⟨rfl, trivial⟩ trivial ?_
  refine G.op1 (OpL.cast (op_lenD Try.underlying22 (Ev.t 14 (.g (.d (.sl 3 (List.map encLaw14_Write l_0))))) rfl) (by rw [List.length_map])) rfl ⟨rfl, trivial⟩ trivial ?_
  refine G.op1 (op_lss (Ev.t 13 (bI .i64 v3.1)) (Ev.t 15 (bI .i64 (l_0.length : Int))) rfl) rfl ⟨rfl, rfl, trivial⟩ trivial ?_
  refine G.op1 (op_move (Ev.t 16 (bB (decide (v3.1 < (l_0.length : Int))))) rfl) rfl ⟨rfl, trivial⟩ trivial ?_
  refine ifS hF (fun hc56 hF => ?_) (fun hc56 hF => ?_)
  · refine G.known (t := 17) hc56 rfl ?_
    refine G.opG1 (op_move (Ev.t 4 (bI .i64 v3.1)) rfl) rfl rfl rfl ⟨rfl, trivial⟩ trivial ?_
    refine G.opG1 (op_lss (Ev.t 18 (bI .i64 v3.1)) (Ev.c _ rfl) rfl) rfl rfl rfl ⟨rfl, trivial⟩ trivial ?_
    refine G.op1 (op_pickT (Ev.t 17 (bB true)) (Ev.t 19 (bB (decide (v3.1 < 14)))) rfl) rfl ⟨rfl, rfl, trivial⟩ trivial ?_
    refine G.endOps ?_
    exact G.arr (J55 (decide (v3.1 < 14)) hF) ⟨rfl, rfl, rfl, rfl, trivial⟩ ⟨rfl, trivial⟩ rfl
  · refine G.known (t := 17) hc56 rfl ?_
    refine G.opN1 rfl rfl rfl rfl rfl ?_
    refine G.opN1 rfl rfl rfl rfl rfl ?_
    refine G.op1 (op_pickF (Ev.t 17 (bB false)) (Ev.c _ rfl) rfl) rfl ⟨rfl, trivial⟩ trivial ?_
    refine G.endOps ?_
    exact G.arr (J55 false hF) ⟨rfl, rfl, rfl, rfl, trivial⟩ ⟨rfl, trivial⟩ rfl


set_option maxRecDepth 20000 in
set_option maxHeartbeats 2000000 in
theorem ct_keys_Runes (s_0 : ByteArray) (r : Int) (hF : keys_Runes s_0 = some r) : Ct Try.prog 65 [.g (.d (.v (.string s_0)))] (.one (.d (.v (.int .i64 r)))) := by
  unfold keys_Runes at hF
  refine Ct.intro Try.func65 rfl Try.ntmps65 rfl rfl fun M w => ?_
  refine G.seq ?_
  refine G.region ?_
  refine G.op1 (op_assign (Ev.c _ rfl) rfl) rfl trivial trivial ?_
  refine G.endOps ?_
  refine G.seq ?_
  refine G.region ?_
  refine G.op1 (op_assign (Ev.c _ rfl) rfl) rfl trivial trivial ?_
  refine G.endOps ?_
  refine G.seq ?_
  refine G.seq ?_
  refine G.region ?_
  refine G.op1 (op_move (Ev.t 0 (bS s_0)) rfl) rfl ⟨rfl, trivial⟩ trivial ?_
  refine G.op2 (op_range (k := 1007) Try.underlying9 (Ev.t 6 (bS s_0)) rfl) rfl ⟨rfl, trivial⟩ ⟨rfl, trivial⟩ ?_
  refine G.endOps ?_
  refine G.joinC (T := Int) (fun y1 => ⟨[(3, .one (bI .i64 y1))], []⟩) (fun y1 => keys_Runes_k1 y1 = some r) (fun y1 hF => ?_) (fun J2 => ?_)
  · unfold keys_Runes_k1 at hF
    refine G.seq ?_
    refine G.region ?_
    refine G.op1 (op_move (Ev.t 3 (bI .i64 y1)) rfl) rfl ⟨rfl, trivial⟩ trivial ?_
    refine G.op1 (op_assign (Ev.t 40 (bI .i64 y1)) rfl) rfl ⟨rfl, trivial⟩ trivial ?_
    refine G.endOps ?_
    cases hF
    exact G.ret1 Try.results65 (RVar.tmp 2 _) ⟨rfl, trivial⟩ trivial
  refine G.block ?_
  refine G.keep (sl' := [(0, .one (bS s_0)), (3, .one (bI .i64 0)), (7, .one (.ptr 1007 0))]) (hp' := [(1007, some (.it s_0 0))]) ⟨rfl, rfl, rfl, trivial⟩ ⟨rfl, trivial⟩ rfl ?_
  refine G.loopF (fun (v3 : Int × Nat) => ⟨[(0, .one (bS s_0)), (3, .one (bI .i64 v3.1)), (7, .one (.ptr 1007 0))], [(1007, some (.it s_0 v3.2))]⟩) hF rfl (fun K6 again5 v3 J4 hF => ?_)
  unfold keys_Runes_l2 at hF
  refine G.seq ?_
  refine G.region ?_
  refine ifS hF (fun hc7 hF => ?_) (fun hc7 hF => ?_)
  · refine G.op2 (op_nextT hc7 (Ev.t 7 (.ptr 1007 0)) rfl) rfl ⟨rfl, trivial⟩ ⟨rfl, trivial⟩ ?_
    refine G.op1 (op_extract (l := [bB true, bI .i64 (v3.2 : Int), bI .i32 ((Utf8.decode s_0 v3.2).1 : Int)]) (c := bB true) rfl rfl) rfl ⟨rfl, trivial⟩ trivial ?_
    refine G.endOps ?_
    refine G.seq ?_
    refine G.condT rfl ?_
    refine G.skip ?_
    refine G.block ?_
    refine G.seq ?_
    refine G.region ?_
    refine G.op1 (op_extract (l := [bB true, bI .i64 (v3.2 : Int), bI .i32 ((Utf8.decode s_0 v3.2).1 : Int)]) (c := bI .i64 (v3.2 : Int)) rfl rfl) rfl ⟨rfl, trivial⟩ trivial ?_
    refine G.op1 (op_extract (l := [bB true, bI .i64 (v3.2 : Int), bI .i32 ((Utf8.decode s_0 v3.2).1 : Int)]) (c := bI .i32 ((Utf8.decode s_0 v3.2).1 : Int)) rfl rfl) rfl ⟨rfl, trivial⟩ trivial ?_
    refine G.op1 (op_assign (Ev.t 10 (bI .i64 (v3.2 : Int))) rfl) rfl ⟨rfl, trivial⟩ trivial ?_
    refine G.op1 (op_assign (Ev.t 11 (bI .i32 ((Utf8.decode s_0 v3.2).1 : Int))) rfl) rfl ⟨rfl, trivial⟩ trivial ?_
    refine G.endOps ?_
    refine G.seq ?_
    refine G.seq ?_
    refine G.joinC (T := Bool × Nat) (fun y8 => ⟨[(0, .one (bS s_0)), (3, .one (bI .i64 v3.1)), (4, .one (bI .i64 (v3.2 : Int))), (5, .one (bI .i32 ((Utf8.decode s_0 v3.2).1 : Int))), (7, .one (.ptr 1007 0)), (20, .one (bB y8.1))], [(1007, some (.it s_0 y8.2))]⟩) (fun y8 => keys_Runes_k3 s_0 again5 v3 y8 = some r) (fun y8 hF => ?_) (fun J14 => ?_)
    · unfold keys_Runes_k3 at hF
      refine ifS hF (fun hc9 hF => ?_) (fun hc9 hF => ?_)
      · refine G.cond rfl (fun _ => ?_) (fun hx => by rw [hc9] at hx; cases hx)
        refine G.seq ?_
        refine G.region ?_
        refine G.op1 (op_assign (Ev.c _ rfl) rfl) rfl trivial trivial ?_
        refine G.endOps ?_
        cases hF
        exact G.ret1 Try.results65 (RVar.tmp 2 _) ⟨rfl, trivial⟩ trivial
      · refine G.cond rfl (fun hx => by rw [hc9] at hx; cases hx) (fun _ => ?_)
        refine G.skip ?_
        refine G.seq ?_
        refine G.seq ?_
        refine G.region ?_
        refine G.op1 (op_move (Ev.t 5 (bI .i32 ((Utf8.decode s_0 v3.2).1 : Int))) rfl) rfl ⟨rfl, trivial⟩ trivial ?_
        refine G.op1 (op_eqI (Ev.t 21 (bI .i32 ((Utf8.decode s_0 v3.2).1 : Int))) (Ev.c _ rfl) rfl) rfl ⟨rfl, trivial⟩ trivial ?_
        refine G.op1 (op_move (Ev.t 22 (bB (decide (((Utf8.decode s_0 v3.2).1 : Int) = 65533)))) rfl) rfl ⟨rfl, trivial⟩ trivial ?_
        refine ifS hF (fun hc10 hF => ?_) (fun hc10 hF => ?_)
        · refine G.known (t := 23) hc10 rfl ?_
          refine G.opG1 (op_move (Ev.t 0 (bS s_0)) rfl) rfl rfl rfl ⟨rfl, trivial⟩ trivial ?_
          refine G.opG1 (op_lenS Try.underlying9 (Ev.t 24 (bS s_0)) rfl) rfl rfl rfl ⟨rfl, trivial⟩ trivial ?_
          refine G.opG1 (op_move (Ev.t 4 (bI .i64 (v3.2 : Int))) rfl) rfl rfl rfl ⟨rfl, trivial⟩ trivial ?_
          refine G.opG1 (op_sub (Ev.t 25 (bI .i64 (s_0.size : Int))) (Ev.t 26 (bI .i64 (v3.2 : Int))) rfl) rfl rfl rfl ⟨rfl, rfl, trivial⟩ trivial ?_
          refine G.opG1 (op_lss (Ev.t 27 (bI .i64 (IntKind.wrap .i64 ((s_0.size : Int) - (v3.2 : Int))))) (Ev.c _ rfl) rfl) rfl rfl rfl ⟨rfl, trivial⟩ trivial ?_
          refine G.opG1 (op_move (Ev.t 28 (bB (decide ((IntKind.wrap .i64 ((s_0.size : Int) - (v3.2 : Int))) < 3)))) rfl) rfl rfl rfl ⟨rfl, trivial⟩ trivial ?_
          refine ifS hF (fun hc11 hF => ?_) (fun hc11 hF => ?_)
          · refine G.known (t := 29) hc11 rfl ?_
            refine G.opN1 rfl rfl rfl rfl rfl ?_
            refine G.opN1 rfl rfl rfl rfl rfl ?_
            refine G.opN1 rfl rfl rfl rfl rfl ?_
            refine G.opN1 rfl rfl rfl rfl rfl ?_
            refine G.opN1 rfl rfl rfl rfl rfl ?_
            refine G.opN1 rfl rfl rfl rfl rfl ?_
            refine G.opG1 (op_pickT (Ev.t 29 (bB true)) (Ev.c _ rfl) rfl) rfl rfl rfl ⟨rfl, trivial⟩ trivial ?_
            refine G.op1 (op_pickT (Ev.t 23 (bB true)) (Ev.t 36 (bB true)) rfl) rfl ⟨rfl, rfl, trivial⟩ trivial ?_
            refine G.endOps ?_
            refine G.condT rfl ?_
            refine G.seq ?_
            refine G.region ?_
            refine G.op1 (op_assign (Ev.c _ rfl) rfl) rfl trivial trivial ?_
            refine G.endOps ?_
            cases hF
            exact G.ret1 Try.results65 (RVar.tmp 2 _) ⟨rfl, trivial⟩ trivial
          · refine G.known (t := 29) hc11 rfl ?_
            refine G.opG1 (op_move (Ev.t 0 (bS s_0)) rfl) rfl rfl rfl ⟨rfl, trivial⟩ trivial ?_
            refine G.opG1 (op_move (Ev.t 4 (bI .i64 (v3.2 : Int))) rfl) rfl rfl rfl ⟨rfl, trivial⟩ trivial ?_
            refine G.opG1 (op_move (Ev.t 4 (bI .i64 (v3.2 : Int))) rfl) rfl rfl rfl ⟨rfl, trivial⟩ trivial ?_
            refine G.opG1 (op_add (Ev.t 32 (bI .i64 (v3.2 : Int))) (Ev.c _ rfl) rfl) rfl rfl rfl ⟨rfl, trivial⟩ trivial ?_
            obtain ⟨s12, hs12, hF⟩ := bindS hF
            refine G.opG1 (OpL.cast (op_sliceS (lo := some (v3.2 : Int)) (hi := some (IntKind.wrap .i64 ((v3.2 : Int) + 3))) Try.underlying9 (ssub_ok hs12).1 (ssub_ok hs12).2.1 (ssub_ok hs12).2.2.1 (Ev.t 30 (bS s_0)) (EvO.some (Ev.t 31 (bI .i64 (v3.2 : Int)))) (EvO.some (Ev.t 33 (bI .i64 (IntKind.wrap .i64 ((v3.2 : Int) + 3))))) rfl) (congrArg (fun s => bS s) (ssub_ok hs12).2.2.2)) rfl rfl rfl ⟨rfl, rfl, rfl, trivial⟩ trivial ?_
            refine G.opG1 (op_neS (Ev.t 34 (bS s12)) (Ev.c _ rfl) rfl) rfl rfl rfl ⟨rfl, trivial⟩ trivial ?_
            refine G.opG1 (op_pickF (Ev.t 29 (bB false)) (Ev.t 35 (bB (!seq s12 (ByteArray.mk #[239, 191, 189])))) rfl) rfl rfl rfl ⟨rfl, rfl, trivial⟩ trivial ?_
            refine G.op1 (op_pickT (Ev.t 23 (bB true)) (Ev.t 36 (bB (!seq s12 (ByteArray.mk #[239, 191, 189])))) rfl) rfl ⟨rfl, rfl, trivial⟩ trivial ?_
            refine G.endOps ?_
            refine ifS hF (fun hc13 hF => ?_) (fun hc13 hF => ?_)
            · refine G.cond rfl (fun _ => ?_) (fun hx => by rw [hc13] at hx; cases hx)
              refine G.seq ?_
              refine G.region ?_
              refine G.op1 (op_assign (Ev.c _ rfl) rfl) rfl trivial trivial ?_
              refine G.endOps ?_
              cases hF
              exact G.ret1 Try.results65 (RVar.tmp 2 _) ⟨rfl, trivial⟩ trivial
            · refine G.cond rfl (fun hx => by rw [hc13] at hx; cases hx) (fun _ => ?_)
              refine G.skip ?_
              refine G.region ?_
              refine G.op1 (op_move (Ev.t 3 (bI .i64 v3.1)) rfl) rfl ⟨rfl, trivial⟩ trivial ?_
              refine G.op1 (op_add (Ev.t 38 (bI .i64 v3.1)) (Ev.c _ rfl) rfl) rfl ⟨rfl, trivial⟩ trivial ?_
              refine G.op1 (op_assign (Ev.t 39 (bI .i64 (IntKind.wrap .i64 (v3.1 + 1)))) rfl) rfl ⟨rfl, trivial⟩ trivial ?_
              refine G.endOps ?_
              refine G.endBlock ?_
              exact G.arr (J4 (IntKind.wrap .i64 (v3.1 + 1), y8.2) hF) ⟨rfl, rfl, rfl, trivial⟩ ⟨rfl, trivial⟩ rfl
        · refine G.known (t := 23) hc10 rfl ?_
          refine G.opN1 rfl rfl rfl rfl rfl ?_
          refine G.opN1 rfl rfl rfl rfl rfl ?_
          refine G.opN1 rfl rfl rfl rfl rfl ?_
          refine G.opN1 rfl rfl rfl rfl rfl ?_
          refine G.opN1 rfl rfl rfl rfl rfl ?_
          refine G.opN1 rfl rfl rfl rfl rfl ?_
          refine G.opU rfl rfl rfl rfl ?_
          refine G.opU rfl rfl rfl rfl ?_
          refine G.opU rfl rfl rfl rfl ?_
          refine G.opU rfl rfl rfl rfl ?_
          refine G.opU rfl rfl rfl rfl ?_
          refine G.opU rfl rfl rfl rfl ?_
          refine G.opN1 rfl rfl rfl rfl rfl ?_
          refine G.op1 (op_pickF (Ev.t 23 (bB false)) (Ev.c _ rfl) rfl) rfl ⟨rfl, trivial⟩ trivial ?_
          refine G.endOps ?_
          refine G.condF rfl ?_
          refine G.skip ?_
          refine G.region ?_
          refine G.op1 (op_move (Ev.t 3 (bI .i64 v3.1)) rfl) rfl ⟨rfl, trivial⟩ trivial ?_
          refine G.op1 (op_add (Ev.t 38 (bI .i64 v3.1)) (Ev.c _ rfl) rfl) rfl ⟨rfl, trivial⟩ trivial ?_
          refine G.op1 (op_assign (Ev.t 39 (bI .i64 (IntKind.wrap .i64 (v3.1 + 1)))) rfl) rfl ⟨rfl, trivial⟩ trivial ?_
          refine G.endOps ?_
          refine G.endBlock ?_
          exact G.arr (J4 (IntKind.wrap .i64 (v3.1 + 1), y8.2) hF) ⟨rfl, rfl, rfl, trivial⟩ ⟨rfl, trivial⟩ rfl
    refine ifS hF (fun hc15 hF => ?_) (fun hc15 hF => ?_)
    · obtain ⟨b16, hb16, hF⟩ := bindS hF
      obtain ⟨b17, hb17, hF⟩ := bindS hF
      refine G.drawn (effs := [⟨[(5, .one (bI .i32 ((Utf8.decode s_0 v3.2).1 : Int)))], [], [(12, .one (bI .i32 ((Utf8.decode s_0 v3.2).1 : Int)))], []⟩, ⟨[(12, .one (bI .i32 ((Utf8.decode s_0 v3.2).1 : Int)))], [], [(13, .one (bB true))], []⟩, ⟨[(13, .one (bB true))], [], [(14, .one (bB true))], []⟩, ⟨[(14, .one (bB true)), (0, .one (bS s_0))], [], [(15, .one (bS s_0))], []⟩, ⟨[(14, .one (bB true)), (4, .one (bI .i64 (v3.2 : Int)))], [], [(16, .one (bI .i64 (v3.2 : Int)))], []⟩, ⟨[(14, .one (bB true)), (15, .one (bS s_0)), (16, .one (bI .i64 (v3.2 : Int)))], [], [(17, .one (bI .u8 (b16.toNat : Int)))], []⟩, ⟨[(14, .one (bB true))], [], [(18, .one (bI .u8 (b17.toNat : Int)))], []⟩, ⟨[(14, .one (bB true)), (17, .one (bI .u8 (b16.toNat : Int))), (18, .one (bI .u8 (b17.toNat : Int)))], [], [(19, .one (bB (!decide ((b16.toNat : Int) = (b17.toNat : Int)))))], []⟩, ⟨[(14, .one (bB true)), (19, .one (bB (!decide ((b16.toNat : Int) = (b17.toNat : Int)))))], [], [(20, .one (bB (!decide ((b16.toNat : Int) = (b17.toNat : Int)))))], []⟩]) (deps := [[], [0], [0, 1], [0, 1, 2], [0, 1, 2], [0, 1, 2, 3, 4], [0, 1, 2], [0, 1, 2, 3, 4, 5, 6], [0, 1, 2, 3, 4, 5, 6, 7]]) (sl' := [(0, .one (bS s_0)), (3, .one (bI .i64 v3.1)), (4, .one (bI .i64 (v3.2 : Int))), (5, .one (bI .i32 ((Utf8.decode s_0 v3.2).1 : Int))), (7, .one (.ptr 1007 0)), (20, .one (bB (!decide ((b16.toNat : Int) = (b17.toNat : Int)))))]) (hp' := [(1007, some (.it s_0 (v3.2 + (Utf8.decode s_0 v3.2).2)))]) follows rfl rfl rfl ⟨⟨rfl, trivial⟩, trivial, ⟨rfl, trivial⟩, trivial, ⟨rfl, trivial⟩, trivial, ⟨rfl, rfl, trivial⟩, trivial, ⟨rfl, rfl, trivial⟩, trivial, ⟨rfl, rfl, rfl, trivial⟩, trivial, ⟨rfl, trivial⟩, trivial, ⟨rfl, rfl, rfl, trivial⟩, trivial, ⟨rfl, rfl, trivial⟩, trivial, trivial⟩ ⟨OpW.plain (op_move (Ev.t 5 (bI .i32 ((Utf8.decode s_0 v3.2).1 : Int))) rfl) rfl rfl, OpW.plain (OpL.cast (op_eqI (Ev.t 12 (bI .i32 ((Utf8.decode s_0 v3.2).1 : Int))) (Ev.c _ rfl) rfl) (congrArg (fun b => bB b) hc15)) rfl rfl, OpW.plain (op_move (Ev.t 13 (bB true)) rfl) rfl rfl, OpW.yes (op_move (Ev.t 0 (bS s_0)) rfl) rfl rfl rfl, OpW.yes (op_move (Ev.t 4 (bI .i64 (v3.2 : Int))) rfl) rfl rfl rfl, OpW.yes (op_indexS Try.underlying9 (sidx_ok hb16).1 (sidx_ok hb16).2 (Ev.t 15 (bS s_0)) (Ev.t 16 (bI .i64 (v3.2 : Int))) rfl) rfl rfl rfl, OpW.yes (op_indexS Try.underlying9 (sidx_ok hb17).1 (sidx_ok hb17).2 (Ev.c _ rfl) (Ev.c _ rfl) rfl) rfl rfl rfl, OpW.yes (op_neI (Ev.t 17 (bI .u8 (b16.toNat : Int))) (Ev.t 18 (bI .u8 (b17.toNat : Int))) rfl) rfl rfl rfl, OpW.plain (op_pickT (Ev.t 14 (bB true)) (Ev.t 19 (bB (!decide ((b16.toNat : Int) = (b17.toNat : Int))))) rfl) rfl rfl, trivial⟩ ⟨rfl, rfl, rfl, rfl, rfl, rfl, trivial⟩ ⟨rfl, trivial⟩ rfl ?_
      exact G.arr (J14 (!decide ((b16.toNat : Int) = (b17.toNat : Int)), v3.2 + (Utf8.decode s_0 v3.2).2) hF) ⟨rfl, rfl, rfl, rfl, rfl, rfl, trivial⟩ ⟨rfl, trivial⟩ rfl
    · refine G.drawn (effs := [⟨[(5, .one (bI .i32 ((Utf8.decode s_0 v3.2).1 : Int)))], [], [(12, .one (bI .i32 ((Utf8.decode s_0 v3.2).1 : Int)))], []⟩, ⟨[(12, .one (bI .i32 ((Utf8.decode s_0 v3.2).1 : Int)))], [], [(13, .one (bB false))], []⟩, ⟨[(13, .one (bB false))], [], [(14, .one (bB false))], []⟩, ⟨[(14, .one (bB false))], [], [(15, .one (.x Go.undef))], []⟩, ⟨[(14, .one (bB false))], [], [(16, .one (.x Go.undef))], []⟩, ⟨[(14, .one (bB false))], [], [(17, .one (.x Go.undef))], []⟩, ⟨[(14, .one (bB false))], [], [(18, .one (.x Go.undef))], []⟩, ⟨[(14, .one (bB false))], [], [(19, .one (.x Go.undef))], []⟩, ⟨[(14, .one (bB false))], [], [(20, .one (bB false))], []⟩]) (deps := [[], [0], [0, 1], [0, 1, 2], [0, 1, 2], [0, 1, 2, 3, 4], [0, 1, 2], [0, 1, 2, 3, 4, 5, 6], [0, 1, 2, 3, 4, 5, 6, 7]]) (sl' := [(0, .one (bS s_0)), (3, .one (bI .i64 v3.1)), (4, .one (bI .i64 (v3.2 : Int))), (5, .one (bI .i32 ((Utf8.decode s_0 v3.2).1 : Int))), (7, .one (.ptr 1007 0)), (20, .one (bB false))]) (hp' := [(1007, some (.it s_0 (v3.2 + (Utf8.decode s_0 v3.2).2)))]) follows rfl rfl rfl ⟨⟨rfl, trivial⟩, trivial, ⟨rfl, trivial⟩, trivial, ⟨rfl, trivial⟩, trivial, ⟨rfl, trivial⟩, trivial, ⟨rfl, trivial⟩, trivial, ⟨rfl, trivial⟩, trivial, ⟨rfl, trivial⟩, trivial, ⟨rfl, trivial⟩, trivial, ⟨rfl, trivial⟩, trivial, trivial⟩ ⟨OpW.plain (op_move (Ev.t 5 (bI .i32 ((Utf8.decode s_0 v3.2).1 : Int))) rfl) rfl rfl, OpW.plain (OpL.cast (op_eqI (Ev.t 12 (bI .i32 ((Utf8.decode s_0 v3.2).1 : Int))) (Ev.c _ rfl) rfl) (congrArg (fun b => bB b) hc15)) rfl rfl, OpW.plain (op_move (Ev.t 13 (bB false)) rfl) rfl rfl, OpW.no rfl rfl rfl rfl rfl, OpW.no rfl rfl rfl rfl rfl, OpW.no rfl rfl rfl rfl rfl, OpW.no rfl rfl rfl rfl rfl, OpW.no rfl rfl rfl rfl rfl, OpW.plain (op_pickF (Ev.t 14 (bB false)) (Ev.c _ rfl) rfl) rfl rfl, trivial⟩ ⟨rfl, rfl, rfl, rfl, rfl, rfl, trivial⟩ ⟨rfl, trivial⟩ rfl ?_
      exact G.arr (J14 (false, v3.2 + (Utf8.decode s_0 v3.2).2) hF) ⟨rfl, rfl, rfl, rfl, rfl, rfl, trivial⟩ ⟨rfl, trivial⟩ rfl
  · refine G.op1 (op_nextF hc7 (Ev.t 7 (.ptr 1007 0)) rfl) rfl ⟨rfl, trivial⟩ ⟨rfl, trivial⟩ ?_
    refine G.op1 (op_extract (l := [bB false]) (c := bB false) rfl rfl) rfl ⟨rfl, trivial⟩ trivial ?_
    refine G.endOps ?_
    refine G.seq ?_
    refine G.condF rfl ?_
    refine G.exit ?_
    refine GX.c ?_
    refine GX.q ?_
    refine GX.bYes ?_
    exact G.arr (J2 v3.1 hF) ⟨rfl, trivial⟩ trivial rfl


set_option maxRecDepth 20000 in
set_option maxHeartbeats 2000000 in
theorem ct_keys_Check (s_0 : ByteArray) (r : Bool) (hF : keys_Check s_0 = some r) : Ct Try.prog 57 [.g (.d (.v (.string s_0)))] (.one (.d (.v (.bool r)))) := by
  unfold keys_Check at hF
  refine Ct.intro Try.func57 rfl Try.ntmps57 rfl rfl fun M w => ?_
  refine G.seq ?_
  refine G.region ?_
  refine G.op1 (op_assign (Ev.c _ rfl) rfl) rfl trivial trivial ?_
  refine G.endOps ?_
  refine G.scope ?_
  refine G.seq ?_
  refine G.region ?_
  refine G.op1 (op_move (Ev.t 0 (bS s_0)) rfl) rfl ⟨rfl, trivial⟩ trivial ?_
  obtain ⟨r1, hr1, hF⟩ := bindS hF
  refine G.op1 (op_callQ (sv := .one (bI .i64 r1)) cf65 (ct_keys_Runes s_0 r1 hr1) rfl rfl (EvQL.cons (EvQ.g (Ev.t 7 (bS s_0))) EvQL.nil) rfl) rfl ⟨rfl, trivial⟩ trivial ?_
  refine G.op1 (op_assign (Ev.t 8 (bI .i64 r1)) rfl) rfl ⟨rfl, trivial⟩ trivial ?_
  refine G.endOps ?_
  refine G.seq ?_
  refine G.joinC (T := Bool) (fun y2 => ⟨[(0, .one (bS s_0)), (4, .one (bB y2))], []⟩) (fun y2 => keys_Check_k1 s_0 y2 = some r) (fun y2 hF => ?_) (fun J11 => ?_)
  · unfold keys_Check_k1 at hF
    refine G.seq ?_
    refine G.label ?_
    refine G.seq ?_
    refine G.seq ?_
    refine G.region ?_
    refine G.op1 (op_move (Ev.t 0 (bS s_0)) rfl) rfl ⟨rfl, trivial⟩ trivial ?_
    refine G.op2 (op_range (k := 1016) Try.underlying9 (Ev.t 15 (bS s_0)) rfl) rfl ⟨rfl, trivial⟩ ⟨rfl, trivial⟩ ?_
    refine G.endOps ?_
    refine G.joinC (T := Bool) (fun y3 => ⟨[(4, .one (bB y3))], []⟩) (fun y3 => keys_Check_k2 y3 = some r) (fun y3 hF => ?_) (fun J4 => ?_)
    · unfold keys_Check_k2 at hF
      refine G.seq ?_
      refine G.region ?_
      refine G.op1 (op_move (Ev.t 4 (bB y3)) rfl) rfl ⟨rfl, trivial⟩ trivial ?_
      refine G.op1 (op_assign (Ev.t 24 (bB y3)) rfl) rfl ⟨rfl, trivial⟩ trivial ?_
      refine G.endOps ?_
      cases hF
      exact G.ret1 Try.results57 (RVar.tmp 2 _) ⟨rfl, trivial⟩ trivial
    refine G.block ?_
    refine G.keep (sl' := [(4, .one (bB y2)), (16, .one (.ptr 1016 0))]) (hp' := [(1016, some (.it s_0 0))]) ⟨rfl, rfl, trivial⟩ ⟨rfl, trivial⟩ rfl ?_
    refine G.loopF (fun (v5 : Bool × Nat) => ⟨[(4, .one (bB v5.1)), (16, .one (.ptr 1016 0))], [(1016, some (.it s_0 v5.2))]⟩) hF rfl (fun K8 again7 v5 J6 hF => ?_)
    unfold keys_Check_l3 at hF
    refine G.seq ?_
    refine G.region ?_
    refine ifS hF (fun hc9 hF => ?_) (fun hc9 hF => ?_)
    · refine G.op2 (op_nextT hc9 (Ev.t 16 (.ptr 1016 0)) rfl) rfl ⟨rfl, trivial⟩ ⟨rfl, trivial⟩ ?_
      refine G.op1 (op_extract (l := [bB true, bI .i64 (v5.2 : Int), bI .i32 ((Utf8.decode s_0 v5.2).1 : Int)]) (c := bB true) rfl rfl) rfl ⟨rfl, trivial⟩ trivial ?_
      refine G.endOps ?_
      refine G.seq ?_
      refine G.condT rfl ?_
      refine G.skip ?_
      refine G.block ?_
      refine G.seq ?_
      refine G.region ?_
      refine G.op1 (op_extract (l := [bB true, bI .i64 (v5.2 : Int), bI .i32 ((Utf8.decode s_0 v5.2).1 : Int)]) (c := bI .i32 ((Utf8.decode s_0 v5.2).1 : Int)) rfl rfl) rfl ⟨rfl, trivial⟩ trivial ?_
      refine G.op1 (op_assign (Ev.t 19 (bI .i32 ((Utf8.decode s_0 v5.2).1 : Int))) rfl) rfl ⟨rfl, trivial⟩ trivial ?_
      refine G.endOps ?_
      refine G.seq ?_
      refine G.seq ?_
      refine G.region ?_
      refine G.op1 (op_move (Ev.t 4 (bB v5.1)) rfl) rfl ⟨rfl, trivial⟩ trivial ?_
      refine G.op1 (op_not (Ev.t 20 (bB v5.1)) rfl) rfl ⟨rfl, trivial⟩ trivial ?_
      refine G.endOps ?_
      refine ifS hF (fun hc10 hF => ?_) (fun hc10 hF => ?_)
      · refine G.cond rfl (fun _ => ?_) (fun hx => by rw [hc10] at hx; cases hx)
        refine G.exit ?_
        refine GX.c ?_
        refine GX.bNo rfl ?_
        refine GX.q ?_
        refine GX.bYes ?_
        exact G.arr (J4 v5.1 hF) ⟨rfl, trivial⟩ trivial rfl
      · refine G.cond rfl (fun hx => by rw [hc10] at hx; cases hx) (fun _ => ?_)
        refine G.skip ?_
        refine G.region ?_
        refine G.op1 (op_move (Ev.t 6 (bI .i32 ((Utf8.decode s_0 v5.2).1 : Int))) rfl) rfl ⟨rfl, trivial⟩ trivial ?_
        refine G.op1 (op_geq (Ev.t 22 (bI .i32 ((Utf8.decode s_0 v5.2).1 : Int))) (Ev.c _ rfl) rfl) rfl ⟨rfl, trivial⟩ trivial ?_
        refine G.op1 (op_assign (Ev.t 23 (bB (decide (33 ≤ ((Utf8.decode s_0 v5.2).1 : Int))))) rfl) rfl ⟨rfl, trivial⟩ trivial ?_
        refine G.endOps ?_
        refine G.endBlock ?_
        exact G.arr (J6 (decide (33 ≤ ((Utf8.decode s_0 v5.2).1 : Int)), v5.2 + (Utf8.decode s_0 v5.2).2) hF) ⟨rfl, rfl, trivial⟩ ⟨rfl, trivial⟩ rfl
    · refine G.op1 (op_nextF hc9 (Ev.t 16 (.ptr 1016 0)) rfl) rfl ⟨rfl, trivial⟩ ⟨rfl, trivial⟩ ?_
      refine G.op1 (op_extract (l := [bB false]) (c := bB false) rfl rfl) rfl ⟨rfl, trivial⟩ trivial ?_
      refine G.endOps ?_
      refine G.seq ?_
      refine G.condF rfl ?_
      refine G.exit ?_
      refine GX.c ?_
      refine GX.q ?_
      refine GX.bYes ?_
      exact G.arr (J4 v5.1 hF) ⟨rfl, trivial⟩ trivial rfl
  refine G.region ?_
  refine G.op1 (op_move (Ev.t 3 (bI .i64 r1)) rfl) rfl ⟨rfl, trivial⟩ trivial ?_
  refine G.op1 (op_geq (Ev.t 9 (bI .i64 r1)) (Ev.c _ rfl) rfl) rfl ⟨rfl, trivial⟩ trivial ?_
  refine G.op1 (op_move (Ev.t 10 (bB (decide (1 ≤ r1)))) rfl) rfl ⟨rfl, trivial⟩ trivial ?_
  refine ifS hF (fun hc12 hF => ?_) (fun hc12 hF => ?_)
  · refine G.known (t := 11) hc12 rfl ?_
    refine G.opG1 (op_move (Ev.t 3 (bI .i64 r1)) rfl) rfl rfl rfl ⟨rfl, trivial⟩ trivial ?_
    refine G.opG1 (op_leq (Ev.t 12 (bI .i64 r1)) (Ev.c _ rfl) rfl) rfl rfl rfl ⟨rfl, trivial⟩ trivial ?_
    refine G.op1 (op_pickT (Ev.t 11 (bB true)) (Ev.t 13 (bB (decide (r1 ≤ 8)))) rfl) rfl ⟨rfl, rfl, trivial⟩ trivial ?_
    refine G.op1 (op_assign (Ev.t 14 (bB (decide (r1 ≤ 8)))) rfl) rfl ⟨rfl, trivial⟩ trivial ?_
    refine G.endOps ?_
    exact G.arr (J11 (decide (r1 ≤ 8)) hF) ⟨rfl, rfl, trivial⟩ trivial rfl
  · refine G.known (t := 11) hc12 rfl ?_
    refine G.opN1 rfl rfl rfl rfl rfl ?_
    refine G.opN1 rfl rfl rfl rfl rfl ?_
    refine G.op1 (op_pickF (Ev.t 11 (bB false)) (Ev.c _ rfl) rfl) rfl ⟨rfl, trivial⟩ trivial ?_
    refine G.op1 (op_assign (Ev.t 14 (bB false)) rfl) rfl ⟨rfl, trivial⟩ trivial ?_
    refine G.endOps ?_
    exact G.arr (J11 false hF) ⟨rfl, rfl, trivial⟩ trivial rfl


set_option maxRecDepth 20000 in
set_option maxHeartbeats 2000000 in
theorem ct_stamp_Check (s_0 : Api_Stamp) (r : Bool) (hF : stamp_Check s_0 = some r) : Ct Try.prog 58 [.g (.agg (encApi_Stamp s_0))] (.one (.d (.v (.bool r)))) := by
  unfold stamp_Check at hF
  refine Ct.intro Try.func58 rfl Try.ntmps58 rfl rfl fun M w => ?_
  refine G.seq ?_
  refine G.region ?_
  refine G.op2 (op_boxA (k := 1001) (Ev.t 0 (.g (.agg [.v (.int .i64 s_0.N), .v (.int .i64 s_0.Site)]))) rfl) rfl ⟨rfl, trivial⟩ ⟨rfl, trivial⟩ ?_
  refine G.op1 (op_assign (Ev.c _ rfl) rfl) rfl trivial trivial ?_
  refine G.endOps ?_
  refine G.seq ?_
  refine G.region ?_
  refine G.op1 (op_fieldP (off' := 0) Try.underlying29 rfl ti3 (by decide) rfl (Ev.t 1 (.ptr 1001 0)) rfl) rfl ⟨rfl, trivial⟩ trivial ?_
  refine G.op1 (op_load1P (c := bI .i64 s_0.N) Try.underlying3 rfl rfl (Ev.t 3 (.ptr 1001 0)) rfl) rfl ⟨rfl, trivial⟩ ⟨rfl, trivial⟩ ?_
  refine G.op1 (op_geq (Ev.t 4 (bI .i64 s_0.N)) (Ev.c _ rfl) rfl) rfl ⟨rfl, trivial⟩ trivial ?_
  refine G.op1 (op_move (Ev.t 5 (bB (decide (1 ≤ s_0.N)))) rfl) rfl ⟨rfl, trivial⟩ trivial ?_
  refine G.joinL (T := Bool) 4 (fun y1 => ⟨[(1, .one (.ptr 1001 0)), (10, .one (bB y1))], [(1001, some (.blk 29 [bI .i64 s_0.N, bI .i64 s_0.Site]))]⟩) (fun y1 => stamp_Check_k1 s_0 y1 = some r) (fun y1 hF => ?_) (fun J6 => ?_)
  · unfold stamp_Check_k1 at hF
    refine G.op1 (op_move (Ev.t 10 (bB y1)) rfl) rfl ⟨rfl, trivial⟩ trivial ?_
    refine G.joinL (T := Bool) 4 (fun y2 => ⟨[(1, .one (.ptr 1001 0)), (15, .one (bB y2))], [(1001, some (.blk 29 [bI .i64 s_0.N, bI .i64 s_0.Site]))]⟩) (fun y2 => stamp_Check_k2 s_0 y2 = some r) (fun y2 hF => ?_) (fun J4 => ?_)
    · unfold stamp_Check_k2 at hF
      refine G.op1 (op_move (Ev.t 15 (bB y2)) rfl) rfl ⟨rfl, trivial⟩ trivial ?_
      refine ifS hF (fun hc3 hF => ?_) (fun hc3 hF => ?_)
      · refine G.known (t := 16) hc3 rfl ?_
        refine G.opG1 (op_fieldP (off' := 1) Try.underlying29 rfl ti3 (by decide) rfl (Ev.t 1 (.ptr 1001 0)) rfl) rfl rfl rfl ⟨rfl, trivial⟩ trivial ?_
        refine G.opG1 (op_load1P (c := bI .i64 s_0.Site) Try.underlying3 rfl rfl (Ev.t 17 (.ptr 1001 1)) rfl) rfl rfl rfl ⟨rfl, trivial⟩ ⟨rfl, trivial⟩ ?_
        refine G.opG1 (op_lss (Ev.t 18 (bI .i64 s_0.Site)) (Ev.c _ rfl) rfl) rfl rfl rfl ⟨rfl, trivial⟩ trivial ?_
        refine G.op1 (op_pickT (Ev.t 16 (bB true)) (Ev.t 19 (bB (decide (s_0.Site < 6)))) rfl) rfl ⟨rfl, rfl, trivial⟩ trivial ?_
        refine G.op1 (op_assign (Ev.t 20 (bB (decide (s_0.Site < 6)))) rfl) rfl ⟨rfl, trivial⟩ trivial ?_
        refine G.endOps ?_
        cases hF
        exact G.ret1 Try.results58 (RVar.tmp 2 _) ⟨rfl, trivial⟩ trivial
      · refine G.known (t := 16) hc3 rfl ?_
        refine G.opN1 rfl rfl rfl rfl rfl ?_
        refine G.opN1 rfl rfl rfl rfl rfl ?_
        refine G.opN1 rfl rfl rfl rfl rfl ?_
        refine G.op1 (op_pickF (Ev.t 16 (bB false)) (Ev.c _ rfl) rfl) rfl ⟨rfl, trivial⟩ trivial ?_
        refine G.op1 (op_assign (Ev.t 20 (bB false)) rfl) rfl ⟨rfl, trivial⟩ trivial ?_
        refine G.endOps ?_
        cases hF
        exact G.ret1 Try.results58 (RVar.tmp 2 _) ⟨rfl, trivial⟩ trivial
    refine ifS hF (fun hc5 hF => ?_) (fun hc5 hF => ?_)
    · refine G.known (t := 11) hc5 rfl ?_
      refine G.opG1 (op_fieldP (off' := 1) Try.underlying29 rfl ti3 (by decide) rfl (Ev.t 1 (.ptr 1001 0)) rfl) rfl rfl rfl ⟨rfl, trivial⟩ trivial ?_
      refine G.opG1 (op_load1P (c := bI .i64 s_0.Site) Try.underlying3 rfl rfl (Ev.t 12 (.ptr 1001 1)) rfl) rfl rfl rfl ⟨rfl, trivial⟩ ⟨rfl, trivial⟩ ?_
      refine G.opG1 (op_geq (Ev.t 13 (bI .i64 s_0.Site)) (Ev.c _ rfl) rfl) rfl rfl rfl ⟨rfl, trivial⟩ trivial ?_
      refine G.op1 (op_pickT (Ev.t 11 (bB true)) (Ev.t 14 (bB (decide (0 ≤ s_0.Site)))) rfl) rfl ⟨rfl, rfl, trivial⟩ trivial ?_
      exact G.arr (J4 (decide (0 ≤ s_0.Site)) hF) ⟨rfl, rfl, trivial⟩ ⟨rfl, trivial⟩ rfl
    · refine G.known (t := 11) hc5 rfl ?_
      refine G.opN1 rfl rfl rfl rfl rfl ?_
      refine G.opN1 rfl rfl rfl rfl rfl ?_
      refine G.opN1 rfl rfl rfl rfl rfl ?_
      refine G.op1 (op_pickF (Ev.t 11 (bB false)) (Ev.c _ rfl) rfl) rfl ⟨rfl, trivial⟩ trivial ?_
      exact G.arr (J4 false hF) ⟨rfl, rfl, trivial⟩ ⟨rfl, trivial⟩ rfl
  refine ifS hF (fun hc7 hF => ?_) (fun hc7 hF => ?_)
  · refine G.known (t := 6) hc7 rfl ?_
    refine G.opG1 (op_fieldP (off' := 0) Try.underlying29 rfl ti3 (by decide) rfl (Ev.t 1 (.ptr 1001 0)) rfl) rfl rfl rfl ⟨rfl, trivial⟩ trivial ?_
    refine G.opG1 (op_load1P (c := bI .i64 s_0.N) Try.underlying3 rfl rfl (Ev.t 7 (.ptr 1001 0)) rfl) rfl rfl rfl ⟨rfl, trivial⟩ ⟨rfl, trivial⟩ ?_
    refine G.opG1 (op_leq (Ev.t 8 (bI .i64 s_0.N)) (Ev.c _ rfl) rfl) rfl rfl rfl ⟨rfl, trivial⟩ trivial ?_
    refine G.op1 (op_pickT (Ev.t 6 (bB true)) (Ev.t 9 (bB (decide (s_0.N ≤ 1099511627776)))) rfl) rfl ⟨rfl, rfl, trivial⟩ trivial ?_
    exact G.arr (J6 (decide (s_0.N ≤ 1099511627776)) hF) ⟨rfl, rfl, trivial⟩ ⟨rfl, trivial⟩ rfl
  · refine G.known (t := 6) hc7 rfl ?_
    refine G.opN1 rfl rfl rfl rfl rfl ?_
    refine G.opN1 rfl rfl rfl rfl rfl ?_
    refine G.opN1 rfl rfl rfl rfl rfl ?_
    refine G.op1 (op_pickF (Ev.t 6 (bB false)) (Ev.c _ rfl) rfl) rfl ⟨rfl, trivial⟩ trivial ?_
    exact G.arr (J6 false hF) ⟨rfl, rfl, trivial⟩ ⟨rfl, trivial⟩ rfl


set_option maxRecDepth 20000 in
set_option maxHeartbeats 2000000 in
theorem ct_past_may (d_0 : Api_Dep) (r : Bool) (hF : past_may d_0 = some r) : Ct Try.prog 66 [.g (.agg (encApi_Dep d_0))] (.one (.d (.v (.bool r)))) := by
  unfold past_may at hF
  refine Ct.intro Try.func66 rfl Try.ntmps66 rfl rfl fun M w => ?_
  refine G.seq ?_
  refine G.region ?_
  refine G.op2 (op_boxA (k := 1001) (Ev.t 0 (.g (.agg [.v (.string d_0.Key), .v (.int .i64 d_0.Stamp.N), .v (.int .i64 d_0.Stamp.Site)]))) rfl) rfl ⟨rfl, trivial⟩ ⟨rfl, trivial⟩ ?_
  refine G.op1 (op_assign (Ev.c _ rfl) rfl) rfl trivial trivial ?_
  refine G.endOps ?_
  refine G.seq ?_
  refine G.region ?_
  refine G.op1 (op_fieldP (off' := 0) Try.underlying39 rfl ti9 (by decide) rfl (Ev.t 1 (.ptr 1001 0)) rfl) rfl ⟨rfl, trivial⟩ trivial ?_
  refine G.op1 (op_load1P (c := bS d_0.Key) Try.underlying9 rfl rfl (Ev.t 3 (.ptr 1001 0)) rfl) rfl ⟨rfl, trivial⟩ ⟨rfl, trivial⟩ ?_
  obtain ⟨r1, hr1, hF⟩ := bindS hF
  refine G.op1 (op_callQ (sv := .one (bB r1)) cf57 (ct_keys_Check d_0.Key r1 hr1) rfl rfl (EvQL.cons (EvQ.g (Ev.t 4 (bS d_0.Key))) EvQL.nil) rfl) rfl ⟨rfl, trivial⟩ trivial ?_
  refine G.op1 (op_move (Ev.t 5 (bB r1)) rfl) rfl ⟨rfl, trivial⟩ trivial ?_
  refine ifS hF (fun hc2 hF => ?_) (fun hc2 hF => ?_)
  · refine G.known (t := 6) hc2 rfl ?_
    refine G.opG1 (op_fieldP (off' := 1) Try.underlying39 rfl ti29 (by decide) rfl (Ev.t 1 (.ptr 1001 0)) rfl) rfl rfl rfl ⟨rfl, trivial⟩ trivial ?_
    refine G.opG1 (op_loadAP (ds := [.v (.int .i64 d_0.Stamp.N), .v (.int .i64 d_0.Stamp.Site)]) Try.underlying29 rfl ti29 rfl (Ev.t 7 (.ptr 1001 1)) rfl) rfl rfl rfl ⟨rfl, trivial⟩ ⟨rfl, trivial⟩ ?_
    obtain ⟨r3, hr3, hF⟩ := bindS hF
    refine G.opG1 (op_callQ (sv := .one (bB r3)) cf58 (ct_stamp_Check d_0.Stamp r3 hr3) rfl rfl (EvQL.cons (EvQ.g (Ev.t 8 (.g (.agg [.v (.int .i64 d_0.Stamp.N), .v (.int .i64 d_0.Stamp.Site)])))) EvQL.nil) rfl) rfl rfl rfl ⟨rfl, trivial⟩ trivial ?_
    refine G.op1 (op_pickT (Ev.t 6 (bB true)) (Ev.t 9 (bB r3)) rfl) rfl ⟨rfl, rfl, trivial⟩ trivial ?_
    refine G.op1 (op_assign (Ev.t 10 (bB r3)) rfl) rfl ⟨rfl, trivial⟩ trivial ?_
    refine G.endOps ?_
    cases hF
    exact G.ret1 Try.results66 (RVar.tmp 2 _) ⟨rfl, trivial⟩ trivial
  · refine G.known (t := 6) hc2 rfl ?_
    refine G.opN1 rfl rfl rfl rfl rfl ?_
    refine G.opN1 rfl rfl rfl rfl rfl ?_
    refine G.opN1 rfl rfl rfl rfl rfl ?_
    refine G.op1 (op_pickF (Ev.t 6 (bB false)) (Ev.c _ rfl) rfl) rfl ⟨rfl, trivial⟩ trivial ?_
    refine G.op1 (op_assign (Ev.t 10 (bB false)) rfl) rfl ⟨rfl, trivial⟩ trivial ?_
    refine G.endOps ?_
    cases hF
    exact G.ret1 Try.results66 (RVar.tmp 2 _) ⟨rfl, trivial⟩ trivial


set_option maxRecDepth 20000 in
set_option maxHeartbeats 2000000 in
theorem ct_past_Check (p_0 : (List Api_Dep)) (r : Bool) (hF : past_Check p_0 = some r) : Ct Try.prog 59 [.g (.d (.sl 3 (List.map encApi_Dep p_0)))] (.one (.d (.v (.bool r)))) := by
  unfold past_Check at hF
  refine Ct.intro Try.func59 rfl Try.ntmps59 rfl rfl fun M w => ?_
  refine G.seq ?_
  refine G.region ?_
  refine G.op1 (op_assign (Ev.c _ rfl) rfl) rfl trivial trivial ?_
  refine G.endOps ?_
  refine G.seq ?_
  refine G.seq ?_
  refine G.region ?_
  refine G.op1 (op_move (Ev.t 0 (.g (.d (.sl 3 (List.map encApi_Dep p_0))))) rfl) rfl ⟨rfl, trivial⟩ trivial ?_
  refine G.op1 (OpL.cast (op_lenD Try.underlying30 (Ev.t 5 (.g (.d (.sl 3 (List.map encApi_Dep p_0))))) rfl) (by rw [List.length_map])) rfl ⟨rfl, trivial⟩ trivial ?_
  refine G.op1 (op_move (Ev.c _ rfl) rfl) rfl trivial trivial ?_
  refine G.endOps ?_
  refine G.joinC (T := Unit) (fun y1 => ⟨[(0, .one (.g (.d (.sl 3 (List.map encApi_Dep p_0)))))], []⟩) (fun y1 => past_Check_k1 p_0 y1 = some r) (fun y1 hF => ?_) (fun J2 => ?_)
  · unfold past_Check_k1 at hF
    refine G.seq ?_
    refine G.region ?_
    refine G.op1 (op_move (Ev.t 0 (.g (.d (.sl 3 (List.map encApi_Dep p_0))))) rfl) rfl ⟨rfl, trivial⟩ trivial ?_
    refine G.op1 (OpL.cast (op_lenD Try.underlying30 (Ev.t 31 (.g (.d (.sl 3 (List.map encApi_Dep p_0))))) rfl) (by rw [List.length_map])) rfl ⟨rfl, trivial⟩ trivial ?_
    refine G.op1 (op_leq (Ev.t 32 (bI .i64 (p_0.length : Int))) (Ev.c _ rfl) rfl) rfl ⟨rfl, trivial⟩ trivial ?_
    refine G.op1 (op_assign (Ev.t 33 (bB (decide ((p_0.length : Int) ≤ 24)))) rfl) rfl ⟨rfl, trivial⟩ trivial ?_
    refine G.endOps ?_
    cases hF
    exact G.ret1 Try.results59 (RVar.tmp 2 _) ⟨rfl, trivial⟩ trivial
  refine G.block ?_
  refine G.keep (sl' := [(0, .one (.g (.d (.sl 3 (List.map encApi_Dep p_0))))), (5, .one (.g (.d (.sl 3 (List.map encApi_Dep p_0))))), (6, .one (bI .i64 (p_0.length : Int))), (7, .one (bI .i64 0))]) (hp' := []) ⟨rfl, rfl, rfl, rfl, trivial⟩ trivial rfl ?_
  refine G.loopF (fun (v3 : Int) => ⟨[(0, .one (.g (.d (.sl 3 (List.map encApi_Dep p_0))))), (5, .one (.g (.d (.sl 3 (List.map encApi_Dep p_0))))), (6, .one (bI .i64 (p_0.length : Int))), (7, .one (bI .i64 v3))], []⟩) hF rfl (fun K6 again5 v3 J4 hF => ?_)
  unfold past_Check_l2 at hF
  refine G.seq ?_
  refine G.region ?_
  refine G.op1 (op_lss (Ev.t 7 (bI .i64 v3)) (Ev.t 6 (bI .i64 (p_0.length : Int))) rfl) rfl ⟨rfl, rfl, trivial⟩ trivial ?_
  refine G.endOps ?_
  refine G.seq ?_
  refine ifS hF (fun hc7 hF => ?_) (fun hc7 hF => ?_)
  · refine G.cond rfl (fun _ => ?_) (fun hx => by rw [hc7] at hx; cases hx)
    refine G.skip ?_
    refine G.seq ?_
    refine G.block ?_
    refine G.seq ?_
    refine G.region ?_
    refine G.op1 (op_move (Ev.t 7 (bI .i64 v3)) rfl) rfl ⟨rfl, trivial⟩ trivial ?_
    obtain ⟨x8, hx8, hF⟩ := bindS hF
    refine G.op1 (op_index (cs := [.v (.string x8.Key), .v (.int .i64 x8.Stamp.N), .v (.int .i64 x8.Stamp.Site)]) Try.underlying30 ti39 (idx_ok hx8).1 (idx_get hx8 encApi_Dep) (Ev.t 5 (.g (.d (.sl 3 (List.map encApi_Dep p_0))))) (Ev.t 7 (bI .i64 v3)) rfl) rfl ⟨rfl, rfl, trivial⟩ trivial ?_
    refine G.op1 (op_loadAE (ds := [.v (.string x8.Key), .v (.int .i64 x8.Stamp.N), .v (.int .i64 x8.Stamp.Site)]) Try.underlying39 rfl ti39 rfl (Ev.t 10 (.ep [.v (.string x8.Key), .v (.int .i64 x8.Stamp.N), .v (.int .i64 x8.Stamp.Site)])) rfl) rfl ⟨rfl, trivial⟩ trivial ?_
    refine G.op2 (op_alloc (k := 1004) (cs := [bS ByteArray.empty, bI .i64 0, bI .i64 0]) ti39 ⟨.v _ rfl, .v _ rfl, .v _ rfl, trivial⟩ rfl) rfl trivial ⟨rfl, trivial⟩ ?_
    refine G.op1 (op_assign (Ev.t 9 (bI .i64 v3)) rfl) rfl ⟨rfl, trivial⟩ trivial ?_
    refine G.op3 (op_storeA (cs' := [bS x8.Key, bI .i64 x8.Stamp.N, bI .i64 x8.Stamp.Site]) ti39 rfl rfl (Ev.t 4 (.ptr 1004 0)) (Ev.t 11 (.g (.agg [.v (.string x8.Key), .v (.int .i64 x8.Stamp.N), .v (.int .i64 x8.Stamp.Site)])))) rfl ⟨rfl, rfl, trivial⟩ ⟨rfl, trivial⟩ ?_
    refine G.endOps ?_
    refine G.seq ?_
    obtain ⟨r9, hr9, hF⟩ := bindS hF
    refine ifS hF (fun hc10 hF => ?_) (fun hc10 hF => ?_)
    · refine G.drawn (effs := [⟨[(4, .one (.ptr 1004 0))], [(1004, some (.blk 39 [bS x8.Key, bI .i64 x8.Stamp.N, bI .i64 x8.Stamp.Site]))], [(12, .one (.g (.agg [.v (.string x8.Key), .v (.int .i64 x8.Stamp.N), .v (.int .i64 x8.Stamp.Site)])))], []⟩, ⟨[(12, .one (.g (.agg [.v (.string x8.Key), .v (.int .i64 x8.Stamp.N), .v (.int .i64 x8.Stamp.Site)])))], [], [(13, .one (bB r9))], []⟩, ⟨[(13, .one (bB r9))], [], [(14, .one (bB true))], []⟩, ⟨[(14, .one (bB true))], [], [(15, .one (bB true))], []⟩, ⟨[(15, .one (bB true))], [], [(16, .one (.x Go.undef))], []⟩, ⟨[(15, .one (bB true))], [], [(17, .one (.x Go.undef))], []⟩, ⟨[(15, .one (bB true))], [], [(18, .one (.x Go.undef))], []⟩, ⟨[(18, .one (.x Go.undef))], [], [(19, .one (.x Go.undef))], []⟩, ⟨[(18, .one (.x Go.undef))], [], [(20, .one (.x Go.undef))], []⟩, ⟨[(18, .one (.x Go.undef))], [], [(21, .one (.x Go.undef))], []⟩, ⟨[(18, .one (.x Go.undef))], [], [(22, .one (.x Go.undef))], []⟩, ⟨[(18, .one (.x Go.undef))], [], [(23, .one (.x Go.undef))], []⟩, ⟨[(18, .one (.x Go.undef))], [], [(24, .one (.x Go.undef))], []⟩, ⟨[(18, .one (.x Go.undef))], [], [(25, .one (.x Go.undef))], []⟩, ⟨[(18, .one (.x Go.undef))], [], [(26, .one (.x Go.undef))], []⟩, ⟨[(18, .one (.x Go.undef))], [], [(27, .one (.x Go.undef))], []⟩, ⟨[(15, .one (bB true))], [], [(28, .one (.x Go.undef))], []⟩, ⟨[(15, .one (bB true))], [], [(29, .one (bB true))], []⟩]) (deps := [[], [0], [0, 1], [0, 1, 2], [0, 1, 2, 3], [0, 1, 2, 3, 4], [0, 1, 2, 3, 4, 5], [0, 1, 2, 3, 4, 5, 6], [0, 1, 2, 3, 4, 5, 6], [0, 1, 2, 3, 4, 5, 6, 8], [0, 1, 2, 3, 4, 5, 6, 7, 8, 9], [0, 1, 2, 3, 4, 5, 6, 7, 8, 9, 10], [0, 1, 2, 3, 4, 5, 6, 7, 8, 9, 10, 11], [0, 1, 2, 3, 4, 5, 6], [0, 1, 2, 3, 4, 5, 6, 13], [0, 1, 2, 3, 4, 5, 6, 7, 8, 9, 10, 11, 12, 13, 14], [0, 1, 2, 3, 4, 5, 6, 7, 8, 9, 10, 11, 12, 13, 14, 15], [0, 1, 2, 3, 4, 5, 6, 7, 8, 9, 10, 11, 12, 13, 14, 15, 16]]) (sl' := [(0, .one (.g (.d (.sl 3 (List.map encApi_Dep p_0))))), (5, .one (.g (.d (.sl 3 (List.map encApi_Dep p_0))))), (6, .one (bI .i64 (p_0.length : Int))), (7, .one (bI .i64 v3)), (29, .one (bB true))]) (hp' := []) follows rfl rfl rfl ⟨⟨rfl, trivial⟩, ⟨⟨rfl, rfl⟩, trivial⟩, ⟨rfl, trivial⟩, trivial, ⟨rfl, trivial⟩, trivial, ⟨rfl, trivial⟩, trivial, ⟨rfl, trivial⟩, trivial, ⟨rfl, trivial⟩, trivial, ⟨rfl, trivial⟩, trivial, ⟨rfl, trivial⟩, trivial, ⟨rfl, trivial⟩, trivial, ⟨rfl, trivial⟩, trivial, ⟨rfl, trivial⟩, trivial, ⟨rfl, trivial⟩, trivial, ⟨rfl, trivial⟩, trivial, ⟨rfl, trivial⟩, trivial, ⟨rfl, trivial⟩, trivial, ⟨rfl, trivial⟩, trivial, ⟨rfl, trivial⟩, trivial, ⟨rfl, trivial⟩, trivial, trivial⟩ ⟨OpW.plain (op_loadAP (ds := [.v (.string x8.Key), .v (.int .i64 x8.Stamp.N), .v (.int .i64 x8.Stamp.Site)]) Try.underlying39 rfl ti39 rfl (Ev.t 4 (.ptr 1004 0)) rfl) rfl rfl, OpW.plain (op_callQ (sv := .one (bB r9)) cf66 (ct_past_may x8 r9 hr9) rfl rfl (EvQL.cons (EvQ.g (Ev.t 12 (.g (.agg [.v (.string x8.Key), .v (.int .i64 x8.Stamp.N), .v (.int .i64 x8.Stamp.Site)])))) EvQL.nil) rfl) rfl rfl, OpW.plain (OpL.cast (op_not (Ev.t 13 (bB r9)) rfl) (congrArg (fun b => bB b) hc10)) rfl rfl, OpW.plain (op_move (Ev.t 14 (bB true)) rfl) rfl rfl, OpW.no rfl rfl rfl rfl rfl, OpW.no rfl rfl rfl rfl rfl, OpW.no rfl rfl rfl rfl rfl, OpW.un rfl rfl rfl rfl, OpW.un rfl rfl rfl rfl, OpW.un rfl rfl rfl rfl, OpW.un rfl rfl rfl rfl, OpW.un rfl rfl rfl rfl, OpW.un rfl rfl rfl rfl, OpW.un rfl rfl rfl rfl, OpW.un rfl rfl rfl rfl, OpW.un rfl rfl rfl rfl, OpW.no rfl rfl rfl rfl rfl, OpW.plain (op_pickT (Ev.t 15 (bB true)) (Ev.c _ rfl) rfl) rfl rfl, trivial⟩ ⟨rfl, rfl, rfl, rfl, rfl, trivial⟩ trivial rfl ?_
      refine G.condT rfl ?_
      refine G.seq ?_
      refine G.region ?_
      refine G.op1 (op_assign (Ev.c _ rfl) rfl) rfl trivial trivial ?_
      refine G.endOps ?_
      cases hF
      exact G.ret1 Try.results59 (RVar.tmp 2 _) ⟨rfl, trivial⟩ trivial
    · refine ifS hF (fun hc11 hF => ?_) (fun hc11 hF => ?_)
      · obtain ⟨x12, hx12, hF⟩ := bindS hF
        refine G.drawn (effs := [⟨[(4, .one (.ptr 1004 0))], [(1004, some (.blk 39 [bS x8.Key, bI .i64 x8.Stamp.N, bI .i64 x8.Stamp.Site]))], [(12, .one (.g (.agg [.v (.string x8.Key), .v (.int .i64 x8.Stamp.N), .v (.int .i64 x8.Stamp.Site)])))], []⟩, ⟨[(12, .one (.g (.agg [.v (.string x8.Key), .v (.int .i64 x8.Stamp.N), .v (.int .i64 x8.Stamp.Site)])))], [], [(13, .one (bB r9))], []⟩, ⟨[(13, .one (bB r9))], [], [(14, .one (bB false))], []⟩, ⟨[(14, .one (bB false))], [], [(15, .one (bB false))], []⟩, ⟨[(15, .one (bB false)), (3, .one (bI .i64 v3))], [], [(16, .one (bI .i64 v3))], []⟩, ⟨[(15, .one (bB false)), (16, .one (bI .i64 v3))], [], [(17, .one (bB true))], []⟩, ⟨[(15, .one (bB false)), (17, .one (bB true))], [], [(18, .one (bB true))], []⟩, ⟨[(18, .one (bB true)), (0, .one (.g (.d (.sl 3 (List.map encApi_Dep p_0)))))], [], [(19, .one (.g (.d (.sl 3 (List.map encApi_Dep p_0)))))], []⟩, ⟨[(18, .one (bB true)), (3, .one (bI .i64 v3))], [], [(20, .one (bI .i64 v3))], []⟩, ⟨[(18, .one (bB true)), (20, .one (bI .i64 v3))], [], [(21, .one (bI .i64 (IntKind.wrap .i64 (v3 - 1))))], []⟩, ⟨[(18, .one (bB true)), (19, .one (.g (.d (.sl 3 (List.map encApi_Dep p_0))))), (21, .one (bI .i64 (IntKind.wrap .i64 (v3 - 1))))], [], [(22, .one (.ep [.v (.string x12.Key), .v (.int .i64 x12.Stamp.N), .v (.int .i64 x12.Stamp.Site)]))], []⟩, ⟨[(18, .one (bB true)), (22, .one (.ep [.v (.string x12.Key), .v (.int .i64 x12.Stamp.N), .v (.int .i64 x12.Stamp.Site)]))], [], [(23, .one (.ep [.v (.string x12.Key), .v (.int .i64 x12.Stamp.N), .v (.int .i64 x12.Stamp.Site)]))], []⟩, ⟨[(18, .one (bB true)), (23, .one (.ep [.v (.string x12.Key), .v (.int .i64 x12.Stamp.N), .v (.int .i64 x12.Stamp.Site)]))], [], [(24, .one (bS x12.Key))], []⟩, ⟨[(18, .one (bB true)), (4, .one (.ptr 1004 0))], [], [(25, .one (.ptr 1004 0))], []⟩, ⟨[(18, .one (bB true)), (25, .one (.ptr 1004 0))], [(1004, some (.blk 39 [bS x8.Key, bI .i64 x8.Stamp.N, bI .i64 x8.Stamp.Site]))], [(26, .one (bS x8.Key))], []⟩, ⟨[(18, .one (bB true)), (24, .one (bS x12.Key)), (26, .one (bS x8.Key))], [], [(27, .one (bB (!slt x12.Key x8.Key)))], []⟩, ⟨[(15, .one (bB false)), (18, .one (bB true)), (27, .one (bB (!slt x12.Key x8.Key)))], [], [(28, .one (bB (!slt x12.Key x8.Key)))], []⟩, ⟨[(15, .one (bB false)), (28, .one (bB (!slt x12.Key x8.Key)))], [], [(29, .one (bB (!slt x12.Key x8.Key)))], []⟩]) (deps := [[], [0], [0, 1], [0, 1, 2], [0, 1, 2, 3], [0, 1, 2, 3, 4], [0, 1, 2, 3, 4, 5], [0, 1, 2, 3, 4, 5, 6], [0, 1, 2, 3, 4, 5, 6], [0, 1, 2, 3, 4, 5, 6, 8], [0, 1, 2, 3, 4, 5, 6, 7, 8, 9], [0, 1, 2, 3, 4, 5, 6, 7, 8, 9, 10], [0, 1, 2, 3, 4, 5, 6, 7, 8, 9, 10, 11], [0, 1, 2, 3, 4, 5, 6], [0, 1, 2, 3, 4, 5, 6, 13], [0, 1, 2, 3, 4, 5, 6, 7, 8, 9, 10, 11, 12, 13, 14], [0, 1, 2, 3, 4, 5, 6, 7, 8, 9, 10, 11, 12, 13, 14, 15], [0, 1, 2, 3, 4, 5, 6, 7, 8, 9, 10, 11, 12, 13, 14, 15, 16]]) (sl' := [(0, .one (.g (.d (.sl 3 (List.map encApi_Dep p_0))))), (5, .one (.g (.d (.sl 3 (List.map encApi_Dep p_0))))), (6, .one (bI .i64 (p_0.length : Int))), (7, .one (bI .i64 v3)), (29, .one (bB (!slt x12.Key x8.Key)))]) (hp' := []) follows rfl rfl rfl ⟨⟨rfl, trivial⟩, ⟨⟨rfl, rfl⟩, trivial⟩, ⟨rfl, trivial⟩, trivial, ⟨rfl, trivial⟩, trivial, ⟨rfl, trivial⟩, trivial, ⟨rfl, rfl, trivial⟩, trivial, ⟨rfl, rfl, trivial⟩, trivial, ⟨rfl, rfl, trivial⟩, trivial, ⟨rfl, rfl, trivial⟩, trivial, ⟨rfl, rfl, trivial⟩, trivial, ⟨rfl, rfl, trivial⟩, trivial, ⟨rfl, rfl, rfl, trivial⟩, trivial, ⟨rfl, rfl, trivial⟩, trivial, ⟨rfl, rfl, trivial⟩, trivial, ⟨rfl, rfl, trivial⟩, trivial, ⟨rfl, rfl, trivial⟩, ⟨⟨rfl, rfl⟩, trivial⟩, ⟨rfl, rfl, rfl, trivial⟩, trivial, ⟨rfl, rfl, rfl, trivial⟩, trivial, ⟨rfl, rfl, trivial⟩, trivial, trivial⟩ ⟨OpW.plain (op_loadAP (ds := [.v (.string x8.Key), .v (.int .i64 x8.Stamp.N), .v (.int .i64 x8.Stamp.Site)]) Try.underlying39 rfl ti39 rfl (Ev.t 4 (.ptr 1004 0)) rfl) rfl rfl, OpW.plain (op_callQ (sv := .one (bB r9)) cf66 (ct_past_may x8 r9 hr9) rfl rfl (EvQL.cons (EvQ.g (Ev.t 12 (.g (.agg [.v (.string x8.Key), .v (.int .i64 x8.Stamp.N), .v (.int .i64 x8.Stamp.Site)])))) EvQL.nil) rfl) rfl rfl, OpW.plain (OpL.cast (op_not (Ev.t 13 (bB r9)) rfl) (congrArg (fun b => bB b) hc10)) rfl rfl, OpW.plain (op_move (Ev.t 14 (bB false)) rfl) rfl rfl, OpW.yes (op_move (Ev.t 3 (bI .i64 v3)) rfl) rfl rfl rfl, OpW.yes (OpL.cast (op_gtr (Ev.t 16 (bI .i64 v3)) (Ev.c _ rfl) rfl) (congrArg (fun b => bB b) hc11)) rfl rfl rfl, OpW.yes (op_move (Ev.t 17 (bB true)) rfl) rfl rfl rfl, OpW.yes (op_move (Ev.t 0 (.g (.d (.sl 3 (List.map encApi_Dep p_0))))) rfl) rfl rfl rfl, OpW.yes (op_move (Ev.t 3 (bI .i64 v3)) rfl) rfl rfl rfl, OpW.yes (op_sub (Ev.t 20 (bI .i64 v3)) (Ev.c _ rfl) rfl) rfl rfl rfl, OpW.yes (op_index (cs := [.v (.string x12.Key), .v (.int .i64 x12.Stamp.N), .v (.int .i64 x12.Stamp.Site)]) Try.underlying30 ti39 (idx_ok hx12).1 (idx_get hx12 encApi_Dep) (Ev.t 19 (.g (.d (.sl 3 (List.map encApi_Dep p_0))))) (Ev.t 21 (bI .i64 (IntKind.wrap .i64 (v3 - 1)))) rfl) rfl rfl rfl, OpW.yes (op_fieldE (cs' := [.v (.string x12.Key), .v (.int .i64 x12.Stamp.N), .v (.int .i64 x12.Stamp.Site)]) Try.underlying39 rfl ti9 (by decide) rfl (Ev.t 22 (.ep [.v (.string x12.Key), .v (.int .i64 x12.Stamp.N), .v (.int .i64 x12.Stamp.Site)])) rfl) rfl rfl rfl, OpW.yes (op_load1E (c := .v (.string x12.Key)) Try.underlying9 rfl rfl (Ev.t 23 (.ep [.v (.string x12.Key), .v (.int .i64 x12.Stamp.N), .v (.int .i64 x12.Stamp.Site)])) rfl) rfl rfl rfl, OpW.yes (op_fieldP (off' := 0) Try.underlying39 rfl ti9 (by decide) rfl (Ev.t 4 (.ptr 1004 0)) rfl) rfl rfl rfl, OpW.yes (op_load1P (c := bS x8.Key) Try.underlying9 rfl rfl (Ev.t 25 (.ptr 1004 0)) rfl) rfl rfl rfl, OpW.yes (op_geS (Ev.t 24 (bS x12.Key)) (Ev.t 26 (bS x8.Key)) rfl) rfl rfl rfl, OpW.yes (op_pickT (Ev.t 18 (bB true)) (Ev.t 27 (bB (!slt x12.Key x8.Key))) rfl) rfl rfl rfl, OpW.plain (op_pickF (Ev.t 15 (bB false)) (Ev.t 28 (bB (!slt x12.Key x8.Key))) rfl) rfl rfl, trivial⟩ ⟨rfl, rfl, rfl, rfl, rfl, trivial⟩ trivial rfl ?_
        refine ifS hF (fun hc13 hF => ?_) (fun hc13 hF => ?_)
        · refine G.cond rfl (fun _ => ?_) (fun hx => by rw [hc13] at hx; cases hx)
          refine G.seq ?_
          refine G.region ?_
          refine G.op1 (op_assign (Ev.c _ rfl) rfl) rfl trivial trivial ?_
          refine G.endOps ?_
          cases hF
          exact G.ret1 Try.results59 (RVar.tmp 2 _) ⟨rfl, trivial⟩ trivial
        · refine G.cond rfl (fun hx => by rw [hc13] at hx; cases hx) (fun _ => ?_)
          refine G.skip ?_
          refine G.endBlock ?_
          refine G.region ?_
          refine G.op1 (op_add (Ev.t 7 (bI .i64 v3)) (Ev.c _ rfl) rfl) rfl ⟨rfl, trivial⟩ trivial ?_
          refine G.op1 (op_move (Ev.t 30 (bI .i64 (IntKind.wrap .i64 (v3 + 1)))) rfl) rfl ⟨rfl, trivial⟩ trivial ?_
          refine G.endOps ?_
          exact G.arr (J4 (IntKind.wrap .i64 (v3 + 1)) hF) ⟨rfl, rfl, rfl, rfl, trivial⟩ trivial rfl
      · refine G.drawn (effs := [⟨[(4, .one (.ptr 1004 0))], [(1004, some (.blk 39 [bS x8.Key, bI .i64 x8.Stamp.N, bI .i64 x8.Stamp.Site]))], [(12, .one (.g (.agg [.v (.string x8.Key), .v (.int .i64 x8.Stamp.N), .v (.int .i64 x8.Stamp.Site)])))], []⟩, ⟨[(12, .one (.g (.agg [.v (.string x8.Key), .v (.int .i64 x8.Stamp.N), .v (.int .i64 x8.Stamp.Site)])))], [], [(13, .one (bB r9))], []⟩, ⟨[(13, .one (bB r9))], [], [(14, .one (bB false))], []⟩, ⟨[(14, .one (bB false))], [], [(15, .one (bB false))], []⟩, ⟨[(15, .one (bB false)), (3, .one (bI .i64 v3))], [], [(16, .one (bI .i64 v3))], []⟩, ⟨[(15, .one (bB false)), (16, .one (bI .i64 v3))], [], [(17, .one (bB false))], []⟩, ⟨[(15, .one (bB false)), (17, .one (bB false))], [], [(18, .one (bB false))], []⟩, ⟨[(18, .one (bB false))], [], [(19, .one (.x Go.undef))], []⟩, ⟨[(18, .one (bB false))], [], [(20, .one (.x Go.undef))], []⟩, ⟨[(18, .one (bB false))], [], [(21, .one (.x Go.undef))], []⟩, ⟨[(18, .one (bB false))], [], [(22, .one (.x Go.undef))], []⟩, ⟨[(18, .one (bB false))], [], [(23, .one (.x Go.undef))], []⟩, ⟨[(18, .one (bB false))], [], [(24, .one (.x Go.undef))], []⟩, ⟨[(18, .one (bB false))], [], [(25, .one (.x Go.undef))], []⟩, ⟨[(18, .one (bB false))], [], [(26, .one (.x Go.undef))], []⟩, ⟨[(18, .one (bB false))], [], [(27, .one (.x Go.undef))], []⟩, ⟨[(15, .one (bB false)), (18, .one (bB false))], [], [(28, .one (bB false))], []⟩, ⟨[(15, .one (bB false)), (28, .one (bB false))], [], [(29, .one (bB false))], []⟩]) (deps := [[], [0], [0, 1], [0, 1, 2], [0, 1, 2, 3], [0, 1, 2, 3, 4], [0, 1, 2, 3, 4, 5], [0, 1, 2, 3, 4, 5, 6], [0, 1, 2, 3, 4, 5, 6], [0, 1, 2, 3, 4, 5, 6, 8], [0, 1, 2, 3, 4, 5, 6, 7, 8, 9], [0, 1, 2, 3, 4, 5, 6, 7, 8, 9, 10], [0, 1, 2, 3, 4, 5, 6, 7, 8, 9, 10, 11], [0, 1, 2, 3, 4, 5, 6], [0, 1, 2, 3, 4, 5, 6, 13], [0, 1, 2, 3, 4, 5, 6, 7, 8, 9, 10, 11, 12, 13, 14], [0, 1, 2, 3, 4, 5, 6, 7, 8, 9, 10, 11, 12, 13, 14, 15], [0, 1, 2, 3, 4, 5, 6, 7, 8, 9, 10, 11, 12, 13, 14, 15, 16]]) (sl' := [(0, .one (.g (.d (.sl 3 (List.map encApi_Dep p_0))))), (5, .one (.g (.d (.sl 3 (List.map encApi_Dep p_0))))), (6, .one (bI .i64 (p_0.length : Int))), (7, .one (bI .i64 v3)), (29, .one (bB false))]) (hp' := []) follows rfl rfl rfl ⟨⟨rfl, trivial⟩, ⟨⟨rfl, rfl⟩, trivial⟩, ⟨rfl, trivial⟩, trivial, ⟨rfl, trivial⟩, trivial, ⟨rfl, trivial⟩, trivial, ⟨rfl, rfl, trivial⟩, trivial, ⟨rfl, rfl, trivial⟩, trivial, ⟨rfl, rfl, trivial⟩, trivial, ⟨rfl, trivial⟩, trivial, ⟨rfl, trivial⟩, trivial, ⟨rfl, trivial⟩, trivial, ⟨rfl, trivial⟩, trivial, ⟨rfl, trivial⟩, trivial, ⟨rfl, trivial⟩, trivial, ⟨rfl, trivial⟩, trivial, ⟨rfl, trivial⟩, trivial, ⟨rfl, trivial⟩, trivial, ⟨rfl, rfl, trivial⟩, trivial, ⟨rfl, rfl, trivial⟩, trivial, trivial⟩ ⟨OpW.plain (op_loadAP (ds := [.v (.string x8.Key), .v (.int .i64 x8.Stamp.N), .v (.int .i64 x8.Stamp.Site)]) Try.underlying39 rfl ti39 rfl (Ev.t 4 (.ptr 1004 0)) rfl) rfl rfl, OpW.plain (op_callQ (sv := .one (bB r9)) cf66 (ct_past_may x8 r9 hr9) rfl rfl (EvQL.cons (EvQ.g (Ev.t 12 (.g (.agg [.v (.string x8.Key), .v (.int .i64 x8.Stamp.N), .v (.int .i64 x8.Stamp.Site)])))) EvQL.nil) rfl) rfl rfl, OpW.plain (OpL.cast (op_not (Ev.t 13 (bB r9)) rfl) (congrArg (fun b => bB b) hc10)) rfl rfl, OpW.plain (op_move (Ev.t 14 (bB false)) rfl) rfl rfl, OpW.yes (op_move (Ev.t 3 (bI .i64 v3)) rfl) rfl rfl rfl, OpW.yes (OpL.cast (op_gtr (Ev.t 16 (bI .i64 v3)) (Ev.c _ rfl) rfl) (congrArg (fun b => bB b) hc11)) rfl rfl rfl, OpW.yes (op_move (Ev.t 17 (bB false)) rfl) rfl rfl rfl, OpW.no rfl rfl rfl rfl rfl, OpW.no rfl rfl rfl rfl rfl, OpW.no rfl rfl rfl rfl rfl, OpW.no rfl rfl rfl rfl rfl, OpW.no rfl rfl rfl rfl rfl, OpW.no rfl rfl rfl rfl rfl, OpW.no rfl rfl rfl rfl rfl, OpW.no rfl rfl rfl rfl rfl, OpW.no rfl rfl rfl rfl rfl, OpW.yes (op_pickF (Ev.t 18 (bB false)) (Ev.c _ rfl) rfl) rfl rfl rfl, OpW.plain (op_pickF (Ev.t 15 (bB false)) (Ev.t 28 (bB false)) rfl) rfl rfl, trivial⟩ ⟨rfl, rfl, rfl, rfl, rfl, trivial⟩ trivial rfl ?_
        refine G.condF rfl ?_
        refine G.skip ?_
        refine G.endBlock ?_
        refine G.region ?_
        refine G.op1 (op_add (Ev.t 7 (bI .i64 v3)) (Ev.c _ rfl) rfl) rfl ⟨rfl, trivial⟩ trivial ?_
        refine G.op1 (op_move (Ev.t 30 (bI .i64 (IntKind.wrap .i64 (v3 + 1)))) rfl) rfl ⟨rfl, trivial⟩ trivial ?_
        refine G.endOps ?_
        exact G.arr (J4 (IntKind.wrap .i64 (v3 + 1)) hF) ⟨rfl, rfl, rfl, rfl, trivial⟩ trivial rfl
  · refine G.cond rfl (fun hx => by rw [hc7] at hx; cases hx) (fun _ => ?_)
    refine G.exit ?_
    refine GX.c ?_
    refine GX.q ?_
    refine GX.bYes ?_
    exact G.arr (J2 () hF) ⟨rfl, trivial⟩ trivial rfl


set_option maxRecDepth 20000 in
set_option maxHeartbeats 2000000 in
theorem ct_wire_Check (v_0 : Api_Version) (r : Bool) (hF : wire_Check v_0 = some r) : Ct Try.prog 45 [.g (.agg (encApi_Version v_0))] (.one (.d (.v (.bool r)))) := by
  unfold wire_Check at hF
  refine Ct.intro Try.func45 rfl Try.ntmps45 rfl rfl fun M w => ?_
  refine G.seq ?_
  refine G.region ?_
  refine G.op2 (op_boxA (k := 1001) (Ev.t 0 (.g (.agg [.v (.string v_0.Key), .v (.string v_0.Value), .v (.bool v_0.Gone), .v (.int .i64 v_0.Stamp.N), .v (.int .i64 v_0.Stamp.Site), .sl 3 (List.map encApi_Dep v_0.Past)]))) rfl) rfl ⟨rfl, trivial⟩ ⟨rfl, trivial⟩ ?_
  refine G.op1 (op_assign (Ev.c _ rfl) rfl) rfl trivial trivial ?_
  refine G.endOps ?_
  refine G.seq ?_
  refine G.region ?_
  refine G.op1 (op_fieldP (off' := 0) Try.underlying32 rfl ti9 (by decide) rfl (Ev.t 1 (.ptr 1001 0)) rfl) rfl ⟨rfl, trivial⟩ trivial ?_
  refine G.op1 (op_load1P (c := bS v_0.Key) Try.underlying9 rfl rfl (Ev.t 3 (.ptr 1001 0)) rfl) rfl ⟨rfl, trivial⟩ ⟨rfl, trivial⟩ ?_
  obtain ⟨r1, hr1, hF⟩ := bindS hF
  refine G.op1 (op_callQ (sv := .one (bB r1)) cf57 (ct_keys_Check v_0.Key r1 hr1) rfl rfl (EvQL.cons (EvQ.g (Ev.t 4 (bS v_0.Key))) EvQL.nil) rfl) rfl ⟨rfl, trivial⟩ trivial ?_
  refine G.op1 (op_move (Ev.t 5 (bB r1)) rfl) rfl ⟨rfl, trivial⟩ trivial ?_
  refine G.joinL (T := Bool) 4 (fun y2 => ⟨[(1, .one (.ptr 1001 0)), (10, .one (bB y2))], [(1001, some (.blk 32 [bS v_0.Key, bS v_0.Value, bB v_0.Gone, bI .i64 v_0.Stamp.N, bI .i64 v_0.Stamp.Site, .g (.d (.sl 3 (List.map encApi_Dep v_0.Past)))]))]⟩) (fun y2 => wire_Check_k1 v_0 y2 = some r) (fun y2 hF => ?_) (fun J12 => ?_)
  · unfold wire_Check_k1 at hF
    refine G.op1 (op_move (Ev.t 10 (bB y2)) rfl) rfl ⟨rfl, trivial⟩ trivial ?_
    refine G.joinL (T := Bool) 4 (fun y3 => ⟨[(1, .one (.ptr 1001 0)), (15, .one (bB y3))], [(1001, some (.blk 32 [bS v_0.Key, bS v_0.Value, bB v_0.Gone, bI .i64 v_0.Stamp.N, bI .i64 v_0.Stamp.Site, .g (.d (.sl 3 (List.map encApi_Dep v_0.Past)))]))]⟩) (fun y3 => wire_Check_k2 v_0 y3 = some r) (fun y3 hF => ?_) (fun J9 => ?_)
    · unfold wire_Check_k2 at hF
      refine G.op1 (op_move (Ev.t 15 (bB y3)) rfl) rfl ⟨rfl, trivial⟩ trivial ?_
      refine G.joinL (T := Bool) 5 (fun y4 => ⟨[(1, .one (.ptr 1001 0)), (21, .one (bB y4))], [(1001, some (.blk 32 [bS v_0.Key, bS v_0.Value, bB v_0.Gone, bI .i64 v_0.Stamp.N, bI .i64 v_0.Stamp.Site, .g (.d (.sl 3 (List.map encApi_Dep v_0.Past)))]))]⟩) (fun y4 => wire_Check_k3 v_0 y4 = some r) (fun y4 hF => ?_) (fun J7 => ?_)
      · unfold wire_Check_k3 at hF
        refine G.op1 (op_move (Ev.t 21 (bB y4)) rfl) rfl ⟨rfl, trivial⟩ trivial ?_
        refine ifS hF (fun hc5 hF => ?_) (fun hc5 hF => ?_)
        · refine G.known (t := 22) hc5 rfl ?_
          refine G.opG1 (op_fieldP (off' := 2) Try.underlying32 rfl ti4 (by decide) rfl (Ev.t 1 (.ptr 1001 0)) rfl) rfl rfl rfl ⟨rfl, trivial⟩ trivial ?_
          refine G.opG1 (op_load1P (c := bB v_0.Gone) Try.underlying4 rfl rfl (Ev.t 23 (.ptr 1001 2)) rfl) rfl rfl rfl ⟨rfl, trivial⟩ ⟨rfl, trivial⟩ ?_
          refine G.opG1 (op_not (Ev.t 24 (bB v_0.Gone)) rfl) rfl rfl rfl ⟨rfl, trivial⟩ trivial ?_
          refine G.opG1 (op_move (Ev.t 25 (bB (!v_0.Gone))) rfl) rfl rfl rfl ⟨rfl, trivial⟩ trivial ?_
          refine ifS hF (fun hc6 hF => ?_) (fun hc6 hF => ?_)
          · refine G.known (t := 26) hc6 rfl ?_
            refine G.opN1 rfl rfl rfl rfl rfl ?_
            refine G.opN1 rfl rfl rfl rfl rfl ?_
            refine G.opN1 rfl rfl rfl rfl rfl ?_
            refine G.opG1 (op_pickT (Ev.t 26 (bB true)) (Ev.c _ rfl) rfl) rfl rfl rfl ⟨rfl, trivial⟩ trivial ?_
            refine G.op1 (op_pickT (Ev.t 22 (bB true)) (Ev.t 30 (bB true)) rfl) rfl ⟨rfl, rfl, trivial⟩ trivial ?_
            refine G.op1 (op_assign (Ev.t 31 (bB true)) rfl) rfl ⟨rfl, trivial⟩ trivial ?_
            refine G.endOps ?_
            cases hF
            exact G.ret1 Try.results45 (RVar.tmp 2 _) ⟨rfl, trivial⟩ trivial
          · refine G.known (t := 26) hc6 rfl ?_
            refine G.opG1 (op_fieldP (off' := 1) Try.underlying32 rfl ti9 (by decide) rfl (Ev.t 1 (.ptr 1001 0)) rfl) rfl rfl rfl ⟨rfl, trivial⟩ trivial ?_
            refine G.opG1 (op_load1P (c := bS v_0.Value) Try.underlying9 rfl rfl (Ev.t 27 (.ptr 1001 1)) rfl) rfl rfl rfl ⟨rfl, trivial⟩ ⟨rfl, trivial⟩ ?_
            refine G.opG1 (op_eqS (Ev.t 28 (bS v_0.Value)) (Ev.c _ rfl) rfl) rfl rfl rfl ⟨rfl, trivial⟩ trivial ?_
            refine G.opG1 (op_pickF (Ev.t 26 (bB false)) (Ev.t 29 (bB (seq v_0.Value ByteArray.empty))) rfl) rfl rfl rfl ⟨rfl, rfl, trivial⟩ trivial ?_
            refine G.op1 (op_pickT (Ev.t 22 (bB true)) (Ev.t 30 (bB (seq v_0.Value ByteArray.empty))) rfl) rfl ⟨rfl, rfl, trivial⟩ trivial ?_
            refine G.op1 (op_assign (Ev.t 31 (bB (seq v_0.Value ByteArray.empty))) rfl) rfl ⟨rfl, trivial⟩ trivial ?_
            refine G.endOps ?_
            cases hF
            exact G.ret1 Try.results45 (RVar.tmp 2 _) ⟨rfl, trivial⟩ trivial
        · refine G.known (t := 22) hc5 rfl ?_
          refine G.opN1 rfl rfl rfl rfl rfl ?_
          refine G.opN1 rfl rfl rfl rfl rfl ?_
          refine G.opN1 rfl rfl rfl rfl rfl ?_
          refine G.opN1 rfl rfl rfl rfl rfl ?_
          refine G.opU rfl rfl rfl rfl ?_
          refine G.opU rfl rfl rfl rfl ?_
          refine G.opU rfl rfl rfl rfl ?_
          refine G.opN1 rfl rfl rfl rfl rfl ?_
          refine G.op1 (op_pickF (Ev.t 22 (bB false)) (Ev.c _ rfl) rfl) rfl ⟨rfl, trivial⟩ trivial ?_
          refine G.op1 (op_assign (Ev.t 31 (bB false)) rfl) rfl ⟨rfl, trivial⟩ trivial ?_
          refine G.endOps ?_
          cases hF
          exact G.ret1 Try.results45 (RVar.tmp 2 _) ⟨rfl, trivial⟩ trivial
      refine ifS hF (fun hc8 hF => ?_) (fun hc8 hF => ?_)
      · refine G.known (t := 16) hc8 rfl ?_
        refine G.opG1 (op_fieldP (off' := 1) Try.underlying32 rfl ti9 (by decide) rfl (Ev.t 1 (.ptr 1001 0)) rfl) rfl rfl rfl ⟨rfl, trivial⟩ trivial ?_
        refine G.opG1 (op_load1P (c := bS v_0.Value) Try.underlying9 rfl rfl (Ev.t 17 (.ptr 1001 1)) rfl) rfl rfl rfl ⟨rfl, trivial⟩ ⟨rfl, trivial⟩ ?_
        refine G.opG1 (op_lenS Try.underlying9 (Ev.t 18 (bS v_0.Value)) rfl) rfl rfl rfl ⟨rfl, trivial⟩ trivial ?_
        refine G.opG1 (op_leq (Ev.t 19 (bI .i64 (v_0.Value.size : Int))) (Ev.c _ rfl) rfl) rfl rfl rfl ⟨rfl, trivial⟩ trivial ?_
        refine G.op1 (op_pickT (Ev.t 16 (bB true)) (Ev.t 20 (bB (decide ((v_0.Value.size : Int) ≤ 32)))) rfl) rfl ⟨rfl, rfl, trivial⟩ trivial ?_
        exact G.arr (J7 (decide ((v_0.Value.size : Int) ≤ 32)) hF) ⟨rfl, rfl, trivial⟩ ⟨rfl, trivial⟩ rfl
      · refine G.known (t := 16) hc8 rfl ?_
        refine G.opN1 rfl rfl rfl rfl rfl ?_
        refine G.opN1 rfl rfl rfl rfl rfl ?_
        refine G.opN1 rfl rfl rfl rfl rfl ?_
        refine G.opN1 rfl rfl rfl rfl rfl ?_
        refine G.op1 (op_pickF (Ev.t 16 (bB false)) (Ev.c _ rfl) rfl) rfl ⟨rfl, trivial⟩ trivial ?_
        exact G.arr (J7 false hF) ⟨rfl, rfl, trivial⟩ ⟨rfl, trivial⟩ rfl
    refine ifS hF (fun hc10 hF => ?_) (fun hc10 hF => ?_)
    · refine G.known (t := 11) hc10 rfl ?_
      refine G.opG1 (op_fieldP (off' := 5) Try.underlying32 rfl ti30 (by decide) rfl (Ev.t 1 (.ptr 1001 0)) rfl) rfl rfl rfl ⟨rfl, trivial⟩ trivial ?_
      refine G.opG1 (op_load1P (c := .g (.d (.sl 3 (List.map encApi_Dep v_0.Past)))) Try.underlying30 rfl rfl (Ev.t 12 (.ptr 1001 5)) rfl) rfl rfl rfl ⟨rfl, trivial⟩ ⟨rfl, trivial⟩ ?_
      obtain ⟨r11, hr11, hF⟩ := bindS hF
      refine G.opG1 (op_callQ (sv := .one (bB r11)) cf59 (ct_past_Check v_0.Past r11 hr11) rfl rfl (EvQL.cons (EvQ.g (Ev.t 13 (.g (.d (.sl 3 (List.map encApi_Dep v_0.Past)))))) EvQL.nil) rfl) rfl rfl rfl ⟨rfl, trivial⟩ trivial ?_
      refine G.op1 (op_pickT (Ev.t 11 (bB true)) (Ev.t 14 (bB r11)) rfl) rfl ⟨rfl, rfl, trivial⟩ trivial ?_
      exact G.arr (J9 r11 hF) ⟨rfl, rfl, trivial⟩ ⟨rfl, trivial⟩ rfl
    · refine G.known (t := 11) hc10 rfl ?_
      refine G.opN1 rfl rfl rfl rfl rfl ?_
      refine G.opN1 rfl rfl rfl rfl rfl ?_
      refine G.opN1 rfl rfl rfl rfl rfl ?_
      refine G.op1 (op_pickF (Ev.t 11 (bB false)) (Ev.c _ rfl) rfl) rfl ⟨rfl, trivial⟩ trivial ?_
      exact G.arr (J9 false hF) ⟨rfl, rfl, trivial⟩ ⟨rfl, trivial⟩ rfl
  refine ifS hF (fun hc13 hF => ?_) (fun hc13 hF => ?_)
  · refine G.known (t := 6) hc13 rfl ?_
    refine G.opG1 (op_fieldP (off' := 3) Try.underlying32 rfl ti29 (by decide) rfl (Ev.t 1 (.ptr 1001 0)) rfl) rfl rfl rfl ⟨rfl, trivial⟩ trivial ?_
    refine G.opG1 (op_loadAP (ds := [.v (.int .i64 v_0.Stamp.N), .v (.int .i64 v_0.Stamp.Site)]) Try.underlying29 rfl ti29 rfl (Ev.t 7 (.ptr 1001 3)) rfl) rfl rfl rfl ⟨rfl, trivial⟩ ⟨rfl, trivial⟩ ?_
    obtain ⟨r14, hr14, hF⟩ := bindS hF
    refine G.opG1 (op_callQ (sv := .one (bB r14)) cf58 (ct_stamp_Check v_0.Stamp r14 hr14) rfl rfl (EvQL.cons (EvQ.g (Ev.t 8 (.g (.agg [.v (.int .i64 v_0.Stamp.N), .v (.int .i64 v_0.Stamp.Site)])))) EvQL.nil) rfl) rfl rfl rfl ⟨rfl, trivial⟩ trivial ?_
    refine G.op1 (op_pickT (Ev.t 6 (bB true)) (Ev.t 9 (bB r14)) rfl) rfl ⟨rfl, rfl, trivial⟩ trivial ?_
    exact G.arr (J12 r14 hF) ⟨rfl, rfl, trivial⟩ ⟨rfl, trivial⟩ rfl
  · refine G.known (t := 6) hc13 rfl ?_
    refine G.opN1 rfl rfl rfl rfl rfl ?_
    refine G.opN1 rfl rfl rfl rfl rfl ?_
    refine G.opN1 rfl rfl rfl rfl rfl ?_
    refine G.op1 (op_pickF (Ev.t 6 (bB false)) (Ev.c _ rfl) rfl) rfl ⟨rfl, trivial⟩ trivial ?_
    exact G.arr (J12 false hF) ⟨rfl, rfl, trivial⟩ ⟨rfl, trivial⟩ rfl


set_option maxRecDepth 20000 in
set_option maxHeartbeats 2000000 in
theorem ct_queue_Push (l_0 : (List Api_Version)) (v_1 : Api_Version) (r : ((List Api_Version) × Int)) (hF : queue_Push l_0 v_1 = some r) : Ct Try.prog 24 [.g (.d (.sl 6 (List.map encApi_Version l_0))), .g (.agg (encApi_Version v_1))] (.tup [.d (.sl 6 (List.map encApi_Version r.1)), .d (.v (.int .i64 r.2))]) := by
  unfold queue_Push at hF
  refine Ct.intro Try.func24 rfl Try.ntmps24 rfl rfl fun M w => ?_
  refine G.seq ?_
  refine G.region ?_
  refine G.op2 (op_boxA (k := 1003) (Ev.t 1 (.g (.agg [.v (.string v_1.Key), .v (.string v_1.Value), .v (.bool v_1.Gone), .v (.int .i64 v_1.Stamp.N), .v (.int .i64 v_1.Stamp.Site), .sl 3 (List.map encApi_Dep v_1.Past)]))) rfl) rfl ⟨rfl, trivial⟩ ⟨rfl, trivial⟩ ?_
  refine G.op1 (op_assign (Ev.n 6) rfl) rfl trivial trivial ?_
  refine G.op1 (op_assign (Ev.c _ rfl) rfl) rfl trivial trivial ?_
  refine G.endOps ?_
  refine G.seq ?_
  refine G.block ?_
  refine G.seq ?_
  refine G.region ?_
  refine G.op1 (op_loadAP (ds := [.v (.string v_1.Key), .v (.string v_1.Value), .v (.bool v_1.Gone), .v (.int .i64 v_1.Stamp.N), .v (.int .i64 v_1.Stamp.Site), .sl 3 (List.map encApi_Dep v_1.Past)]) Try.underlying32 rfl ti32 rfl (Ev.t 3 (.ptr 1003 0)) rfl) rfl ⟨rfl, trivial⟩ ⟨rfl, trivial⟩ ?_
  obtain ⟨r1, hr1, hF⟩ := bindS hF
  refine G.op1 (op_callQ (sv := .one (bB r1)) cf45 (ct_wire_Check v_1 r1 hr1) rfl rfl (EvQL.cons (EvQ.g (Ev.t 7 (.g (.agg [.v (.string v_1.Key), .v (.string v_1.Value), .v (.bool v_1.Gone), .v (.int .i64 v_1.Stamp.N), .v (.int .i64 v_1.Stamp.Site), .sl 3 (List.map encApi_Dep v_1.Past)])))) EvQL.nil) rfl) rfl ⟨rfl, trivial⟩ trivial ?_
  refine G.op1 (op_not (Ev.t 8 (bB r1)) rfl) rfl ⟨rfl, trivial⟩ trivial ?_
  refine G.op1 (op_assign (Ev.t 9 (bB (!r1))) rfl) rfl ⟨rfl, trivial⟩ trivial ?_
  refine G.endOps ?_
  refine ifS hF (fun hc2 hF => ?_) (fun hc2 hF => ?_)
  · refine G.cond rfl (fun _ => ?_) (fun hx => by rw [hc2] at hx; cases hx)
    refine G.seq ?_
    refine G.region ?_
    refine G.op1 (op_assign (Ev.n 6) rfl) rfl trivial trivial ?_
    refine G.op1 (op_assign (Ev.c _ rfl) rfl) rfl trivial trivial ?_
    refine G.endOps ?_
    cases hF
    exact G.ret2 Try.results24 (RVar.tmp 4 _) (RVar.tmp 5 _) ⟨rfl, rfl, trivial⟩ trivial
  · refine G.cond rfl (fun hx => by rw [hc2] at hx; cases hx) (fun _ => ?_)
    refine G.seq ?_
    refine G.region ?_
    refine G.op1 (op_move (Ev.t 0 (.g (.d (.sl 6 (List.map encApi_Version l_0))))) rfl) rfl ⟨rfl, trivial⟩ trivial ?_
    refine G.op1 (OpL.cast (op_lenD Try.underlying24 (Ev.t 11 (.g (.d (.sl 6 (List.map encApi_Version l_0))))) rfl) (by rw [List.length_map])) rfl ⟨rfl, trivial⟩ trivial ?_
    refine G.op1 (op_geq (Ev.t 12 (bI .i64 (l_0.length : Int))) (Ev.c _ rfl) rfl) rfl ⟨rfl, trivial⟩ trivial ?_
    refine G.op1 (op_assign (Ev.t 13 (bB (decide (24 ≤ (l_0.length : Int))))) rfl) rfl ⟨rfl, trivial⟩ trivial ?_
    refine G.endOps ?_
    refine ifS hF (fun hc3 hF => ?_) (fun hc3 hF => ?_)
    · refine G.cond rfl (fun _ => ?_) (fun hx => by rw [hc3] at hx; cases hx)
      refine G.seq ?_
      refine G.region ?_
      refine G.op1 (op_assign (Ev.n 6) rfl) rfl trivial trivial ?_
      refine G.op1 (op_assign (Ev.c _ rfl) rfl) rfl trivial trivial ?_
      refine G.endOps ?_
      cases hF
      exact G.ret2 Try.results24 (RVar.tmp 4 _) (RVar.tmp 5 _) ⟨rfl, rfl, trivial⟩ trivial
    · refine G.cond rfl (fun hx => by rw [hc3] at hx; cases hx) (fun _ => ?_)
      refine G.skip ?_
      refine G.endBlock ?_
      refine G.seq ?_
      obtain ⟨l4, hl4, hF⟩ := bindS hF
      obtain ⟨l5, hl5, hF⟩ := bindS hF
      refine G.drawn (effs := [⟨[(0, .one (.g (.d (.sl 6 (List.map encApi_Version l_0)))))], [], [(14, .one (.g (.d (.sl 6 (List.map encApi_Version l_0)))))], []⟩, ⟨[(0, .one (.g (.d (.sl 6 (List.map encApi_Version l_0)))))], [], [(15, .one (.g (.d (.sl 6 (List.map encApi_Version l_0)))))], []⟩, ⟨[(15, .one (.g (.d (.sl 6 (List.map encApi_Version l_0)))))], [], [(16, .one (bI .i64 (l_0.length : Int)))], []⟩, ⟨[(0, .one (.g (.d (.sl 6 (List.map encApi_Version l_0)))))], [], [(17, .one (.g (.d (.sl 6 (List.map encApi_Version l_0)))))], []⟩, ⟨[(17, .one (.g (.d (.sl 6 (List.map encApi_Version l_0)))))], [], [(18, .one (bI .i64 (l_0.length : Int)))], []⟩, ⟨[(14, .one (.g (.d (.sl 6 (List.map encApi_Version l_0))))), (16, .one (bI .i64 (l_0.length : Int))), (18, .one (bI .i64 (l_0.length : Int)))], [], [(19, .one (.cp 6 (List.map encApi_Version l4)))], []⟩, ⟨[(3, .one (.ptr 1003 0))], [(1003, some (.blk 32 [bS v_1.Key, bS v_1.Value, bB v_1.Gone, bI .i64 v_1.Stamp.N, bI .i64 v_1.Stamp.Site, .g (.d (.sl 3 (List.map encApi_Dep v_1.Past)))]))], [(20, .one (.g (.agg [.v (.string v_1.Key), .v (.string v_1.Value), .v (.bool v_1.Gone), .v (.int .i64 v_1.Stamp.N), .v (.int .i64 v_1.Stamp.Site), .sl 3 (List.map encApi_Dep v_1.Past)])))], []⟩, ⟨[(20, .one (.g (.agg [.v (.string v_1.Key), .v (.string v_1.Value), .v (.bool v_1.Gone), .v (.int .i64 v_1.Stamp.N), .v (.int .i64 v_1.Stamp.Site), .sl 3 (List.map encApi_Dep v_1.Past)])))], [], [(21, .one (.g (.d (.sl 6 (List.map encApi_Version ([v_1]))))))], []⟩, ⟨[(19, .one (.cp 6 (List.map encApi_Version l4))), (21, .one (.g (.d (.sl 6 (List.map encApi_Version ([v_1]))))))], [], [(22, .one (.g (.d (.sl 6 (List.map encApi_Version l5)))))], []⟩, ⟨[(22, .one (.g (.d (.sl 6 (List.map encApi_Version l5)))))], [], [(4, .one (.g (.d (.sl 6 (List.map encApi_Version l5)))))], []⟩, ⟨[], [], [(5, .one (bI .i64 0))], []⟩]) (deps := [[], [], [1], [], [3], [0, 1, 2, 3, 4], [], [6], [0, 1, 2, 3, 4, 5, 6, 7], [0, 1, 2, 3, 4, 5, 6, 7, 8], [0, 1, 2, 3, 4, 5, 6, 7, 8, 9]]) (sl' := [(4, .one (.g (.d (.sl 6 (List.map encApi_Version l5))))), (5, .one (bI .i64 0))]) (hp' := []) follows rfl rfl rfl ⟨⟨rfl, trivial⟩, trivial, ⟨rfl, trivial⟩, trivial, ⟨rfl, trivial⟩, trivial, ⟨rfl, trivial⟩, trivial, ⟨rfl, trivial⟩, trivial, ⟨rfl, rfl, rfl, trivial⟩, trivial, ⟨rfl, trivial⟩, ⟨⟨rfl, rfl⟩, trivial⟩, ⟨rfl, trivial⟩, trivial, ⟨rfl, rfl, trivial⟩, trivial, ⟨rfl, trivial⟩, trivial, trivial, trivial, trivial⟩ ⟨OpW.plain (op_move (Ev.t 0 (.g (.d (.sl 6 (List.map encApi_Version l_0))))) rfl) rfl rfl, OpW.plain (op_move (Ev.t 0 (.g (.d (.sl 6 (List.map encApi_Version l_0))))) rfl) rfl rfl, OpW.plain (OpL.cast (op_lenD Try.underlying24 (Ev.t 15 (.g (.d (.sl 6 (List.map encApi_Version l_0))))) rfl) (by rw [List.length_map])) rfl rfl, OpW.plain (op_move (Ev.t 0 (.g (.d (.sl 6 (List.map encApi_Version l_0))))) rfl) rfl rfl, OpW.plain (OpL.cast (op_lenD Try.underlying24 (Ev.t 17 (.g (.d (.sl 6 (List.map encApi_Version l_0))))) rfl) (by rw [List.length_map])) rfl rfl, OpW.plain (op_slice3 Try.underlying24 ti32 (sub_ok0 hl4 encApi_Version).1 (sub_ok0 hl4 encApi_Version).2.1 (sub_ok0 hl4 encApi_Version).2.2 (Ev.t 14 (.g (.d (.sl 6 (List.map encApi_Version l_0))))) (Ev.t 16 (bI .i64 (l_0.length : Int))) (Ev.t 18 (bI .i64 (l_0.length : Int))) rfl) rfl rfl, OpW.plain (op_loadAP (ds := [.v (.string v_1.Key), .v (.string v_1.Value), .v (.bool v_1.Gone), .v (.int .i64 v_1.Stamp.N), .v (.int .i64 v_1.Stamp.Site), .sl 3 (List.map encApi_Dep v_1.Past)]) Try.underlying32 rfl ti32 rfl (Ev.t 3 (.ptr 1003 0)) rfl) rfl rfl, OpW.plain (op_buildSlice (es := List.map encApi_Version [v_1]) Try.underlying24 ti32 rfl rfl (EvP.cons (Ev.t 20 (.g (.agg [.v (.string v_1.Key), .v (.string v_1.Value), .v (.bool v_1.Gone), .v (.int .i64 v_1.Stamp.N), .v (.int .i64 v_1.Stamp.Site), .sl 3 (List.map encApi_Dep v_1.Past)]))) EvP.nil) rfl rfl (by simp [encApi_Version]) rfl) rfl rfl, OpW.plain (op_appendC Try.underlying24 ti32 rfl rfl (app_map hl5 encApi_Version) (app_b1 hl5 encApi_Version) (app_b2 hl5 encApi_Version) (Ev.t 19 (.cp 6 (List.map encApi_Version l4))) (Ev.t 21 (.g (.d (.sl 6 (List.map encApi_Version ([v_1])))))) rfl) rfl rfl, OpW.plain (op_assign (Ev.t 22 (.g (.d (.sl 6 (List.map encApi_Version l5))))) rfl) rfl rfl, OpW.plain (op_assign (Ev.c _ rfl) rfl) rfl rfl, trivial⟩ ⟨rfl, rfl, trivial⟩ trivial rfl ?_
      cases hF
      exact G.ret2 Try.results24 (RVar.tmp 4 _) (RVar.tmp 5 _) ⟨rfl, rfl, trivial⟩ trivial


set_option maxRecDepth 20000 in
set_option maxHeartbeats 2000000 in
theorem ct_law14_ranges (n_0 : Int) (r : (List Api_Range)) (hF : law14_ranges n_0 = some r) : Ct Try.prog 11 [.g (.d (.v (.int .i64 n_0)))] (.one (.d (.sl 2 (List.map encApi_Range r)))) := by
  unfold law14_ranges at hF
  refine Ct.intro Try.func11 rfl Try.ntmps11 rfl rfl fun M w => ?_
  refine G.seq ?_
  refine G.region ?_
  refine G.op1 (op_assign (Ev.n 2) rfl) rfl trivial trivial ?_
  refine G.endOps ?_
  refine G.seq ?_
  refine G.seq ?_
  refine G.region ?_
  refine G.op1 (op_move (Ev.t 0 (bI .i64 n_0)) rfl) rfl ⟨rfl, trivial⟩ trivial ?_
  refine G.op1 (op_and (Ev.t 3 (bI .i64 n_0)) (Ev.c _ rfl) rfl) rfl ⟨rfl, trivial⟩ trivial ?_
  refine G.endOps ?_
  refine G.block ?_
  refine G.seq ?_
  refine G.region ?_
  refine G.op1 (op_eqI (Ev.t 4 (bI .i64 (IntKind.wrap .i64 (BitVec.ofInt (IntKind.bits .i64) n_0 &&& BitVec.ofInt (IntKind.bits .i64) 3).toNat))) (Ev.c _ rfl) rfl) rfl ⟨rfl, trivial⟩ trivial ?_
  refine G.op1 (op_assign (Ev.t 6 (bB (decide ((IntKind.wrap .i64 (BitVec.ofInt (IntKind.bits .i64) n_0 &&& BitVec.ofInt (IntKind.bits .i64) 3).toNat) = 0)))) rfl) rfl ⟨rfl, trivial⟩ trivial ?_
  refine G.endOps ?_
  refine ifS hF (fun hc1 hF => ?_) (fun hc1 hF => ?_)
  · refine G.cond rfl (fun _ => ?_) (fun hx => by rw [hc1] at hx; cases hx)
    refine G.seq ?_
    refine G.region ?_
    refine G.op1 (op_build (zs := [.v (.string ByteArray.empty), .v (.string ByteArray.empty)]) (ds := [.v (.string ByteArray.empty), .v (.string ByteArray.empty)]) Try.underlying51 ti51 (pl51 _ Try.underlying51) ⟨.v _ rfl, .v _ rfl, trivial⟩ EvP.nil rfl rfl) rfl trivial trivial ?_
    refine G.op1 (op_buildSlice (es := List.map encApi_Range [(Api_Range.mk ByteArray.empty ByteArray.empty)]) Try.underlying26 ti51 rfl rfl (EvP.cons (Ev.t 7 (.g (.agg [.v (.string ByteArray.empty), .v (.string ByteArray.empty)]))) EvP.nil) rfl rfl (by simp [encApi_Range]) rfl) rfl ⟨rfl, trivial⟩ trivial ?_
    refine G.op1 (op_assign (Ev.t 8 (.g (.d (.sl 2 (List.map encApi_Range ([(Api_Range.mk ByteArray.empty ByteArray.empty)])))))) rfl) rfl ⟨rfl, trivial⟩ trivial ?_
    refine G.endOps ?_
    cases hF
    exact G.ret1 Try.results11 (RVar.tmp 2 _) ⟨rfl, trivial⟩ trivial
  · refine G.cond rfl (fun hx => by rw [hc1] at hx; cases hx) (fun _ => ?_)
    refine G.seq ?_
    refine G.region ?_
    refine G.op1 (op_eqI (Ev.t 4 (bI .i64 (IntKind.wrap .i64 (BitVec.ofInt (IntKind.bits .i64) n_0 &&& BitVec.ofInt (IntKind.bits .i64) 3).toNat))) (Ev.c _ rfl) rfl) rfl ⟨rfl, trivial⟩ trivial ?_
    refine G.op1 (op_assign (Ev.t 10 (bB (decide ((IntKind.wrap .i64 (BitVec.ofInt (IntKind.bits .i64) n_0 &&& BitVec.ofInt (IntKind.bits .i64) 3).toNat) = 1)))) rfl) rfl ⟨rfl, trivial⟩ trivial ?_
    refine G.endOps ?_
    refine ifS hF (fun hc2 hF => ?_) (fun hc2 hF => ?_)
    · refine G.cond rfl (fun _ => ?_) (fun hx => by rw [hc2] at hx; cases hx)
      refine G.seq ?_
      refine G.region ?_
      refine G.op1 (op_build (zs := [.v (.string ByteArray.empty), .v (.string ByteArray.empty)]) (ds := [.v (.string ByteArray.empty), .v (.string (ByteArray.mk #[106]))]) Try.underlying51 ti51 (pl51 _ Try.underlying51) ⟨.v _ rfl, .v _ rfl, trivial⟩ (EvP.cons (Ev.c _ rfl) EvP.nil) rfl rfl) rfl trivial trivial ?_
      refine G.op1 (op_buildSlice (es := List.map encApi_Range [(Api_Range.mk ByteArray.empty (ByteArray.mk #[106]))]) Try.underlying26 ti51 rfl rfl (EvP.cons (Ev.t 11 (.g (.agg [.v (.string ByteArray.empty), .v (.string (ByteArray.mk #[106]))]))) EvP.nil) rfl rfl (by simp [encApi_Range]) rfl) rfl ⟨rfl, trivial⟩ trivial ?_
      refine G.op1 (op_assign (Ev.t 12 (.g (.d (.sl 2 (List.map encApi_Range ([(Api_Range.mk ByteArray.empty (ByteArray.mk #[106]))])))))) rfl) rfl ⟨rfl, trivial⟩ trivial ?_
      refine G.endOps ?_
      cases hF
      exact G.ret1 Try.results11 (RVar.tmp 2 _) ⟨rfl, trivial⟩ trivial
    · refine G.cond rfl (fun hx => by rw [hc2] at hx; cases hx) (fun _ => ?_)
      refine G.seq ?_
      refine G.region ?_
      refine G.op1 (op_eqI (Ev.t 4 (bI .i64 (IntKind.wrap .i64 (BitVec.ofInt (IntKind.bits .i64) n_0 &&& BitVec.ofInt (IntKind.bits .i64) 3).toNat))) (Ev.c _ rfl) rfl) rfl ⟨rfl, trivial⟩ trivial ?_
      refine G.op1 (op_assign (Ev.t 14 (bB (decide ((IntKind.wrap .i64 (BitVec.ofInt (IntKind.bits .i64) n_0 &&& BitVec.ofInt (IntKind.bits .i64) 3).toNat) = 2)))) rfl) rfl ⟨rfl, trivial⟩ trivial ?_
      refine G.endOps ?_
      refine ifS hF (fun hc3 hF => ?_) (fun hc3 hF => ?_)
      · refine G.cond rfl (fun _ => ?_) (fun hx => by rw [hc3] at hx; cases hx)
        refine G.seq ?_
        refine G.region ?_
        refine G.op1 (op_build (zs := [.v (.string ByteArray.empty), .v (.string ByteArray.empty)]) (ds := [.v (.string (ByteArray.mk #[100])), .v (.string (ByteArray.mk #[109]))]) Try.underlying51 ti51 (pl51 _ Try.underlying51) ⟨.v _ rfl, .v _ rfl, trivial⟩ (EvP.cons (Ev.c _ rfl) (EvP.cons (Ev.c _ rfl) EvP.nil)) rfl rfl) rfl trivial trivial ?_
        refine G.op1 (op_build (zs := [.v (.string ByteArray.empty), .v (.string ByteArray.empty)]) (ds := [.v (.string (ByteArray.mk #[115])), .v (.string ByteArray.empty)]) Try.underlying51 ti51 (pl51 _ Try.underlying51) ⟨.v _ rfl, .v _ rfl, trivial⟩ (EvP.cons (Ev.c _ rfl) EvP.nil) rfl rfl) rfl trivial trivial ?_
        refine G.op1 (op_buildSlice (es := List.map encApi_Range [(Api_Range.mk (ByteArray.mk #[100]) (ByteArray.mk #[109])), (Api_Range.mk (ByteArray.mk #[115]) ByteArray.empty)]) Try.underlying26 ti51 rfl rfl (EvP.cons (Ev.t 15 (.g (.agg [.v (.string (ByteArray.mk #[100])), .v (.string (ByteArray.mk #[109]))]))) (EvP.cons (Ev.t 16 (.g (.agg [.v (.string (ByteArray.mk #[115])), .v (.string ByteArray.empty)]))) EvP.nil)) rfl rfl (by simp [encApi_Range]) rfl) rfl ⟨rfl, rfl, trivial⟩ trivial ?_
        refine G.op1 (op_assign (Ev.t 17 (.g (.d (.sl 2 (List.map encApi_Range ([(Api_Range.mk (ByteArray.mk #[100]) (ByteArray.mk #[109])), (Api_Range.mk (ByteArray.mk #[115]) ByteArray.empty)])))))) rfl) rfl ⟨rfl, trivial⟩ trivial ?_
        refine G.endOps ?_
        cases hF
        exact G.ret1 Try.results11 (RVar.tmp 2 _) ⟨rfl, trivial⟩ trivial
      · refine G.cond rfl (fun hx => by rw [hc3] at hx; cases hx) (fun _ => ?_)
        refine G.skip ?_
        refine G.endBlock ?_
        refine G.seq ?_
        refine G.region ?_
        refine G.op1 (op_assign (Ev.n 2) rfl) rfl trivial trivial ?_
        refine G.endOps ?_
        cases hF
        exact G.ret1 Try.results11 (RVar.tmp 2 _) ⟨rfl, trivial⟩ trivial


set_option maxRecDepth 20000 in
set_option maxHeartbeats 2000000 in
theorem ct_ref04_Get (p_0 : (List Api_Dep)) (key_1 : ByteArray) (r : Api_Stamp) (hF : ref04_Get p_0 key_1 = some r) : Ct Try.prog 18 [.g (.d (.sl 3 (List.map encApi_Dep p_0))), .g (.d (.v (.string key_1)))] (.one (.agg (encApi_Stamp r))) := by
  unfold ref04_Get at hF
  refine Ct.intro Try.func18 rfl Try.ntmps18 rfl rfl fun M w => ?_
  refine G.seq ?_
  refine G.region ?_
  refine G.op2 (op_alloc (k := 1004) (cs := [bI .i64 0, bI .i64 0]) ti29 ⟨.v _ rfl, .v _ rfl, trivial⟩ rfl) rfl trivial ⟨rfl, trivial⟩ ?_
  refine G.endOps ?_
  refine G.seq ?_
  refine G.seq ?_
  refine G.region ?_
  refine G.op1 (op_assign (Ev.c _ rfl) rfl) rfl trivial trivial ?_
  refine G.endOps ?_
  refine G.joinC (T := Unit) (fun y1 => ⟨[(4, .one (.ptr 1004 0))], [(1004, some (.blk 29 [bI .i64 0, bI .i64 0]))]⟩) (fun y1 => ref04_Get_k1 y1 = some r) (fun y1 hF => ?_) (fun J2 => ?_)
  · unfold ref04_Get_k1 at hF
    refine G.seq ?_
    refine G.region ?_
    refine G.op1 (op_build (zs := [.v (.int .i64 0), .v (.int .i64 0)]) (ds := [.v (.int .i64 0), .v (.int .i64 0)]) Try.underlying29 ti29 (pl29 _ Try.underlying29) ⟨.v _ rfl, .v _ rfl, trivial⟩ EvP.nil rfl rfl) rfl trivial trivial ?_
    refine G.op3 (op_storeA (cs' := [bI .i64 0, bI .i64 0]) ti29 rfl rfl (Ev.t 4 (.ptr 1004 0)) (Ev.t 24 (.g (.agg [.v (.int .i64 0), .v (.int .i64 0)])))) rfl ⟨rfl, rfl, trivial⟩ ⟨rfl, trivial⟩ ?_
    refine G.endOps ?_
    cases hF
    exact G.ret1 Try.results18 (RVar.cellA (ds := [.v (.int .i64 0), .v (.int .i64 0)]) Try.underlying29 rfl ti29 rfl) ⟨rfl, trivial⟩ ⟨rfl, trivial⟩
  refine G.block ?_
  refine G.keep (sl' := [(0, .one (.g (.d (.sl 3 (List.map encApi_Dep p_0))))), (1, .one (bS key_1)), (4, .one (.ptr 1004 0)), (5, .one (bI .i64 0))]) (hp' := [(1004, some (.blk 29 [bI .i64 0, bI .i64 0]))]) ⟨rfl, rfl, rfl, rfl, trivial⟩ ⟨rfl, trivial⟩ rfl ?_
  refine G.loopF (fun (v3 : Int) => ⟨[(0, .one (.g (.d (.sl 3 (List.map encApi_Dep p_0))))), (1, .one (bS key_1)), (4, .one (.ptr 1004 0)), (5, .one (bI .i64 v3))], [(1004, some (.blk 29 [bI .i64 0, bI .i64 0]))]⟩) hF rfl (fun K6 again5 v3 J4 hF => ?_)
  unfold ref04_Get_l2 at hF
  refine G.seq ?_
  refine G.seq ?_
  refine G.region ?_
  refine G.op1 (op_move (Ev.t 5 (bI .i64 v3)) rfl) rfl ⟨rfl, trivial⟩ trivial ?_
  refine G.op1 (op_move (Ev.t 0 (.g (.d (.sl 3 (List.map encApi_Dep p_0))))) rfl) rfl ⟨rfl, trivial⟩ trivial ?_
  refine G.op1 (OpL.cast (op_lenD Try.underlying30 (Ev.t 7 (.g (.d (.sl 3 (List.map encApi_Dep p_0))))) rfl) (by rw [List.length_map])) rfl ⟨rfl, trivial⟩ trivial ?_
  refine G.op1 (op_lss (Ev.t 6 (bI .i64 v3)) (Ev.t 8 (bI .i64 (p_0.length : Int))) rfl) rfl ⟨rfl, rfl, trivial⟩ trivial ?_
  refine G.endOps ?_
  refine ifS hF (fun hc7 hF => ?_) (fun hc7 hF => ?_)
  · refine G.cond rfl (fun _ => ?_) (fun hx => by rw [hc7] at hx; cases hx)
    refine G.skip ?_
    refine G.seq ?_
    refine G.block ?_
    refine G.seq ?_
    refine G.region ?_
    refine G.op1 (op_move (Ev.t 0 (.g (.d (.sl 3 (List.map encApi_Dep p_0))))) rfl) rfl ⟨rfl, trivial⟩ trivial ?_
    refine G.op1 (op_move (Ev.t 5 (bI .i64 v3)) rfl) rfl ⟨rfl, trivial⟩ trivial ?_
    obtain ⟨x8, hx8, hF⟩ := bindS hF
    refine G.op1 (op_index (cs := [.v (.string x8.Key), .v (.int .i64 x8.Stamp.N), .v (.int .i64 x8.Stamp.Site)]) Try.underlying30 ti39 (idx_ok hx8).1 (idx_get hx8 encApi_Dep) (Ev.t 12 (.g (.d (.sl 3 (List.map encApi_Dep p_0))))) (Ev.t 13 (bI .i64 v3)) rfl) rfl ⟨rfl, rfl, trivial⟩ trivial ?_
    refine G.op1 (op_fieldE (cs' := [.v (.string x8.Key), .v (.int .i64 x8.Stamp.N), .v (.int .i64 x8.Stamp.Site)]) Try.underlying39 rfl ti9 (by decide) rfl (Ev.t 14 (.ep [.v (.string x8.Key), .v (.int .i64 x8.Stamp.N), .v (.int .i64 x8.Stamp.Site)])) rfl) rfl ⟨rfl, trivial⟩ trivial ?_
    refine G.op1 (op_load1E (c := .v (.string x8.Key)) Try.underlying9 rfl rfl (Ev.t 15 (.ep [.v (.string x8.Key), .v (.int .i64 x8.Stamp.N), .v (.int .i64 x8.Stamp.Site)])) rfl) rfl ⟨rfl, trivial⟩ trivial ?_
    refine G.op1 (op_move (Ev.t 1 (bS key_1)) rfl) rfl ⟨rfl, trivial⟩ trivial ?_
    refine G.op1 (op_eqS (Ev.t 16 (bS x8.Key)) (Ev.t 17 (bS key_1)) rfl) rfl ⟨rfl, rfl, trivial⟩ trivial ?_
    refine G.endOps ?_
    refine ifS hF (fun hc9 hF => ?_) (fun hc9 hF => ?_)
    · refine G.cond rfl (fun _ => ?_) (fun hx => by rw [hc9] at hx; cases hx)
      refine G.seq ?_
      refine G.region ?_
      refine G.op1 (op_move (Ev.t 0 (.g (.d (.sl 3 (List.map encApi_Dep p_0))))) rfl) rfl ⟨rfl, trivial⟩ trivial ?_
      refine G.op1 (op_move (Ev.t 5 (bI .i64 v3)) rfl) rfl ⟨rfl, trivial⟩ trivial ?_
      obtain ⟨x10, hx10, hF⟩ := bindS hF
      refine G.op1 (op_index (cs := [.v (.string x10.Key), .v (.int .i64 x10.Stamp.N), .v (.int .i64 x10.Stamp.Site)]) Try.underlying30 ti39 (idx_ok hx10).1 (idx_get hx10 encApi_Dep) (Ev.t 19 (.g (.d (.sl 3 (List.map encApi_Dep p_0))))) (Ev.t 20 (bI .i64 v3)) rfl) rfl ⟨rfl, rfl, trivial⟩ trivial ?_
      refine G.op1 (op_fieldE (cs' := [.v (.int .i64 x10.Stamp.N), .v (.int .i64 x10.Stamp.Site)]) Try.underlying39 rfl ti29 (by decide) rfl (Ev.t 21 (.ep [.v (.string x10.Key), .v (.int .i64 x10.Stamp.N), .v (.int .i64 x10.Stamp.Site)])) rfl) rfl ⟨rfl, trivial⟩ trivial ?_
      refine G.op1 (op_loadAE (ds := [.v (.int .i64 x10.Stamp.N), .v (.int .i64 x10.Stamp.Site)]) Try.underlying29 rfl ti29 rfl (Ev.t 22 (.ep [.v (.int .i64 x10.Stamp.N), .v (.int .i64 x10.Stamp.Site)])) rfl) rfl ⟨rfl, trivial⟩ trivial ?_
      refine G.op3 (op_storeA (cs' := [bI .i64 x10.Stamp.N, bI .i64 x10.Stamp.Site]) ti29 rfl rfl (Ev.t 4 (.ptr 1004 0)) (Ev.t 23 (.g (.agg [.v (.int .i64 x10.Stamp.N), .v (.int .i64 x10.Stamp.Site)])))) rfl ⟨rfl, rfl, trivial⟩ ⟨rfl, trivial⟩ ?_
      refine G.endOps ?_
      cases hF
      exact G.ret1 Try.results18 (RVar.cellA (ds := [.v (.int .i64 x10.Stamp.N), .v (.int .i64 x10.Stamp.Site)]) Try.underlying29 rfl ti29 rfl) ⟨rfl, trivial⟩ ⟨rfl, trivial⟩
    · refine G.cond rfl (fun hx => by rw [hc9] at hx; cases hx) (fun _ => ?_)
      refine G.skip ?_
      refine G.endBlock ?_
      refine G.region ?_
      refine G.op1 (op_move (Ev.t 5 (bI .i64 v3)) rfl) rfl ⟨rfl, trivial⟩ trivial ?_
      refine G.op1 (op_add (Ev.t 10 (bI .i64 v3)) (Ev.c _ rfl) rfl) rfl ⟨rfl, trivial⟩ trivial ?_
      refine G.op1 (op_assign (Ev.t 11 (bI .i64 (IntKind.wrap .i64 (v3 + 1)))) rfl) rfl ⟨rfl, trivial⟩ trivial ?_
      refine G.endOps ?_
      exact G.arr (J4 (IntKind.wrap .i64 (v3 + 1)) hF) ⟨rfl, rfl, rfl, rfl, trivial⟩ ⟨rfl, trivial⟩ rfl
  · refine G.cond rfl (fun hx => by rw [hc7] at hx; cases hx) (fun _ => ?_)
    refine G.exit ?_
    refine GX.c ?_
    refine GX.q ?_
    refine GX.bYes ?_
    exact G.arr (J2 () hF) ⟨rfl, trivial⟩ ⟨rfl, trivial⟩ rfl


set_option maxRecDepth 20000 in
set_option maxHeartbeats 2000000 in
theorem ct_ref04_Covers (p_0 : (List Api_Dep)) (q_1 : (List Api_Dep)) (r : Bool) (hF : ref04_Covers p_0 q_1 = some r) : Ct Try.prog 14 [.g (.d (.sl 3 (List.map encApi_Dep p_0))), .g (.d (.sl 3 (List.map encApi_Dep q_1)))] (.one (.d (.v (.bool r)))) := by
  unfold ref04_Covers at hF
  refine Ct.intro Try.func14 rfl Try.ntmps14 rfl rfl fun M w => ?_
  refine G.seq ?_
  refine G.region ?_
  refine G.op1 (op_assign (Ev.c _ rfl) rfl) rfl trivial trivial ?_
  refine G.endOps ?_
  refine G.seq ?_
  refine G.seq ?_
  refine G.region ?_
  refine G.op1 (op_assign (Ev.c _ rfl) rfl) rfl trivial trivial ?_
  refine G.endOps ?_
  refine G.joinC (T := Unit) (fun y1 => ⟨[], []⟩) (fun y1 => ref04_Covers_k1 y1 = some r) (fun y1 hF => ?_) (fun J2 => ?_)
  · unfold ref04_Covers_k1 at hF
    refine G.seq ?_
    refine G.region ?_
    refine G.op1 (op_assign (Ev.c _ rfl) rfl) rfl trivial trivial ?_
    refine G.endOps ?_
    cases hF
    exact G.ret1 Try.results14 (RVar.tmp 4 _) ⟨rfl, trivial⟩ trivial
  refine G.block ?_
  refine G.keep (sl' := [(0, .one (.g (.d (.sl 3 (List.map encApi_Dep p_0))))), (1, .one (.g (.d (.sl 3 (List.map encApi_Dep q_1))))), (5, .one (bI .i64 0))]) (hp' := []) ⟨rfl, rfl, rfl, trivial⟩ trivial rfl ?_
  refine G.loopF (fun (v3 : Int) => ⟨[(0, .one (.g (.d (.sl 3 (List.map encApi_Dep p_0))))), (1, .one (.g (.d (.sl 3 (List.map encApi_Dep q_1))))), (5, .one (bI .i64 v3))], []⟩) hF rfl (fun K6 again5 v3 J4 hF => ?_)
  unfold ref04_Covers_l2 at hF
  refine G.seq ?_
  refine G.seq ?_
  refine G.region ?_
  refine G.op1 (op_move (Ev.t 5 (bI .i64 v3)) rfl) rfl ⟨rfl, trivial⟩ trivial ?_
  refine G.op1 (op_move (Ev.t 1 (.g (.d (.sl 3 (List.map encApi_Dep q_1))))) rfl) rfl ⟨rfl, trivial⟩ trivial ?_
  refine G.op1 (OpL.cast (op_lenD Try.underlying30 (Ev.t 8 (.g (.d (.sl 3 (List.map encApi_Dep q_1))))) rfl) (by rw [List.length_map])) rfl ⟨rfl, trivial⟩ trivial ?_
  refine G.op1 (op_lss (Ev.t 7 (bI .i64 v3)) (Ev.t 9 (bI .i64 (q_1.length : Int))) rfl) rfl ⟨rfl, rfl, trivial⟩ trivial ?_
  refine G.endOps ?_
  refine ifS hF (fun hc7 hF => ?_) (fun hc7 hF => ?_)
  · refine G.cond rfl (fun _ => ?_) (fun hx => by rw [hc7] at hx; cases hx)
    refine G.skip ?_
    refine G.seq ?_
    refine G.block ?_
    refine G.seq ?_
    refine G.region ?_
    refine G.op1 (op_move (Ev.t 0 (.g (.d (.sl 3 (List.map encApi_Dep p_0))))) rfl) rfl ⟨rfl, trivial⟩ trivial ?_
    refine G.op1 (op_move (Ev.t 1 (.g (.d (.sl 3 (List.map encApi_Dep q_1))))) rfl) rfl ⟨rfl, trivial⟩ trivial ?_
    refine G.op1 (op_move (Ev.t 5 (bI .i64 v3)) rfl) rfl ⟨rfl, trivial⟩ trivial ?_
    obtain ⟨x8, hx8, hF⟩ := bindS hF
    refine G.op1 (op_index (cs := [.v (.string x8.Key), .v (.int .i64 x8.Stamp.N), .v (.int .i64 x8.Stamp.Site)]) Try.underlying30 ti39 (idx_ok hx8).1 (idx_get hx8 encApi_Dep) (Ev.t 14 (.g (.d (.sl 3 (List.map encApi_Dep q_1))))) (Ev.t 15 (bI .i64 v3)) rfl) rfl ⟨rfl, rfl, trivial⟩ trivial ?_
    refine G.op1 (op_fieldE (cs' := [.v (.string x8.Key), .v (.int .i64 x8.Stamp.N), .v (.int .i64 x8.Stamp.Site)]) Try.underlying39 rfl ti9 (by decide) rfl (Ev.t 16 (.ep [.v (.string x8.Key), .v (.int .i64 x8.Stamp.N), .v (.int .i64 x8.Stamp.Site)])) rfl) rfl ⟨rfl, trivial⟩ trivial ?_
    refine G.op1 (op_load1E (c := .v (.string x8.Key)) Try.underlying9 rfl rfl (Ev.t 17 (.ep [.v (.string x8.Key), .v (.int .i64 x8.Stamp.N), .v (.int .i64 x8.Stamp.Site)])) rfl) rfl ⟨rfl, trivial⟩ trivial ?_
    obtain ⟨r9, hr9, hF⟩ := bindS hF
    refine G.op1 (op_callQ (sv := .one (.g (.agg [.v (.int .i64 r9.N), .v (.int .i64 r9.Site)]))) cf18 (ct_ref04_Get p_0 x8.Key r9 hr9) rfl rfl (EvQL.cons (EvQ.g (Ev.t 13 (.g (.d (.sl 3 (List.map encApi_Dep p_0)))))) (EvQL.cons (EvQ.g (Ev.t 18 (bS x8.Key))) EvQL.nil)) rfl) rfl ⟨rfl, rfl, trivial⟩ trivial ?_
    refine G.op2 (op_alloc (k := 1006) (cs := [bI .i64 0, bI .i64 0]) ti29 ⟨.v _ rfl, .v _ rfl, trivial⟩ rfl) rfl trivial ⟨rfl, trivial⟩ ?_
    refine G.op3 (op_storeA (cs' := [bI .i64 r9.N, bI .i64 r9.Site]) ti29 rfl rfl (Ev.t 6 (.ptr 1006 0)) (Ev.t 19 (.g (.agg [.v (.int .i64 r9.N), .v (.int .i64 r9.Site)])))) rfl ⟨rfl, rfl, trivial⟩ ⟨rfl, trivial⟩ ?_
    refine G.endOps ?_
    refine G.seq ?_
    obtain ⟨x10, hx10, hF⟩ := bindS hF
    obtain ⟨r11, hr11, hF⟩ := bindS hF
    refine G.drawn (effs := [⟨[(6, .one (.ptr 1006 0))], [(1006, some (.blk 29 [bI .i64 r9.N, bI .i64 r9.Site]))], [(20, .one (.g (.agg [.v (.int .i64 r9.N), .v (.int .i64 r9.Site)])))], []⟩, ⟨[(1, .one (.g (.d (.sl 3 (List.map encApi_Dep q_1)))))], [], [(21, .one (.g (.d (.sl 3 (List.map encApi_Dep q_1)))))], []⟩, ⟨[(5, .one (bI .i64 v3))], [], [(22, .one (bI .i64 v3))], []⟩, ⟨[(21, .one (.g (.d (.sl 3 (List.map encApi_Dep q_1))))), (22, .one (bI .i64 v3))], [], [(23, .one (.ep [.v (.string x10.Key), .v (.int .i64 x10.Stamp.N), .v (.int .i64 x10.Stamp.Site)]))], []⟩, ⟨[(23, .one (.ep [.v (.string x10.Key), .v (.int .i64 x10.Stamp.N), .v (.int .i64 x10.Stamp.Site)]))], [], [(24, .one (.ep [.v (.int .i64 x10.Stamp.N), .v (.int .i64 x10.Stamp.Site)]))], []⟩, ⟨[(24, .one (.ep [.v (.int .i64 x10.Stamp.N), .v (.int .i64 x10.Stamp.Site)]))], [], [(25, .one (.g (.agg [.v (.int .i64 x10.Stamp.N), .v (.int .i64 x10.Stamp.Site)])))], []⟩, ⟨[(20, .one (.g (.agg [.v (.int .i64 r9.N), .v (.int .i64 r9.Site)]))), (25, .one (.g (.agg [.v (.int .i64 x10.Stamp.N), .v (.int .i64 x10.Stamp.Site)])))], [], [(26, .one (bB r11))], []⟩]) (deps := [[], [], [], [1, 2], [1, 2, 3], [1, 2, 3, 4], [0, 1, 2, 3, 4, 5]]) (sl' := [(0, .one (.g (.d (.sl 3 (List.map encApi_Dep p_0))))), (1, .one (.g (.d (.sl 3 (List.map encApi_Dep q_1))))), (5, .one (bI .i64 v3)), (26, .one (bB r11))]) (hp' := []) follows rfl rfl rfl ⟨⟨rfl, trivial⟩, ⟨⟨rfl, rfl⟩, trivial⟩, ⟨rfl, trivial⟩, trivial, ⟨rfl, trivial⟩, trivial, ⟨rfl, rfl, trivial⟩, trivial, ⟨rfl, trivial⟩, trivial, ⟨rfl, trivial⟩, trivial, ⟨rfl, rfl, trivial⟩, trivial, trivial⟩ ⟨OpW.plain (op_loadAP (ds := [.v (.int .i64 r9.N), .v (.int .i64 r9.Site)]) Try.underlying29 rfl ti29 rfl (Ev.t 6 (.ptr 1006 0)) rfl) rfl rfl, OpW.plain (op_move (Ev.t 1 (.g (.d (.sl 3 (List.map encApi_Dep q_1))))) rfl) rfl rfl, OpW.plain (op_move (Ev.t 5 (bI .i64 v3)) rfl) rfl rfl, OpW.plain (op_index (cs := [.v (.string x10.Key), .v (.int .i64 x10.Stamp.N), .v (.int .i64 x10.Stamp.Site)]) Try.underlying30 ti39 (idx_ok hx10).1 (idx_get hx10 encApi_Dep) (Ev.t 21 (.g (.d (.sl 3 (List.map encApi_Dep q_1))))) (Ev.t 22 (bI .i64 v3)) rfl) rfl rfl, OpW.plain (op_fieldE (cs' := [.v (.int .i64 x10.Stamp.N), .v (.int .i64 x10.Stamp.Site)]) Try.underlying39 rfl ti29 (by decide) rfl (Ev.t 23 (.ep [.v (.string x10.Key), .v (.int .i64 x10.Stamp.N), .v (.int .i64 x10.Stamp.Site)])) rfl) rfl rfl, OpW.plain (op_loadAE (ds := [.v (.int .i64 x10.Stamp.N), .v (.int .i64 x10.Stamp.Site)]) Try.underlying29 rfl ti29 rfl (Ev.t 24 (.ep [.v (.int .i64 x10.Stamp.N), .v (.int .i64 x10.Stamp.Site)])) rfl) rfl rfl, OpW.plain (op_callQ (sv := .one (bB r11)) cf17 (ct_ref03_Less r9 x10.Stamp r11 hr11) rfl rfl (EvQL.cons (EvQ.g (Ev.t 20 (.g (.agg [.v (.int .i64 r9.N), .v (.int .i64 r9.Site)])))) (EvQL.cons (EvQ.g (Ev.t 25 (.g (.agg [.v (.int .i64 x10.Stamp.N), .v (.int .i64 x10.Stamp.Site)])))) EvQL.nil)) rfl) rfl rfl, trivial⟩ ⟨rfl, rfl, rfl, rfl, trivial⟩ trivial rfl ?_
    refine ifS hF (fun hc12 hF => ?_) (fun hc12 hF => ?_)
    · refine G.cond rfl (fun _ => ?_) (fun hx => by rw [hc12] at hx; cases hx)
      refine G.seq ?_
      refine G.region ?_
      refine G.op1 (op_assign (Ev.c _ rfl) rfl) rfl trivial trivial ?_
      refine G.endOps ?_
      cases hF
      exact G.ret1 Try.results14 (RVar.tmp 4 _) ⟨rfl, trivial⟩ trivial
    · refine G.cond rfl (fun hx => by rw [hc12] at hx; cases hx) (fun _ => ?_)
      refine G.skip ?_
      refine G.endBlock ?_
      refine G.region ?_
      refine G.op1 (op_move (Ev.t 5 (bI .i64 v3)) rfl) rfl ⟨rfl, trivial⟩ trivial ?_
      refine G.op1 (op_add (Ev.t 11 (bI .i64 v3)) (Ev.c _ rfl) rfl) rfl ⟨rfl, trivial⟩ trivial ?_
      refine G.op1 (op_assign (Ev.t 12 (bI .i64 (IntKind.wrap .i64 (v3 + 1)))) rfl) rfl ⟨rfl, trivial⟩ trivial ?_
      refine G.endOps ?_
      exact G.arr (J4 (IntKind.wrap .i64 (v3 + 1)) hF) ⟨rfl, rfl, rfl, trivial⟩ trivial rfl
  · refine G.cond rfl (fun hx => by rw [hc7] at hx; cases hx) (fun _ => ?_)
    refine G.exit ?_
    refine GX.c ?_
    refine GX.q ?_
    refine GX.bYes ?_
    exact G.arr (J2 () hF) trivial trivial rfl


set_option maxRecDepth 20000 in
set_option maxHeartbeats 2000000 in
theorem ct_law14_QueueAll (l_0 : (List Law14_Write)) (order_1 : (List Int)) (r : Bool) (hF : law14_QueueAll l_0 order_1 = some r) : Ct Try.prog 6 [.g (.d (.sl 3 (List.map encLaw14_Write l_0))), .g (.d (.sl 1 (List.map encI_i64 order_1)))] (.one (.d (.v (.bool r)))) := by
  unfold law14_QueueAll at hF
  refine Ct.intro Try.func6 rfl Try.ntmps6 rfl rfl fun M w => ?_
  refine G.seq ?_
  refine G.region ?_
  refine G.op1 (op_assign (Ev.c _ rfl) rfl) rfl trivial trivial ?_
  refine G.endOps ?_
  refine G.seq ?_
  refine G.region ?_
  obtain ⟨r1, hr1, hF⟩ := bindS hF
  refine G.op1 (op_callQ (sv := .one (bB r1)) cf9 (ct_law14_awake r1 hr1) rfl rfl EvQL.nil rfl) rfl trivial trivial ?_
  refine G.op1 (op_assign (Ev.t 20 (bB r1)) rfl) rfl ⟨rfl, trivial⟩ trivial ?_
  refine G.endOps ?_
  refine G.seq ?_
  refine G.region ?_
  refine G.op1 (op_move (Ev.t 0 (.g (.d (.sl 3 (List.map encLaw14_Write l_0))))) rfl) rfl ⟨rfl, trivial⟩ trivial ?_
  obtain ⟨r2, hr2, hF⟩ := bindS hF
  refine G.op1 (op_call (sv := .one (.g (.d (.sl 6 (List.map encApi_Version r2))))) cf10 (ct_law14_made l_0 r2 hr2) rfl (EvL.cons (Ev.t 21 (.g (.d (.sl 3 (List.map encLaw14_Write l_0))))) EvL.nil) rfl) rfl ⟨rfl, trivial⟩ trivial ?_
  refine G.op1 (op_assign (Ev.t 22 (.g (.d (.sl 6 (List.map encApi_Version r2))))) rfl) rfl ⟨rfl, trivial⟩ trivial ?_
  refine G.endOps ?_
  refine G.seq ?_
  refine G.region ?_
  refine G.op1 (op_assign (Ev.n 6) rfl) rfl trivial trivial ?_
  refine G.endOps ?_
  refine G.seq ?_
  refine G.region ?_
  refine G.op2 (op_alloc (k := 1008) (cs := dat (List.flatMap encB (List.replicate 14 false))) ti56 ⟨.v _ rfl, .v _ rfl, .v _ rfl, .v _ rfl, .v _ rfl, .v _ rfl, .v _ rfl, .v _ rfl, .v _ rfl, .v _ rfl, .v _ rfl, .v _ rfl, .v _ rfl, .v _ rfl, trivial⟩ rfl) rfl trivial ⟨rfl, trivial⟩ ?_
  refine G.endOps ?_
  refine G.seq ?_
  refine G.seq ?_
  refine G.region ?_
  refine G.op1 (op_assign (Ev.c _ rfl) rfl) rfl trivial trivial ?_
  refine G.endOps ?_
  refine G.joinC (T := (List Api_Version)) (fun y3 => ⟨[(5, .one (bB r1)), (6, .one (.g (.d (.sl 6 (List.map encApi_Version r2))))), (7, .one (.g (.d (.sl 6 (List.map encApi_Version y3)))))], []⟩) (fun y3 => law14_QueueAll_k1 r1 r2 y3 = some r) (fun y3 hF => ?_) (fun J23 => ?_)
  · unfold law14_QueueAll_k1 at hF
    refine G.seq ?_
    refine G.region ?_
    refine G.op1 (op_assign (Ev.n 3) rfl) rfl trivial trivial ?_
    refine G.endOps ?_
    refine G.seq ?_
    refine G.region ?_
    obtain ⟨r4, hr4, hF⟩ := bindS hF
    refine G.op1 (op_call (sv := .one (.g (.d (.sl 2 (List.map encApi_Range r4))))) cf11 (ct_law14_ranges 0 r4 hr4) rfl (EvL.cons (Ev.c _ rfl) EvL.nil) rfl) rfl trivial trivial ?_
    refine G.op1 (op_assign (Ev.t 79 (.g (.d (.sl 2 (List.map encApi_Range r4))))) rfl) rfl ⟨rfl, trivial⟩ trivial ?_
    refine G.endOps ?_
    refine G.seq ?_
    refine G.seq ?_
    refine G.region ?_
    refine G.op1 (op_assign (Ev.c _ rfl) rfl) rfl trivial trivial ?_
    refine G.endOps ?_
    refine G.joinC (T := (List Api_Version)) (fun y5 => ⟨[(5, .one (bB r1)), (7, .one (.g (.d (.sl 6 (List.map encApi_Version y5)))))], []⟩) (fun y5 => law14_QueueAll_k2 r1 y5 = some r) (fun y5 hF => ?_) (fun J7 => ?_)
    · unfold law14_QueueAll_k2 at hF
      refine G.seq ?_
      refine G.region ?_
      refine G.op1 (op_move (Ev.t 5 (bB r1)) rfl) rfl ⟨rfl, trivial⟩ trivial ?_
      refine G.op1 (op_move (Ev.t 120 (bB r1)) rfl) rfl ⟨rfl, trivial⟩ trivial ?_
      refine ifS hF (fun hc6 hF => ?_) (fun hc6 hF => ?_)
      · refine G.known (t := 121) hc6 rfl ?_
        refine G.opG1 (op_move (Ev.t 7 (.g (.d (.sl 6 (List.map encApi_Version y5))))) rfl) rfl rfl rfl ⟨rfl, trivial⟩ trivial ?_
        refine G.opG1 (OpL.cast (op_lenD Try.underlying24 (Ev.t 122 (.g (.d (.sl 6 (List.map encApi_Version y5))))) rfl) (by rw [List.length_map])) rfl rfl rfl ⟨rfl, trivial⟩ trivial ?_
        refine G.opG1 (op_eqI (Ev.t 123 (bI .i64 (y5.length : Int))) (Ev.c _ rfl) rfl) rfl rfl rfl ⟨rfl, trivial⟩ trivial ?_
        refine G.op1 (op_pickT (Ev.t 121 (bB true)) (Ev.t 124 (bB (decide ((y5.length : Int) = 0)))) rfl) rfl ⟨rfl, rfl, trivial⟩ trivial ?_
        refine G.op1 (op_assign (Ev.t 125 (bB (decide ((y5.length : Int) = 0)))) rfl) rfl ⟨rfl, trivial⟩ trivial ?_
        refine G.endOps ?_
        cases hF
        exact G.ret1 Try.results6 (RVar.tmp 4 _) ⟨rfl, trivial⟩ trivial
      · refine G.known (t := 121) hc6 rfl ?_
        refine G.opN1 rfl rfl rfl rfl rfl ?_
        refine G.opN1 rfl rfl rfl rfl rfl ?_
        refine G.opN1 rfl rfl rfl rfl rfl ?_
        refine G.op1 (op_pickF (Ev.t 121 (bB false)) (Ev.c _ rfl) rfl) rfl ⟨rfl, trivial⟩ trivial ?_
        refine G.op1 (op_assign (Ev.t 125 (bB false)) rfl) rfl ⟨rfl, trivial⟩ trivial ?_
        refine G.endOps ?_
        cases hF
        exact G.ret1 Try.results6 (RVar.tmp 4 _) ⟨rfl, trivial⟩ trivial
    refine G.block ?_
    refine G.keep (sl' := [(5, .one (bB r1)), (6, .one (.g (.d (.sl 6 (List.map encApi_Version r2))))), (7, .one (.g (.d (.sl 6 (List.map encApi_Version y3))))), (13, .one (.g (.d (.sl 3 (List.map encApi_Dep ([] : (List Api_Dep))))))), (14, .one (.g (.d (.sl 2 (List.map encApi_Range r4))))), (15, .one (bI .i64 0))]) (hp' := []) ⟨rfl, rfl, rfl, rfl, rfl, rfl, trivial⟩ trivial rfl ?_
    refine G.loopF (fun (v8 : (List Api_Version) × (List Api_Dep) × Int) => ⟨[(5, .one (bB r1)), (6, .one (.g (.d (.sl 6 (List.map encApi_Version r2))))), (7, .one (.g (.d (.sl 6 (List.map encApi_Version v8.1))))), (13, .one (.g (.d (.sl 3 (List.map encApi_Dep v8.2.1))))), (14, .one (.g (.d (.sl 2 (List.map encApi_Range r4))))), (15, .one (bI .i64 v8.2.2))], []⟩) hF rfl (fun K11 again10 v8 J9 hF => ?_)
    unfold law14_QueueAll_l3 at hF
    refine G.seq ?_
    refine G.seq ?_
    refine G.region ?_
    refine G.op1 (op_move (Ev.t 15 (bI .i64 v8.2.2)) rfl) rfl ⟨rfl, trivial⟩ trivial ?_
    refine G.op1 (op_move (Ev.t 6 (.g (.d (.sl 6 (List.map encApi_Version r2))))) rfl) rfl ⟨rfl, trivial⟩ trivial ?_
    refine G.op1 (OpL.cast (op_lenD Try.underlying24 (Ev.t 81 (.g (.d (.sl 6 (List.map encApi_Version r2))))) rfl) (by rw [List.length_map])) rfl ⟨rfl, trivial⟩ trivial ?_
    refine G.op1 (op_lss (Ev.t 80 (bI .i64 v8.2.2)) (Ev.t 82 (bI .i64 (r2.length : Int))) rfl) rfl ⟨rfl, rfl, trivial⟩ trivial ?_
    refine G.endOps ?_
    refine ifS hF (fun hc12 hF => ?_) (fun hc12 hF => ?_)
    · refine G.cond rfl (fun _ => ?_) (fun hx => by rw [hc12] at hx; cases hx)
      refine G.skip ?_
      refine G.seq ?_
      refine G.block ?_
      refine G.seq ?_
      refine G.region ?_
      refine G.op1 (op_move (Ev.t 7 (.g (.d (.sl 6 (List.map encApi_Version v8.1))))) rfl) rfl ⟨rfl, trivial⟩ trivial ?_
      refine G.op1 (op_move (Ev.t 13 (.g (.d (.sl 3 (List.map encApi_Dep v8.2.1))))) rfl) rfl ⟨rfl, trivial⟩ trivial ?_
      refine G.op1 (op_move (Ev.t 14 (.g (.d (.sl 2 (List.map encApi_Range r4))))) rfl) rfl ⟨rfl, trivial⟩ trivial ?_
      obtain ⟨r13, hr13, hF⟩ := bindS hF
      refine G.op1 (op_call (sv := .tup [.g (.agg [.v (.string r13.1.Key), .v (.string r13.1.Value), .v (.bool r13.1.Gone), .v (.int .i64 r13.1.Stamp.N), .v (.int .i64 r13.1.Stamp.Site), .sl 3 (List.map encApi_Dep r13.1.Past)]), .g (.d (.sl 6 (List.map encApi_Version r13.2.1))), bB r13.2.2]) cf12 (ct_queue_Next v8.1 v8.2.1 r4 r13 hr13) rfl (EvL.cons (Ev.t 87 (.g (.d (.sl 6 (List.map encApi_Version v8.1))))) (EvL.cons (Ev.t 88 (.g (.d (.sl 3 (List.map encApi_Dep v8.2.1))))) (EvL.cons (Ev.t 89 (.g (.d (.sl 2 (List.map encApi_Range r4))))) EvL.nil))) rfl) rfl ⟨rfl, rfl, rfl, trivial⟩ trivial ?_
      refine G.op1 (op_moveS (t := 90) (sv := .tup [.g (.agg [.v (.string r13.1.Key), .v (.string r13.1.Value), .v (.bool r13.1.Gone), .v (.int .i64 r13.1.Stamp.N), .v (.int .i64 r13.1.Stamp.Site), .sl 3 (List.map encApi_Dep r13.1.Past)]), .g (.d (.sl 6 (List.map encApi_Version r13.2.1))), bB r13.2.2]) rfl) rfl ⟨rfl, trivial⟩ trivial ?_
      refine G.op1 (op_extract (l := [.g (.agg [.v (.string r13.1.Key), .v (.string r13.1.Value), .v (.bool r13.1.Gone), .v (.int .i64 r13.1.Stamp.N), .v (.int .i64 r13.1.Stamp.Site), .sl 3 (List.map encApi_Dep r13.1.Past)]), .g (.d (.sl 6 (List.map encApi_Version r13.2.1))), bB r13.2.2]) (c := .g (.agg [.v (.string r13.1.Key), .v (.string r13.1.Value), .v (.bool r13.1.Gone), .v (.int .i64 r13.1.Stamp.N), .v (.int .i64 r13.1.Stamp.Site), .sl 3 (List.map encApi_Dep r13.1.Past)])) rfl rfl) rfl ⟨rfl, trivial⟩ trivial ?_
      refine G.op1 (op_extract (l := [.g (.agg [.v (.string r13.1.Key), .v (.string r13.1.Value), .v (.bool r13.1.Gone), .v (.int .i64 r13.1.Stamp.N), .v (.int .i64 r13.1.Stamp.Site), .sl 3 (List.map encApi_Dep r13.1.Past)]), .g (.d (.sl 6 (List.map encApi_Version r13.2.1))), bB r13.2.2]) (c := .g (.d (.sl 6 (List.map encApi_Version r13.2.1)))) rfl rfl) rfl ⟨rfl, trivial⟩ trivial ?_
      refine G.op1 (op_extract (l := [.g (.agg [.v (.string r13.1.Key), .v (.string r13.1.Value), .v (.bool r13.1.Gone), .v (.int .i64 r13.1.Stamp.N), .v (.int .i64 r13.1.Stamp.Site), .sl 3 (List.map encApi_Dep r13.1.Past)]), .g (.d (.sl 6 (List.map encApi_Version r13.2.1))), bB r13.2.2]) (c := bB r13.2.2) rfl rfl) rfl ⟨rfl, trivial⟩ trivial ?_
      refine G.op2 (op_alloc (k := 1016) (cs := [bS ByteArray.empty, bS ByteArray.empty, bB false, bI .i64 0, bI .i64 0, .g (.d (.sl 3 (List.map encApi_Dep ([] : (List Api_Dep)))))]) ti32 ⟨.v _ rfl, .v _ rfl, .v _ rfl, .v _ rfl, .v _ rfl, .n 3, trivial⟩ rfl) rfl trivial ⟨rfl, trivial⟩ ?_
      refine G.op3 (op_storeA (cs' := [bS r13.1.Key, bS r13.1.Value, bB r13.1.Gone, bI .i64 r13.1.Stamp.N, bI .i64 r13.1.Stamp.Site, .g (.d (.sl 3 (List.map encApi_Dep r13.1.Past)))]) ti32 rfl rfl (Ev.t 16 (.ptr 1016 0)) (Ev.t 91 (.g (.agg [.v (.string r13.1.Key), .v (.string r13.1.Value), .v (.bool r13.1.Gone), .v (.int .i64 r13.1.Stamp.N), .v (.int .i64 r13.1.Stamp.Site), .sl 3 (List.map encApi_Dep r13.1.Past)])))) rfl ⟨rfl, rfl, trivial⟩ ⟨rfl, trivial⟩ ?_
      refine G.op1 (op_assign (Ev.t 92 (.g (.d (.sl 6 (List.map encApi_Version r13.2.1))))) rfl) rfl ⟨rfl, trivial⟩ trivial ?_
      refine G.op1 (op_assign (Ev.t 93 (bB r13.2.2)) rfl) rfl ⟨rfl, trivial⟩ trivial ?_
      refine G.endOps ?_
      refine G.seq ?_
      refine G.region ?_
      refine G.op1 (op_move (Ev.t 13 (.g (.d (.sl 3 (List.map encApi_Dep v8.2.1))))) rfl) rfl ⟨rfl, trivial⟩ trivial ?_
      refine G.op1 (op_fieldP (off' := 5) Try.underlying32 rfl ti30 (by decide) rfl (Ev.t 16 (.ptr 1016 0)) rfl) rfl ⟨rfl, trivial⟩ trivial ?_
      refine G.op1 (op_load1P (c := .g (.d (.sl 3 (List.map encApi_Dep r13.1.Past)))) Try.underlying30 rfl rfl (Ev.t 95 (.ptr 1016 5)) rfl) rfl ⟨rfl, trivial⟩ ⟨rfl, trivial⟩ ?_
      obtain ⟨r14, hr14, hF⟩ := bindS hF
      refine G.op1 (op_callQ (sv := .one (bB r14)) cf14 (ct_ref04_Covers v8.2.1 r13.1.Past r14 hr14) rfl rfl (EvQL.cons (EvQ.g (Ev.t 94 (.g (.d (.sl 3 (List.map encApi_Dep v8.2.1)))))) (EvQL.cons (EvQ.g (Ev.t 96 (.g (.d (.sl 3 (List.map encApi_Dep r13.1.Past)))))) EvQL.nil)) rfl) rfl ⟨rfl, rfl, trivial⟩ trivial ?_
      refine G.op1 (op_assign (Ev.t 97 (bB r14)) rfl) rfl ⟨rfl, trivial⟩ trivial ?_
      refine G.endOps ?_
      refine G.seq ?_
      refine G.seq ?_
      refine G.joinC (T := Bool) (fun y15 => ⟨[(5, .one (bB r1)), (6, .one (.g (.d (.sl 6 (List.map encApi_Version r2))))), (13, .one (.g (.d (.sl 3 (List.map encApi_Dep v8.2.1))))), (14, .one (.g (.d (.sl 2 (List.map encApi_Range r4))))), (15, .one (bI .i64 v8.2.2)), (16, .one (.ptr 1016 0)), (17, .one (.g (.d (.sl 6 (List.map encApi_Version r13.2.1))))), (111, .one (bB y15))], [(1016, some (.blk 32 [bS r13.1.Key, bS r13.1.Value, bB r13.1.Gone, bI .i64 r13.1.Stamp.N, bI .i64 r13.1.Stamp.Site, .g (.d (.sl 3 (List.map encApi_Dep r13.1.Past)))]))]⟩) (fun y15 => law14_QueueAll_k4 again10 v8 r13 y15 = some r) (fun y15 hF => ?_) (fun J18 => ?_)
      · unfold law14_QueueAll_k4 at hF
        refine ifS hF (fun hc16 hF => ?_) (fun hc16 hF => ?_)
        · refine G.cond rfl (fun _ => ?_) (fun hx => by rw [hc16] at hx; cases hx)
          refine G.seq ?_
          refine G.region ?_
          refine G.op1 (op_assign (Ev.c _ rfl) rfl) rfl trivial trivial ?_
          refine G.endOps ?_
          cases hF
          exact G.ret1 Try.results6 (RVar.tmp 4 _) ⟨rfl, trivial⟩ trivial
        · refine G.cond rfl (fun hx => by rw [hc16] at hx; cases hx) (fun _ => ?_)
          refine G.skip ?_
          refine G.seq ?_
          refine G.region ?_
          refine G.op1 (op_move (Ev.t 13 (.g (.d (.sl 3 (List.map encApi_Dep v8.2.1))))) rfl) rfl ⟨rfl, trivial⟩ trivial ?_
          refine G.op1 (op_fieldP (off' := 0) Try.underlying32 rfl ti9 (by decide) rfl (Ev.t 16 (.ptr 1016 0)) rfl) rfl ⟨rfl, trivial⟩ trivial ?_
          refine G.op1 (op_load1P (c := bS r13.1.Key) Try.underlying9 rfl rfl (Ev.t 113 (.ptr 1016 0)) rfl) rfl ⟨rfl, trivial⟩ ⟨rfl, trivial⟩ ?_
          refine G.op1 (op_fieldP (off' := 3) Try.underlying32 rfl ti29 (by decide) rfl (Ev.t 16 (.ptr 1016 0)) rfl) rfl ⟨rfl, trivial⟩ trivial ?_
          refine G.op1 (op_loadAP (ds := [.v (.int .i64 r13.1.Stamp.N), .v (.int .i64 r13.1.Stamp.Site)]) Try.underlying29 rfl ti29 rfl (Ev.t 115 (.ptr 1016 3)) rfl) rfl ⟨rfl, trivial⟩ ⟨rfl, trivial⟩ ?_
          refine G.op1 (op_build (zs := [.v (.string ByteArray.empty), .v (.int .i64 0), .v (.int .i64 0)]) (ds := [.v (.string r13.1.Key), .v (.int .i64 r13.1.Stamp.N), .v (.int .i64 r13.1.Stamp.Site)]) Try.underlying39 ti39 (pl39 _ Try.underlying39) ⟨.v _ rfl, .v _ rfl, .v _ rfl, trivial⟩ (EvP.cons (Ev.t 114 (bS r13.1.Key)) (EvP.cons (Ev.t 116 (.g (.agg [.v (.int .i64 r13.1.Stamp.N), .v (.int .i64 r13.1.Stamp.Site)]))) EvP.nil)) rfl rfl) rfl ⟨rfl, rfl, trivial⟩ trivial ?_
          obtain ⟨r17, hr17, hF⟩ := bindS hF
          refine G.op1 (op_call (sv := .one (.g (.d (.sl 3 (List.map encApi_Dep r17))))) cf15 (ct_ref04_Add v8.2.1 (Api_Dep.mk r13.1.Key r13.1.Stamp) r17 hr17) rfl (EvL.cons (Ev.t 112 (.g (.d (.sl 3 (List.map encApi_Dep v8.2.1))))) (EvL.cons (Ev.t 117 (.g (.agg [.v (.string r13.1.Key), .v (.int .i64 r13.1.Stamp.N), .v (.int .i64 r13.1.Stamp.Site)]))) EvL.nil)) rfl) rfl ⟨rfl, rfl, trivial⟩ trivial ?_
          refine G.op1 (op_assign (Ev.t 118 (.g (.d (.sl 3 (List.map encApi_Dep r17))))) rfl) rfl ⟨rfl, trivial⟩ trivial ?_
          refine G.endOps ?_
          refine G.region ?_
          refine G.op1 (op_move (Ev.t 17 (.g (.d (.sl 6 (List.map encApi_Version r13.2.1))))) rfl) rfl ⟨rfl, trivial⟩ trivial ?_
          refine G.op1 (op_assign (Ev.t 119 (.g (.d (.sl 6 (List.map encApi_Version r13.2.1))))) rfl) rfl ⟨rfl, trivial⟩ trivial ?_
          refine G.endOps ?_
          refine G.endBlock ?_
          refine G.region ?_
          refine G.op1 (op_move (Ev.t 15 (bI .i64 v8.2.2)) rfl) rfl ⟨rfl, trivial⟩ trivial ?_
          refine G.op1 (op_add (Ev.t 84 (bI .i64 v8.2.2)) (Ev.c _ rfl) rfl) rfl ⟨rfl, trivial⟩ trivial ?_
          refine G.op1 (op_assign (Ev.t 85 (bI .i64 (IntKind.wrap .i64 (v8.2.2 + 1)))) rfl) rfl ⟨rfl, trivial⟩ trivial ?_
          refine G.endOps ?_
          exact G.arr (J9 (r13.2.1, r17, IntKind.wrap .i64 (v8.2.2 + 1)) hF) ⟨rfl, rfl, rfl, rfl, rfl, rfl, trivial⟩ trivial rfl
      refine G.region ?_
      refine G.op1 (op_move (Ev.t 18 (bB r13.2.2)) rfl) rfl ⟨rfl, trivial⟩ trivial ?_
      refine G.op1 (op_not (Ev.t 98 (bB r13.2.2)) rfl) rfl ⟨rfl, trivial⟩ trivial ?_
      refine G.op1 (op_move (Ev.t 99 (bB (!r13.2.2))) rfl) rfl ⟨rfl, trivial⟩ trivial ?_
      refine G.joinL (T := Bool) 3 (fun y19 => ⟨[(5, .one (bB r1)), (6, .one (.g (.d (.sl 6 (List.map encApi_Version r2))))), (7, .one (.g (.d (.sl 6 (List.map encApi_Version v8.1))))), (13, .one (.g (.d (.sl 3 (List.map encApi_Dep v8.2.1))))), (14, .one (.g (.d (.sl 2 (List.map encApi_Range r4))))), (15, .one (bI .i64 v8.2.2)), (16, .one (.ptr 1016 0)), (17, .one (.g (.d (.sl 6 (List.map encApi_Version r13.2.1))))), (103, .one (bB y19))], [(1016, some (.blk 32 [bS r13.1.Key, bS r13.1.Value, bB r13.1.Gone, bI .i64 r13.1.Stamp.N, bI .i64 r13.1.Stamp.Site, .g (.d (.sl 3 (List.map encApi_Dep r13.1.Past)))]))]⟩) (fun y19 => law14_QueueAll_k5 again10 v8 r13 y19 = some r) (fun y19 hF => ?_) (fun J21 => ?_)
      · unfold law14_QueueAll_k5 at hF
        refine G.op1 (op_move (Ev.t 103 (bB y19)) rfl) rfl ⟨rfl, trivial⟩ trivial ?_
        refine ifS hF (fun hc20 hF => ?_) (fun hc20 hF => ?_)
        · refine G.known (t := 104) hc20 rfl ?_
          refine G.opN1 rfl rfl rfl rfl rfl ?_
          refine G.opN1 rfl rfl rfl rfl rfl ?_
          refine G.opN1 rfl rfl rfl rfl rfl ?_
          refine G.opN1 rfl rfl rfl rfl rfl ?_
          refine G.opN1 rfl rfl rfl rfl rfl ?_
          refine G.opN1 rfl rfl rfl rfl rfl ?_
          refine G.op1 (op_pickT (Ev.t 104 (bB true)) (Ev.c _ rfl) rfl) rfl ⟨rfl, trivial⟩ trivial ?_
          refine G.endOps ?_
          exact G.arr (J18 true hF) ⟨rfl, rfl, rfl, rfl, rfl, rfl, rfl, rfl, trivial⟩ ⟨rfl, trivial⟩ rfl
        · refine G.known (t := 104) hc20 rfl ?_
          refine G.opG1 (op_move (Ev.t 17 (.g (.d (.sl 6 (List.map encApi_Version r13.2.1))))) rfl) rfl rfl rfl ⟨rfl, trivial⟩ trivial ?_
          refine G.opG1 (OpL.cast (op_lenD Try.underlying24 (Ev.t 105 (.g (.d (.sl 6 (List.map encApi_Version r13.2.1))))) rfl) (by rw [List.length_map])) rfl rfl rfl ⟨rfl, trivial⟩ trivial ?_
          refine G.opG1 (op_move (Ev.t 7 (.g (.d (.sl 6 (List.map encApi_Version v8.1))))) rfl) rfl rfl rfl ⟨rfl, trivial⟩ trivial ?_
          refine G.opG1 (OpL.cast (op_lenD Try.underlying24 (Ev.t 107 (.g (.d (.sl 6 (List.map encApi_Version v8.1))))) rfl) (by rw [List.length_map])) rfl rfl rfl ⟨rfl, trivial⟩ trivial ?_
          refine G.opG1 (op_sub (Ev.t 108 (bI .i64 (v8.1.length : Int))) (Ev.c _ rfl) rfl) rfl rfl rfl ⟨rfl, trivial⟩ trivial ?_
          refine G.opG1 (op_neI (Ev.t 106 (bI .i64 (r13.2.1.length : Int))) (Ev.t 109 (bI .i64 (IntKind.wrap .i64 ((v8.1.length : Int) - 1)))) rfl) rfl rfl rfl ⟨rfl, rfl, trivial⟩ trivial ?_
          refine G.op1 (op_pickF (Ev.t 104 (bB false)) (Ev.t 110 (bB (!decide ((r13.2.1.length : Int) = (IntKind.wrap .i64 ((v8.1.length : Int) - 1)))))) rfl) rfl ⟨rfl, rfl, trivial⟩ trivial ?_
          refine G.endOps ?_
          exact G.arr (J18 (!decide ((r13.2.1.length : Int) = (IntKind.wrap .i64 ((v8.1.length : Int) - 1)))) hF) ⟨rfl, rfl, rfl, rfl, rfl, rfl, rfl, rfl, trivial⟩ ⟨rfl, trivial⟩ rfl
      refine ifS hF (fun hc22 hF => ?_) (fun hc22 hF => ?_)
      · refine G.known (t := 100) hc22 rfl ?_
        refine G.opN1 rfl rfl rfl rfl rfl ?_
        refine G.opN1 rfl rfl rfl rfl rfl ?_
        refine G.op1 (op_pickT (Ev.t 100 (bB true)) (Ev.c _ rfl) rfl) rfl ⟨rfl, trivial⟩ trivial ?_
        exact G.arr (J21 true hF) ⟨rfl, rfl, rfl, rfl, rfl, rfl, rfl, rfl, rfl, trivial⟩ ⟨rfl, trivial⟩ rfl
      · refine G.known (t := 100) hc22 rfl ?_
        refine G.opG1 (op_move (Ev.t 19 (bB r14)) rfl) rfl rfl rfl ⟨rfl, trivial⟩ trivial ?_
        refine G.opG1 (op_not (Ev.t 101 (bB r14)) rfl) rfl rfl rfl ⟨rfl, trivial⟩ trivial ?_
        refine G.op1 (op_pickF (Ev.t 100 (bB false)) (Ev.t 102 (bB (!r14))) rfl) rfl ⟨rfl, rfl, trivial⟩ trivial ?_
        exact G.arr (J21 (!r14) hF) ⟨rfl, rfl, rfl, rfl, rfl, rfl, rfl, rfl, rfl, trivial⟩ ⟨rfl, trivial⟩ rfl
    · refine G.cond rfl (fun hx => by rw [hc12] at hx; cases hx) (fun _ => ?_)
      refine G.exit ?_
      refine GX.c ?_
      refine GX.q ?_
      refine GX.bYes ?_
      exact G.arr (J7 v8.1 hF) ⟨rfl, rfl, trivial⟩ trivial rfl
  refine G.block ?_
  refine G.keep (sl' := [(1, .one (.g (.d (.sl 1 (List.map encI_i64 order_1))))), (5, .one (bB r1)), (6, .one (.g (.d (.sl 6 (List.map encApi_Version r2))))), (7, .one (.g (.d (.sl 6 (List.map encApi_Version ([] : (List Api_Version))))))), (8, .one (.ptr 1008 0)), (9, .one (bI .i64 0))]) (hp' := [(1008, some (.blk 56 (dat (List.flatMap encB (List.replicate 14 false)))))]) ⟨rfl, rfl, rfl, rfl, rfl, rfl, trivial⟩ ⟨rfl, trivial⟩ (by simp only [wellId, List.all_cons, List.all_nil, HE.ids, ids_dat]; rfl) ?_
  refine G.loopF (fun (v24 : (List Api_Version) × Int × (List Bool)) => ⟨[(1, .one (.g (.d (.sl 1 (List.map encI_i64 order_1))))), (5, .one (bB r1)), (6, .one (.g (.d (.sl 6 (List.map encApi_Version r2))))), (7, .one (.g (.d (.sl 6 (List.map encApi_Version v24.1))))), (8, .one (.ptr 1008 0)), (9, .one (bI .i64 v24.2.1))], [(1008, some (.blk 56 (dat (List.flatMap encB v24.2.2))))]⟩) hF rfl (fun K27 again26 v24 J25 hF => ?_)
  unfold law14_QueueAll_l6 at hF
  refine G.seq ?_
  refine G.seq ?_
  refine G.region ?_
  refine G.op1 (op_move (Ev.t 9 (bI .i64 v24.2.1)) rfl) rfl ⟨rfl, trivial⟩ trivial ?_
  refine G.op1 (op_move (Ev.t 1 (.g (.d (.sl 1 (List.map encI_i64 order_1))))) rfl) rfl ⟨rfl, trivial⟩ trivial ?_
  refine G.op1 (OpL.cast (op_lenD Try.underlying55 (Ev.t 24 (.g (.d (.sl 1 (List.map encI_i64 order_1))))) rfl) (by rw [List.length_map])) rfl ⟨rfl, trivial⟩ trivial ?_
  refine G.op1 (op_move (Ev.t 6 (.g (.d (.sl 6 (List.map encApi_Version r2))))) rfl) rfl ⟨rfl, trivial⟩ trivial ?_
  refine G.op1 (OpL.cast (op_lenD Try.underlying24 (Ev.t 26 (.g (.d (.sl 6 (List.map encApi_Version r2))))) rfl) (by rw [List.length_map])) rfl ⟨rfl, trivial⟩ trivial ?_
  refine G.op1 (op_add (Ev.t 25 (bI .i64 (order_1.length : Int))) (Ev.t 27 (bI .i64 (r2.length : Int))) rfl) rfl ⟨rfl, rfl, trivial⟩ trivial ?_
  refine G.op1 (op_lss (Ev.t 23 (bI .i64 v24.2.1)) (Ev.t 28 (bI .i64 (IntKind.wrap .i64 ((order_1.length : Int) + (r2.length : Int))))) rfl) rfl ⟨rfl, rfl, trivial⟩ trivial ?_
  refine G.endOps ?_
  refine ifS hF (fun hc28 hF => ?_) (fun hc28 hF => ?_)
  · refine G.cond rfl (fun _ => ?_) (fun hx => by rw [hc28] at hx; cases hx)
    refine G.skip ?_
    refine G.seq ?_
    refine G.block ?_
    refine G.seq ?_
    refine G.region ?_
    refine G.op1 (op_move (Ev.t 9 (bI .i64 v24.2.1)) rfl) rfl ⟨rfl, trivial⟩ trivial ?_
    refine G.op1 (op_move (Ev.t 1 (.g (.d (.sl 1 (List.map encI_i64 order_1))))) rfl) rfl ⟨rfl, trivial⟩ trivial ?_
    refine G.op1 (OpL.cast (op_lenD Try.underlying55 (Ev.t 33 (.g (.d (.sl 1 (List.map encI_i64 order_1))))) rfl) (by rw [List.length_map])) rfl ⟨rfl, trivial⟩ trivial ?_
    refine G.op1 (op_sub (Ev.t 32 (bI .i64 v24.2.1)) (Ev.t 34 (bI .i64 (order_1.length : Int))) rfl) rfl ⟨rfl, rfl, trivial⟩ trivial ?_
    refine G.op1 (op_assign (Ev.t 35 (bI .i64 (IntKind.wrap .i64 (v24.2.1 - (order_1.length : Int))))) rfl) rfl ⟨rfl, trivial⟩ trivial ?_
    refine G.endOps ?_
    refine G.seq ?_
    refine G.seq ?_
    refine G.joinC (T := Bool) (fun y29 => ⟨[(1, .one (.g (.d (.sl 1 (List.map encI_i64 order_1))))), (5, .one (bB r1)), (6, .one (.g (.d (.sl 6 (List.map encApi_Version r2))))), (7, .one (.g (.d (.sl 6 (List.map encApi_Version v24.1))))), (8, .one (.ptr 1008 0)), (9, .one (bI .i64 v24.2.1)), (10, .one (bI .i64 (IntKind.wrap .i64 (v24.2.1 - (order_1.length : Int))))), (44, .one (bB y29))], [(1008, some (.blk 56 (dat (List.flatMap encB v24.2.2))))]⟩) (fun y29 => law14_QueueAll_k7 order_1 r2 again26 v24 y29 = some r) (fun y29 hF => ?_) (fun J46 => ?_)
    · unfold law14_QueueAll_k7 at hF
      refine G.joinC (T := Int) (fun y30 => ⟨[(1, .one (.g (.d (.sl 1 (List.map encI_i64 order_1))))), (5, .one (bB r1)), (6, .one (.g (.d (.sl 6 (List.map encApi_Version r2))))), (7, .one (.g (.d (.sl 6 (List.map encApi_Version v24.1))))), (8, .one (.ptr 1008 0)), (9, .one (bI .i64 v24.2.1)), (10, .one (bI .i64 y30))], [(1008, some (.blk 56 (dat (List.flatMap encB v24.2.2))))]⟩) (fun y30 => law14_QueueAll_k8 r2 again26 v24 y30 = some r) (fun y30 hF => ?_) (fun J41 => ?_)
      · unfold law14_QueueAll_k8 at hF
        refine G.seq ?_
        refine G.seq ?_
        refine G.joinC (T := Bool) (fun y31 => ⟨[(1, .one (.g (.d (.sl 1 (List.map encI_i64 order_1))))), (5, .one (bB r1)), (6, .one (.g (.d (.sl 6 (List.map encApi_Version r2))))), (7, .one (.g (.d (.sl 6 (List.map encApi_Version v24.1))))), (8, .one (.ptr 1008 0)), (9, .one (bI .i64 v24.2.1)), (10, .one (bI .i64 y30)), (64, .one (bB y31))], [(1008, some (.blk 56 (dat (List.flatMap encB v24.2.2))))]⟩) (fun y31 => law14_QueueAll_k9 r2 again26 v24 y30 y31 = some r) (fun y31 hF => ?_) (fun J38 => ?_)
        · unfold law14_QueueAll_k9 at hF
          refine ifS hF (fun hc32 hF => ?_) (fun hc32 hF => ?_)
          · refine G.cond rfl (fun _ => ?_) (fun hx => by rw [hc32] at hx; cases hx)
            refine G.exit ?_
            refine GX.c ?_
            refine GX.bYes ?_
            refine G.region ?_
            refine G.op1 (op_move (Ev.t 9 (bI .i64 v24.2.1)) rfl) rfl ⟨rfl, trivial⟩ trivial ?_
            refine G.op1 (op_add (Ev.t 30 (bI .i64 v24.2.1)) (Ev.c _ rfl) rfl) rfl ⟨rfl, trivial⟩ trivial ?_
            refine G.op1 (op_assign (Ev.t 31 (bI .i64 (IntKind.wrap .i64 (v24.2.1 + 1)))) rfl) rfl ⟨rfl, trivial⟩ trivial ?_
            refine G.endOps ?_
            exact G.arr (J25 (v24.1, IntKind.wrap .i64 (v24.2.1 + 1), v24.2.2) hF) ⟨rfl, rfl, rfl, rfl, rfl, rfl, trivial⟩ ⟨rfl, trivial⟩ (by simp only [wellId, List.all_cons, List.all_nil, HE.ids, ids_dat]; rfl)
          · refine G.cond rfl (fun hx => by rw [hc32] at hx; cases hx) (fun _ => ?_)
            refine G.skip ?_
            refine G.seq ?_
            refine G.region ?_
            refine G.op1 (op_move (Ev.t 10 (bI .i64 y30)) rfl) rfl ⟨rfl, trivial⟩ trivial ?_
            obtain ⟨x33, hx33, hF⟩ := bindS hF
            refine G.op1 (op_indexA Try.underlying56 ti4 (aidx_ok hx33).1 (aidx_ok hx33).2.1 (Ev.t 8 (.ptr 1008 0)) (Ev.t 65 (bI .i64 y30)) rfl) rfl ⟨rfl, rfl, trivial⟩ trivial ?_
            obtain ⟨a34, ha34, hF⟩ := bindS hF
            refine G.op3 (op_store1 (c := bB true) trivial ti4 (arr_lt1 ha34 (fun _ => rfl)) (arr_set (enc := encB) ha34 (fun _ => rfl)) (Ev.t 66 (.ptr 1008 (Int.toNat y30 * 1))) (Ev.c _ rfl)) rfl ⟨rfl, trivial⟩ ⟨rfl, trivial⟩ ?_
            refine G.endOps ?_
            refine G.seq ?_
            refine G.region ?_
            refine G.op1 (op_move (Ev.t 7 (.g (.d (.sl 6 (List.map encApi_Version v24.1))))) rfl) rfl ⟨rfl, trivial⟩ trivial ?_
            refine G.op1 (op_move (Ev.t 6 (.g (.d (.sl 6 (List.map encApi_Version r2))))) rfl) rfl ⟨rfl, trivial⟩ trivial ?_
            refine G.op1 (op_move (Ev.t 10 (bI .i64 y30)) rfl) rfl ⟨rfl, trivial⟩ trivial ?_
            obtain ⟨x35, hx35, hF⟩ := bindS hF
            refine G.op1 (op_index (cs := [.v (.string x35.Key), .v (.string x35.Value), .v (.bool x35.Gone), .v (.int .i64 x35.Stamp.N), .v (.int .i64 x35.Stamp.Site), .sl 3 (List.map encApi_Dep x35.Past)]) Try.underlying24 ti32 (idx_ok hx35).1 (idx_get hx35 encApi_Version) (Ev.t 69 (.g (.d (.sl 6 (List.map encApi_Version r2))))) (Ev.t 70 (bI .i64 y30)) rfl) rfl ⟨rfl, rfl, trivial⟩ trivial ?_
            refine G.op1 (op_loadAE (ds := [.v (.string x35.Key), .v (.string x35.Value), .v (.bool x35.Gone), .v (.int .i64 x35.Stamp.N), .v (.int .i64 x35.Stamp.Site), .sl 3 (List.map encApi_Dep x35.Past)]) Try.underlying32 rfl ti32 rfl (Ev.t 71 (.ep [.v (.string x35.Key), .v (.string x35.Value), .v (.bool x35.Gone), .v (.int .i64 x35.Stamp.N), .v (.int .i64 x35.Stamp.Site), .sl 3 (List.map encApi_Dep x35.Past)])) rfl) rfl ⟨rfl, trivial⟩ trivial ?_
            obtain ⟨r36, hr36, hF⟩ := bindS hF
            refine G.op1 (op_call (sv := .tup [.g (.d (.sl 6 (List.map encApi_Version r36.1))), bI .i64 r36.2]) cf24 (ct_queue_Push v24.1 x35 r36 hr36) rfl (EvL.cons (Ev.t 68 (.g (.d (.sl 6 (List.map encApi_Version v24.1))))) (EvL.cons (Ev.t 72 (.g (.agg [.v (.string x35.Key), .v (.string x35.Value), .v (.bool x35.Gone), .v (.int .i64 x35.Stamp.N), .v (.int .i64 x35.Stamp.Site), .sl 3 (List.map encApi_Dep x35.Past)]))) EvL.nil)) rfl) rfl ⟨rfl, rfl, trivial⟩ trivial ?_
            refine G.op1 (op_moveS (t := 73) (sv := .tup [.g (.d (.sl 6 (List.map encApi_Version r36.1))), bI .i64 r36.2]) rfl) rfl ⟨rfl, trivial⟩ trivial ?_
            refine G.op1 (op_extract (l := [.g (.d (.sl 6 (List.map encApi_Version r36.1))), bI .i64 r36.2]) (c := .g (.d (.sl 6 (List.map encApi_Version r36.1)))) rfl rfl) rfl ⟨rfl, trivial⟩ trivial ?_
            refine G.op1 (op_extract (l := [.g (.d (.sl 6 (List.map encApi_Version r36.1))), bI .i64 r36.2]) (c := bI .i64 r36.2) rfl rfl) rfl ⟨rfl, trivial⟩ trivial ?_
            refine G.op1 (op_assign (Ev.t 74 (.g (.d (.sl 6 (List.map encApi_Version r36.1))))) rfl) rfl ⟨rfl, trivial⟩ trivial ?_
            refine G.op1 (op_assign (Ev.t 75 (bI .i64 r36.2)) rfl) rfl ⟨rfl, trivial⟩ trivial ?_
            refine G.endOps ?_
            refine G.seq ?_
            refine G.seq ?_
            refine G.region ?_
            refine G.op1 (op_move (Ev.t 12 (bI .i64 r36.2)) rfl) rfl ⟨rfl, trivial⟩ trivial ?_
            refine G.op1 (op_neI (Ev.t 76 (bI .i64 r36.2)) (Ev.c _ rfl) rfl) rfl ⟨rfl, trivial⟩ trivial ?_
            refine G.endOps ?_
            refine ifS hF (fun hc37 hF => ?_) (fun hc37 hF => ?_)
            · refine G.cond rfl (fun _ => ?_) (fun hx => by rw [hc37] at hx; cases hx)
              refine G.seq ?_
              refine G.region ?_
              refine G.op1 (op_assign (Ev.c _ rfl) rfl) rfl trivial trivial ?_
              refine G.endOps ?_
              cases hF
              exact G.ret1 Try.results6 (RVar.tmp 4 _) ⟨rfl, trivial⟩ trivial
            · refine G.cond rfl (fun hx => by rw [hc37] at hx; cases hx) (fun _ => ?_)
              refine G.skip ?_
              refine G.region ?_
              refine G.op1 (op_move (Ev.t 11 (.g (.d (.sl 6 (List.map encApi_Version r36.1))))) rfl) rfl ⟨rfl, trivial⟩ trivial ?_
              refine G.op1 (op_assign (Ev.t 78 (.g (.d (.sl 6 (List.map encApi_Version r36.1))))) rfl) rfl ⟨rfl, trivial⟩ trivial ?_
              refine G.endOps ?_
              refine G.endBlock ?_
              refine G.region ?_
              refine G.op1 (op_move (Ev.t 9 (bI .i64 v24.2.1)) rfl) rfl ⟨rfl, trivial⟩ trivial ?_
              refine G.op1 (op_add (Ev.t 30 (bI .i64 v24.2.1)) (Ev.c _ rfl) rfl) rfl ⟨rfl, trivial⟩ trivial ?_
              refine G.op1 (op_assign (Ev.t 31 (bI .i64 (IntKind.wrap .i64 (v24.2.1 + 1)))) rfl) rfl ⟨rfl, trivial⟩ trivial ?_
              refine G.endOps ?_
              exact G.arr (J25 (r36.1, IntKind.wrap .i64 (v24.2.1 + 1), a34) hF) ⟨rfl, rfl, rfl, rfl, rfl, rfl, trivial⟩ ⟨rfl, trivial⟩ (by simp only [wellId, List.all_cons, List.all_nil, HE.ids, ids_dat]; rfl)
        refine G.region ?_
        refine G.op1 (op_move (Ev.t 10 (bI .i64 y30)) rfl) rfl ⟨rfl, trivial⟩ trivial ?_
        refine G.op1 (op_lss (Ev.t 58 (bI .i64 y30)) (Ev.c _ rfl) rfl) rfl ⟨rfl, trivial⟩ trivial ?_
        refine G.op1 (op_move (Ev.t 59 (bB (decide (y30 < 0)))) rfl) rfl ⟨rfl, trivial⟩ trivial ?_
        refine ifS hF (fun hc39 hF => ?_) (fun hc39 hF => ?_)
        · refine G.known (t := 60) hc39 rfl ?_
          refine G.opN1 rfl rfl rfl rfl rfl ?_
          refine G.opN1 rfl rfl rfl rfl rfl ?_
          refine G.opN1 rfl rfl rfl rfl rfl ?_
          refine G.op1 (op_pickT (Ev.t 60 (bB true)) (Ev.c _ rfl) rfl) rfl ⟨rfl, trivial⟩ trivial ?_
          refine G.endOps ?_
          exact G.arr (J38 true hF) ⟨rfl, rfl, rfl, rfl, rfl, rfl, rfl, rfl, trivial⟩ ⟨rfl, trivial⟩ (by simp only [wellId, List.all_cons, List.all_nil, HE.ids, ids_dat]; rfl)
        · refine G.known (t := 60) hc39 rfl ?_
          refine G.opG1 (op_move (Ev.t 10 (bI .i64 y30)) rfl) rfl rfl rfl ⟨rfl, trivial⟩ trivial ?_
          obtain ⟨x40, hx40, hF⟩ := bindS hF
          refine G.opG1 (op_indexA Try.underlying56 ti4 (aidx_ok hx40).1 (aidx_ok hx40).2.1 (Ev.t 8 (.ptr 1008 0)) (Ev.t 61 (bI .i64 y30)) rfl) rfl rfl rfl ⟨rfl, rfl, trivial⟩ trivial ?_
          refine G.opG1 (op_load1P (c := bB x40) Try.underlying4 rfl (arr_at1 hx40 (fun _ => rfl) rfl) (Ev.t 62 (.ptr 1008 (Int.toNat y30 * 1))) rfl) rfl rfl rfl ⟨rfl, trivial⟩ ⟨rfl, trivial⟩ ?_
          refine G.op1 (op_pickF (Ev.t 60 (bB false)) (Ev.t 63 (bB x40)) rfl) rfl ⟨rfl, rfl, trivial⟩ trivial ?_
          refine G.endOps ?_
          exact G.arr (J38 x40 hF) ⟨rfl, rfl, rfl, rfl, rfl, rfl, rfl, rfl, trivial⟩ ⟨rfl, trivial⟩ (by simp only [wellId, List.all_cons, List.all_nil, HE.ids, ids_dat]; rfl)
      refine ifS hF (fun hc42 hF => ?_) (fun hc42 hF => ?_)
      · refine G.cond rfl (fun _ => ?_) (fun hx => by rw [hc42] at hx; cases hx)
        refine G.region ?_
        refine G.op1 (op_move (Ev.t 1 (.g (.d (.sl 1 (List.map encI_i64 order_1))))) rfl) rfl ⟨rfl, trivial⟩ trivial ?_
        refine G.op1 (op_move (Ev.t 9 (bI .i64 v24.2.1)) rfl) rfl ⟨rfl, trivial⟩ trivial ?_
        obtain ⟨x43, hx43, hF⟩ := bindS hF
        refine G.op1 (op_index (cs := [.v (.int .i64 x43)]) Try.underlying55 ti3 (idx_ok hx43).1 (idx_get hx43 encI_i64) (Ev.t 45 (.g (.d (.sl 1 (List.map encI_i64 order_1))))) (Ev.t 46 (bI .i64 v24.2.1)) rfl) rfl ⟨rfl, rfl, trivial⟩ trivial ?_
        refine G.op1 (op_load1E (c := .v (.int .i64 x43)) Try.underlying3 rfl rfl (Ev.t 47 (.ep [.v (.int .i64 x43)])) rfl) rfl ⟨rfl, trivial⟩ trivial ?_
        refine G.op1 (op_move (Ev.t 6 (.g (.d (.sl 6 (List.map encApi_Version r2))))) rfl) rfl ⟨rfl, trivial⟩ trivial ?_
        refine G.op1 (OpL.cast (op_lenD Try.underlying24 (Ev.t 49 (.g (.d (.sl 6 (List.map encApi_Version r2))))) rfl) (by rw [List.length_map])) rfl ⟨rfl, trivial⟩ trivial ?_
        obtain ⟨hz44, hF⟩ := chkS hF
        refine G.op1 (op_rem (by simpa using hz44) (Ev.t 48 (bI .i64 x43)) (Ev.t 50 (bI .i64 (r2.length : Int))) rfl) rfl ⟨rfl, rfl, trivial⟩ trivial ?_
        refine G.op1 (op_move (Ev.t 6 (.g (.d (.sl 6 (List.map encApi_Version r2))))) rfl) rfl ⟨rfl, trivial⟩ trivial ?_
        refine G.op1 (OpL.cast (op_lenD Try.underlying24 (Ev.t 52 (.g (.d (.sl 6 (List.map encApi_Version r2))))) rfl) (by rw [List.length_map])) rfl ⟨rfl, trivial⟩ trivial ?_
        refine G.op1 (op_add (Ev.t 51 (bI .i64 (Int.tmod x43 (r2.length : Int)))) (Ev.t 53 (bI .i64 (r2.length : Int))) rfl) rfl ⟨rfl, rfl, trivial⟩ trivial ?_
        refine G.op1 (op_move (Ev.t 6 (.g (.d (.sl 6 (List.map encApi_Version r2))))) rfl) rfl ⟨rfl, trivial⟩ trivial ?_
        refine G.op1 (OpL.cast (op_lenD Try.underlying24 (Ev.t 55 (.g (.d (.sl 6 (List.map encApi_Version r2))))) rfl) (by rw [List.length_map])) rfl ⟨rfl, trivial⟩ trivial ?_
        obtain ⟨hz45, hF⟩ := chkS hF
        refine G.op1 (op_rem (by simpa using hz45) (Ev.t 54 (bI .i64 (IntKind.wrap .i64 ((Int.tmod x43 (r2.length : Int)) + (r2.length : Int))))) (Ev.t 56 (bI .i64 (r2.length : Int))) rfl) rfl ⟨rfl, rfl, trivial⟩ trivial ?_
        refine G.op1 (op_assign (Ev.t 57 (bI .i64 (Int.tmod (IntKind.wrap .i64 ((Int.tmod x43 (r2.length : Int)) + (r2.length : Int))) (r2.length : Int)))) rfl) rfl ⟨rfl, trivial⟩ trivial ?_
        refine G.endOps ?_
        exact G.arr (J41 (Int.tmod (IntKind.wrap .i64 ((Int.tmod x43 (r2.length : Int)) + (r2.length : Int))) (r2.length : Int)) hF) ⟨rfl, rfl, rfl, rfl, rfl, rfl, rfl, trivial⟩ ⟨rfl, trivial⟩ (by simp only [wellId, List.all_cons, List.all_nil, HE.ids, ids_dat]; rfl)
      · refine G.cond rfl (fun hx => by rw [hc42] at hx; cases hx) (fun _ => ?_)
        refine G.skip ?_
        exact G.arr (J41 (IntKind.wrap .i64 (v24.2.1 - (order_1.length : Int))) hF) ⟨rfl, rfl, rfl, rfl, rfl, rfl, rfl, trivial⟩ ⟨rfl, trivial⟩ (by simp only [wellId, List.all_cons, List.all_nil, HE.ids, ids_dat]; rfl)
    refine G.region ?_
    refine G.op1 (op_move (Ev.t 9 (bI .i64 v24.2.1)) rfl) rfl ⟨rfl, trivial⟩ trivial ?_
    refine G.op1 (op_move (Ev.t 1 (.g (.d (.sl 1 (List.map encI_i64 order_1))))) rfl) rfl ⟨rfl, trivial⟩ trivial ?_
    refine G.op1 (OpL.cast (op_lenD Try.underlying55 (Ev.t 37 (.g (.d (.sl 1 (List.map encI_i64 order_1))))) rfl) (by rw [List.length_map])) rfl ⟨rfl, trivial⟩ trivial ?_
    refine G.op1 (op_lss (Ev.t 36 (bI .i64 v24.2.1)) (Ev.t 38 (bI .i64 (order_1.length : Int))) rfl) rfl ⟨rfl, rfl, trivial⟩ trivial ?_
    refine G.op1 (op_move (Ev.t 39 (bB (decide (v24.2.1 < (order_1.length : Int))))) rfl) rfl ⟨rfl, trivial⟩ trivial ?_
    refine ifS hF (fun hc47 hF => ?_) (fun hc47 hF => ?_)
    · refine G.known (t := 40) hc47 rfl ?_
      refine G.opG1 (op_move (Ev.t 6 (.g (.d (.sl 6 (List.map encApi_Version r2))))) rfl) rfl rfl rfl ⟨rfl, trivial⟩ trivial ?_
      refine G.opG1 (OpL.cast (op_lenD Try.underlying24 (Ev.t 41 (.g (.d (.sl 6 (List.map encApi_Version r2))))) rfl) (by rw [List.length_map])) rfl rfl rfl ⟨rfl, trivial⟩ trivial ?_
      refine G.opG1 (op_gtr (Ev.t 42 (bI .i64 (r2.length : Int))) (Ev.c _ rfl) rfl) rfl rfl rfl ⟨rfl, trivial⟩ trivial ?_
      refine G.op1 (op_pickT (Ev.t 40 (bB true)) (Ev.t 43 (bB (decide (0 < (r2.length : Int))))) rfl) rfl ⟨rfl, rfl, trivial⟩ trivial ?_
      refine G.endOps ?_
      exact G.arr (J46 (decide (0 < (r2.length : Int))) hF) ⟨rfl, rfl, rfl, rfl, rfl, rfl, rfl, rfl, trivial⟩ ⟨rfl, trivial⟩ (by simp only [wellId, List.all_cons, List.all_nil, HE.ids, ids_dat]; rfl)
    · refine G.known (t := 40) hc47 rfl ?_
      refine G.opN1 rfl rfl rfl rfl rfl ?_
      refine G.opN1 rfl rfl rfl rfl rfl ?_
      refine G.opN1 rfl rfl rfl rfl rfl ?_
      refine G.op1 (op_pickF (Ev.t 40 (bB false)) (Ev.c _ rfl) rfl) rfl ⟨rfl, trivial⟩ trivial ?_
      refine G.endOps ?_
      exact G.arr (J46 false hF) ⟨rfl, rfl, rfl, rfl, rfl, rfl, rfl, rfl, trivial⟩ ⟨rfl, trivial⟩ (by simp only [wellId, List.all_cons, List.all_nil, HE.ids, ids_dat]; rfl)
  · refine G.cond rfl (fun hx => by rw [hc28] at hx; cases hx) (fun _ => ?_)
    refine G.exit ?_
    refine GX.c ?_
    refine GX.q ?_
    refine GX.bYes ?_
    exact G.arr (J23 v24.1 hF) ⟨rfl, rfl, rfl, trivial⟩ trivial rfl


end Go.Ark
