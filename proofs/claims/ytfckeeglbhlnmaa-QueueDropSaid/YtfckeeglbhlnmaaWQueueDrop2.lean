/- Walks, printed by a program of mine: each function of the program computes the typed function of its name. Conditions: none. -/
import Derived.Test.YtfckeeglbhlnmaaWQueueDrop1
namespace Go.Ark
open Go Go.Ab Go.Proofs

set_option maxRecDepth 20000 in
set_option maxHeartbeats 2000000 in
theorem ct_law14_made (l_0 : (List Law14_Write)) (r : (List Api_Version)) (hF : law14_made l_0 = some r) : Ct Try.prog 10 [.g (.d (.sl 3 (List.map encLaw14_Write l_0)))] (.one (.d (.sl 6 (List.map encApi_Version r)))) := by
  unfold law14_made at hF
  refine Ct.intro Try.func10 rfl Try.ntmps10 rfl rfl fun M w => ?_
  refine G.seq ?_
  refine G.region ?_
  refine G.op1 (op_assign (Ev.n 6) rfl) rfl trivial trivial ?_
  refine G.endOps ?_
  refine G.seq ?_
  refine G.region ?_
  refine G.op2 (op_assignRow (E := 32) (size := 6) (k := 2003) (ex := false) rfl rfl) rfl trivial ⟨rfl, trivial⟩ ?_
  refine G.endOps ?_
  refine G.seq ?_
  refine G.seq ?_
  refine G.region ?_
  refine G.op1 (op_assign (Ev.c _ rfl) rfl) rfl trivial trivial ?_
  refine G.endOps ?_
  refine G.joinC (T := (List Api_Version)) (fun y1 => ⟨[(3, .one (.own 2003 (List.map encApi_Version y1)))], [(2003, some (.row 32 6 (List.map encApi_Version y1) false))]⟩) (fun y1 => law14_made_k1 y1 = some r) (fun y1 hF => ?_) (fun J2 => ?_)
  · unfold law14_made_k1 at hF
    refine G.seq ?_
    refine G.region ?_
    refine G.op1 (op_move (Ev.t 3 (.own 2003 (List.map encApi_Version y1))) rfl) rfl ⟨rfl, trivial⟩ trivial ?_
    refine G.op1 (op_assign (Ev.t 141 (.own 2003 (List.map encApi_Version y1))) rfl) rfl ⟨rfl, trivial⟩ trivial ?_
    refine G.endOps ?_
    refine G.view (t := 2) rfl rfl ?_
    cases hF
    exact G.ret1 Try.results10 (RVar.tmp 2 _) ⟨rfl, trivial⟩ trivial
  refine G.block ?_
  refine G.keep (sl' := [(0, .one (.g (.d (.sl 3 (List.map encLaw14_Write l_0))))), (3, .one (.own 2003 (List.map encApi_Version ([] : (List Api_Version))))), (4, .one (bI .i64 0))]) (hp' := [(2003, some (.row 32 6 (List.map encApi_Version ([] : (List Api_Version))) false))]) ⟨rfl, rfl, rfl, trivial⟩ ⟨rfl, trivial⟩ rfl ?_
  refine G.loopF (fun (v3 : Int × (List Api_Version)) => ⟨[(0, .one (.g (.d (.sl 3 (List.map encLaw14_Write l_0))))), (3, .one (.own 2003 (List.map encApi_Version v3.2))), (4, .one (bI .i64 v3.1))], [(2003, some (.row 32 6 (List.map encApi_Version v3.2) false))]⟩) hF rfl (fun K6 again5 v3 J4 hF => ?_)
  unfold law14_made_l2 at hF
  refine G.seq ?_
  refine G.seq ?_
  refine G.joinC (T := Bool) (fun y7 => ⟨[(0, .one (.g (.d (.sl 3 (List.map encLaw14_Write l_0))))), (3, .one (.own 2003 (List.map encApi_Version v3.2))), (4, .one (bI .i64 v3.1)), (20, .one (bB y7))], [(2003, some (.row 32 6 (List.map encApi_Version v3.2) false))]⟩) (fun y7 => law14_made_k3 l_0 again5 v3 y7 = some r) (fun y7 hF => ?_) (fun J55 => ?_)
  · unfold law14_made_k3 at hF
    refine ifS hF (fun hc8 hF => ?_) (fun hc8 hF => ?_)
    · refine G.cond rfl (fun _ => ?_) (fun hx => by rw [hc8] at hx; cases hx)
      refine G.skip ?_
      refine G.seq ?_
      refine G.joinC (T := (List Api_Version)) (fun y9 => ⟨[(0, .one (.g (.d (.sl 3 (List.map encLaw14_Write l_0))))), (3, .one (.own 2003 (List.map encApi_Version y9))), (4, .one (bI .i64 v3.1))], [(2003, some (.row 32 6 (List.map encApi_Version y9) false))]⟩) (fun y9 => law14_made_k4 again5 v3 y9 = some r) (fun y9 hF => ?_) (fun J10 => ?_)
      · unfold law14_made_k4 at hF
        refine G.region ?_
        refine G.op1 (op_move (Ev.t 4 (bI .i64 v3.1)) rfl) rfl ⟨rfl, trivial⟩ trivial ?_
        refine G.op1 (op_add (Ev.t 21 (bI .i64 v3.1)) (Ev.c _ rfl) rfl) rfl ⟨rfl, trivial⟩ trivial ?_
        refine G.op1 (op_assign (Ev.t 22 (bI .i64 (IntKind.wrap .i64 (v3.1 + 1)))) rfl) rfl ⟨rfl, trivial⟩ trivial ?_
        refine G.endOps ?_
        exact G.arr (J4 (IntKind.wrap .i64 (v3.1 + 1), y9) hF) ⟨rfl, rfl, rfl, trivial⟩ ⟨rfl, trivial⟩ rfl
      refine G.block ?_
      refine G.seq ?_
      refine G.region ?_
      refine G.op1 (op_assign (Ev.n 3) rfl) rfl trivial trivial ?_
      refine G.endOps ?_
      refine G.seq ?_
      refine G.region ?_
      refine G.op1 (op_assign (Ev.c _ rfl) rfl) rfl trivial trivial ?_
      refine G.endOps ?_
      refine G.seq ?_
      refine G.seq ?_
      refine G.region ?_
      refine G.op1 (op_assign (Ev.c _ rfl) rfl) rfl trivial trivial ?_
      refine G.endOps ?_
      refine G.joinC (T := (List Api_Dep)) (fun y11 => ⟨[(0, .one (.g (.d (.sl 3 (List.map encLaw14_Write l_0))))), (3, .one (.own 2003 (List.map encApi_Version v3.2))), (4, .one (bI .i64 v3.1)), (5, .one (.g (.d (.sl 3 (List.map encApi_Dep y11))))), (6, .one (bI .i64 0))], [(2003, some (.row 32 6 (List.map encApi_Version v3.2) false))]⟩) (fun y11 => law14_made_k5 l_0 again5 v3 y11 = some r) (fun y11 hF => ?_) (fun J38 => ?_)
      · unfold law14_made_k5 at hF
        refine G.seq ?_
        refine G.seq ?_
        refine G.region ?_
        refine G.op1 (op_assign (Ev.c _ rfl) rfl) rfl trivial trivial ?_
        refine G.endOps ?_
        refine G.joinC (T := Int) (fun y12 => ⟨[(0, .one (.g (.d (.sl 3 (List.map encLaw14_Write l_0))))), (3, .one (.own 2003 (List.map encApi_Version v3.2))), (4, .one (bI .i64 v3.1)), (5, .one (.g (.d (.sl 3 (List.map encApi_Dep y11))))), (6, .one (bI .i64 y12))], [(2003, some (.row 32 6 (List.map encApi_Version v3.2) false))]⟩) (fun y12 => law14_made_k6 l_0 again5 v3 y11 y12 = some r) (fun y12 hF => ?_) (fun J29 => ?_)
        · unfold law14_made_k6 at hF
          refine G.seq ?_
          obtain ⟨x13, hx13, hF⟩ := bindS hF
          obtain ⟨r14, hr14, hF⟩ := bindS hF
          obtain ⟨x15, hx15, hF⟩ := bindS hF
          refine G.drawn (effs := [⟨[(0, .one (.g (.d (.sl 3 (List.map encLaw14_Write l_0)))))], [], [(91, .one (.g (.d (.sl 3 (List.map encLaw14_Write l_0)))))], []⟩, ⟨[(4, .one (bI .i64 v3.1))], [], [(92, .one (bI .i64 v3.1))], []⟩, ⟨[(91, .one (.g (.d (.sl 3 (List.map encLaw14_Write l_0))))), (92, .one (bI .i64 v3.1))], [], [(93, .one (.ep [.v (.int .i64 x13.Key), .v (.int .i64 x13.Site), .sl 1 (List.map encI_i64 x13.Saw)]))], []⟩, ⟨[(93, .one (.ep [.v (.int .i64 x13.Key), .v (.int .i64 x13.Site), .sl 1 (List.map encI_i64 x13.Saw)]))], [], [(94, .one (.ep [.v (.int .i64 x13.Key), .v (.int .i64 x13.Site), .sl 1 (List.map encI_i64 x13.Saw)]))], []⟩, ⟨[(94, .one (.ep [.v (.int .i64 x13.Key), .v (.int .i64 x13.Site), .sl 1 (List.map encI_i64 x13.Saw)]))], [], [(95, .one (bI .i64 x13.Key))], []⟩, ⟨[(95, .one (bI .i64 x13.Key))], [], [(96, .one (bS r14))], []⟩, ⟨[(6, .one (bI .i64 y12))], [], [(97, .one (bI .i64 y12))], []⟩, ⟨[(97, .one (bI .i64 y12))], [], [(98, .one (bI .i64 (IntKind.wrap .i64 (y12 + 1))))], []⟩, ⟨[(0, .one (.g (.d (.sl 3 (List.map encLaw14_Write l_0)))))], [], [(99, .one (.g (.d (.sl 3 (List.map encLaw14_Write l_0)))))], []⟩, ⟨[(4, .one (bI .i64 v3.1))], [], [(100, .one (bI .i64 v3.1))], []⟩, ⟨[(99, .one (.g (.d (.sl 3 (List.map encLaw14_Write l_0))))), (100, .one (bI .i64 v3.1))], [], [(101, .one (.ep [.v (.int .i64 x15.Key), .v (.int .i64 x15.Site), .sl 1 (List.map encI_i64 x15.Saw)]))], []⟩, ⟨[(101, .one (.ep [.v (.int .i64 x15.Key), .v (.int .i64 x15.Site), .sl 1 (List.map encI_i64 x15.Saw)]))], [], [(102, .one (.ep [.v (.int .i64 x15.Site), .sl 1 (List.map encI_i64 x15.Saw)]))], []⟩, ⟨[(102, .one (.ep [.v (.int .i64 x15.Site), .sl 1 (List.map encI_i64 x15.Saw)]))], [], [(103, .one (bI .i64 x15.Site))], []⟩, ⟨[(103, .one (bI .i64 x15.Site))], [], [(104, .one (bI .i64 (IntKind.wrap .i64 (BitVec.ofInt (IntKind.bits .i64) x15.Site &&& BitVec.ofInt (IntKind.bits .i64) 3).toNat)))], []⟩, ⟨[(98, .one (bI .i64 (IntKind.wrap .i64 (y12 + 1)))), (104, .one (bI .i64 (IntKind.wrap .i64 (BitVec.ofInt (IntKind.bits .i64) x15.Site &&& BitVec.ofInt (IntKind.bits .i64) 3).toNat)))], [], [(105, .one (.g (.agg [.v (.int .i64 (IntKind.wrap .i64 (y12 + 1))), .v (.int .i64 (IntKind.wrap .i64 (BitVec.ofInt (IntKind.bits .i64) x15.Site &&& BitVec.ofInt (IntKind.bits .i64) 3).toNat))])))], []⟩, ⟨[(5, .one (.g (.d (.sl 3 (List.map encApi_Dep y11)))))], [], [(106, .one (.g (.d (.sl 3 (List.map encApi_Dep y11)))))], []⟩, ⟨[(96, .one (bS r14)), (105, .one (.g (.agg [.v (.int .i64 (IntKind.wrap .i64 (y12 + 1))), .v (.int .i64 (IntKind.wrap .i64 (BitVec.ofInt (IntKind.bits .i64) x15.Site &&& BitVec.ofInt (IntKind.bits .i64) 3).toNat))]))), (106, .one (.g (.d (.sl 3 (List.map encApi_Dep y11)))))], [], [(107, .one (.g (.agg [.v (.string r14), .v (.string ByteArray.empty), .v (.bool false), .v (.int .i64 (IntKind.wrap .i64 (y12 + 1))), .v (.int .i64 (IntKind.wrap .i64 (BitVec.ofInt (IntKind.bits .i64) x15.Site &&& BitVec.ofInt (IntKind.bits .i64) 3).toNat)), .sl 3 (List.map encApi_Dep y11)])))], []⟩, ⟨[], [(1010, none)], [(10, .one (.ptr 1010 0))], [(1010, some (.blk 32 [bS ByteArray.empty, bS ByteArray.empty, bB false, bI .i64 0, bI .i64 0, .g (.d (.sl 3 (List.map encApi_Dep ([] : (List Api_Dep)))))]))]⟩, ⟨[(10, .one (.ptr 1010 0)), (107, .one (.g (.agg [.v (.string r14), .v (.string ByteArray.empty), .v (.bool false), .v (.int .i64 (IntKind.wrap .i64 (y12 + 1))), .v (.int .i64 (IntKind.wrap .i64 (BitVec.ofInt (IntKind.bits .i64) x15.Site &&& BitVec.ofInt (IntKind.bits .i64) 3).toNat)), .sl 3 (List.map encApi_Dep y11)])))], [(1010, some (.blk 32 [bS ByteArray.empty, bS ByteArray.empty, bB false, bI .i64 0, bI .i64 0, .g (.d (.sl 3 (List.map encApi_Dep ([] : (List Api_Dep)))))]))], [], [(1010, some (.blk 32 [bS r14, bS ByteArray.empty, bB false, bI .i64 (IntKind.wrap .i64 (y12 + 1)), bI .i64 (IntKind.wrap .i64 (BitVec.ofInt (IntKind.bits .i64) x15.Site &&& BitVec.ofInt (IntKind.bits .i64) 3).toNat), .g (.d (.sl 3 (List.map encApi_Dep y11)))]))]⟩]) (deps := [[], [], [0, 1], [0, 1, 2], [0, 1, 2, 3], [0, 1, 2, 3, 4], [], [6], [], [], [8, 9], [8, 9, 10], [8, 9, 10, 11], [8, 9, 10, 11, 12], [6, 7, 8, 9, 10, 11, 12, 13], [], [0, 1, 2, 3, 4, 5, 6, 7, 8, 9, 10, 11, 12, 13, 14, 15], [], [0, 1, 2, 3, 4, 5, 6, 7, 8, 9, 10, 11, 12, 13, 14, 15, 16, 17]]) (sl' := [(0, .one (.g (.d (.sl 3 (List.map encLaw14_Write l_0))))), (3, .one (.own 2003 (List.map encApi_Version v3.2))), (4, .one (bI .i64 v3.1)), (10, .one (.ptr 1010 0))]) (hp' := [(1010, some (.blk 32 [bS r14, bS ByteArray.empty, bB false, bI .i64 (IntKind.wrap .i64 (y12 + 1)), bI .i64 (IntKind.wrap .i64 (BitVec.ofInt (IntKind.bits .i64) x15.Site &&& BitVec.ofInt (IntKind.bits .i64) 3).toNat), .g (.d (.sl 3 (List.map encApi_Dep y11)))])), (2003, some (.row 32 6 (List.map encApi_Version v3.2) false))]) follows rfl rfl rfl ⟨⟨rfl, trivial⟩, trivial, ⟨rfl, trivial⟩, trivial, ⟨rfl, rfl, trivial⟩, trivial, ⟨rfl, trivial⟩, trivial, ⟨rfl, trivial⟩, trivial, ⟨rfl, trivial⟩, trivial, ⟨rfl, trivial⟩, trivial, ⟨rfl, trivial⟩, trivial, ⟨rfl, trivial⟩, trivial, ⟨rfl, trivial⟩, trivial, ⟨rfl, rfl, trivial⟩, trivial, ⟨rfl, trivial⟩, trivial, ⟨rfl, trivial⟩, trivial, ⟨rfl, trivial⟩, trivial, ⟨rfl, rfl, trivial⟩, trivial, ⟨rfl, trivial⟩, trivial, ⟨rfl, rfl, rfl, trivial⟩, trivial, trivial, ⟨⟨rfl, rfl⟩, trivial⟩, ⟨rfl, rfl, trivial⟩, ⟨⟨rfl, rfl⟩, trivial⟩, trivial⟩ ⟨OpW.plain (op_move (Ev.t 0 (.g (.d (.sl 3 (List.map encLaw14_Write l_0))))) rfl) rfl rfl, OpW.plain (op_move (Ev.t 4 (bI .i64 v3.1)) rfl) rfl rfl, OpW.plain (op_index (cs := [.v (.int .i64 x13.Key), .v (.int .i64 x13.Site), .sl 1 (List.map encI_i64 x13.Saw)]) Try.underlying22 ti70 (idx_ok hx13).1 (idx_get hx13 encLaw14_Write) (Ev.t 91 (.g (.d (.sl 3 (List.map encLaw14_Write l_0))))) (Ev.t 92 (bI .i64 v3.1)) rfl) rfl rfl, OpW.plain (op_fieldE (cs' := [.v (.int .i64 x13.Key), .v (.int .i64 x13.Site), .sl 1 (List.map encI_i64 x13.Saw)]) Try.underlying70 rfl ti3 (by decide) rfl (Ev.t 93 (.ep [.v (.int .i64 x13.Key), .v (.int .i64 x13.Site), .sl 1 (List.map encI_i64 x13.Saw)])) rfl) rfl rfl, OpW.plain (op_load1E (c := .v (.int .i64 x13.Key)) Try.underlying3 rfl rfl (Ev.t 94 (.ep [.v (.int .i64 x13.Key), .v (.int .i64 x13.Site), .sl 1 (List.map encI_i64 x13.Saw)])) rfl) rfl rfl, OpW.plain (op_callQ (sv := .one (bS r14)) cf32 (ct_law14_word x13.Key r14 hr14) rfl rfl (EvQL.cons (EvQ.g (Ev.t 95 (bI .i64 x13.Key))) EvQL.nil) rfl) rfl rfl, OpW.plain (op_move (Ev.t 6 (bI .i64 y12)) rfl) rfl rfl, OpW.plain (op_add (Ev.t 97 (bI .i64 y12)) (Ev.c _ rfl) rfl) rfl rfl, OpW.plain (op_move (Ev.t 0 (.g (.d (.sl 3 (List.map encLaw14_Write l_0))))) rfl) rfl rfl, OpW.plain (op_move (Ev.t 4 (bI .i64 v3.1)) rfl) rfl rfl, OpW.plain (op_index (cs := [.v (.int .i64 x15.Key), .v (.int .i64 x15.Site), .sl 1 (List.map encI_i64 x15.Saw)]) Try.underlying22 ti70 (idx_ok hx15).1 (idx_get hx15 encLaw14_Write) (Ev.t 99 (.g (.d (.sl 3 (List.map encLaw14_Write l_0))))) (Ev.t 100 (bI .i64 v3.1)) rfl) rfl rfl, OpW.plain (op_fieldE (cs' := [.v (.int .i64 x15.Site), .sl 1 (List.map encI_i64 x15.Saw)]) Try.underlying70 rfl ti3 (by decide) rfl (Ev.t 101 (.ep [.v (.int .i64 x15.Key), .v (.int .i64 x15.Site), .sl 1 (List.map encI_i64 x15.Saw)])) rfl) rfl rfl, OpW.plain (op_load1E (c := .v (.int .i64 x15.Site)) Try.underlying3 rfl rfl (Ev.t 102 (.ep [.v (.int .i64 x15.Site), .sl 1 (List.map encI_i64 x15.Saw)])) rfl) rfl rfl, OpW.plain (op_and (Ev.t 103 (bI .i64 x15.Site)) (Ev.c _ rfl) rfl) rfl rfl, OpW.plain (op_build (zs := [.v (.int .i64 0), .v (.int .i64 0)]) (ds := [.v (.int .i64 (IntKind.wrap .i64 (y12 + 1))), .v (.int .i64 (IntKind.wrap .i64 (BitVec.ofInt (IntKind.bits .i64) x15.Site &&& BitVec.ofInt (IntKind.bits .i64) 3).toNat))]) Try.underlying29 ti29 (pl29 _ Try.underlying29) ⟨.v _ rfl, .v _ rfl, trivial⟩ (EvP.cons (Ev.t 98 (bI .i64 (IntKind.wrap .i64 (y12 + 1)))) (EvP.cons (Ev.t 104 (bI .i64 (IntKind.wrap .i64 (BitVec.ofInt (IntKind.bits .i64) x15.Site &&& BitVec.ofInt (IntKind.bits .i64) 3).toNat))) EvP.nil)) rfl rfl) rfl rfl, OpW.plain (op_move (Ev.t 5 (.g (.d (.sl 3 (List.map encApi_Dep y11))))) rfl) rfl rfl, OpW.plain (op_build (zs := [.v (.string ByteArray.empty), .v (.string ByteArray.empty), .v (.bool false), .v (.int .i64 0), .v (.int .i64 0), .sl 3 (List.map encApi_Dep ([] : (List Api_Dep)))]) (ds := [.v (.string r14), .v (.string ByteArray.empty), .v (.bool false), .v (.int .i64 (IntKind.wrap .i64 (y12 + 1))), .v (.int .i64 (IntKind.wrap .i64 (BitVec.ofInt (IntKind.bits .i64) x15.Site &&& BitVec.ofInt (IntKind.bits .i64) 3).toNat)), .sl 3 (List.map encApi_Dep y11)]) Try.underlying32 ti32 (pl32 _ Try.underlying32) ⟨.v _ rfl, .v _ rfl, .v _ rfl, .v _ rfl, .v _ rfl, .n 3, trivial⟩ (EvP.cons (Ev.t 96 (bS r14)) (EvP.cons (Ev.t 105 (.g (.agg [.v (.int .i64 (IntKind.wrap .i64 (y12 + 1))), .v (.int .i64 (IntKind.wrap .i64 (BitVec.ofInt (IntKind.bits .i64) x15.Site &&& BitVec.ofInt (IntKind.bits .i64) 3).toNat))]))) (EvP.cons (Ev.t 106 (.g (.d (.sl 3 (List.map encApi_Dep y11))))) EvP.nil))) rfl rfl) rfl rfl, OpW.plain (op_alloc (k := 1010) (cs := [bS ByteArray.empty, bS ByteArray.empty, bB false, bI .i64 0, bI .i64 0, .g (.d (.sl 3 (List.map encApi_Dep ([] : (List Api_Dep)))))]) ti32 ⟨.v _ rfl, .v _ rfl, .v _ rfl, .v _ rfl, .v _ rfl, .n 3, trivial⟩ rfl) rfl rfl, OpW.plain (op_storeA (cs' := [bS r14, bS ByteArray.empty, bB false, bI .i64 (IntKind.wrap .i64 (y12 + 1)), bI .i64 (IntKind.wrap .i64 (BitVec.ofInt (IntKind.bits .i64) x15.Site &&& BitVec.ofInt (IntKind.bits .i64) 3).toNat), .g (.d (.sl 3 (List.map encApi_Dep y11)))]) ti32 rfl rfl (Ev.t 10 (.ptr 1010 0)) (Ev.t 107 (.g (.agg [.v (.string r14), .v (.string ByteArray.empty), .v (.bool false), .v (.int .i64 (IntKind.wrap .i64 (y12 + 1))), .v (.int .i64 (IntKind.wrap .i64 (BitVec.ofInt (IntKind.bits .i64) x15.Site &&& BitVec.ofInt (IntKind.bits .i64) 3).toNat)), .sl 3 (List.map encApi_Dep y11)])))) rfl rfl, trivial⟩ ⟨rfl, rfl, rfl, rfl, trivial⟩ ⟨rfl, rfl, trivial⟩ rfl ?_
          refine G.seq ?_
          refine G.region ?_
          refine G.op1 (op_assign (Ev.c _ rfl) rfl) rfl trivial trivial ?_
          refine G.endOps ?_
          refine G.seq ?_
          refine G.seq ?_
          refine G.region ?_
          refine G.op1 (op_assign (Ev.c _ rfl) rfl) rfl trivial trivial ?_
          refine G.endOps ?_
          refine G.joinC (T := Bool) (fun y16 => ⟨[(0, .one (.g (.d (.sl 3 (List.map encLaw14_Write l_0))))), (3, .one (.own 2003 (List.map encApi_Version v3.2))), (4, .one (bI .i64 v3.1)), (10, .one (.ptr 1010 0)), (11, .one (bB y16))], [(1010, some (.blk 32 [bS r14, bS ByteArray.empty, bB false, bI .i64 (IntKind.wrap .i64 (y12 + 1)), bI .i64 (IntKind.wrap .i64 (BitVec.ofInt (IntKind.bits .i64) x15.Site &&& BitVec.ofInt (IntKind.bits .i64) 3).toNat), .g (.d (.sl 3 (List.map encApi_Dep y11)))])), (2003, some (.row 32 6 (List.map encApi_Version v3.2) false))]⟩) (fun y16 => law14_made_k7 again5 v3 y11 y12 r14 x15 y16 = some r) (fun y16 hF => ?_) (fun J19 => ?_)
          · unfold law14_made_k7 at hF
            refine G.seq ?_
            refine G.region ?_
            refine G.op1 (op_move (Ev.t 11 (bB y16)) rfl) rfl ⟨rfl, trivial⟩ trivial ?_
            refine G.op1 (op_not (Ev.t 135 (bB y16)) rfl) rfl ⟨rfl, trivial⟩ trivial ?_
            refine G.endOps ?_
            refine ifS hF (fun hc17 hF => ?_) (fun hc17 hF => ?_)
            · refine G.cond rfl (fun _ => ?_) (fun hx => by rw [hc17] at hx; cases hx)
              refine G.region ?_
              refine G.op1 (op_move (Ev.t 3 (.own 2003 (List.map encApi_Version v3.2))) rfl) rfl ⟨rfl, trivial⟩ trivial ?_
              refine G.op1 (op_loadAP (ds := [.v (.string r14), .v (.string ByteArray.empty), .v (.bool false), .v (.int .i64 (IntKind.wrap .i64 (y12 + 1))), .v (.int .i64 (IntKind.wrap .i64 (BitVec.ofInt (IntKind.bits .i64) x15.Site &&& BitVec.ofInt (IntKind.bits .i64) 3).toNat)), .sl 3 (List.map encApi_Dep y11)]) Try.underlying32 rfl ti32 rfl (Ev.t 10 (.ptr 1010 0)) rfl) rfl ⟨rfl, trivial⟩ ⟨rfl, trivial⟩ ?_
              refine G.op1 (op_buildSlice (es := List.map encApi_Version [(Api_Version.mk r14 ByteArray.empty false (Api_Stamp.mk (IntKind.wrap .i64 (y12 + 1)) (IntKind.wrap .i64 (BitVec.ofInt (IntKind.bits .i64) x15.Site &&& BitVec.ofInt (IntKind.bits .i64) 3).toNat)) y11)]) Try.underlying24 ti32 rfl rfl (EvP.cons (Ev.t 138 (.g (.agg [.v (.string r14), .v (.string ByteArray.empty), .v (.bool false), .v (.int .i64 (IntKind.wrap .i64 (y12 + 1))), .v (.int .i64 (IntKind.wrap .i64 (BitVec.ofInt (IntKind.bits .i64) x15.Site &&& BitVec.ofInt (IntKind.bits .i64) 3).toNat)), .sl 3 (List.map encApi_Dep y11)]))) EvP.nil) rfl rfl (by simp [encApi_Version]) rfl) rfl ⟨rfl, trivial⟩ trivial ?_
              obtain ⟨l18, hl18, hF⟩ := bindS hF
              refine G.op2 (op_appendO Try.underlying24 ti32 rfl (app_map hl18 encApi_Version) (app_b1 hl18 encApi_Version) (app_b2 hl18 encApi_Version) (Ev.t 137 (.own 2003 (List.map encApi_Version v3.2))) (Ev.t 139 (.g (.d (.sl 6 (List.map encApi_Version ([(Api_Version.mk r14 ByteArray.empty false (Api_Stamp.mk (IntKind.wrap .i64 (y12 + 1)) (IntKind.wrap .i64 (BitVec.ofInt (IntKind.bits .i64) x15.Site &&& BitVec.ofInt (IntKind.bits .i64) 3).toNat)) y11)])))))) rfl) rfl ⟨rfl, rfl, trivial⟩ ⟨rfl, trivial⟩ ?_
              refine G.op1 (op_assign (Ev.t 140 (.own 2003 (List.map encApi_Version l18))) rfl) rfl ⟨rfl, trivial⟩ trivial ?_
              refine G.endOps ?_
              refine G.endBlock ?_
              exact G.arr (J10 l18 hF) ⟨rfl, rfl, rfl, trivial⟩ ⟨rfl, trivial⟩ rfl
            · refine G.cond rfl (fun hx => by rw [hc17] at hx; cases hx) (fun _ => ?_)
              refine G.skip ?_
              refine G.endBlock ?_
              exact G.arr (J10 v3.2 hF) ⟨rfl, rfl, rfl, trivial⟩ ⟨rfl, trivial⟩ rfl
          refine G.block ?_
          refine G.keep (sl' := [(0, .one (.g (.d (.sl 3 (List.map encLaw14_Write l_0))))), (3, .one (.own 2003 (List.map encApi_Version v3.2))), (4, .one (bI .i64 v3.1)), (10, .one (.ptr 1010 0)), (11, .one (bB false)), (12, .one (bI .i64 0))]) (hp' := [(1010, some (.blk 32 [bS r14, bS ByteArray.empty, bB false, bI .i64 (IntKind.wrap .i64 (y12 + 1)), bI .i64 (IntKind.wrap .i64 (BitVec.ofInt (IntKind.bits .i64) x15.Site &&& BitVec.ofInt (IntKind.bits .i64) 3).toNat), .g (.d (.sl 3 (List.map encApi_Dep y11)))])), (2003, some (.row 32 6 (List.map encApi_Version v3.2) false))]) ⟨rfl, rfl, rfl, rfl, rfl, rfl, trivial⟩ ⟨rfl, rfl, trivial⟩ rfl ?_
          refine G.loopF (fun (v20 : Bool × Int) => ⟨[(0, .one (.g (.d (.sl 3 (List.map encLaw14_Write l_0))))), (3, .one (.own 2003 (List.map encApi_Version v3.2))), (4, .one (bI .i64 v3.1)), (10, .one (.ptr 1010 0)), (11, .one (bB v20.1)), (12, .one (bI .i64 v20.2))], [(1010, some (.blk 32 [bS r14, bS ByteArray.empty, bB false, bI .i64 (IntKind.wrap .i64 (y12 + 1)), bI .i64 (IntKind.wrap .i64 (BitVec.ofInt (IntKind.bits .i64) x15.Site &&& BitVec.ofInt (IntKind.bits .i64) 3).toNat), .g (.d (.sl 3 (List.map encApi_Dep y11)))])), (2003, some (.row 32 6 (List.map encApi_Version v3.2) false))]⟩) hF rfl (fun K23 again22 v20 J21 hF => ?_)
          unfold law14_made_l8 at hF
          refine G.seq ?_
          refine G.seq ?_
          refine G.region ?_
          refine G.op1 (op_move (Ev.t 12 (bI .i64 v20.2)) rfl) rfl ⟨rfl, trivial⟩ trivial ?_
          refine G.op1 (op_move (Ev.t 3 (.own 2003 (List.map encApi_Version v3.2))) rfl) rfl ⟨rfl, trivial⟩ trivial ?_
          refine G.op1 (OpL.cast (op_lenO Try.underlying24 (Ev.t 109 (.own 2003 (List.map encApi_Version v3.2))) rfl) (by rw [List.length_map])) rfl ⟨rfl, trivial⟩ ⟨rfl, trivial⟩ ?_
          refine G.op1 (op_lss (Ev.t 108 (bI .i64 v20.2)) (Ev.t 110 (bI .i64 (v3.2.length : Int))) rfl) rfl ⟨rfl, rfl, trivial⟩ trivial ?_
          refine G.endOps ?_
          refine ifS hF (fun hc24 hF => ?_) (fun hc24 hF => ?_)
          · refine G.cond rfl (fun _ => ?_) (fun hx => by rw [hc24] at hx; cases hx)
            refine G.skip ?_
            refine G.seq ?_
            refine G.block ?_
            refine ifS hF (fun hc25 hF => ?_) (fun hc25 hF => ?_)
            · refine G.known (t := 11) (c := true) hc25 rfl ?_
              refine G.drawn (effs := (⟨[(11, .one (bB true))], [], [(114, .one (bB true))], []⟩ :: ⟨[(114, .one (bB true))], [], [(115, .one (bB true))], []⟩ :: ⟨[(115, .one (bB true))], [], [(116, .one (.x Go.undef))], []⟩ :: ⟨[(115, .one (bB true))], [], [(117, .one (.x Go.undef))], []⟩ :: ⟨[(115, .one (bB true))], [], [(118, .one (.x Go.undef))], []⟩ :: ⟨[(115, .one (bB true))], [], [(119, .one (.x Go.undef))], []⟩ :: ⟨[(115, .one (bB true))], [], [(120, .one (.x Go.undef))], []⟩ :: ⟨[(115, .one (bB true))], [], [(121, .one (.x Go.undef))], []⟩ :: ⟨[(115, .one (bB true))], [], [(122, .one (.x Go.undef))], []⟩ :: ⟨[(115, .one (bB true))], [], [(123, .one (.x Go.undef))], []⟩ :: ⟨[(115, .one (bB true))], [], [(124, .one (.x Go.undef))], []⟩ :: ⟨[(124, .one (.x Go.undef))], [], [(125, .one (.x Go.undef))], []⟩ :: ⟨[(124, .one (.x Go.undef))], [], [(126, .one (.x Go.undef))], []⟩ :: ⟨[(124, .one (.x Go.undef))], [], [(127, .one (.x Go.undef))], []⟩ :: ⟨[(124, .one (.x Go.undef))], [], [(128, .one (.x Go.undef))], []⟩ :: ⟨[(124, .one (.x Go.undef))], [], [(129, .one (.x Go.undef))], []⟩ :: ⟨[(124, .one (.x Go.undef))], [], [(130, .one (.x Go.undef))], []⟩ :: ⟨[(124, .one (.x Go.undef))], [], [(131, .one (.x Go.undef))], []⟩ :: ⟨[(124, .one (.x Go.undef))], [], [(132, .one (.x Go.undef))], []⟩ :: ⟨[(115, .one (bB true))], [], [(133, .one (.x Go.undef))], []⟩ :: ⟨[(115, .one (bB true))], [], [(134, .one (bB true))], []⟩ :: ⟨[(134, .one (bB true))], [], [(11, .one (bB true))], []⟩ :: [])) (deps := ([] :: [0] :: [0, 1] :: [0, 1] :: [0, 1, 2, 3] :: [0, 1, 2, 3, 4] :: [0, 1, 2, 3, 4, 5] :: [0, 1] :: [0, 1, 7] :: [0, 1, 2, 3, 4, 5, 6, 7, 8] :: [0, 1, 2, 3, 4, 5, 6, 7, 8, 9] :: [0, 1, 2, 3, 4, 5, 6, 7, 8, 9, 10] :: [0, 1, 2, 3, 4, 5, 6, 7, 8, 9, 10] :: [0, 1, 2, 3, 4, 5, 6, 7, 8, 9, 10, 11, 12] :: [0, 1, 2, 3, 4, 5, 6, 7, 8, 9, 10, 11, 12, 13] :: [0, 1, 2, 3, 4, 5, 6, 7, 8, 9, 10, 11, 12, 13, 14] :: [0, 1, 2, 3, 4, 5, 6, 7, 8, 9, 10] :: [0, 1, 2, 3, 4, 5, 6, 7, 8, 9, 10, 16] :: [0, 1, 2, 3, 4, 5, 6, 7, 8, 9, 10, 11, 12, 13, 14, 15, 16, 17] :: [0, 1, 2, 3, 4, 5, 6, 7, 8, 9, 10, 11, 12, 13, 14, 15, 16, 17, 18] :: [0, 1, 2, 3, 4, 5, 6, 7, 8, 9, 10, 11, 12, 13, 14, 15, 16, 17, 18, 19] :: (0 :: 1 :: 2 :: 3 :: 4 :: 5 :: 6 :: 7 :: 8 :: 9 :: 10 :: 11 :: 12 :: 13 :: 14 :: 15 :: 16 :: 17 :: 18 :: 19 :: 20 :: []) :: [])) (sl' := [(0, .one (.g (.d (.sl 3 (List.map encLaw14_Write l_0))))), (3, .one (.own 2003 (List.map encApi_Version v3.2))), (4, .one (bI .i64 v3.1)), (10, .one (.ptr 1010 0)), (11, .one (bB true)), (12, .one (bI .i64 v20.2))]) (hp' := [(1010, some (.blk 32 [bS r14, bS ByteArray.empty, bB false, bI .i64 (IntKind.wrap .i64 (y12 + 1)), bI .i64 (IntKind.wrap .i64 (BitVec.ofInt (IntKind.bits .i64) x15.Site &&& BitVec.ofInt (IntKind.bits .i64) 3).toNat), .g (.d (.sl 3 (List.map encApi_Dep y11)))])), (2003, some (.row 32 6 (List.map encApi_Version v3.2) false))]) follows rfl rfl rfl ⟨⟨⟨rfl, rfl⟩, trivial⟩, trivial, ⟨rfl, trivial⟩, trivial, ⟨rfl, trivial⟩, trivial, ⟨rfl, trivial⟩, trivial, ⟨rfl, trivial⟩, trivial, ⟨rfl, trivial⟩, trivial, ⟨rfl, trivial⟩, trivial, ⟨rfl, trivial⟩, trivial, ⟨rfl, trivial⟩, trivial, ⟨rfl, trivial⟩, trivial, ⟨rfl, trivial⟩, trivial, ⟨rfl, trivial⟩, trivial, ⟨rfl, trivial⟩, trivial, ⟨rfl, trivial⟩, trivial, ⟨rfl, trivial⟩, trivial, ⟨rfl, trivial⟩, trivial, ⟨rfl, trivial⟩, trivial, ⟨rfl, trivial⟩, trivial, ⟨rfl, trivial⟩, trivial, ⟨rfl, trivial⟩, trivial, ⟨rfl, trivial⟩, trivial, ⟨rfl, trivial⟩, trivial, trivial⟩ ⟨OpW.plain (op_move (Ev.t 11 (bB true)) rfl) rfl rfl, OpW.plain (op_move (Ev.t 114 (bB true)) rfl) rfl rfl, OpW.no rfl rfl rfl rfl rfl, OpW.no rfl rfl rfl rfl rfl, OpW.no rfl rfl rfl rfl rfl, OpW.no rfl rfl rfl rfl rfl, OpW.no rfl rfl rfl rfl rfl, OpW.no rfl rfl rfl rfl rfl, OpW.no rfl rfl rfl rfl rfl, OpW.no rfl rfl rfl rfl rfl, OpW.no rfl rfl rfl rfl rfl, OpW.un rfl rfl rfl rfl, OpW.un rfl rfl rfl rfl, OpW.un rfl rfl rfl rfl, OpW.un rfl rfl rfl rfl, OpW.un rfl rfl rfl rfl, OpW.un rfl rfl rfl rfl, OpW.un rfl rfl rfl rfl, OpW.un rfl rfl rfl rfl, OpW.no rfl rfl rfl rfl rfl, OpW.plain (op_pickT (Ev.t 115 (bB true)) (Ev.c _ rfl) rfl) rfl rfl, OpW.plain (op_assign (Ev.t 134 (bB true)) rfl) rfl rfl, trivial⟩ ⟨rfl, rfl, rfl, rfl, rfl, rfl, trivial⟩ ⟨rfl, rfl, trivial⟩ rfl ?_
              refine G.endBlock ?_
              refine G.region ?_
              refine G.op1 (op_move (Ev.t 12 (bI .i64 v20.2)) rfl) rfl ⟨rfl, trivial⟩ trivial ?_
              refine G.op1 (op_add (Ev.t 112 (bI .i64 v20.2)) (Ev.c _ rfl) rfl) rfl ⟨rfl, trivial⟩ trivial ?_
              refine G.op1 (op_assign (Ev.t 113 (bI .i64 (IntKind.wrap .i64 (v20.2 + 1)))) rfl) rfl ⟨rfl, trivial⟩ trivial ?_
              refine G.endOps ?_
              exact G.arr (J21 (true, IntKind.wrap .i64 (v20.2 + 1)) hF) ⟨rfl, rfl, rfl, rfl, rfl, rfl, trivial⟩ ⟨rfl, rfl, trivial⟩ rfl
            · refine G.known (t := 11) (c := false) hc25 rfl ?_
              obtain ⟨x26, hx26, hF⟩ := bindS hF
              refine ifS hF (fun hc27 hF => ?_) (fun hc27 hF => ?_)
              · obtain ⟨x28, hx28, hF⟩ := bindS hF
                refine G.drawn (effs := (⟨[(11, .one (bB false))], [], [(114, .one (bB false))], []⟩ :: ⟨[(114, .one (bB false))], [], [(115, .one (bB false))], []⟩ :: ⟨[(115, .one (bB false)), (3, .one (.own 2003 (List.map encApi_Version v3.2)))], [(2003, some (.row 32 6 (List.map encApi_Version v3.2) false))], [(116, .one (.g (.d (.sl 6 (List.map encApi_Version v3.2)))))], []⟩ :: ⟨[(115, .one (bB false)), (12, .one (bI .i64 v20.2))], [], [(117, .one (bI .i64 v20.2))], []⟩ :: ⟨[(115, .one (bB false)), (116, .one (.g (.d (.sl 6 (List.map encApi_Version v3.2))))), (117, .one (bI .i64 v20.2))], [], [(118, .one (.ep [.v (.string x26.Key), .v (.string x26.Value), .v (.bool x26.Gone), .v (.int .i64 x26.Stamp.N), .v (.int .i64 x26.Stamp.Site), .sl 3 (List.map encApi_Dep x26.Past)]))], []⟩ :: ⟨[(115, .one (bB false)), (118, .one (.ep [.v (.string x26.Key), .v (.string x26.Value), .v (.bool x26.Gone), .v (.int .i64 x26.Stamp.N), .v (.int .i64 x26.Stamp.Site), .sl 3 (List.map encApi_Dep x26.Past)]))], [], [(119, .one (.ep [.v (.string x26.Key), .v (.string x26.Value), .v (.bool x26.Gone), .v (.int .i64 x26.Stamp.N), .v (.int .i64 x26.Stamp.Site), .sl 3 (List.map encApi_Dep x26.Past)]))], []⟩ :: ⟨[(115, .one (bB false)), (119, .one (.ep [.v (.string x26.Key), .v (.string x26.Value), .v (.bool x26.Gone), .v (.int .i64 x26.Stamp.N), .v (.int .i64 x26.Stamp.Site), .sl 3 (List.map encApi_Dep x26.Past)]))], [], [(120, .one (bS x26.Key))], []⟩ :: ⟨[(115, .one (bB false)), (10, .one (.ptr 1010 0))], [], [(121, .one (.ptr 1010 0))], []⟩ :: ⟨[(115, .one (bB false)), (121, .one (.ptr 1010 0))], [(1010, some (.blk 32 [bS r14, bS ByteArray.empty, bB false, bI .i64 (IntKind.wrap .i64 (y12 + 1)), bI .i64 (IntKind.wrap .i64 (BitVec.ofInt (IntKind.bits .i64) x15.Site &&& BitVec.ofInt (IntKind.bits .i64) 3).toNat), .g (.d (.sl 3 (List.map encApi_Dep y11)))]))], [(122, .one (bS r14))], []⟩ :: ⟨[(115, .one (bB false)), (120, .one (bS x26.Key)), (122, .one (bS r14))], [], [(123, .one (bB true))], []⟩ :: ⟨[(115, .one (bB false)), (123, .one (bB true))], [], [(124, .one (bB true))], []⟩ :: ⟨[(124, .one (bB true)), (3, .one (.own 2003 (List.map encApi_Version v3.2)))], [(2003, some (.row 32 6 (List.map encApi_Version v3.2) false))], [(125, .one (.g (.d (.sl 6 (List.map encApi_Version v3.2)))))], []⟩ :: ⟨[(124, .one (bB true)), (12, .one (bI .i64 v20.2))], [], [(126, .one (bI .i64 v20.2))], []⟩ :: ⟨[(124, .one (bB true)), (125, .one (.g (.d (.sl 6 (List.map encApi_Version v3.2))))), (126, .one (bI .i64 v20.2))], [], [(127, .one (.ep [.v (.string x28.Key), .v (.string x28.Value), .v (.bool x28.Gone), .v (.int .i64 x28.Stamp.N), .v (.int .i64 x28.Stamp.Site), .sl 3 (List.map encApi_Dep x28.Past)]))], []⟩ :: ⟨[(124, .one (bB true)), (127, .one (.ep [.v (.string x28.Key), .v (.string x28.Value), .v (.bool x28.Gone), .v (.int .i64 x28.Stamp.N), .v (.int .i64 x28.Stamp.Site), .sl 3 (List.map encApi_Dep x28.Past)]))], [], [(128, .one (.ep [.v (.int .i64 x28.Stamp.N), .v (.int .i64 x28.Stamp.Site), .sl 3 (List.map encApi_Dep x28.Past)]))], []⟩ :: ⟨[(124, .one (bB true)), (128, .one (.ep [.v (.int .i64 x28.Stamp.N), .v (.int .i64 x28.Stamp.Site), .sl 3 (List.map encApi_Dep x28.Past)]))], [], [(129, .one (.g (.agg [.v (.int .i64 x28.Stamp.N), .v (.int .i64 x28.Stamp.Site)])))], []⟩ :: ⟨[(124, .one (bB true)), (10, .one (.ptr 1010 0))], [], [(130, .one (.ptr 1010 3))], []⟩ :: ⟨[(124, .one (bB true)), (130, .one (.ptr 1010 3))], [(1010, some (.blk 32 [bS r14, bS ByteArray.empty, bB false, bI .i64 (IntKind.wrap .i64 (y12 + 1)), bI .i64 (IntKind.wrap .i64 (BitVec.ofInt (IntKind.bits .i64) x15.Site &&& BitVec.ofInt (IntKind.bits .i64) 3).toNat), .g (.d (.sl 3 (List.map encApi_Dep y11)))]))], [(131, .one (.g (.agg [.v (.int .i64 (IntKind.wrap .i64 (y12 + 1))), .v (.int .i64 (IntKind.wrap .i64 (BitVec.ofInt (IntKind.bits .i64) x15.Site &&& BitVec.ofInt (IntKind.bits .i64) 3).toNat))])))], []⟩ :: ⟨[(124, .one (bB true)), (129, .one (.g (.agg [.v (.int .i64 x28.Stamp.N), .v (.int .i64 x28.Stamp.Site)]))), (131, .one (.g (.agg [.v (.int .i64 (IntKind.wrap .i64 (y12 + 1))), .v (.int .i64 (IntKind.wrap .i64 (BitVec.ofInt (IntKind.bits .i64) x15.Site &&& BitVec.ofInt (IntKind.bits .i64) 3).toNat))])))], [], [(132, .one (bB (decide (x28.Stamp.N = IntKind.wrap .i64 (y12 + 1)) && decide (x28.Stamp.Site = IntKind.wrap .i64 (BitVec.ofInt (IntKind.bits .i64) x15.Site &&& BitVec.ofInt (IntKind.bits .i64) 3).toNat))))], []⟩ :: ⟨[(115, .one (bB false)), (124, .one (bB true)), (132, .one (bB (decide (x28.Stamp.N = IntKind.wrap .i64 (y12 + 1)) && decide (x28.Stamp.Site = IntKind.wrap .i64 (BitVec.ofInt (IntKind.bits .i64) x15.Site &&& BitVec.ofInt (IntKind.bits .i64) 3).toNat))))], [], [(133, .one (bB (decide (x28.Stamp.N = IntKind.wrap .i64 (y12 + 1)) && decide (x28.Stamp.Site = IntKind.wrap .i64 (BitVec.ofInt (IntKind.bits .i64) x15.Site &&& BitVec.ofInt (IntKind.bits .i64) 3).toNat))))], []⟩ :: ⟨[(115, .one (bB false)), (133, .one (bB (decide (x28.Stamp.N = IntKind.wrap .i64 (y12 + 1)) && decide (x28.Stamp.Site = IntKind.wrap .i64 (BitVec.ofInt (IntKind.bits .i64) x15.Site &&& BitVec.ofInt (IntKind.bits .i64) 3).toNat))))], [], [(134, .one (bB (decide (x28.Stamp.N = IntKind.wrap .i64 (y12 + 1)) && decide (x28.Stamp.Site = IntKind.wrap .i64 (BitVec.ofInt (IntKind.bits .i64) x15.Site &&& BitVec.ofInt (IntKind.bits .i64) 3).toNat))))], []⟩ :: ⟨[(134, .one (bB (decide (x28.Stamp.N = IntKind.wrap .i64 (y12 + 1)) && decide (x28.Stamp.Site = IntKind.wrap .i64 (BitVec.ofInt (IntKind.bits .i64) x15.Site &&& BitVec.ofInt (IntKind.bits .i64) 3).toNat))))], [], [(11, .one (bB (decide (x28.Stamp.N = IntKind.wrap .i64 (y12 + 1)) && decide (x28.Stamp.Site = IntKind.wrap .i64 (BitVec.ofInt (IntKind.bits .i64) x15.Site &&& BitVec.ofInt (IntKind.bits .i64) 3).toNat))))], []⟩ :: [])) (deps := ([] :: [0] :: [0, 1] :: [0, 1] :: [0, 1, 2, 3] :: [0, 1, 2, 3, 4] :: [0, 1, 2, 3, 4, 5] :: [0, 1] :: [0, 1, 7] :: [0, 1, 2, 3, 4, 5, 6, 7, 8] :: [0, 1, 2, 3, 4, 5, 6, 7, 8, 9] :: [0, 1, 2, 3, 4, 5, 6, 7, 8, 9, 10] :: [0, 1, 2, 3, 4, 5, 6, 7, 8, 9, 10] :: [0, 1, 2, 3, 4, 5, 6, 7, 8, 9, 10, 11, 12] :: [0, 1, 2, 3, 4, 5, 6, 7, 8, 9, 10, 11, 12, 13] :: [0, 1, 2, 3, 4, 5, 6, 7, 8, 9, 10, 11, 12, 13, 14] :: [0, 1, 2, 3, 4, 5, 6, 7, 8, 9, 10] :: [0, 1, 2, 3, 4, 5, 6, 7, 8, 9, 10, 16] :: [0, 1, 2, 3, 4, 5, 6, 7, 8, 9, 10, 11, 12, 13, 14, 15, 16, 17] :: [0, 1, 2, 3, 4, 5, 6, 7, 8, 9, 10, 11, 12, 13, 14, 15, 16, 17, 18] :: [0, 1, 2, 3, 4, 5, 6, 7, 8, 9, 10, 11, 12, 13, 14, 15, 16, 17, 18, 19] :: (0 :: 1 :: 2 :: 3 :: 4 :: 5 :: 6 :: 7 :: 8 :: 9 :: 10 :: 11 :: 12 :: 13 :: 14 :: 15 :: 16 :: 17 :: 18 :: 19 :: 20 :: []) :: [])) (sl' := [(0, .one (.g (.d (.sl 3 (List.map encLaw14_Write l_0))))), (3, .one (.own 2003 (List.map encApi_Version v3.2))), (4, .one (bI .i64 v3.1)), (10, .one (.ptr 1010 0)), (11, .one (bB (decide (x28.Stamp.N = IntKind.wrap .i64 (y12 + 1)) && decide (x28.Stamp.Site = IntKind.wrap .i64 (BitVec.ofInt (IntKind.bits .i64) x15.Site &&& BitVec.ofInt (IntKind.bits .i64) 3).toNat)))), (12, .one (bI .i64 v20.2))]) (hp' := [(1010, some (.blk 32 [bS r14, bS ByteArray.empty, bB false, bI .i64 (IntKind.wrap .i64 (y12 + 1)), bI .i64 (IntKind.wrap .i64 (BitVec.ofInt (IntKind.bits .i64) x15.Site &&& BitVec.ofInt (IntKind.bits .i64) 3).toNat), .g (.d (.sl 3 (List.map encApi_Dep y11)))])), (2003, some (.row 32 6 (List.map encApi_Version v3.2) false))]) follows rfl rfl rfl ⟨⟨⟨rfl, rfl⟩, trivial⟩, trivial, ⟨rfl, trivial⟩, trivial, ⟨rfl, rfl, trivial⟩, ⟨⟨rfl, rfl⟩, trivial⟩, ⟨rfl, rfl, trivial⟩, trivial, ⟨rfl, rfl, rfl, trivial⟩, trivial, ⟨rfl, rfl, trivial⟩, trivial, ⟨rfl, rfl, trivial⟩, trivial, ⟨rfl, rfl, trivial⟩, trivial, ⟨rfl, rfl, trivial⟩, ⟨⟨rfl, rfl⟩, trivial⟩, ⟨rfl, rfl, rfl, trivial⟩, trivial, ⟨rfl, rfl, trivial⟩, trivial, ⟨rfl, rfl, trivial⟩, ⟨⟨rfl, rfl⟩, trivial⟩, ⟨rfl, rfl, trivial⟩, trivial, ⟨rfl, rfl, rfl, trivial⟩, trivial, ⟨rfl, rfl, trivial⟩, trivial, ⟨rfl, rfl, trivial⟩, trivial, ⟨rfl, rfl, trivial⟩, trivial, ⟨rfl, rfl, trivial⟩, ⟨⟨rfl, rfl⟩, trivial⟩, ⟨rfl, rfl, rfl, trivial⟩, trivial, ⟨rfl, rfl, rfl, trivial⟩, trivial, ⟨rfl, rfl, trivial⟩, trivial, ⟨rfl, trivial⟩, trivial, trivial⟩ ⟨OpW.plain (op_move (Ev.t 11 (bB false)) rfl) rfl rfl, OpW.plain (op_move (Ev.t 114 (bB false)) rfl) rfl rfl, OpW.yes (op_moveView (T := 32) (size := 6) rfl) rfl rfl rfl, OpW.yes (op_move (Ev.t 12 (bI .i64 v20.2)) rfl) rfl rfl rfl, OpW.yes (op_index (cs := [.v (.string x26.Key), .v (.string x26.Value), .v (.bool x26.Gone), .v (.int .i64 x26.Stamp.N), .v (.int .i64 x26.Stamp.Site), .sl 3 (List.map encApi_Dep x26.Past)]) Try.underlying24 ti32 (idx_ok hx26).1 (idx_get hx26 encApi_Version) (Ev.t 116 (.g (.d (.sl 6 (List.map encApi_Version v3.2))))) (Ev.t 117 (bI .i64 v20.2)) rfl) rfl rfl rfl, OpW.yes (op_fieldE (cs' := [.v (.string x26.Key), .v (.string x26.Value), .v (.bool x26.Gone), .v (.int .i64 x26.Stamp.N), .v (.int .i64 x26.Stamp.Site), .sl 3 (List.map encApi_Dep x26.Past)]) Try.underlying32 rfl ti9 (by decide) rfl (Ev.t 118 (.ep [.v (.string x26.Key), .v (.string x26.Value), .v (.bool x26.Gone), .v (.int .i64 x26.Stamp.N), .v (.int .i64 x26.Stamp.Site), .sl 3 (List.map encApi_Dep x26.Past)])) rfl) rfl rfl rfl, OpW.yes (op_load1E (c := .v (.string x26.Key)) Try.underlying9 rfl rfl (Ev.t 119 (.ep [.v (.string x26.Key), .v (.string x26.Value), .v (.bool x26.Gone), .v (.int .i64 x26.Stamp.N), .v (.int .i64 x26.Stamp.Site), .sl 3 (List.map encApi_Dep x26.Past)])) rfl) rfl rfl rfl, OpW.yes (op_fieldP (off' := 0) Try.underlying32 rfl ti9 (by decide) rfl (Ev.t 10 (.ptr 1010 0)) rfl) rfl rfl rfl, OpW.yes (op_load1P (c := bS r14) Try.underlying9 rfl rfl (Ev.t 121 (.ptr 1010 0)) rfl) rfl rfl rfl, OpW.yes (OpL.cast (op_eqS (Ev.t 120 (bS x26.Key)) (Ev.t 122 (bS r14)) rfl) (congrArg (fun b => bB b) hc27)) rfl rfl rfl, OpW.yes (op_move (Ev.t 123 (bB true)) rfl) rfl rfl rfl, OpW.yes (op_moveView (T := 32) (size := 6) rfl) rfl rfl rfl, OpW.yes (op_move (Ev.t 12 (bI .i64 v20.2)) rfl) rfl rfl rfl, OpW.yes (op_index (cs := [.v (.string x28.Key), .v (.string x28.Value), .v (.bool x28.Gone), .v (.int .i64 x28.Stamp.N), .v (.int .i64 x28.Stamp.Site), .sl 3 (List.map encApi_Dep x28.Past)]) Try.underlying24 ti32 (idx_ok hx28).1 (idx_get hx28 encApi_Version) (Ev.t 125 (.g (.d (.sl 6 (List.map encApi_Version v3.2))))) (Ev.t 126 (bI .i64 v20.2)) rfl) rfl rfl rfl, OpW.yes (op_fieldE (cs' := [.v (.int .i64 x28.Stamp.N), .v (.int .i64 x28.Stamp.Site), .sl 3 (List.map encApi_Dep x28.Past)]) Try.underlying32 rfl ti29 (by decide) rfl (Ev.t 127 (.ep [.v (.string x28.Key), .v (.string x28.Value), .v (.bool x28.Gone), .v (.int .i64 x28.Stamp.N), .v (.int .i64 x28.Stamp.Site), .sl 3 (List.map encApi_Dep x28.Past)])) rfl) rfl rfl rfl, OpW.yes (op_loadAE (ds := [.v (.int .i64 x28.Stamp.N), .v (.int .i64 x28.Stamp.Site)]) Try.underlying29 rfl ti29 rfl (Ev.t 128 (.ep [.v (.int .i64 x28.Stamp.N), .v (.int .i64 x28.Stamp.Site), .sl 3 (List.map encApi_Dep x28.Past)])) rfl) rfl rfl rfl, OpW.yes (op_fieldP (off' := 3) Try.underlying32 rfl ti29 (by decide) rfl (Ev.t 10 (.ptr 1010 0)) rfl) rfl rfl rfl, OpW.yes (op_loadAP (ds := [.v (.int .i64 (IntKind.wrap .i64 (y12 + 1))), .v (.int .i64 (IntKind.wrap .i64 (BitVec.ofInt (IntKind.bits .i64) x15.Site &&& BitVec.ofInt (IntKind.bits .i64) 3).toNat))]) Try.underlying29 rfl ti29 rfl (Ev.t 130 (.ptr 1010 3)) rfl) rfl rfl rfl, OpW.yes (op_eqA (us := [.int .i64 x28.Stamp.N, .int .i64 x28.Stamp.Site]) (vs := [.int .i64 (IntKind.wrap .i64 (y12 + 1)), .int .i64 (IntKind.wrap .i64 (BitVec.ofInt (IntKind.bits .i64) x15.Site &&& BitVec.ofInt (IntKind.bits .i64) 3).toNat)]) rfl rfl Try.eqGuardType29 (fun w => eq29 x28.Stamp.N x28.Stamp.Site (IntKind.wrap .i64 (y12 + 1)) (IntKind.wrap .i64 (BitVec.ofInt (IntKind.bits .i64) x15.Site &&& BitVec.ofInt (IntKind.bits .i64) 3).toNat) w) (Ev.t 129 (.g (.agg [.v (.int .i64 x28.Stamp.N), .v (.int .i64 x28.Stamp.Site)]))) (Ev.t 131 (.g (.agg [.v (.int .i64 (IntKind.wrap .i64 (y12 + 1))), .v (.int .i64 (IntKind.wrap .i64 (BitVec.ofInt (IntKind.bits .i64) x15.Site &&& BitVec.ofInt (IntKind.bits .i64) 3).toNat))]))) rfl) rfl rfl rfl, OpW.yes (op_pickT (Ev.t 124 (bB true)) (Ev.t 132 (bB (decide (x28.Stamp.N = IntKind.wrap .i64 (y12 + 1)) && decide (x28.Stamp.Site = IntKind.wrap .i64 (BitVec.ofInt (IntKind.bits .i64) x15.Site &&& BitVec.ofInt (IntKind.bits .i64) 3).toNat)))) rfl) rfl rfl rfl, OpW.plain (op_pickF (Ev.t 115 (bB false)) (Ev.t 133 (bB (decide (x28.Stamp.N = IntKind.wrap .i64 (y12 + 1)) && decide (x28.Stamp.Site = IntKind.wrap .i64 (BitVec.ofInt (IntKind.bits .i64) x15.Site &&& BitVec.ofInt (IntKind.bits .i64) 3).toNat)))) rfl) rfl rfl, OpW.plain (op_assign (Ev.t 134 (bB (decide (x28.Stamp.N = IntKind.wrap .i64 (y12 + 1)) && decide (x28.Stamp.Site = IntKind.wrap .i64 (BitVec.ofInt (IntKind.bits .i64) x15.Site &&& BitVec.ofInt (IntKind.bits .i64) 3).toNat)))) rfl) rfl rfl, trivial⟩ ⟨rfl, rfl, rfl, rfl, rfl, rfl, trivial⟩ ⟨rfl, rfl, trivial⟩ rfl ?_
                refine G.endBlock ?_
                refine G.region ?_
                refine G.op1 (op_move (Ev.t 12 (bI .i64 v20.2)) rfl) rfl ⟨rfl, trivial⟩ trivial ?_
                refine G.op1 (op_add (Ev.t 112 (bI .i64 v20.2)) (Ev.c _ rfl) rfl) rfl ⟨rfl, trivial⟩ trivial ?_
                refine G.op1 (op_assign (Ev.t 113 (bI .i64 (IntKind.wrap .i64 (v20.2 + 1)))) rfl) rfl ⟨rfl, trivial⟩ trivial ?_
                refine G.endOps ?_
                exact G.arr (J21 ((decide (x28.Stamp.N = IntKind.wrap .i64 (y12 + 1)) && decide (x28.Stamp.Site = IntKind.wrap .i64 (BitVec.ofInt (IntKind.bits .i64) x15.Site &&& BitVec.ofInt (IntKind.bits .i64) 3).toNat)), IntKind.wrap .i64 (v20.2 + 1)) hF) ⟨rfl, rfl, rfl, rfl, rfl, rfl, trivial⟩ ⟨rfl, rfl, trivial⟩ rfl
              · refine G.drawn (effs := (⟨[(11, .one (bB false))], [], [(114, .one (bB false))], []⟩ :: ⟨[(114, .one (bB false))], [], [(115, .one (bB false))], []⟩ :: ⟨[(115, .one (bB false)), (3, .one (.own 2003 (List.map encApi_Version v3.2)))], [(2003, some (.row 32 6 (List.map encApi_Version v3.2) false))], [(116, .one (.g (.d (.sl 6 (List.map encApi_Version v3.2)))))], []⟩ :: ⟨[(115, .one (bB false)), (12, .one (bI .i64 v20.2))], [], [(117, .one (bI .i64 v20.2))], []⟩ :: ⟨[(115, .one (bB false)), (116, .one (.g (.d (.sl 6 (List.map encApi_Version v3.2))))), (117, .one (bI .i64 v20.2))], [], [(118, .one (.ep [.v (.string x26.Key), .v (.string x26.Value), .v (.bool x26.Gone), .v (.int .i64 x26.Stamp.N), .v (.int .i64 x26.Stamp.Site), .sl 3 (List.map encApi_Dep x26.Past)]))], []⟩ :: ⟨[(115, .one (bB false)), (118, .one (.ep [.v (.string x26.Key), .v (.string x26.Value), .v (.bool x26.Gone), .v (.int .i64 x26.Stamp.N), .v (.int .i64 x26.Stamp.Site), .sl 3 (List.map encApi_Dep x26.Past)]))], [], [(119, .one (.ep [.v (.string x26.Key), .v (.string x26.Value), .v (.bool x26.Gone), .v (.int .i64 x26.Stamp.N), .v (.int .i64 x26.Stamp.Site), .sl 3 (List.map encApi_Dep x26.Past)]))], []⟩ :: ⟨[(115, .one (bB false)), (119, .one (.ep [.v (.string x26.Key), .v (.string x26.Value), .v (.bool x26.Gone), .v (.int .i64 x26.Stamp.N), .v (.int .i64 x26.Stamp.Site), .sl 3 (List.map encApi_Dep x26.Past)]))], [], [(120, .one (bS x26.Key))], []⟩ :: ⟨[(115, .one (bB false)), (10, .one (.ptr 1010 0))], [], [(121, .one (.ptr 1010 0))], []⟩ :: ⟨[(115, .one (bB false)), (121, .one (.ptr 1010 0))], [(1010, some (.blk 32 [bS r14, bS ByteArray.empty, bB false, bI .i64 (IntKind.wrap .i64 (y12 + 1)), bI .i64 (IntKind.wrap .i64 (BitVec.ofInt (IntKind.bits .i64) x15.Site &&& BitVec.ofInt (IntKind.bits .i64) 3).toNat), .g (.d (.sl 3 (List.map encApi_Dep y11)))]))], [(122, .one (bS r14))], []⟩ :: ⟨[(115, .one (bB false)), (120, .one (bS x26.Key)), (122, .one (bS r14))], [], [(123, .one (bB false))], []⟩ :: ⟨[(115, .one (bB false)), (123, .one (bB false))], [], [(124, .one (bB false))], []⟩ :: ⟨[(124, .one (bB false))], [], [(125, .one (.x Go.undef))], []⟩ :: ⟨[(124, .one (bB false))], [], [(126, .one (.x Go.undef))], []⟩ :: ⟨[(124, .one (bB false))], [], [(127, .one (.x Go.undef))], []⟩ :: ⟨[(124, .one (bB false))], [], [(128, .one (.x Go.undef))], []⟩ :: ⟨[(124, .one (bB false))], [], [(129, .one (.x Go.undef))], []⟩ :: ⟨[(124, .one (bB false))], [], [(130, .one (.x Go.undef))], []⟩ :: ⟨[(124, .one (bB false))], [], [(131, .one (.x Go.undef))], []⟩ :: ⟨[(124, .one (bB false))], [], [(132, .one (.x Go.undef))], []⟩ :: ⟨[(115, .one (bB false)), (124, .one (bB false))], [], [(133, .one (bB false))], []⟩ :: ⟨[(115, .one (bB false)), (133, .one (bB false))], [], [(134, .one (bB false))], []⟩ :: ⟨[(134, .one (bB false))], [], [(11, .one (bB false))], []⟩ :: [])) (deps := ([] :: [0] :: [0, 1] :: [0, 1] :: [0, 1, 2, 3] :: [0, 1, 2, 3, 4] :: [0, 1, 2, 3, 4, 5] :: [0, 1] :: [0, 1, 7] :: [0, 1, 2, 3, 4, 5, 6, 7, 8] :: [0, 1, 2, 3, 4, 5, 6, 7, 8, 9] :: [0, 1, 2, 3, 4, 5, 6, 7, 8, 9, 10] :: [0, 1, 2, 3, 4, 5, 6, 7, 8, 9, 10] :: [0, 1, 2, 3, 4, 5, 6, 7, 8, 9, 10, 11, 12] :: [0, 1, 2, 3, 4, 5, 6, 7, 8, 9, 10, 11, 12, 13] :: [0, 1, 2, 3, 4, 5, 6, 7, 8, 9, 10, 11, 12, 13, 14] :: [0, 1, 2, 3, 4, 5, 6, 7, 8, 9, 10] :: [0, 1, 2, 3, 4, 5, 6, 7, 8, 9, 10, 16] :: [0, 1, 2, 3, 4, 5, 6, 7, 8, 9, 10, 11, 12, 13, 14, 15, 16, 17] :: [0, 1, 2, 3, 4, 5, 6, 7, 8, 9, 10, 11, 12, 13, 14, 15, 16, 17, 18] :: [0, 1, 2, 3, 4, 5, 6, 7, 8, 9, 10, 11, 12, 13, 14, 15, 16, 17, 18, 19] :: (0 :: 1 :: 2 :: 3 :: 4 :: 5 :: 6 :: 7 :: 8 :: 9 :: 10 :: 11 :: 12 :: 13 :: 14 :: 15 :: 16 :: 17 :: 18 :: 19 :: 20 :: []) :: [])) (sl' := [(0, .one (.g (.d (.sl 3 (List.map encLaw14_Write l_0))))), (3, .one (.own 2003 (List.map encApi_Version v3.2))), (4, .one (bI .i64 v3.1)), (10, .one (.ptr 1010 0)), (11, .one (bB false)), (12, .one (bI .i64 v20.2))]) (hp' := [(1010, some (.blk 32 [bS r14, bS ByteArray.empty, bB false, bI .i64 (IntKind.wrap .i64 (y12 + 1)), bI .i64 (IntKind.wrap .i64 (BitVec.ofInt (IntKind.bits .i64) x15.Site &&& BitVec.ofInt (IntKind.bits .i64) 3).toNat), .g (.d (.sl 3 (List.map encApi_Dep y11)))])), (2003, some (.row 32 6 (List.map encApi_Version v3.2) false))]) follows rfl rfl rfl ⟨⟨⟨rfl, rfl⟩, trivial⟩, trivial, ⟨rfl, trivial⟩, trivial, ⟨rfl, rfl, trivial⟩, ⟨⟨rfl, rfl⟩, trivial⟩, ⟨rfl, rfl, trivial⟩, trivial, ⟨rfl, rfl, rfl, trivial⟩, trivial, ⟨rfl, rfl, trivial⟩, trivial, ⟨rfl, rfl, trivial⟩, trivial, ⟨rfl, rfl, trivial⟩, trivial, ⟨rfl, rfl, trivial⟩, ⟨⟨rfl, rfl⟩, trivial⟩, ⟨rfl, rfl, rfl, trivial⟩, trivial, ⟨rfl, rfl, trivial⟩, trivial, ⟨rfl, trivial⟩, trivial, ⟨rfl, trivial⟩, trivial, ⟨rfl, trivial⟩, trivial, ⟨rfl, trivial⟩, trivial, ⟨rfl, trivial⟩, trivial, ⟨rfl, trivial⟩, trivial, ⟨rfl, trivial⟩, trivial, ⟨rfl, trivial⟩, trivial, ⟨rfl, rfl, trivial⟩, trivial, ⟨rfl, rfl, trivial⟩, trivial, ⟨rfl, trivial⟩, trivial, trivial⟩ ⟨OpW.plain (op_move (Ev.t 11 (bB false)) rfl) rfl rfl, OpW.plain (op_move (Ev.t 114 (bB false)) rfl) rfl rfl, OpW.yes (op_moveView (T := 32) (size := 6) rfl) rfl rfl rfl, OpW.yes (op_move (Ev.t 12 (bI .i64 v20.2)) rfl) rfl rfl rfl, OpW.yes (op_index (cs := [.v (.string x26.Key), .v (.string x26.Value), .v (.bool x26.Gone), .v (.int .i64 x26.Stamp.N), .v (.int .i64 x26.Stamp.Site), .sl 3 (List.map encApi_Dep x26.Past)]) Try.underlying24 ti32 (idx_ok hx26).1 (idx_get hx26 encApi_Version) (Ev.t 116 (.g (.d (.sl 6 (List.map encApi_Version v3.2))))) (Ev.t 117 (bI .i64 v20.2)) rfl) rfl rfl rfl, OpW.yes (op_fieldE (cs' := [.v (.string x26.Key), .v (.string x26.Value), .v (.bool x26.Gone), .v (.int .i64 x26.Stamp.N), .v (.int .i64 x26.Stamp.Site), .sl 3 (List.map encApi_Dep x26.Past)]) Try.underlying32 rfl ti9 (by decide) rfl (Ev.t 118 (.ep [.v (.string x26.Key), .v (.string x26.Value), .v (.bool x26.Gone), .v (.int .i64 x26.Stamp.N), .v (.int .i64 x26.Stamp.Site), .sl 3 (List.map encApi_Dep x26.Past)])) rfl) rfl rfl rfl, OpW.yes (op_load1E (c := .v (.string x26.Key)) Try.underlying9 rfl rfl (Ev.t 119 (.ep [.v (.string x26.Key), .v (.string x26.Value), .v (.bool x26.Gone), .v (.int .i64 x26.Stamp.N), .v (.int .i64 x26.Stamp.Site), .sl 3 (List.map encApi_Dep x26.Past)])) rfl) rfl rfl rfl, OpW.yes (op_fieldP (off' := 0) Try.underlying32 rfl ti9 (by decide) rfl (Ev.t 10 (.ptr 1010 0)) rfl) rfl rfl rfl, OpW.yes (op_load1P (c := bS r14) Try.underlying9 rfl rfl (Ev.t 121 (.ptr 1010 0)) rfl) rfl rfl rfl, OpW.yes (OpL.cast (op_eqS (Ev.t 120 (bS x26.Key)) (Ev.t 122 (bS r14)) rfl) (congrArg (fun b => bB b) hc27)) rfl rfl rfl, OpW.yes (op_move (Ev.t 123 (bB false)) rfl) rfl rfl rfl, OpW.no rfl rfl rfl rfl rfl, OpW.no rfl rfl rfl rfl rfl, OpW.no rfl rfl rfl rfl rfl, OpW.no rfl rfl rfl rfl rfl, OpW.no rfl rfl rfl rfl rfl, OpW.no rfl rfl rfl rfl rfl, OpW.no rfl rfl rfl rfl rfl, OpW.no rfl rfl rfl rfl rfl, OpW.yes (op_pickF (Ev.t 124 (bB false)) (Ev.c _ rfl) rfl) rfl rfl rfl, OpW.plain (op_pickF (Ev.t 115 (bB false)) (Ev.t 133 (bB false)) rfl) rfl rfl, OpW.plain (op_assign (Ev.t 134 (bB false)) rfl) rfl rfl, trivial⟩ ⟨rfl, rfl, rfl, rfl, rfl, rfl, trivial⟩ ⟨rfl, rfl, trivial⟩ rfl ?_
                refine G.endBlock ?_
                refine G.region ?_
                refine G.op1 (op_move (Ev.t 12 (bI .i64 v20.2)) rfl) rfl ⟨rfl, trivial⟩ trivial ?_
                refine G.op1 (op_add (Ev.t 112 (bI .i64 v20.2)) (Ev.c _ rfl) rfl) rfl ⟨rfl, trivial⟩ trivial ?_
                refine G.op1 (op_assign (Ev.t 113 (bI .i64 (IntKind.wrap .i64 (v20.2 + 1)))) rfl) rfl ⟨rfl, trivial⟩ trivial ?_
                refine G.endOps ?_
                exact G.arr (J21 (false, IntKind.wrap .i64 (v20.2 + 1)) hF) ⟨rfl, rfl, rfl, rfl, rfl, rfl, trivial⟩ ⟨rfl, rfl, trivial⟩ rfl
          · refine G.cond rfl (fun hx => by rw [hc24] at hx; cases hx) (fun _ => ?_)
            refine G.exit ?_
            refine GX.c ?_
            refine GX.q ?_
            refine GX.bYes ?_
            exact G.arr (J19 v20.1 hF) ⟨rfl, rfl, rfl, rfl, rfl, trivial⟩ ⟨rfl, rfl, trivial⟩ rfl
        refine G.block ?_
        refine G.keep (sl' := [(0, .one (.g (.d (.sl 3 (List.map encLaw14_Write l_0))))), (3, .one (.own 2003 (List.map encApi_Version v3.2))), (4, .one (bI .i64 v3.1)), (5, .one (.g (.d (.sl 3 (List.map encApi_Dep y11))))), (6, .one (bI .i64 0)), (9, .one (bI .i64 0))]) (hp' := [(2003, some (.row 32 6 (List.map encApi_Version v3.2) false))]) ⟨rfl, rfl, rfl, rfl, rfl, rfl, trivial⟩ ⟨rfl, trivial⟩ rfl ?_
        refine G.loopF (fun (v30 : Int × Int) => ⟨[(0, .one (.g (.d (.sl 3 (List.map encLaw14_Write l_0))))), (3, .one (.own 2003 (List.map encApi_Version v3.2))), (4, .one (bI .i64 v3.1)), (5, .one (.g (.d (.sl 3 (List.map encApi_Dep y11))))), (6, .one (bI .i64 v30.1)), (9, .one (bI .i64 v30.2))], [(2003, some (.row 32 6 (List.map encApi_Version v3.2) false))]⟩) hF rfl (fun K33 again32 v30 J31 hF => ?_)
        unfold law14_made_l9 at hF
        refine G.seq ?_
        refine G.seq ?_
        refine G.region ?_
        refine G.op1 (op_move (Ev.t 9 (bI .i64 v30.2)) rfl) rfl ⟨rfl, trivial⟩ trivial ?_
        refine G.op1 (op_move (Ev.t 5 (.g (.d (.sl 3 (List.map encApi_Dep y11))))) rfl) rfl ⟨rfl, trivial⟩ trivial ?_
        refine G.op1 (OpL.cast (op_lenD Try.underlying30 (Ev.t 72 (.g (.d (.sl 3 (List.map encApi_Dep y11))))) rfl) (by rw [List.length_map])) rfl ⟨rfl, trivial⟩ trivial ?_
        refine G.op1 (op_lss (Ev.t 71 (bI .i64 v30.2)) (Ev.t 73 (bI .i64 (y11.length : Int))) rfl) rfl ⟨rfl, rfl, trivial⟩ trivial ?_
        refine G.endOps ?_
        refine ifS hF (fun hc34 hF => ?_) (fun hc34 hF => ?_)
        · refine G.cond rfl (fun _ => ?_) (fun hx => by rw [hc34] at hx; cases hx)
          refine G.skip ?_
          refine G.seq ?_
          refine G.block ?_
          refine G.seq ?_
          refine G.region ?_
          refine G.op1 (op_move (Ev.t 5 (.g (.d (.sl 3 (List.map encApi_Dep y11))))) rfl) rfl ⟨rfl, trivial⟩ trivial ?_
          refine G.op1 (op_move (Ev.t 9 (bI .i64 v30.2)) rfl) rfl ⟨rfl, trivial⟩ trivial ?_
          obtain ⟨x35, hx35, hF⟩ := bindS hF
          refine G.op1 (op_index (cs := [.v (.string x35.Key), .v (.int .i64 x35.Stamp.N), .v (.int .i64 x35.Stamp.Site)]) Try.underlying30 ti39 (idx_ok hx35).1 (idx_get hx35 encApi_Dep) (Ev.t 77 (.g (.d (.sl 3 (List.map encApi_Dep y11))))) (Ev.t 78 (bI .i64 v30.2)) rfl) rfl ⟨rfl, rfl, trivial⟩ trivial ?_
          refine G.op1 (op_fieldE (cs' := [.v (.int .i64 x35.Stamp.N), .v (.int .i64 x35.Stamp.Site)]) Try.underlying39 rfl ti29 (by decide) rfl (Ev.t 79 (.ep [.v (.string x35.Key), .v (.int .i64 x35.Stamp.N), .v (.int .i64 x35.Stamp.Site)])) rfl) rfl ⟨rfl, trivial⟩ trivial ?_
          refine G.op1 (op_fieldE (cs' := [.v (.int .i64 x35.Stamp.N), .v (.int .i64 x35.Stamp.Site)]) Try.underlying29 rfl ti3 (by decide) rfl (Ev.t 80 (.ep [.v (.int .i64 x35.Stamp.N), .v (.int .i64 x35.Stamp.Site)])) rfl) rfl ⟨rfl, trivial⟩ trivial ?_
          refine G.op1 (op_load1E (c := .v (.int .i64 x35.Stamp.N)) Try.underlying3 rfl rfl (Ev.t 81 (.ep [.v (.int .i64 x35.Stamp.N), .v (.int .i64 x35.Stamp.Site)])) rfl) rfl ⟨rfl, trivial⟩ trivial ?_
          refine G.op1 (op_move (Ev.t 6 (bI .i64 v30.1)) rfl) rfl ⟨rfl, trivial⟩ trivial ?_
          refine G.op1 (op_gtr (Ev.t 82 (bI .i64 x35.Stamp.N)) (Ev.t 83 (bI .i64 v30.1)) rfl) rfl ⟨rfl, rfl, trivial⟩ trivial ?_
          refine G.endOps ?_
          refine ifS hF (fun hc36 hF => ?_) (fun hc36 hF => ?_)
          · refine G.cond rfl (fun _ => ?_) (fun hx => by rw [hc36] at hx; cases hx)
            refine G.region ?_
            refine G.op1 (op_move (Ev.t 5 (.g (.d (.sl 3 (List.map encApi_Dep y11))))) rfl) rfl ⟨rfl, trivial⟩ trivial ?_
            refine G.op1 (op_move (Ev.t 9 (bI .i64 v30.2)) rfl) rfl ⟨rfl, trivial⟩ trivial ?_
            obtain ⟨x37, hx37, hF⟩ := bindS hF
            refine G.op1 (op_index (cs := [.v (.string x37.Key), .v (.int .i64 x37.Stamp.N), .v (.int .i64 x37.Stamp.Site)]) Try.underlying30 ti39 (idx_ok hx37).1 (idx_get hx37 encApi_Dep) (Ev.t 85 (.g (.d (.sl 3 (List.map encApi_Dep y11))))) (Ev.t 86 (bI .i64 v30.2)) rfl) rfl ⟨rfl, rfl, trivial⟩ trivial ?_
            refine G.op1 (op_fieldE (cs' := [.v (.int .i64 x37.Stamp.N), .v (.int .i64 x37.Stamp.Site)]) Try.underlying39 rfl ti29 (by decide) rfl (Ev.t 87 (.ep [.v (.string x37.Key), .v (.int .i64 x37.Stamp.N), .v (.int .i64 x37.Stamp.Site)])) rfl) rfl ⟨rfl, trivial⟩ trivial ?_
            refine G.op1 (op_fieldE (cs' := [.v (.int .i64 x37.Stamp.N), .v (.int .i64 x37.Stamp.Site)]) Try.underlying29 rfl ti3 (by decide) rfl (Ev.t 88 (.ep [.v (.int .i64 x37.Stamp.N), .v (.int .i64 x37.Stamp.Site)])) rfl) rfl ⟨rfl, trivial⟩ trivial ?_
            refine G.op1 (op_load1E (c := .v (.int .i64 x37.Stamp.N)) Try.underlying3 rfl rfl (Ev.t 89 (.ep [.v (.int .i64 x37.Stamp.N), .v (.int .i64 x37.Stamp.Site)])) rfl) rfl ⟨rfl, trivial⟩ trivial ?_
            refine G.op1 (op_assign (Ev.t 90 (bI .i64 x37.Stamp.N)) rfl) rfl ⟨rfl, trivial⟩ trivial ?_
            refine G.endOps ?_
            refine G.endBlock ?_
            refine G.region ?_
            refine G.op1 (op_move (Ev.t 9 (bI .i64 v30.2)) rfl) rfl ⟨rfl, trivial⟩ trivial ?_
            refine G.op1 (op_add (Ev.t 75 (bI .i64 v30.2)) (Ev.c _ rfl) rfl) rfl ⟨rfl, trivial⟩ trivial ?_
            refine G.op1 (op_assign (Ev.t 76 (bI .i64 (IntKind.wrap .i64 (v30.2 + 1)))) rfl) rfl ⟨rfl, trivial⟩ trivial ?_
            refine G.endOps ?_
            exact G.arr (J31 (x37.Stamp.N, IntKind.wrap .i64 (v30.2 + 1)) hF) ⟨rfl, rfl, rfl, rfl, rfl, rfl, trivial⟩ ⟨rfl, trivial⟩ rfl
          · refine G.cond rfl (fun hx => by rw [hc36] at hx; cases hx) (fun _ => ?_)
            refine G.skip ?_
            refine G.endBlock ?_
            refine G.region ?_
            refine G.op1 (op_move (Ev.t 9 (bI .i64 v30.2)) rfl) rfl ⟨rfl, trivial⟩ trivial ?_
            refine G.op1 (op_add (Ev.t 75 (bI .i64 v30.2)) (Ev.c _ rfl) rfl) rfl ⟨rfl, trivial⟩ trivial ?_
            refine G.op1 (op_assign (Ev.t 76 (bI .i64 (IntKind.wrap .i64 (v30.2 + 1)))) rfl) rfl ⟨rfl, trivial⟩ trivial ?_
            refine G.endOps ?_
            exact G.arr (J31 (v30.1, IntKind.wrap .i64 (v30.2 + 1)) hF) ⟨rfl, rfl, rfl, rfl, rfl, rfl, trivial⟩ ⟨rfl, trivial⟩ rfl
        · refine G.cond rfl (fun hx => by rw [hc34] at hx; cases hx) (fun _ => ?_)
          refine G.exit ?_
          refine GX.c ?_
          refine GX.q ?_
          refine GX.bYes ?_
          exact G.arr (J29 v30.1 hF) ⟨rfl, rfl, rfl, rfl, rfl, trivial⟩ ⟨rfl, trivial⟩ rfl
      refine G.block ?_
      refine G.keep (sl' := [(0, .one (.g (.d (.sl 3 (List.map encLaw14_Write l_0))))), (3, .one (.own 2003 (List.map encApi_Version v3.2))), (4, .one (bI .i64 v3.1)), (5, .one (.g (.d (.sl 3 (List.map encApi_Dep ([] : (List Api_Dep))))))), (6, .one (bI .i64 0)), (7, .one (bI .i64 0))]) (hp' := [(2003, some (.row 32 6 (List.map encApi_Version v3.2) false))]) ⟨rfl, rfl, rfl, rfl, rfl, rfl, trivial⟩ ⟨rfl, trivial⟩ rfl ?_
      refine G.loopF (fun (v39 : (List Api_Dep) × Int) => ⟨[(0, .one (.g (.d (.sl 3 (List.map encLaw14_Write l_0))))), (3, .one (.own 2003 (List.map encApi_Version v3.2))), (4, .one (bI .i64 v3.1)), (5, .one (.g (.d (.sl 3 (List.map encApi_Dep v39.1))))), (6, .one (bI .i64 0)), (7, .one (bI .i64 v39.2))], [(2003, some (.row 32 6 (List.map encApi_Version v3.2) false))]⟩) hF rfl (fun K42 again41 v39 J40 hF => ?_)
      unfold law14_made_l10 at hF
      refine G.seq ?_
      refine G.seq ?_
      refine G.joinC (T := Bool) (fun y43 => ⟨[(0, .one (.g (.d (.sl 3 (List.map encLaw14_Write l_0))))), (3, .one (.own 2003 (List.map encApi_Version v3.2))), (4, .one (bI .i64 v3.1)), (5, .one (.g (.d (.sl 3 (List.map encApi_Dep v39.1))))), (6, .one (bI .i64 0)), (7, .one (bI .i64 v39.2)), (34, .one (bB y43))], [(2003, some (.row 32 6 (List.map encApi_Version v3.2) false))]⟩) (fun y43 => law14_made_k11 l_0 again5 v3 again41 v39 y43 = some r) (fun y43 hF => ?_) (fun J52 => ?_)
      · unfold law14_made_k11 at hF
        refine ifS hF (fun hc44 hF => ?_) (fun hc44 hF => ?_)
        · refine G.cond rfl (fun _ => ?_) (fun hx => by rw [hc44] at hx; cases hx)
          refine G.skip ?_
          refine G.seq ?_
          refine G.block ?_
          refine G.seq ?_
          refine G.region ?_
          refine G.op1 (op_move (Ev.t 3 (.own 2003 (List.map encApi_Version v3.2))) rfl) rfl ⟨rfl, trivial⟩ trivial ?_
          refine G.op1 (OpL.cast (op_lenO Try.underlying24 (Ev.t 37 (.own 2003 (List.map encApi_Version v3.2))) rfl) (by rw [List.length_map])) rfl ⟨rfl, trivial⟩ ⟨rfl, trivial⟩ ?_
          refine G.op1 (op_gtr (Ev.t 38 (bI .i64 (v3.2.length : Int))) (Ev.c _ rfl) rfl) rfl ⟨rfl, trivial⟩ trivial ?_
          refine G.endOps ?_
          refine ifS hF (fun hc45 hF => ?_) (fun hc45 hF => ?_)
          · refine G.cond rfl (fun _ => ?_) (fun hx => by rw [hc45] at hx; cases hx)
            refine G.seq ?_
            refine G.region ?_
            refine G.op1 (op_move (Ev.t 3 (.own 2003 (List.map encApi_Version v3.2))) rfl) rfl ⟨rfl, trivial⟩ trivial ?_
            refine G.op1 (op_move (Ev.t 0 (.g (.d (.sl 3 (List.map encLaw14_Write l_0))))) rfl) rfl ⟨rfl, trivial⟩ trivial ?_
            refine G.op1 (op_move (Ev.t 4 (bI .i64 v3.1)) rfl) rfl ⟨rfl, trivial⟩ trivial ?_
            obtain ⟨x46, hx46, hF⟩ := bindS hF
            refine G.op1 (op_index (cs := [.v (.int .i64 x46.Key), .v (.int .i64 x46.Site), .sl 1 (List.map encI_i64 x46.Saw)]) Try.underlying22 ti70 (idx_ok hx46).1 (idx_get hx46 encLaw14_Write) (Ev.t 41 (.g (.d (.sl 3 (List.map encLaw14_Write l_0))))) (Ev.t 42 (bI .i64 v3.1)) rfl) rfl ⟨rfl, rfl, trivial⟩ trivial ?_
            refine G.op1 (op_fieldE (cs' := [.sl 1 (List.map encI_i64 x46.Saw)]) Try.underlying70 rfl ti55 (by decide) rfl (Ev.t 43 (.ep [.v (.int .i64 x46.Key), .v (.int .i64 x46.Site), .sl 1 (List.map encI_i64 x46.Saw)])) rfl) rfl ⟨rfl, trivial⟩ trivial ?_
            refine G.op1 (op_load1E (c := .sl 1 (List.map encI_i64 x46.Saw)) Try.underlying55 rfl rfl (Ev.t 44 (.ep [.sl 1 (List.map encI_i64 x46.Saw)])) rfl) rfl ⟨rfl, trivial⟩ trivial ?_
            refine G.op1 (op_move (Ev.t 7 (bI .i64 v39.2)) rfl) rfl ⟨rfl, trivial⟩ trivial ?_
            obtain ⟨x47, hx47, hF⟩ := bindS hF
            refine G.op1 (op_index (cs := [.v (.int .i64 x47)]) Try.underlying55 ti3 (idx_ok hx47).1 (idx_get hx47 encI_i64) (Ev.t 45 (.g (.d (.sl 1 (List.map encI_i64 x46.Saw))))) (Ev.t 46 (bI .i64 v39.2)) rfl) rfl ⟨rfl, rfl, trivial⟩ trivial ?_
            refine G.op1 (op_load1E (c := .v (.int .i64 x47)) Try.underlying3 rfl rfl (Ev.t 47 (.ep [.v (.int .i64 x47)])) rfl) rfl ⟨rfl, trivial⟩ trivial ?_
            refine G.op1 (op_move (Ev.t 3 (.own 2003 (List.map encApi_Version v3.2))) rfl) rfl ⟨rfl, trivial⟩ trivial ?_
            refine G.op1 (OpL.cast (op_lenO Try.underlying24 (Ev.t 49 (.own 2003 (List.map encApi_Version v3.2))) rfl) (by rw [List.length_map])) rfl ⟨rfl, trivial⟩ ⟨rfl, trivial⟩ ?_
            obtain ⟨hz48, hF⟩ := chkS hF
            refine G.op1 (op_rem (by simpa using hz48) (Ev.t 48 (bI .i64 x47)) (Ev.t 50 (bI .i64 (v3.2.length : Int))) rfl) rfl ⟨rfl, rfl, trivial⟩ trivial ?_
            refine G.op1 (op_move (Ev.t 3 (.own 2003 (List.map encApi_Version v3.2))) rfl) rfl ⟨rfl, trivial⟩ trivial ?_
            refine G.op1 (OpL.cast (op_lenO Try.underlying24 (Ev.t 52 (.own 2003 (List.map encApi_Version v3.2))) rfl) (by rw [List.length_map])) rfl ⟨rfl, trivial⟩ ⟨rfl, trivial⟩ ?_
            refine G.op1 (op_add (Ev.t 51 (bI .i64 (Int.tmod x47 (v3.2.length : Int)))) (Ev.t 53 (bI .i64 (v3.2.length : Int))) rfl) rfl ⟨rfl, rfl, trivial⟩ trivial ?_
            refine G.op1 (op_move (Ev.t 3 (.own 2003 (List.map encApi_Version v3.2))) rfl) rfl ⟨rfl, trivial⟩ trivial ?_
            refine G.op1 (OpL.cast (op_lenO Try.underlying24 (Ev.t 55 (.own 2003 (List.map encApi_Version v3.2))) rfl) (by rw [List.length_map])) rfl ⟨rfl, trivial⟩ ⟨rfl, trivial⟩ ?_
            obtain ⟨hz49, hF⟩ := chkS hF
            refine G.op1 (op_rem (by simpa using hz49) (Ev.t 54 (bI .i64 (IntKind.wrap .i64 ((Int.tmod x47 (v3.2.length : Int)) + (v3.2.length : Int))))) (Ev.t 56 (bI .i64 (v3.2.length : Int))) rfl) rfl ⟨rfl, rfl, trivial⟩ trivial ?_
            refine G.view (t := 40) rfl rfl ?_
            obtain ⟨x50, hx50, hF⟩ := bindS hF
            refine G.op1 (op_index (cs := [.v (.string x50.Key), .v (.string x50.Value), .v (.bool x50.Gone), .v (.int .i64 x50.Stamp.N), .v (.int .i64 x50.Stamp.Site), .sl 3 (List.map encApi_Dep x50.Past)]) Try.underlying24 ti32 (idx_ok hx50).1 (idx_get hx50 encApi_Version) (Ev.t 40 (.g (.d (.sl 6 (List.map encApi_Version v3.2))))) (Ev.t 57 (bI .i64 (Int.tmod (IntKind.wrap .i64 ((Int.tmod x47 (v3.2.length : Int)) + (v3.2.length : Int))) (v3.2.length : Int)))) rfl) rfl ⟨rfl, rfl, trivial⟩ trivial ?_
            refine G.op1 (op_loadAE (ds := [.v (.string x50.Key), .v (.string x50.Value), .v (.bool x50.Gone), .v (.int .i64 x50.Stamp.N), .v (.int .i64 x50.Stamp.Site), .sl 3 (List.map encApi_Dep x50.Past)]) Try.underlying32 rfl ti32 rfl (Ev.t 58 (.ep [.v (.string x50.Key), .v (.string x50.Value), .v (.bool x50.Gone), .v (.int .i64 x50.Stamp.N), .v (.int .i64 x50.Stamp.Site), .sl 3 (List.map encApi_Dep x50.Past)])) rfl) rfl ⟨rfl, trivial⟩ trivial ?_
            refine G.op2 (op_alloc (k := 1008) (cs := [bS ByteArray.empty, bS ByteArray.empty, bB false, bI .i64 0, bI .i64 0, .g (.d (.sl 3 (List.map encApi_Dep ([] : (List Api_Dep)))))]) ti32 ⟨.v _ rfl, .v _ rfl, .v _ rfl, .v _ rfl, .v _ rfl, .n 3, trivial⟩ rfl) rfl trivial ⟨rfl, trivial⟩ ?_
            refine G.op3 (op_storeA (cs' := [bS x50.Key, bS x50.Value, bB x50.Gone, bI .i64 x50.Stamp.N, bI .i64 x50.Stamp.Site, .g (.d (.sl 3 (List.map encApi_Dep x50.Past)))]) ti32 rfl rfl (Ev.t 8 (.ptr 1008 0)) (Ev.t 59 (.g (.agg [.v (.string x50.Key), .v (.string x50.Value), .v (.bool x50.Gone), .v (.int .i64 x50.Stamp.N), .v (.int .i64 x50.Stamp.Site), .sl 3 (List.map encApi_Dep x50.Past)])))) rfl ⟨rfl, rfl, trivial⟩ ⟨rfl, trivial⟩ ?_
            refine G.endOps ?_
            refine G.region ?_
            refine G.op1 (op_move (Ev.t 5 (.g (.d (.sl 3 (List.map encApi_Dep v39.1))))) rfl) rfl ⟨rfl, trivial⟩ trivial ?_
            refine G.op1 (op_fieldP (off' := 5) Try.underlying32 rfl ti30 (by decide) rfl (Ev.t 8 (.ptr 1008 0)) rfl) rfl ⟨rfl, trivial⟩ trivial ?_
            refine G.op1 (op_load1P (c := .g (.d (.sl 3 (List.map encApi_Dep x50.Past)))) Try.underlying30 rfl rfl (Ev.t 61 (.ptr 1008 5)) rfl) rfl ⟨rfl, trivial⟩ ⟨rfl, trivial⟩ ?_
            refine G.op1 (op_fieldP (off' := 0) Try.underlying32 rfl ti9 (by decide) rfl (Ev.t 8 (.ptr 1008 0)) rfl) rfl ⟨rfl, trivial⟩ trivial ?_
            refine G.op1 (op_load1P (c := bS x50.Key) Try.underlying9 rfl rfl (Ev.t 63 (.ptr 1008 0)) rfl) rfl ⟨rfl, trivial⟩ ⟨rfl, trivial⟩ ?_
            refine G.op1 (op_fieldP (off' := 3) Try.underlying32 rfl ti29 (by decide) rfl (Ev.t 8 (.ptr 1008 0)) rfl) rfl ⟨rfl, trivial⟩ trivial ?_
            refine G.op1 (op_loadAP (ds := [.v (.int .i64 x50.Stamp.N), .v (.int .i64 x50.Stamp.Site)]) Try.underlying29 rfl ti29 rfl (Ev.t 65 (.ptr 1008 3)) rfl) rfl ⟨rfl, trivial⟩ ⟨rfl, trivial⟩ ?_
            refine G.op1 (op_build (zs := [.v (.string ByteArray.empty), .v (.int .i64 0), .v (.int .i64 0)]) (ds := [.v (.string x50.Key), .v (.int .i64 x50.Stamp.N), .v (.int .i64 x50.Stamp.Site)]) Try.underlying39 ti39 (pl39 _ Try.underlying39) ⟨.v _ rfl, .v _ rfl, .v _ rfl, trivial⟩ (EvP.cons (Ev.t 64 (bS x50.Key)) (EvP.cons (Ev.t 66 (.g (.agg [.v (.int .i64 x50.Stamp.N), .v (.int .i64 x50.Stamp.Site)]))) EvP.nil)) rfl rfl) rfl ⟨rfl, rfl, trivial⟩ trivial ?_
            refine G.op1 (op_buildSlice (es := List.map encApi_Dep [(Api_Dep.mk x50.Key x50.Stamp)]) Try.underlying30 ti39 rfl rfl (EvP.cons (Ev.t 67 (.g (.agg [.v (.string x50.Key), .v (.int .i64 x50.Stamp.N), .v (.int .i64 x50.Stamp.Site)]))) EvP.nil) rfl rfl (by simp [encApi_Dep]) rfl) rfl ⟨rfl, trivial⟩ trivial ?_
            refine G.op1 (op_buildSlice (es := List.map encL_encApi_Dep [v39.1, x50.Past, [(Api_Dep.mk x50.Key x50.Stamp)]]) Try.underlying46 ti30 rfl rfl (EvP.cons (Ev.t 60 (.g (.d (.sl 3 (List.map encApi_Dep v39.1))))) (EvP.cons (Ev.t 62 (.g (.d (.sl 3 (List.map encApi_Dep x50.Past))))) (EvP.cons (Ev.t 68 (.g (.d (.sl 3 (List.map encApi_Dep ([(Api_Dep.mk x50.Key x50.Stamp)])))))) EvP.nil))) rfl rfl (by simp [encL_encApi_Dep]) rfl) rfl ⟨rfl, rfl, rfl, trivial⟩ trivial ?_
            obtain ⟨r51, hr51, hF⟩ := bindS hF
            refine G.op1 (op_call (sv := .one (.g (.d (.sl 3 (List.map encApi_Dep r51))))) cf19 (ct_ref04_Merge ([v39.1, x50.Past, [(Api_Dep.mk x50.Key x50.Stamp)]]) r51 hr51) rfl (EvL.cons (Ev.t 69 (.g (.d (.sl 1 (List.map encL_encApi_Dep ([v39.1, x50.Past, [(Api_Dep.mk x50.Key x50.Stamp)]])))))) EvL.nil) rfl) rfl ⟨rfl, trivial⟩ trivial ?_
            refine G.op1 (op_assign (Ev.t 70 (.g (.d (.sl 3 (List.map encApi_Dep r51))))) rfl) rfl ⟨rfl, trivial⟩ trivial ?_
            refine G.endOps ?_
            refine G.endBlock ?_
            refine G.region ?_
            refine G.op1 (op_move (Ev.t 7 (bI .i64 v39.2)) rfl) rfl ⟨rfl, trivial⟩ trivial ?_
            refine G.op1 (op_add (Ev.t 35 (bI .i64 v39.2)) (Ev.c _ rfl) rfl) rfl ⟨rfl, trivial⟩ trivial ?_
            refine G.op1 (op_assign (Ev.t 36 (bI .i64 (IntKind.wrap .i64 (v39.2 + 1)))) rfl) rfl ⟨rfl, trivial⟩ trivial ?_
            refine G.endOps ?_
            exact G.arr (J40 (r51, IntKind.wrap .i64 (v39.2 + 1)) hF) ⟨rfl, rfl, rfl, rfl, rfl, rfl, trivial⟩ ⟨rfl, trivial⟩ rfl
          · refine G.cond rfl (fun hx => by rw [hc45] at hx; cases hx) (fun _ => ?_)
            refine G.skip ?_
            refine G.endBlock ?_
            refine G.region ?_
            refine G.op1 (op_move (Ev.t 7 (bI .i64 v39.2)) rfl) rfl ⟨rfl, trivial⟩ trivial ?_
            refine G.op1 (op_add (Ev.t 35 (bI .i64 v39.2)) (Ev.c _ rfl) rfl) rfl ⟨rfl, trivial⟩ trivial ?_
            refine G.op1 (op_assign (Ev.t 36 (bI .i64 (IntKind.wrap .i64 (v39.2 + 1)))) rfl) rfl ⟨rfl, trivial⟩ trivial ?_
            refine G.endOps ?_
            exact G.arr (J40 (v39.1, IntKind.wrap .i64 (v39.2 + 1)) hF) ⟨rfl, rfl, rfl, rfl, rfl, rfl, trivial⟩ ⟨rfl, trivial⟩ rfl
        · refine G.cond rfl (fun hx => by rw [hc44] at hx; cases hx) (fun _ => ?_)
          refine G.exit ?_
          refine GX.c ?_
          refine GX.q ?_
          refine GX.bYes ?_
          exact G.arr (J38 v39.1 hF) ⟨rfl, rfl, rfl, rfl, rfl, trivial⟩ ⟨rfl, trivial⟩ rfl
      refine G.region ?_
      refine G.op1 (op_move (Ev.t 7 (bI .i64 v39.2)) rfl) rfl ⟨rfl, trivial⟩ trivial ?_
      refine G.op1 (op_move (Ev.t 0 (.g (.d (.sl 3 (List.map encLaw14_Write l_0))))) rfl) rfl ⟨rfl, trivial⟩ trivial ?_
      refine G.op1 (op_move (Ev.t 4 (bI .i64 v3.1)) rfl) rfl ⟨rfl, trivial⟩ trivial ?_
      obtain ⟨x53, hx53, hF⟩ := bindS hF
      refine G.op1 (op_index (cs := [.v (.int .i64 x53.Key), .v (.int .i64 x53.Site), .sl 1 (List.map encI_i64 x53.Saw)]) Try.underlying22 ti70 (idx_ok hx53).1 (idx_get hx53 encLaw14_Write) (Ev.t 24 (.g (.d (.sl 3 (List.map encLaw14_Write l_0))))) (Ev.t 25 (bI .i64 v3.1)) rfl) rfl ⟨rfl, rfl, trivial⟩ trivial ?_
      refine G.op1 (op_fieldE (cs' := [.sl 1 (List.map encI_i64 x53.Saw)]) Try.underlying70 rfl ti55 (by decide) rfl (Ev.t 26 (.ep [.v (.int .i64 x53.Key), .v (.int .i64 x53.Site), .sl 1 (List.map encI_i64 x53.Saw)])) rfl) rfl ⟨rfl, trivial⟩ trivial ?_
      refine G.op1 (op_load1E (c := .sl 1 (List.map encI_i64 x53.Saw)) Try.underlying55 rfl rfl (Ev.t 27 (.ep [.sl 1 (List.map encI_i64 x53.Saw)])) rfl) rfl ⟨rfl, trivial⟩ trivial ?_
      refine G.op1 (OpL.cast (op_lenD Try.underlying55 (Ev.t 28 (.g (.d (.sl 1 (List.map encI_i64 x53.Saw))))) rfl) (by rw [List.length_map])) rfl ⟨rfl, trivial⟩ trivial ?_
      refine G.op1 (op_lss (Ev.t 23 (bI .i64 v39.2)) (Ev.t 29 (bI .i64 (x53.Saw.length : Int))) rfl) rfl ⟨rfl, rfl, trivial⟩ trivial ?_
      refine G.op1 (op_move (Ev.t 30 (bB (decide (v39.2 < (x53.Saw.length : Int))))) rfl) rfl ⟨rfl, trivial⟩ trivial ?_
      refine ifS hF (fun hc54 hF => ?_) (fun hc54 hF => ?_)
      · refine G.known (t := 31) hc54 rfl ?_
        refine G.opG1 (op_move (Ev.t 7 (bI .i64 v39.2)) rfl) rfl rfl rfl ⟨rfl, trivial⟩ trivial ?_
        refine G.opG1 (op_lss (Ev.t 32 (bI .i64 v39.2)) (Ev.c _ rfl) rfl) rfl rfl rfl ⟨rfl, trivial⟩ trivial ?_
        refine G.op1 (op_pickT (Ev.t 31 (bB true)) (Ev.t 33 (bB (decide (v39.2 < 4)))) rfl) rfl ⟨rfl, rfl, trivial⟩ trivial ?_
        refine G.endOps ?_
        exact G.arr (J52 (decide (v39.2 < 4)) hF) ⟨rfl, rfl, rfl, rfl, rfl, rfl, rfl, trivial⟩ ⟨rfl, trivial⟩ rfl
      · refine G.known (t := 31) hc54 rfl ?_
        refine G.opN1 rfl rfl rfl rfl rfl ?_
        refine G.opN1 rfl rfl rfl rfl rfl ?_
        refine G.op1 (op_pickF (Ev.t 31 (bB false)) (Ev.c _ rfl) rfl) rfl ⟨rfl, trivial⟩ trivial ?_
        refine G.endOps ?_
        exact G.arr (J52 false hF) ⟨rfl, rfl, rfl, rfl, rfl, rfl, rfl, trivial⟩ ⟨rfl, trivial⟩ rfl
    · refine G.cond rfl (fun hx => by rw [hc8] at hx; cases hx) (fun _ => ?_)
      refine G.exit ?_
      refine GX.c ?_
      refine GX.q ?_
      refine GX.bYes ?_
      exact G.arr (J2 v3.2 hF) ⟨rfl, trivial⟩ ⟨rfl, trivial⟩ rfl
  refine G.region ?_
  refine G.op1 (op_move (Ev.t 4 (bI .i64 v3.1)) rfl) rfl ⟨rfl, trivial⟩ trivial ?_
  refine G.op1 (op_move (Ev.t 0 (.g (.d (.sl 3 (List.map encLaw14_Write l_0))))) rfl) rfl ⟨rfl, trivial⟩ trivial ?_
  refine G.op1 (OpL.cast (op_lenD Try.underlying22 (Ev.t 14 (.g (.d (.sl 3 (List.map encLaw14_Write l_0))))) rfl) (by rw [List.length_map])) rfl ⟨rfl, trivial⟩ trivial ?_
  refine G.op1 (op_lss (Ev.t 13 (bI .i64 v3.1)) (Ev.t 15 (bI .i64 (l_0.length : Int))) rfl) rfl ⟨rfl, rfl, trivial⟩ trivial ?_
  refine G.op1 (op_move (Ev.t 16 (bB (decide (v3.1 < (l_0.length : Int))))) rfl) rfl ⟨rfl, trivial⟩ trivial ?_
  refine ifS hF (fun hc56 hF => ?_) (fun hc56 hF => ?_)
  · refine G.known (t := 17) hc56 rfl ?_
    refine G.opG1 (op_move (Ev.t 4 (bI .i64 v3.1)) rfl) rfl rfl rfl ⟨rfl, trivial⟩ trivial ?_
    refine G.opG1 (op_lss (Ev.t 18 (bI .i64 v3.1)) (Ev.c _ rfl) rfl) rfl rfl rfl ⟨rfl, trivial⟩ trivial ?_
    refine G.op1 (op_pickT (Ev.t 17 (bB true)) (Ev.t 19 (bB (decide (v3.1 < 14)))) rfl) rfl ⟨rfl, rfl, trivial⟩ trivial ?_
    refine G.endOps ?_
    exact G.arr (J55 (decide (v3.1 < 14)) hF) ⟨rfl, rfl, rfl, rfl, trivial⟩ ⟨rfl, trivial⟩ rfl
  · refine G.known (t := 17) hc56 rfl ?_
    refine G.opN1 rfl rfl rfl rfl rfl ?_
    refine G.opN1 rfl rfl rfl rfl rfl ?_
    refine G.op1 (op_pickF (Ev.t 17 (bB false)) (Ev.c _ rfl) rfl) rfl ⟨rfl, trivial⟩ trivial ?_
    refine G.endOps ?_
    exact G.arr (J55 false hF) ⟨rfl, rfl, rfl, rfl, trivial⟩ ⟨rfl, trivial⟩ rfl


set_option maxRecDepth 20000 in
set_option maxHeartbeats 2000000 in
theorem ct_law14_ranges (n_0 : Int) (r : (List Api_Range)) (hF : law14_ranges n_0 = some r) : Ct Try.prog 11 [.g (.d (.v (.int .i64 n_0)))] (.one (.d (.sl 2 (List.map encApi_Range r)))) := by
  unfold law14_ranges at hF
  refine Ct.intro Try.func11 rfl Try.ntmps11 rfl rfl fun M w => ?_
  refine G.seq ?_
  refine G.region ?_
  refine G.op1 (op_assign (Ev.n 2) rfl) rfl trivial trivial ?_
  refine G.endOps ?_
  refine G.seq ?_
  refine G.seq ?_
  refine G.region ?_
  refine G.op1 (op_move (Ev.t 0 (bI .i64 n_0)) rfl) rfl ⟨rfl, trivial⟩ trivial ?_
  refine G.op1 (op_and (Ev.t 3 (bI .i64 n_0)) (Ev.c _ rfl) rfl) rfl ⟨rfl, trivial⟩ trivial ?_
  refine G.endOps ?_
  refine G.block ?_
  refine G.seq ?_
  refine G.region ?_
  refine G.op1 (op_eqI (Ev.t 4 (bI .i64 (IntKind.wrap .i64 (BitVec.ofInt (IntKind.bits .i64) n_0 &&& BitVec.ofInt (IntKind.bits .i64) 3).toNat))) (Ev.c _ rfl) rfl) rfl ⟨rfl, trivial⟩ trivial ?_
  refine G.op1 (op_assign (Ev.t 6 (bB (decide ((IntKind.wrap .i64 (BitVec.ofInt (IntKind.bits .i64) n_0 &&& BitVec.ofInt (IntKind.bits .i64) 3).toNat) = 0)))) rfl) rfl ⟨rfl, trivial⟩ trivial ?_
  refine G.endOps ?_
  refine ifS hF (fun hc1 hF => ?_) (fun hc1 hF => ?_)
  · refine G.cond rfl (fun _ => ?_) (fun hx => by rw [hc1] at hx; cases hx)
    refine G.seq ?_
    refine G.region ?_
    refine G.op1 (op_build (zs := [.v (.string ByteArray.empty), .v (.string ByteArray.empty)]) (ds := [.v (.string ByteArray.empty), .v (.string ByteArray.empty)]) Try.underlying51 ti51 (pl51 _ Try.underlying51) ⟨.v _ rfl, .v _ rfl, trivial⟩ EvP.nil rfl rfl) rfl trivial trivial ?_
    refine G.op1 (op_buildSlice (es := List.map encApi_Range [(Api_Range.mk ByteArray.empty ByteArray.empty)]) Try.underlying26 ti51 rfl rfl (EvP.cons (Ev.t 7 (.g (.agg [.v (.string ByteArray.empty), .v (.string ByteArray.empty)]))) EvP.nil) rfl rfl (by simp [encApi_Range]) rfl) rfl ⟨rfl, trivial⟩ trivial ?_
    refine G.op1 (op_assign (Ev.t 8 (.g (.d (.sl 2 (List.map encApi_Range ([(Api_Range.mk ByteArray.empty ByteArray.empty)])))))) rfl) rfl ⟨rfl, trivial⟩ trivial ?_
    refine G.endOps ?_
    cases hF
    exact G.ret1 Try.results11 (RVar.tmp 2 _) ⟨rfl, trivial⟩ trivial
  · refine G.cond rfl (fun hx => by rw [hc1] at hx; cases hx) (fun _ => ?_)
    refine G.seq ?_
    refine G.region ?_
    refine G.op1 (op_eqI (Ev.t 4 (bI .i64 (IntKind.wrap .i64 (BitVec.ofInt (IntKind.bits .i64) n_0 &&& BitVec.ofInt (IntKind.bits .i64) 3).toNat))) (Ev.c _ rfl) rfl) rfl ⟨rfl, trivial⟩ trivial ?_
    refine G.op1 (op_assign (Ev.t 10 (bB (decide ((IntKind.wrap .i64 (BitVec.ofInt (IntKind.bits .i64) n_0 &&& BitVec.ofInt (IntKind.bits .i64) 3).toNat) = 1)))) rfl) rfl ⟨rfl, trivial⟩ trivial ?_
    refine G.endOps ?_
    refine ifS hF (fun hc2 hF => ?_) (fun hc2 hF => ?_)
    · refine G.cond rfl (fun _ => ?_) (fun hx => by rw [hc2] at hx; cases hx)
      refine G.seq ?_
      refine G.region ?_
      refine G.op1 (op_build (zs := [.v (.string ByteArray.empty), .v (.string ByteArray.empty)]) (ds := [.v (.string ByteArray.empty), .v (.string (ByteArray.mk #[106]))]) Try.underlying51 ti51 (pl51 _ Try.underlying51) ⟨.v _ rfl, .v _ rfl, trivial⟩ (EvP.cons (Ev.c _ rfl) EvP.nil) rfl rfl) rfl trivial trivial ?_
      refine G.op1 (op_buildSlice (es := List.map encApi_Range [(Api_Range.mk ByteArray.empty (ByteArray.mk #[106]))]) Try.underlying26 ti51 rfl rfl (EvP.cons (Ev.t 11 (.g (.agg [.v (.string ByteArray.empty), .v (.string (ByteArray.mk #[106]))]))) EvP.nil) rfl rfl (by simp [encApi_Range]) rfl) rfl ⟨rfl, trivial⟩ trivial ?_
      refine G.op1 (op_assign (Ev.t 12 (.g (.d (.sl 2 (List.map encApi_Range ([(Api_Range.mk ByteArray.empty (ByteArray.mk #[106]))])))))) rfl) rfl ⟨rfl, trivial⟩ trivial ?_
      refine G.endOps ?_
      cases hF
      exact G.ret1 Try.results11 (RVar.tmp 2 _) ⟨rfl, trivial⟩ trivial
    · refine G.cond rfl (fun hx => by rw [hc2] at hx; cases hx) (fun _ => ?_)
      refine G.seq ?_
      refine G.region ?_
      refine G.op1 (op_eqI (Ev.t 4 (bI .i64 (IntKind.wrap .i64 (BitVec.ofInt (IntKind.bits .i64) n_0 &&& BitVec.ofInt (IntKind.bits .i64) 3).toNat))) (Ev.c _ rfl) rfl) rfl ⟨rfl, trivial⟩ trivial ?_
      refine G.op1 (op_assign (Ev.t 14 (bB (decide ((IntKind.wrap .i64 (BitVec.ofInt (IntKind.bits .i64) n_0 &&& BitVec.ofInt (IntKind.bits .i64) 3).toNat) = 2)))) rfl) rfl ⟨rfl, trivial⟩ trivial ?_
      refine G.endOps ?_
      refine ifS hF (fun hc3 hF => ?_) (fun hc3 hF => ?_)
      · refine G.cond rfl (fun _ => ?_) (fun hx => by rw [hc3] at hx; cases hx)
        refine G.seq ?_
        refine G.region ?_
        refine G.op1 (op_build (zs := [.v (.string ByteArray.empty), .v (.string ByteArray.empty)]) (ds := [.v (.string (ByteArray.mk #[100])), .v (.string (ByteArray.mk #[109]))]) Try.underlying51 ti51 (pl51 _ Try.underlying51) ⟨.v _ rfl, .v _ rfl, trivial⟩ (EvP.cons (Ev.c _ rfl) (EvP.cons (Ev.c _ rfl) EvP.nil)) rfl rfl) rfl trivial trivial ?_
        refine G.op1 (op_build (zs := [.v (.string ByteArray.empty), .v (.string ByteArray.empty)]) (ds := [.v (.string (ByteArray.mk #[115])), .v (.string ByteArray.empty)]) Try.underlying51 ti51 (pl51 _ Try.underlying51) ⟨.v _ rfl, .v _ rfl, trivial⟩ (EvP.cons (Ev.c _ rfl) EvP.nil) rfl rfl) rfl trivial trivial ?_
        refine G.op1 (op_buildSlice (es := List.map encApi_Range [(Api_Range.mk (ByteArray.mk #[100]) (ByteArray.mk #[109])), (Api_Range.mk (ByteArray.mk #[115]) ByteArray.empty)]) Try.underlying26 ti51 rfl rfl (EvP.cons (Ev.t 15 (.g (.agg [.v (.string (ByteArray.mk #[100])), .v (.string (ByteArray.mk #[109]))]))) (EvP.cons (Ev.t 16 (.g (.agg [.v (.string (ByteArray.mk #[115])), .v (.string ByteArray.empty)]))) EvP.nil)) rfl rfl (by simp [encApi_Range]) rfl) rfl ⟨rfl, rfl, trivial⟩ trivial ?_
        refine G.op1 (op_assign (Ev.t 17 (.g (.d (.sl 2 (List.map encApi_Range ([(Api_Range.mk (ByteArray.mk #[100]) (ByteArray.mk #[109])), (Api_Range.mk (ByteArray.mk #[115]) ByteArray.empty)])))))) rfl) rfl ⟨rfl, trivial⟩ trivial ?_
        refine G.endOps ?_
        cases hF
        exact G.ret1 Try.results11 (RVar.tmp 2 _) ⟨rfl, trivial⟩ trivial
      · refine G.cond rfl (fun hx => by rw [hc3] at hx; cases hx) (fun _ => ?_)
        refine G.skip ?_
        refine G.endBlock ?_
        refine G.seq ?_
        refine G.region ?_
        refine G.op1 (op_assign (Ev.n 2) rfl) rfl trivial trivial ?_
        refine G.endOps ?_
        cases hF
        exact G.ret1 Try.results11 (RVar.tmp 2 _) ⟨rfl, trivial⟩ trivial


set_option maxRecDepth 20000 in
set_option maxHeartbeats 2000000 in
theorem ct_slices_Clone_Version (s_0 : (List Api_Version)) (r : (List Api_Version)) (hF : slices_Clone_Version s_0 = some r) : Ct Try.prog 42 [.g (.d (.sl 6 (List.map encApi_Version s_0)))] (.new 32 6 (List.map encApi_Version r)) := by
  unfold slices_Clone_Version at hF
  refine Ct.intro Try.func42 rfl Try.ntmps42 rfl rfl fun M w => ?_
  refine G.seq ?_
  refine G.region ?_
  refine G.op1 (op_assign (c := .x (.slice none 0 0)) (Ev.x _) rfl) rfl trivial trivial ?_
  refine G.endOps ?_
  refine G.seq ?_
  refine G.seq ?_
  refine G.region ?_
  refine G.op1 (op_move (Ev.t 0 (.g (.d (.sl 6 (List.map encApi_Version s_0))))) rfl) rfl ⟨rfl, trivial⟩ trivial ?_
  refine G.opNil Try.underlying24 (Ev.t 3 (.g (.d (.sl 6 (List.map encApi_Version s_0))))) rfl ⟨rfl, trivial⟩ (fun nilb1 hnilb1 => ?_)
  refine G.endOps ?_
  refine G.cond rfl (fun hx => ?_) (fun hx => ?_)
  · replace hF := cloneNil (hnilb1 hx) hF
    refine G.seq ?_
    refine G.region ?_
    refine G.op1 (op_assign (c := .x (.slice none 0 0)) (Ev.x _) rfl) rfl trivial trivial ?_
    refine G.endOps ?_
    cases hF
    exact G.retNil (T := 32) Try.results42 ti32 rfl ⟨rfl, trivial⟩
  · clear hnilb1
    refine G.skip ?_
    refine G.seq ?_
    refine G.region ?_
    refine G.op2 (op_buildRow (kk := 2005) Try.underlying24 ti32 rfl rfl) rfl trivial ⟨rfl, trivial⟩ ?_
    refine G.keep (sl' := [(0, .one (.g (.d (.sl 6 (List.map encApi_Version s_0))))), (2, .one (.x (.slice none 0 0))), (3, .one (.g (.d (.sl 6 (List.map encApi_Version s_0))))), (4, .one (bB nilb1)), (5, .one (.own 2005 (List.map encApi_Version ([] : List Api_Version))))]) (hp' := [(2005, some (.row 32 6 (List.map encApi_Version ([] : List Api_Version)) true))]) ⟨rfl, rfl, rfl, rfl, rfl, trivial⟩ ⟨rfl, trivial⟩ rfl ?_
    refine G.op1 (op_move (Ev.t 0 (.g (.d (.sl 6 (List.map encApi_Version s_0))))) rfl) rfl ⟨rfl, trivial⟩ trivial ?_
    obtain ⟨l2, hl2, hF⟩ := bindS hF
    refine G.op2 (op_appendO Try.underlying24 ti32 rfl (app_map hl2 encApi_Version) (app_b1 hl2 encApi_Version) (app_b2 hl2 encApi_Version) (Ev.t 5 (.own 2005 (List.map encApi_Version ([] : List Api_Version)))) (Ev.t 6 (.g (.d (.sl 6 (List.map encApi_Version s_0))))) rfl) rfl ⟨rfl, rfl, trivial⟩ ⟨rfl, trivial⟩ ?_
    refine G.op1 (op_assign (Ev.t 7 (.own 2005 (List.map encApi_Version l2))) rfl) rfl ⟨rfl, trivial⟩ trivial ?_
    refine G.endOps ?_
    cases hF
    exact G.retNew Try.results42 rfl rfl


set_option maxRecDepth 20000 in
set_option maxHeartbeats 2000000 in
theorem ct_queue_Drop_1 (v_0 : Api_Version) (c0 : (List Api_Range)) (r : Bool) (hF : queue_Drop_1 v_0 c0 = some r) : Ct Try.prog 43 [.g (.agg (encApi_Version v_0)), .ep [.sl 2 (List.map encApi_Range c0)]] (.one (.d (.v (.bool r)))) := by
  unfold queue_Drop_1 at hF
  refine Ct.intro Try.func43 rfl Try.ntmps43 rfl rfl fun M w => ?_
  refine G.seq ?_
  refine G.region ?_
  refine G.op2 (op_boxA (k := 1002) (Ev.t 0 (.g (.agg [.v (.string v_0.Key), .v (.string v_0.Value), .v (.bool v_0.Gone), .v (.int .i64 v_0.Stamp.N), .v (.int .i64 v_0.Stamp.Site), .sl 3 (List.map encApi_Dep v_0.Past)]))) rfl) rfl ⟨rfl, trivial⟩ ⟨rfl, trivial⟩ ?_
  refine G.op1 (op_assign (Ev.c _ rfl) rfl) rfl trivial trivial ?_
  refine G.endOps ?_
  refine G.seq ?_
  refine G.region ?_
  refine G.op1 (op_load1E (c := .sl 2 (List.map encApi_Range c0)) Try.underlying26 rfl rfl (Ev.t 1 (.ep [.sl 2 (List.map encApi_Range c0)])) rfl) rfl ⟨rfl, trivial⟩ trivial ?_
  refine G.op1 (op_fieldP (off' := 0) Try.underlying32 rfl ti9 (by decide) rfl (Ev.t 2 (.ptr 1002 0)) rfl) rfl ⟨rfl, trivial⟩ trivial ?_
  refine G.op1 (op_load1P (c := bS v_0.Key) Try.underlying9 rfl rfl (Ev.t 5 (.ptr 1002 0)) rfl) rfl ⟨rfl, trivial⟩ ⟨rfl, trivial⟩ ?_
  obtain ⟨r1, hr1, hF⟩ := bindS hF
  refine G.op1 (op_callQ (sv := .one (bI .i64 r1)) cf44 (ct_keys_Find c0 v_0.Key r1 hr1) rfl rfl (EvQL.cons (EvQ.g (Ev.t 4 (.g (.d (.sl 2 (List.map encApi_Range c0)))))) (EvQL.cons (EvQ.g (Ev.t 6 (bS v_0.Key))) EvQL.nil)) rfl) rfl ⟨rfl, rfl, trivial⟩ trivial ?_
  refine G.op1 (op_lss (Ev.t 7 (bI .i64 r1)) (Ev.c _ rfl) rfl) rfl ⟨rfl, trivial⟩ trivial ?_
  refine G.op1 (op_assign (Ev.t 8 (bB (decide (r1 < 0)))) rfl) rfl ⟨rfl, trivial⟩ trivial ?_
  refine G.endOps ?_
  cases hF
  exact G.ret1 Try.results43 (RVar.tmp 3 _) ⟨rfl, trivial⟩ trivial


set_option maxRecDepth 20000 in
set_option maxHeartbeats 2000000 in
theorem ct_slices_IndexFunc_Version (s_0 : (List Api_Version)) (f_1 : (Api_Version → Option Bool)) (r : Int) (hF : slices_IndexFunc_Version s_0 f_1 = some r) : Ct Try.prog 53 [.g (.d (.sl 6 (List.map encApi_Version s_0))), .sem (sem1 (fun x => .agg (encApi_Version x)) (fun y => .bool y) f_1)] (.one (.d (.v (.int .i64 r)))) := by
  unfold slices_IndexFunc_Version at hF
  refine Ct.intro Try.func53 rfl Try.ntmps53 rfl rfl fun M w => ?_
  refine G.seq ?_
  refine G.region ?_
  refine G.op1 (op_assign (Ev.c _ rfl) rfl) rfl trivial trivial ?_
  refine G.endOps ?_
  refine G.seq ?_
  refine G.seq ?_
  refine G.region ?_
  refine G.op1 (op_move (Ev.t 0 (.g (.d (.sl 6 (List.map encApi_Version s_0))))) rfl) rfl ⟨rfl, trivial⟩ trivial ?_
  refine G.op1 (OpL.cast (op_lenD Try.underlying24 (Ev.t 6 (.g (.d (.sl 6 (List.map encApi_Version s_0))))) rfl) (by rw [List.length_map])) rfl ⟨rfl, trivial⟩ trivial ?_
  refine G.op1 (op_move (Ev.c _ rfl) rfl) rfl trivial trivial ?_
  refine G.endOps ?_
  refine G.joinC (T := Unit) (fun y1 => ⟨[], []⟩) (fun y1 => slices_IndexFunc_Version_k1 y1 = some r) (fun y1 hF => ?_) (fun J2 => ?_)
  · unfold slices_IndexFunc_Version_k1 at hF
    refine G.seq ?_
    refine G.region ?_
    refine G.op1 (op_assign (Ev.c _ rfl) rfl) rfl trivial trivial ?_
    refine G.endOps ?_
    cases hF
    exact G.ret1 Try.results53 (RVar.tmp 4 _) ⟨rfl, trivial⟩ trivial
  refine G.block ?_
  refine G.keep (sl' := [(0, .one (.g (.d (.sl 6 (List.map encApi_Version s_0))))), (1, .one (.sem (sem1 (fun x => .agg (encApi_Version x)) (fun y => .bool y) f_1))), (7, .one (bI .i64 (s_0.length : Int))), (8, .one (bI .i64 0))]) (hp' := []) ⟨rfl, rfl, rfl, rfl, trivial⟩ trivial rfl ?_
  refine G.loopF (fun (v3 : Int) => ⟨[(0, .one (.g (.d (.sl 6 (List.map encApi_Version s_0))))), (1, .one (.sem (sem1 (fun x => .agg (encApi_Version x)) (fun y => .bool y) f_1))), (7, .one (bI .i64 (s_0.length : Int))), (8, .one (bI .i64 v3))], []⟩) hF rfl (fun K6 again5 v3 J4 hF => ?_)
  unfold slices_IndexFunc_Version_l2 at hF
  refine G.seq ?_
  refine G.region ?_
  refine G.op1 (op_lss (Ev.t 8 (bI .i64 v3)) (Ev.t 7 (bI .i64 (s_0.length : Int))) rfl) rfl ⟨rfl, rfl, trivial⟩ trivial ?_
  refine G.endOps ?_
  refine G.seq ?_
  refine ifS hF (fun hc7 hF => ?_) (fun hc7 hF => ?_)
  · refine G.cond rfl (fun _ => ?_) (fun hx => by rw [hc7] at hx; cases hx)
    refine G.skip ?_
    refine G.seq ?_
    refine G.block ?_
    refine G.seq ?_
    refine G.region ?_
    refine G.op1 (op_move (Ev.t 8 (bI .i64 v3)) rfl) rfl ⟨rfl, trivial⟩ trivial ?_
    refine G.op1 (op_assign (Ev.t 10 (bI .i64 v3)) rfl) rfl ⟨rfl, trivial⟩ trivial ?_
    refine G.endOps ?_
    refine G.seq ?_
    refine G.region ?_
    refine G.op1 (op_move (Ev.t 1 (.sem (sem1 (fun x => .agg (encApi_Version x)) (fun y => .bool y) f_1))) rfl) rfl ⟨rfl, trivial⟩ trivial ?_
    refine G.op1 (op_move (Ev.t 0 (.g (.d (.sl 6 (List.map encApi_Version s_0))))) rfl) rfl ⟨rfl, trivial⟩ trivial ?_
    refine G.op1 (op_move (Ev.t 5 (bI .i64 v3)) rfl) rfl ⟨rfl, trivial⟩ trivial ?_
    obtain ⟨x8, hx8, hF⟩ := bindS hF
    refine G.op1 (op_index (cs := [.v (.string x8.Key), .v (.string x8.Value), .v (.bool x8.Gone), .v (.int .i64 x8.Stamp.N), .v (.int .i64 x8.Stamp.Site), .sl 3 (List.map encApi_Dep x8.Past)]) Try.underlying24 ti32 (idx_ok hx8).1 (idx_get hx8 encApi_Version) (Ev.t 12 (.g (.d (.sl 6 (List.map encApi_Version s_0))))) (Ev.t 13 (bI .i64 v3)) rfl) rfl ⟨rfl, rfl, trivial⟩ trivial ?_
    refine G.op1 (op_loadAE (ds := [.v (.string x8.Key), .v (.string x8.Value), .v (.bool x8.Gone), .v (.int .i64 x8.Stamp.N), .v (.int .i64 x8.Stamp.Site), .sl 3 (List.map encApi_Dep x8.Past)]) Try.underlying32 rfl ti32 rfl (Ev.t 14 (.ep [.v (.string x8.Key), .v (.string x8.Value), .v (.bool x8.Gone), .v (.int .i64 x8.Stamp.N), .v (.int .i64 x8.Stamp.Site), .sl 3 (List.map encApi_Dep x8.Past)])) rfl) rfl ⟨rfl, trivial⟩ trivial ?_
    obtain ⟨r9, hr9, hF⟩ := bindS hF
    refine G.op1 (op_callSem (t := 11) (v := .bool r9) (Φ := sem1 (fun x => .agg (encApi_Version x)) (fun y => .bool y) f_1) ⟨x8, r9, rfl, hr9, rfl⟩ rfl (EvL.cons (Ev.t 15 (.g (.agg [.v (.string x8.Key), .v (.string x8.Value), .v (.bool x8.Gone), .v (.int .i64 x8.Stamp.N), .v (.int .i64 x8.Stamp.Site), .sl 3 (List.map encApi_Dep x8.Past)]))) EvL.nil) rfl) rfl ⟨rfl, rfl, trivial⟩ trivial ?_
    refine G.endOps ?_
    refine ifS hF (fun hc10 hF => ?_) (fun hc10 hF => ?_)
    · refine G.cond rfl (fun _ => ?_) (fun hx => by rw [hc10] at hx; cases hx)
      refine G.seq ?_
      refine G.region ?_
      refine G.op1 (op_move (Ev.t 5 (bI .i64 v3)) rfl) rfl ⟨rfl, trivial⟩ trivial ?_
      refine G.op1 (op_assign (Ev.t 17 (bI .i64 v3)) rfl) rfl ⟨rfl, trivial⟩ trivial ?_
      refine G.endOps ?_
      cases hF
      exact G.ret1 Try.results53 (RVar.tmp 4 _) ⟨rfl, trivial⟩ trivial
    · refine G.cond rfl (fun hx => by rw [hc10] at hx; cases hx) (fun _ => ?_)
      refine G.skip ?_
      refine G.endBlock ?_
      refine G.region ?_
      refine G.op1 (op_add (Ev.t 8 (bI .i64 v3)) (Ev.c _ rfl) rfl) rfl ⟨rfl, trivial⟩ trivial ?_
      refine G.op1 (op_move (Ev.t 18 (bI .i64 (IntKind.wrap .i64 (v3 + 1)))) rfl) rfl ⟨rfl, trivial⟩ trivial ?_
      refine G.endOps ?_
      exact G.arr (J4 (IntKind.wrap .i64 (v3 + 1)) hF) ⟨rfl, rfl, rfl, rfl, trivial⟩ trivial rfl
  · refine G.cond rfl (fun hx => by rw [hc7] at hx; cases hx) (fun _ => ?_)
    refine G.exit ?_
    refine GX.c ?_
    refine GX.q ?_
    refine GX.bYes ?_
    exact G.arr (J2 () hF) trivial trivial rfl


set_option maxRecDepth 20000 in
set_option maxHeartbeats 2000000 in
theorem ct_slices_DeleteFunc_Version (s_0 : (List Api_Version)) (del_1 : (Api_Version → Option Bool)) (r : (List Api_Version)) (hF : slices_DeleteFunc_Version s_0 del_1 = some r) : Ct Try.prog 41 [.row 32 6 (List.map encApi_Version s_0), .sem (sem1 (fun x => .agg (encApi_Version x)) (fun y => .bool y) del_1)] (.new 32 6 (List.map encApi_Version r)) := by
  unfold slices_DeleteFunc_Version at hF
  refine Ct.introRow Try.func41 rfl Try.ntmps41 rfl fun M K w => ?_
  refine G.seq ?_
  refine G.region ?_
  refine G.op1 (op_assign (c := .x (.slice none 0 0)) (Ev.x _) rfl) rfl trivial trivial ?_
  refine G.endOps ?_
  refine G.seq ?_
  refine G.region ?_
  refine G.op1 (op_move (Ev.t 0 (.own 0 (List.map encApi_Version s_0))) rfl) rfl ⟨rfl, trivial⟩ trivial ?_
  refine G.op1 (op_move (Ev.t 1 (.sem (sem1 (fun x => .agg (encApi_Version x)) (fun y => .bool y) del_1))) rfl) rfl ⟨rfl, trivial⟩ trivial ?_
  obtain ⟨r1, hr1, hF⟩ := bindS hF
  refine G.op1 (op_callQ (sv := .one (bI .i64 r1)) cf53 (ct_slices_IndexFunc_Version s_0 del_1 r1 hr1) rfl rfl (EvQL.cons (EvQ.own (Ev.t 8 (.own 0 (List.map encApi_Version s_0)))) (EvQL.cons (EvQ.sem (Ev.t 9 (.sem (sem1 (fun x => .agg (encApi_Version x)) (fun y => .bool y) del_1)))) EvQL.nil)) rfl) rfl ⟨rfl, rfl, trivial⟩ ⟨rfl, trivial⟩ ?_
  refine G.op1 (op_assign (Ev.t 10 (bI .i64 r1)) rfl) rfl ⟨rfl, trivial⟩ trivial ?_
  refine G.endOps ?_
  refine G.seq ?_
  refine G.seq ?_
  refine G.region ?_
  refine G.op1 (op_move (Ev.t 5 (bI .i64 r1)) rfl) rfl ⟨rfl, trivial⟩ trivial ?_
  refine G.op1 (op_eqI (Ev.t 11 (bI .i64 r1)) (Ev.c _ rfl) rfl) rfl ⟨rfl, trivial⟩ trivial ?_
  refine G.endOps ?_
  refine ifS hF (fun hc2 hF => ?_) (fun hc2 hF => ?_)
  · refine G.cond rfl (fun _ => ?_) (fun hx => by rw [hc2] at hx; cases hx)
    refine G.seq ?_
    refine G.region ?_
    refine G.op1 (op_move (Ev.t 0 (.own 0 (List.map encApi_Version s_0))) rfl) rfl ⟨rfl, trivial⟩ trivial ?_
    refine G.op1 (op_assign (Ev.t 13 (.own 0 (List.map encApi_Version s_0))) rfl) rfl ⟨rfl, trivial⟩ trivial ?_
    refine G.endOps ?_
    cases hF
    exact G.retNew Try.results41 rfl rfl
  · refine G.cond rfl (fun hx => by rw [hc2] at hx; cases hx) (fun _ => ?_)
    refine G.skip ?_
    refine G.seq ?_
    refine G.seq ?_
    refine G.region ?_
    refine G.op1 (op_move (Ev.t 5 (bI .i64 r1)) rfl) rfl ⟨rfl, trivial⟩ trivial ?_
    refine G.op1 (op_add (Ev.t 14 (bI .i64 r1)) (Ev.c _ rfl) rfl) rfl ⟨rfl, trivial⟩ trivial ?_
    refine G.op1 (op_assign (Ev.t 15 (bI .i64 (IntKind.wrap .i64 (r1 + 1)))) rfl) rfl ⟨rfl, trivial⟩ trivial ?_
    refine G.endOps ?_
    refine G.joinC (T := Int × (List Api_Version)) (fun y3 => ⟨[(0, .one (.own 0 (List.map encApi_Version y3.2))), (5, .one (bI .i64 y3.1))], [(0, some (.row 32 6 (List.map encApi_Version y3.2) true))]⟩) (fun y3 => slices_DeleteFunc_Version_k1 y3 = some r) (fun y3 hF => ?_) (fun J6 => ?_)
    · unfold slices_DeleteFunc_Version_k1 at hF
      refine G.seq ?_
      refine G.region ?_
      refine G.op1 (op_move (Ev.t 0 (.own 0 (List.map encApi_Version y3.2))) rfl) rfl ⟨rfl, trivial⟩ trivial ?_
      refine G.op1 (op_move (Ev.t 5 (bI .i64 y3.1)) rfl) rfl ⟨rfl, trivial⟩ trivial ?_
      obtain ⟨l4, hl4, hF⟩ := bindS hF
      refine G.clearRow (zs := [.v (.string ByteArray.empty), .v (.string ByteArray.empty), .v (.bool false), .v (.int .i64 0), .v (.int .i64 0), .sl 3 (List.map encApi_Dep ([] : (List Api_Dep)))]) Try.underlying24 ti32 ⟨.v _ rfl, .v _ rfl, .v _ rfl, .v _ rfl, .v _ rfl, .n 3, trivial⟩ rfl (zeroes_ok hl4 encApi_Version).1 (zeroes_ok hl4 encApi_Version).2.1 (zeroes_ok hl4 encApi_Version).2.2 (Ev.t 36 (.own 0 (List.map encApi_Version y3.2))) (Ev.t 37 (bI .i64 y3.1)) rfl ⟨rfl, rfl, trivial⟩ rfl ?_
      refine G.renew (t := 0) rfl rfl (zeroes_len hl4 encApi_Version) ?_
      refine G.renew (t := 36) rfl rfl (zeroes_len hl4 encApi_Version) ?_
      refine G.endOps ?_
      refine G.seq ?_
      refine G.region ?_
      refine G.op1 (op_move (Ev.t 0 (.own 0 (List.map encApi_Version l4))) rfl) rfl ⟨rfl, trivial⟩ trivial ?_
      refine G.op1 (op_move (Ev.t 5 (bI .i64 y3.1)) rfl) rfl ⟨rfl, trivial⟩ trivial ?_
      obtain ⟨l5, hl5, hF⟩ := bindS hF
      refine G.cutRow (sl' := [(5, .one (bI .i64 y3.1)), (37, .one (bI .i64 y3.1)), (40, .one (bI .i64 y3.1))]) Try.underlying24 ti32 (sub_ok0 hl5 encApi_Version).1 (sub_ok0 hl5 encApi_Version).2.1 (sub_ok0 hl5 encApi_Version).2.2 (Ev.t 39 (.own 0 (List.map encApi_Version l4))) (Ev.t 40 (bI .i64 y3.1)) rfl ⟨rfl, rfl, trivial⟩ rfl ⟨rfl, rfl, rfl, trivial⟩ rfl ?_
      refine G.op1 (op_assign (Ev.t 41 (.own 0 (List.map encApi_Version l5))) rfl) rfl ⟨rfl, trivial⟩ trivial ?_
      refine G.endOps ?_
      cases hF
      exact G.retNew Try.results41 rfl rfl
    refine G.block ?_
    refine G.keep (sl' := [(0, .one (.own 0 (List.map encApi_Version s_0))), (1, .one (.sem (sem1 (fun x => .agg (encApi_Version x)) (fun y => .bool y) del_1))), (5, .one (bI .i64 r1)), (6, .one (bI .i64 (IntKind.wrap .i64 (r1 + 1))))]) (hp' := [(0, some (.row 32 6 (List.map encApi_Version s_0) true))]) ⟨rfl, rfl, rfl, rfl, trivial⟩ ⟨rfl, trivial⟩ rfl ?_
    refine G.loopF (fun (v7 : Int × Int × (List Api_Version)) => ⟨[(0, .one (.own 0 (List.map encApi_Version v7.2.2))), (1, .one (.sem (sem1 (fun x => .agg (encApi_Version x)) (fun y => .bool y) del_1))), (5, .one (bI .i64 v7.1)), (6, .one (bI .i64 v7.2.1))], [(0, some (.row 32 6 (List.map encApi_Version v7.2.2) true))]⟩) hF rfl (fun K10 again9 v7 J8 hF => ?_)
    unfold slices_DeleteFunc_Version_l2 at hF
    refine G.seq ?_
    refine G.seq ?_
    refine G.region ?_
    refine G.op1 (op_move (Ev.t 6 (bI .i64 v7.2.1)) rfl) rfl ⟨rfl, trivial⟩ trivial ?_
    refine G.op1 (op_move (Ev.t 0 (.own 0 (List.map encApi_Version v7.2.2))) rfl) rfl ⟨rfl, trivial⟩ trivial ?_
    refine G.op1 (OpL.cast (op_lenO Try.underlying24 (Ev.t 17 (.own 0 (List.map encApi_Version v7.2.2))) rfl) (by rw [List.length_map])) rfl ⟨rfl, trivial⟩ ⟨rfl, trivial⟩ ?_
    refine G.op1 (op_lss (Ev.t 16 (bI .i64 v7.2.1)) (Ev.t 18 (bI .i64 (v7.2.2.length : Int))) rfl) rfl ⟨rfl, rfl, trivial⟩ trivial ?_
    refine G.endOps ?_
    refine ifS hF (fun hc11 hF => ?_) (fun hc11 hF => ?_)
    · refine G.cond rfl (fun _ => ?_) (fun hx => by rw [hc11] at hx; cases hx)
      refine G.skip ?_
      refine G.seq ?_
      refine G.block ?_
      refine G.seq ?_
      refine G.region ?_
      refine G.op1 (op_move (Ev.t 0 (.own 0 (List.map encApi_Version v7.2.2))) rfl) rfl ⟨rfl, trivial⟩ trivial ?_
      refine G.op1 (op_move (Ev.t 6 (bI .i64 v7.2.1)) rfl) rfl ⟨rfl, trivial⟩ trivial ?_
      obtain ⟨x12, hx12, hF⟩ := bindS hF
      refine G.loadRow (cs := [.v (.string x12.Key), .v (.string x12.Value), .v (.bool x12.Gone), .v (.int .i64 x12.Stamp.N), .v (.int .i64 x12.Stamp.Site), .sl 3 (List.map encApi_Dep x12.Past)]) Try.underlying24 Try.underlying32 rfl ti32 (idx_ok hx12).1 (idx_get hx12 encApi_Version) (Ev.t 22 (.own 0 (List.map encApi_Version v7.2.2))) (Ev.t 23 (bI .i64 v7.2.1)) rfl rfl ⟨rfl, rfl, trivial⟩ rfl ?_
      refine G.op2 (op_alloc (k := 1007) (cs := [bS ByteArray.empty, bS ByteArray.empty, bB false, bI .i64 0, bI .i64 0, .g (.d (.sl 3 (List.map encApi_Dep ([] : (List Api_Dep)))))]) ti32 ⟨.v _ rfl, .v _ rfl, .v _ rfl, .v _ rfl, .v _ rfl, .n 3, trivial⟩ rfl) rfl trivial ⟨rfl, trivial⟩ ?_
      refine G.op3 (op_storeA (cs' := [bS x12.Key, bS x12.Value, bB x12.Gone, bI .i64 x12.Stamp.N, bI .i64 x12.Stamp.Site, .g (.d (.sl 3 (List.map encApi_Dep x12.Past)))]) ti32 rfl rfl (Ev.t 7 (.ptr 1007 0)) (Ev.t 25 (.g (.agg [.v (.string x12.Key), .v (.string x12.Value), .v (.bool x12.Gone), .v (.int .i64 x12.Stamp.N), .v (.int .i64 x12.Stamp.Site), .sl 3 (List.map encApi_Dep x12.Past)])))) rfl ⟨rfl, rfl, trivial⟩ ⟨rfl, trivial⟩ ?_
      refine G.endOps ?_
      refine G.seq ?_
      refine G.region ?_
      refine G.op1 (op_move (Ev.t 1 (.sem (sem1 (fun x => .agg (encApi_Version x)) (fun y => .bool y) del_1))) rfl) rfl ⟨rfl, trivial⟩ trivial ?_
      refine G.op1 (op_loadAP (ds := [.v (.string x12.Key), .v (.string x12.Value), .v (.bool x12.Gone), .v (.int .i64 x12.Stamp.N), .v (.int .i64 x12.Stamp.Site), .sl 3 (List.map encApi_Dep x12.Past)]) Try.underlying32 rfl ti32 rfl (Ev.t 7 (.ptr 1007 0)) rfl) rfl ⟨rfl, trivial⟩ ⟨rfl, trivial⟩ ?_
      obtain ⟨r13, hr13, hF⟩ := bindS hF
      refine G.op1 (op_callSem (t := 26) (v := .bool r13) (Φ := sem1 (fun x => .agg (encApi_Version x)) (fun y => .bool y) del_1) ⟨x12, r13, rfl, hr13, rfl⟩ rfl (EvL.cons (Ev.t 27 (.g (.agg [.v (.string x12.Key), .v (.string x12.Value), .v (.bool x12.Gone), .v (.int .i64 x12.Stamp.N), .v (.int .i64 x12.Stamp.Site), .sl 3 (List.map encApi_Dep x12.Past)]))) EvL.nil) rfl) rfl ⟨rfl, rfl, trivial⟩ trivial ?_
      refine G.op1 (op_not (Ev.t 28 (bB r13)) rfl) rfl ⟨rfl, trivial⟩ trivial ?_
      refine G.endOps ?_
      refine ifS hF (fun hc14 hF => ?_) (fun hc14 hF => ?_)
      · refine G.cond rfl (fun _ => ?_) (fun hx => by rw [hc14] at hx; cases hx)
        refine G.seq ?_
        refine G.region ?_
        refine G.op1 (op_move (Ev.t 0 (.own 0 (List.map encApi_Version v7.2.2))) rfl) rfl ⟨rfl, trivial⟩ trivial ?_
        refine G.op1 (op_move (Ev.t 5 (bI .i64 v7.1)) rfl) rfl ⟨rfl, trivial⟩ trivial ?_
        refine G.op1 (op_loadAP (ds := [.v (.string x12.Key), .v (.string x12.Value), .v (.bool x12.Gone), .v (.int .i64 x12.Stamp.N), .v (.int .i64 x12.Stamp.Site), .sl 3 (List.map encApi_Dep x12.Past)]) Try.underlying32 rfl ti32 rfl (Ev.t 7 (.ptr 1007 0)) rfl) rfl ⟨rfl, trivial⟩ ⟨rfl, trivial⟩ ?_
        obtain ⟨l15, hl15, hF⟩ := bindS hF
        refine G.storeRow Try.underlying24 ti32 rfl (sets_ok hl15 encApi_Version).1 (sets_ok hl15 encApi_Version).2.1 (sets_ok hl15 encApi_Version).2.2 (Ev.t 30 (.own 0 (List.map encApi_Version v7.2.2))) (Ev.t 31 (bI .i64 v7.1)) (Ev.t 32 (.g (.agg [.v (.string x12.Key), .v (.string x12.Value), .v (.bool x12.Gone), .v (.int .i64 x12.Stamp.N), .v (.int .i64 x12.Stamp.Site), .sl 3 (List.map encApi_Dep x12.Past)]))) (by simp) rfl ⟨rfl, rfl, rfl, trivial⟩ rfl ?_
        refine G.renew (t := 0) rfl rfl (sets_len hl15 encApi_Version) ?_
        refine G.renew (t := 17) rfl rfl (sets_len hl15 encApi_Version) ?_
        refine G.renew (t := 22) rfl rfl (sets_len hl15 encApi_Version) ?_
        refine G.renew (t := 30) rfl rfl (sets_len hl15 encApi_Version) ?_
        refine G.endOps ?_
        refine G.region ?_
        refine G.op1 (op_move (Ev.t 5 (bI .i64 v7.1)) rfl) rfl ⟨rfl, trivial⟩ trivial ?_
        refine G.op1 (op_add (Ev.t 34 (bI .i64 v7.1)) (Ev.c _ rfl) rfl) rfl ⟨rfl, trivial⟩ trivial ?_
        refine G.op1 (op_assign (Ev.t 35 (bI .i64 (IntKind.wrap .i64 (v7.1 + 1)))) rfl) rfl ⟨rfl, trivial⟩ trivial ?_
        refine G.endOps ?_
        refine G.endBlock ?_
        refine G.region ?_
        refine G.op1 (op_move (Ev.t 6 (bI .i64 v7.2.1)) rfl) rfl ⟨rfl, trivial⟩ trivial ?_
        refine G.op1 (op_add (Ev.t 20 (bI .i64 v7.2.1)) (Ev.c _ rfl) rfl) rfl ⟨rfl, trivial⟩ trivial ?_
        refine G.op1 (op_assign (Ev.t 21 (bI .i64 (IntKind.wrap .i64 (v7.2.1 + 1)))) rfl) rfl ⟨rfl, trivial⟩ trivial ?_
        refine G.endOps ?_
        exact G.arr (J8 (IntKind.wrap .i64 (v7.1 + 1), IntKind.wrap .i64 (v7.2.1 + 1), l15) hF) ⟨rfl, rfl, rfl, rfl, trivial⟩ ⟨rfl, trivial⟩ rfl
      · refine G.cond rfl (fun hx => by rw [hc14] at hx; cases hx) (fun _ => ?_)
        refine G.skip ?_
        refine G.endBlock ?_
        refine G.region ?_
        refine G.op1 (op_move (Ev.t 6 (bI .i64 v7.2.1)) rfl) rfl ⟨rfl, trivial⟩ trivial ?_
        refine G.op1 (op_add (Ev.t 20 (bI .i64 v7.2.1)) (Ev.c _ rfl) rfl) rfl ⟨rfl, trivial⟩ trivial ?_
        refine G.op1 (op_assign (Ev.t 21 (bI .i64 (IntKind.wrap .i64 (v7.2.1 + 1)))) rfl) rfl ⟨rfl, trivial⟩ trivial ?_
        refine G.endOps ?_
        exact G.arr (J8 (v7.1, IntKind.wrap .i64 (v7.2.1 + 1), v7.2.2) hF) ⟨rfl, rfl, rfl, rfl, trivial⟩ ⟨rfl, trivial⟩ rfl
    · refine G.cond rfl (fun hx => by rw [hc11] at hx; cases hx) (fun _ => ?_)
      refine G.exit ?_
      refine GX.c ?_
      refine GX.q ?_
      refine GX.bYes ?_
      exact G.arr (J6 (v7.1, v7.2.2) hF) ⟨rfl, rfl, trivial⟩ ⟨rfl, trivial⟩ rfl


set_option maxRecDepth 20000 in
set_option maxHeartbeats 2000000 in
theorem ct_queue_Drop (l_0 : (List Api_Version)) (own_1 : (List Api_Range)) (r : (List Api_Version)) (hF : queue_Drop l_0 own_1 = some r) : Ct Try.prog 21 [.g (.d (.sl 6 (List.map encApi_Version l_0))), .g (.d (.sl 2 (List.map encApi_Range own_1)))] (.one (.d (.sl 6 (List.map encApi_Version r)))) := by
  unfold queue_Drop at hF
  refine Ct.intro Try.func21 rfl Try.ntmps21 rfl rfl fun M w => ?_
  refine G.seq ?_
  refine G.region ?_
  refine G.op2 (op_box1 (k := 1003) (c := .g (.d (.sl 2 (List.map encApi_Range own_1)))) trivial (Ev.t 1 (.g (.d (.sl 2 (List.map encApi_Range own_1))))) rfl) rfl ⟨rfl, trivial⟩ ⟨rfl, trivial⟩ ?_
  refine G.op1 (op_assign (Ev.n 6) rfl) rfl trivial trivial ?_
  refine G.endOps ?_
  refine G.seq ?_
  refine G.region ?_
  refine G.op1 (op_move (Ev.t 0 (.g (.d (.sl 6 (List.map encApi_Version l_0))))) rfl) rfl ⟨rfl, trivial⟩ trivial ?_
  obtain ⟨r1, hr1, hF⟩ := bindS hF
  refine G.op2 (op_callNew (k := 2006) cf42 (ct_slices_Clone_Version l_0 r1 hr1) (EvL.cons (Ev.t 5 (.g (.d (.sl 6 (List.map encApi_Version l_0))))) EvL.nil) rfl) rfl ⟨rfl, trivial⟩ ⟨rfl, trivial⟩ ?_
  refine G.op1 (op_makeFunc1 (Ev.t 3 (.ptr 1003 0)) rfl) rfl ⟨rfl, trivial⟩ trivial ?_
  obtain ⟨r2, hr2, hF⟩ := bindS hF
  refine G.callRow (sl' := [(0, .one (.g (.d (.sl 6 (List.map encApi_Version l_0))))), (1, .one (.g (.d (.sl 2 (List.map encApi_Range own_1))))), (3, .one (.ptr 1003 0)), (4, .one (.g (.d (.sl 6 (List.map encApi_Version ([] : (List Api_Version))))))), (5, .one (.g (.d (.sl 6 (List.map encApi_Version l_0))))), (7, .one (.clo 43 [1003]))]) cf41 (ct_slices_DeleteFunc_Version r1 (fun x0 => queue_Drop_1 x0 own_1) r2 hr2) (Ev.t 6 (.own 2006 (List.map encApi_Version r1))) (EvX.clo (Φ := sem1 (fun x => .agg (encApi_Version x)) (fun y => .bool y) (fun x0 => queue_Drop_1 x0 own_1)) (Ev.t 7 (.clo 43 [1003])) (EvC.cons rfl EvC.nil) cf43 (fun args v ⟨x0, b, h1, h2, h3⟩ => by subst h1 h3; exact ct_queue_Drop_1 x0 own_1 b h2) EvX.nil) rfl ⟨rfl, rfl, trivial⟩ ⟨rfl, rfl, trivial⟩ ⟨rfl, rfl, rfl, rfl, rfl, rfl, trivial⟩ rfl ?_
  refine G.op1 (op_assign (Ev.t 8 (.own 2006 (List.map encApi_Version r2))) rfl) rfl ⟨rfl, trivial⟩ trivial ?_
  refine G.endOps ?_
  refine G.share (k' := 2006) rfl ?_
  refine G.view (t := 4) rfl rfl ?_
  cases hF
  exact G.ret1 Try.results21 (RVar.tmp 4 _) ⟨rfl, trivial⟩ trivial


set_option maxRecDepth 20000 in
set_option maxHeartbeats 2000000 in
theorem ct_ref04_Same (p_0 : (List Api_Dep)) (q_1 : (List Api_Dep)) (r : Bool) (hF : ref04_Same p_0 q_1 = some r) : Ct Try.prog 26 [.g (.d (.sl 3 (List.map encApi_Dep p_0))), .g (.d (.sl 3 (List.map encApi_Dep q_1)))] (.one (.d (.v (.bool r)))) := by
  unfold ref04_Same at hF
  refine Ct.intro Try.func26 rfl Try.ntmps26 rfl rfl fun M w => ?_
  refine G.seq ?_
  refine G.region ?_
  refine G.op1 (op_assign (Ev.c _ rfl) rfl) rfl trivial trivial ?_
  refine G.endOps ?_
  refine G.seq ?_
  refine G.seq ?_
  refine G.region ?_
  refine G.op1 (op_move (Ev.t 0 (.g (.d (.sl 3 (List.map encApi_Dep p_0))))) rfl) rfl ⟨rfl, trivial⟩ trivial ?_
  refine G.op1 (OpL.cast (op_lenD Try.underlying30 (Ev.t 6 (.g (.d (.sl 3 (List.map encApi_Dep p_0))))) rfl) (by rw [List.length_map])) rfl ⟨rfl, trivial⟩ trivial ?_
  refine G.op1 (op_move (Ev.t 1 (.g (.d (.sl 3 (List.map encApi_Dep q_1))))) rfl) rfl ⟨rfl, trivial⟩ trivial ?_
  refine G.op1 (OpL.cast (op_lenD Try.underlying30 (Ev.t 8 (.g (.d (.sl 3 (List.map encApi_Dep q_1))))) rfl) (by rw [List.length_map])) rfl ⟨rfl, trivial⟩ trivial ?_
  refine G.op1 (op_neI (Ev.t 7 (bI .i64 (p_0.length : Int))) (Ev.t 9 (bI .i64 (q_1.length : Int))) rfl) rfl ⟨rfl, rfl, trivial⟩ trivial ?_
  refine G.endOps ?_
  refine ifS hF (fun hc1 hF => ?_) (fun hc1 hF => ?_)
  · refine G.cond rfl (fun _ => ?_) (fun hx => by rw [hc1] at hx; cases hx)
    refine G.seq ?_
    refine G.region ?_
    refine G.op1 (op_assign (Ev.c _ rfl) rfl) rfl trivial trivial ?_
    refine G.endOps ?_
    cases hF
    exact G.ret1 Try.results26 (RVar.tmp 4 _) ⟨rfl, trivial⟩ trivial
  · refine G.cond rfl (fun hx => by rw [hc1] at hx; cases hx) (fun _ => ?_)
    refine G.skip ?_
    refine G.seq ?_
    refine G.seq ?_
    refine G.region ?_
    refine G.op1 (op_assign (Ev.c _ rfl) rfl) rfl trivial trivial ?_
    refine G.endOps ?_
    refine G.joinC (T := Unit) (fun y2 => ⟨[], []⟩) (fun y2 => ref04_Same_k1 y2 = some r) (fun y2 hF => ?_) (fun J3 => ?_)
    · unfold ref04_Same_k1 at hF
      refine G.seq ?_
      refine G.region ?_
      refine G.op1 (op_assign (Ev.c _ rfl) rfl) rfl trivial trivial ?_
      refine G.endOps ?_
      cases hF
      exact G.ret1 Try.results26 (RVar.tmp 4 _) ⟨rfl, trivial⟩ trivial
    refine G.block ?_
    refine G.keep (sl' := [(0, .one (.g (.d (.sl 3 (List.map encApi_Dep p_0))))), (1, .one (.g (.d (.sl 3 (List.map encApi_Dep q_1))))), (5, .one (bI .i64 0))]) (hp' := []) ⟨rfl, rfl, rfl, trivial⟩ trivial rfl ?_
    refine G.loopF (fun (v4 : Int) => ⟨[(0, .one (.g (.d (.sl 3 (List.map encApi_Dep p_0))))), (1, .one (.g (.d (.sl 3 (List.map encApi_Dep q_1))))), (5, .one (bI .i64 v4))], []⟩) hF rfl (fun K7 again6 v4 J5 hF => ?_)
    unfold ref04_Same_l2 at hF
    refine G.seq ?_
    refine G.seq ?_
    refine G.region ?_
    refine G.op1 (op_move (Ev.t 5 (bI .i64 v4)) rfl) rfl ⟨rfl, trivial⟩ trivial ?_
    refine G.op1 (op_move (Ev.t 0 (.g (.d (.sl 3 (List.map encApi_Dep p_0))))) rfl) rfl ⟨rfl, trivial⟩ trivial ?_
    refine G.op1 (OpL.cast (op_lenD Try.underlying30 (Ev.t 12 (.g (.d (.sl 3 (List.map encApi_Dep p_0))))) rfl) (by rw [List.length_map])) rfl ⟨rfl, trivial⟩ trivial ?_
    refine G.op1 (op_lss (Ev.t 11 (bI .i64 v4)) (Ev.t 13 (bI .i64 (p_0.length : Int))) rfl) rfl ⟨rfl, rfl, trivial⟩ trivial ?_
    refine G.endOps ?_
    refine ifS hF (fun hc8 hF => ?_) (fun hc8 hF => ?_)
    · refine G.cond rfl (fun _ => ?_) (fun hx => by rw [hc8] at hx; cases hx)
      refine G.skip ?_
      refine G.seq ?_
      refine G.block ?_
      refine G.seq ?_
      obtain ⟨x9, hx9, hF⟩ := bindS hF
      obtain ⟨x10, hx10, hF⟩ := bindS hF
      refine G.drawn (effs := [⟨[(0, .one (.g (.d (.sl 3 (List.map encApi_Dep p_0)))))], [], [(17, .one (.g (.d (.sl 3 (List.map encApi_Dep p_0)))))], []⟩, ⟨[(5, .one (bI .i64 v4))], [], [(18, .one (bI .i64 v4))], []⟩, ⟨[(17, .one (.g (.d (.sl 3 (List.map encApi_Dep p_0))))), (18, .one (bI .i64 v4))], [], [(19, .one (.ep [.v (.string x9.Key), .v (.int .i64 x9.Stamp.N), .v (.int .i64 x9.Stamp.Site)]))], []⟩, ⟨[(19, .one (.ep [.v (.string x9.Key), .v (.int .i64 x9.Stamp.N), .v (.int .i64 x9.Stamp.Site)]))], [], [(20, .one (.g (.agg [.v (.string x9.Key), .v (.int .i64 x9.Stamp.N), .v (.int .i64 x9.Stamp.Site)])))], []⟩, ⟨[(1, .one (.g (.d (.sl 3 (List.map encApi_Dep q_1)))))], [], [(21, .one (.g (.d (.sl 3 (List.map encApi_Dep q_1)))))], []⟩, ⟨[(5, .one (bI .i64 v4))], [], [(22, .one (bI .i64 v4))], []⟩, ⟨[(21, .one (.g (.d (.sl 3 (List.map encApi_Dep q_1))))), (22, .one (bI .i64 v4))], [], [(23, .one (.ep [.v (.string x10.Key), .v (.int .i64 x10.Stamp.N), .v (.int .i64 x10.Stamp.Site)]))], []⟩, ⟨[(23, .one (.ep [.v (.string x10.Key), .v (.int .i64 x10.Stamp.N), .v (.int .i64 x10.Stamp.Site)]))], [], [(24, .one (.g (.agg [.v (.string x10.Key), .v (.int .i64 x10.Stamp.N), .v (.int .i64 x10.Stamp.Site)])))], []⟩, ⟨[(20, .one (.g (.agg [.v (.string x9.Key), .v (.int .i64 x9.Stamp.N), .v (.int .i64 x9.Stamp.Site)]))), (24, .one (.g (.agg [.v (.string x10.Key), .v (.int .i64 x10.Stamp.N), .v (.int .i64 x10.Stamp.Site)])))], [], [(25, .one (bB (!(decide (x9.Key = x10.Key) && decide (x9.Stamp.N = x10.Stamp.N) && decide (x9.Stamp.Site = x10.Stamp.Site)))))], []⟩]) (deps := [[], [], [0, 1], [0, 1, 2], [], [], [4, 5], [4, 5, 6], [0, 1, 2, 3, 4, 5, 6, 7]]) (sl' := [(0, .one (.g (.d (.sl 3 (List.map encApi_Dep p_0))))), (1, .one (.g (.d (.sl 3 (List.map encApi_Dep q_1))))), (5, .one (bI .i64 v4)), (25, .one (bB (!(decide (x9.Key = x10.Key) && decide (x9.Stamp.N = x10.Stamp.N) && decide (x9.Stamp.Site = x10.Stamp.Site)))))]) (hp' := []) follows rfl rfl rfl ⟨⟨rfl, trivial⟩, trivial, ⟨rfl, trivial⟩, trivial, ⟨rfl, rfl, trivial⟩, trivial, ⟨rfl, trivial⟩, trivial, ⟨rfl, trivial⟩, trivial, ⟨rfl, trivial⟩, trivial, ⟨rfl, rfl, trivial⟩, trivial, ⟨rfl, trivial⟩, trivial, ⟨rfl, rfl, trivial⟩, trivial, trivial⟩ ⟨OpW.plain (op_move (Ev.t 0 (.g (.d (.sl 3 (List.map encApi_Dep p_0))))) rfl) rfl rfl, OpW.plain (op_move (Ev.t 5 (bI .i64 v4)) rfl) rfl rfl, OpW.plain (op_index (cs := [.v (.string x9.Key), .v (.int .i64 x9.Stamp.N), .v (.int .i64 x9.Stamp.Site)]) Try.underlying30 ti39 (idx_ok hx9).1 (idx_get hx9 encApi_Dep) (Ev.t 17 (.g (.d (.sl 3 (List.map encApi_Dep p_0))))) (Ev.t 18 (bI .i64 v4)) rfl) rfl rfl, OpW.plain (op_loadAE (ds := [.v (.string x9.Key), .v (.int .i64 x9.Stamp.N), .v (.int .i64 x9.Stamp.Site)]) Try.underlying39 rfl ti39 rfl (Ev.t 19 (.ep [.v (.string x9.Key), .v (.int .i64 x9.Stamp.N), .v (.int .i64 x9.Stamp.Site)])) rfl) rfl rfl, OpW.plain (op_move (Ev.t 1 (.g (.d (.sl 3 (List.map encApi_Dep q_1))))) rfl) rfl rfl, OpW.plain (op_move (Ev.t 5 (bI .i64 v4)) rfl) rfl rfl, OpW.plain (op_index (cs := [.v (.string x10.Key), .v (.int .i64 x10.Stamp.N), .v (.int .i64 x10.Stamp.Site)]) Try.underlying30 ti39 (idx_ok hx10).1 (idx_get hx10 encApi_Dep) (Ev.t 21 (.g (.d (.sl 3 (List.map encApi_Dep q_1))))) (Ev.t 22 (bI .i64 v4)) rfl) rfl rfl, OpW.plain (op_loadAE (ds := [.v (.string x10.Key), .v (.int .i64 x10.Stamp.N), .v (.int .i64 x10.Stamp.Site)]) Try.underlying39 rfl ti39 rfl (Ev.t 23 (.ep [.v (.string x10.Key), .v (.int .i64 x10.Stamp.N), .v (.int .i64 x10.Stamp.Site)])) rfl) rfl rfl, OpW.plain (op_eqA (us := [.string x9.Key, .int .i64 x9.Stamp.N, .int .i64 x9.Stamp.Site]) (vs := [.string x10.Key, .int .i64 x10.Stamp.N, .int .i64 x10.Stamp.Site]) rfl rfl Try.eqGuardType39 (fun w => ne39 x9.Key x9.Stamp.N x9.Stamp.Site x10.Key x10.Stamp.N x10.Stamp.Site w) (Ev.t 20 (.g (.agg [.v (.string x9.Key), .v (.int .i64 x9.Stamp.N), .v (.int .i64 x9.Stamp.Site)]))) (Ev.t 24 (.g (.agg [.v (.string x10.Key), .v (.int .i64 x10.Stamp.N), .v (.int .i64 x10.Stamp.Site)]))) rfl) rfl rfl, trivial⟩ ⟨rfl, rfl, rfl, rfl, trivial⟩ trivial rfl ?_
      refine ifS hF (fun hc11 hF => ?_) (fun hc11 hF => ?_)
      · refine G.cond rfl (fun _ => ?_) (fun hx => by rw [hc11] at hx; cases hx)
        refine G.seq ?_
        refine G.region ?_
        refine G.op1 (op_assign (Ev.c _ rfl) rfl) rfl trivial trivial ?_
        refine G.endOps ?_
        cases hF
        exact G.ret1 Try.results26 (RVar.tmp 4 _) ⟨rfl, trivial⟩ trivial
      · refine G.cond rfl (fun hx => by rw [hc11] at hx; cases hx) (fun _ => ?_)
        refine G.skip ?_
        refine G.endBlock ?_
        refine G.region ?_
        refine G.op1 (op_move (Ev.t 5 (bI .i64 v4)) rfl) rfl ⟨rfl, trivial⟩ trivial ?_
        refine G.op1 (op_add (Ev.t 15 (bI .i64 v4)) (Ev.c _ rfl) rfl) rfl ⟨rfl, trivial⟩ trivial ?_
        refine G.op1 (op_assign (Ev.t 16 (bI .i64 (IntKind.wrap .i64 (v4 + 1)))) rfl) rfl ⟨rfl, trivial⟩ trivial ?_
        refine G.endOps ?_
        exact G.arr (J5 (IntKind.wrap .i64 (v4 + 1)) hF) ⟨rfl, rfl, rfl, trivial⟩ trivial rfl
    · refine G.cond rfl (fun hx => by rw [hc8] at hx; cases hx) (fun _ => ?_)
      refine G.exit ?_
      refine GX.c ?_
      refine GX.q ?_
      refine GX.bYes ?_
      exact G.arr (J3 () hF) trivial trivial rfl


set_option maxRecDepth 20000 in
set_option maxHeartbeats 2000000 in
theorem ct_ref06_Same (a_0 : Api_Version) (b_1 : Api_Version) (r : Bool) (hF : ref06_Same a_0 b_1 = some r) : Ct Try.prog 22 [.g (.agg (encApi_Version a_0)), .g (.agg (encApi_Version b_1))] (.one (.d (.v (.bool r)))) := by
  unfold ref06_Same at hF
  refine Ct.intro Try.func22 rfl Try.ntmps22 rfl rfl fun M w => ?_
  refine G.seq ?_
  refine G.region ?_
  refine G.op2 (op_boxA (k := 1002) (Ev.t 0 (.g (.agg [.v (.string a_0.Key), .v (.string a_0.Value), .v (.bool a_0.Gone), .v (.int .i64 a_0.Stamp.N), .v (.int .i64 a_0.Stamp.Site), .sl 3 (List.map encApi_Dep a_0.Past)]))) rfl) rfl ⟨rfl, trivial⟩ ⟨rfl, trivial⟩ ?_
  refine G.op2 (op_boxA (k := 1003) (Ev.t 1 (.g (.agg [.v (.string b_1.Key), .v (.string b_1.Value), .v (.bool b_1.Gone), .v (.int .i64 b_1.Stamp.N), .v (.int .i64 b_1.Stamp.Site), .sl 3 (List.map encApi_Dep b_1.Past)]))) rfl) rfl ⟨rfl, trivial⟩ ⟨rfl, trivial⟩ ?_
  refine G.op1 (op_assign (Ev.c _ rfl) rfl) rfl trivial trivial ?_
  refine G.endOps ?_
  refine G.seq ?_
  refine G.region ?_
  refine G.op1 (op_fieldP (off' := 5) Try.underlying32 rfl ti30 (by decide) rfl (Ev.t 2 (.ptr 1002 0)) rfl) rfl ⟨rfl, trivial⟩ trivial ?_
  refine G.op1 (op_load1P (c := .g (.d (.sl 3 (List.map encApi_Dep a_0.Past)))) Try.underlying30 rfl rfl (Ev.t 6 (.ptr 1002 5)) rfl) rfl ⟨rfl, trivial⟩ ⟨rfl, trivial⟩ ?_
  refine G.op1 (op_fieldP (off' := 5) Try.underlying32 rfl ti30 (by decide) rfl (Ev.t 3 (.ptr 1003 0)) rfl) rfl ⟨rfl, trivial⟩ trivial ?_
  refine G.op1 (op_load1P (c := .g (.d (.sl 3 (List.map encApi_Dep b_1.Past)))) Try.underlying30 rfl rfl (Ev.t 8 (.ptr 1003 5)) rfl) rfl ⟨rfl, trivial⟩ ⟨rfl, trivial⟩ ?_
  obtain ⟨r1, hr1, hF⟩ := bindS hF
  refine G.op1 (op_callQ (sv := .one (bB r1)) cf26 (ct_ref04_Same a_0.Past b_1.Past r1 hr1) rfl rfl (EvQL.cons (EvQ.g (Ev.t 7 (.g (.d (.sl 3 (List.map encApi_Dep a_0.Past)))))) (EvQL.cons (EvQ.g (Ev.t 9 (.g (.d (.sl 3 (List.map encApi_Dep b_1.Past)))))) EvQL.nil)) rfl) rfl ⟨rfl, rfl, trivial⟩ trivial ?_
  refine G.op1 (op_assign (Ev.t 10 (bB r1)) rfl) rfl ⟨rfl, trivial⟩ trivial ?_
  refine G.endOps ?_
  refine G.seq ?_
  refine G.region ?_
  refine G.op1 (op_move (Ev.t 5 (bB r1)) rfl) rfl ⟨rfl, trivial⟩ trivial ?_
  refine G.op1 (op_move (Ev.t 11 (bB r1)) rfl) rfl ⟨rfl, trivial⟩ trivial ?_
  refine G.joinL (T := Bool) 6 (fun y2 => ⟨[(2, .one (.ptr 1002 0)), (3, .one (.ptr 1003 0)), (18, .one (bB y2))], [(1002, some (.blk 32 [bS a_0.Key, bS a_0.Value, bB a_0.Gone, bI .i64 a_0.Stamp.N, bI .i64 a_0.Stamp.Site, .g (.d (.sl 3 (List.map encApi_Dep a_0.Past)))])), (1003, some (.blk 32 [bS b_1.Key, bS b_1.Value, bB b_1.Gone, bI .i64 b_1.Stamp.N, bI .i64 b_1.Stamp.Site, .g (.d (.sl 3 (List.map encApi_Dep b_1.Past)))]))]⟩) (fun y2 => ref06_Same_k1 a_0 b_1 y2 = some r) (fun y2 hF => ?_) (fun J10 => ?_)
  · unfold ref06_Same_k1 at hF
    refine G.op1 (op_move (Ev.t 18 (bB y2)) rfl) rfl ⟨rfl, trivial⟩ trivial ?_
    refine G.joinL (T := Bool) 6 (fun y3 => ⟨[(2, .one (.ptr 1002 0)), (3, .one (.ptr 1003 0)), (25, .one (bB y3))], [(1002, some (.blk 32 [bS a_0.Key, bS a_0.Value, bB a_0.Gone, bI .i64 a_0.Stamp.N, bI .i64 a_0.Stamp.Site, .g (.d (.sl 3 (List.map encApi_Dep a_0.Past)))])), (1003, some (.blk 32 [bS b_1.Key, bS b_1.Value, bB b_1.Gone, bI .i64 b_1.Stamp.N, bI .i64 b_1.Stamp.Site, .g (.d (.sl 3 (List.map encApi_Dep b_1.Past)))]))]⟩) (fun y3 => ref06_Same_k2 a_0 b_1 y3 = some r) (fun y3 hF => ?_) (fun J8 => ?_)
    · unfold ref06_Same_k2 at hF
      refine G.op1 (op_move (Ev.t 25 (bB y3)) rfl) rfl ⟨rfl, trivial⟩ trivial ?_
      refine G.joinL (T := Bool) 6 (fun y4 => ⟨[(2, .one (.ptr 1002 0)), (3, .one (.ptr 1003 0)), (32, .one (bB y4))], [(1002, some (.blk 32 [bS a_0.Key, bS a_0.Value, bB a_0.Gone, bI .i64 a_0.Stamp.N, bI .i64 a_0.Stamp.Site, .g (.d (.sl 3 (List.map encApi_Dep a_0.Past)))])), (1003, some (.blk 32 [bS b_1.Key, bS b_1.Value, bB b_1.Gone, bI .i64 b_1.Stamp.N, bI .i64 b_1.Stamp.Site, .g (.d (.sl 3 (List.map encApi_Dep b_1.Past)))]))]⟩) (fun y4 => ref06_Same_k3 a_0 b_1 y4 = some r) (fun y4 hF => ?_) (fun J6 => ?_)
      · unfold ref06_Same_k3 at hF
        refine G.op1 (op_move (Ev.t 32 (bB y4)) rfl) rfl ⟨rfl, trivial⟩ trivial ?_
        refine ifS hF (fun hc5 hF => ?_) (fun hc5 hF => ?_)
        · refine G.known (t := 33) hc5 rfl ?_
          refine G.opG1 (op_fieldP (off' := 3) Try.underlying32 rfl ti29 (by decide) rfl (Ev.t 2 (.ptr 1002 0)) rfl) rfl rfl rfl ⟨rfl, trivial⟩ trivial ?_
          refine G.opG1 (op_loadAP (ds := [.v (.int .i64 a_0.Stamp.N), .v (.int .i64 a_0.Stamp.Site)]) Try.underlying29 rfl ti29 rfl (Ev.t 34 (.ptr 1002 3)) rfl) rfl rfl rfl ⟨rfl, trivial⟩ ⟨rfl, trivial⟩ ?_
          refine G.opG1 (op_fieldP (off' := 3) Try.underlying32 rfl ti29 (by decide) rfl (Ev.t 3 (.ptr 1003 0)) rfl) rfl rfl rfl ⟨rfl, trivial⟩ trivial ?_
          refine G.opG1 (op_loadAP (ds := [.v (.int .i64 b_1.Stamp.N), .v (.int .i64 b_1.Stamp.Site)]) Try.underlying29 rfl ti29 rfl (Ev.t 36 (.ptr 1003 3)) rfl) rfl rfl rfl ⟨rfl, trivial⟩ ⟨rfl, trivial⟩ ?_
          refine G.opG1 (op_eqA (us := [.int .i64 a_0.Stamp.N, .int .i64 a_0.Stamp.Site]) (vs := [.int .i64 b_1.Stamp.N, .int .i64 b_1.Stamp.Site]) rfl rfl Try.eqGuardType29 (fun w => eq29 a_0.Stamp.N a_0.Stamp.Site b_1.Stamp.N b_1.Stamp.Site w) (Ev.t 35 (.g (.agg [.v (.int .i64 a_0.Stamp.N), .v (.int .i64 a_0.Stamp.Site)]))) (Ev.t 37 (.g (.agg [.v (.int .i64 b_1.Stamp.N), .v (.int .i64 b_1.Stamp.Site)]))) rfl) rfl rfl rfl ⟨rfl, rfl, trivial⟩ trivial ?_
          refine G.op1 (op_pickT (Ev.t 33 (bB true)) (Ev.t 38 (bB (decide (a_0.Stamp.N = b_1.Stamp.N) && decide (a_0.Stamp.Site = b_1.Stamp.Site)))) rfl) rfl ⟨rfl, rfl, trivial⟩ trivial ?_
          refine G.op1 (op_assign (Ev.t 39 (bB (decide (a_0.Stamp.N = b_1.Stamp.N) && decide (a_0.Stamp.Site = b_1.Stamp.Site)))) rfl) rfl ⟨rfl, trivial⟩ trivial ?_
          refine G.endOps ?_
          cases hF
          exact G.ret1 Try.results22 (RVar.tmp 4 _) ⟨rfl, trivial⟩ trivial
        · refine G.known (t := 33) hc5 rfl ?_
          refine G.opN1 rfl rfl rfl rfl rfl ?_
          refine G.opN1 rfl rfl rfl rfl rfl ?_
          refine G.opN1 rfl rfl rfl rfl rfl ?_
          refine G.opN1 rfl rfl rfl rfl rfl ?_
          refine G.opN1 rfl rfl rfl rfl rfl ?_
          refine G.op1 (op_pickF (Ev.t 33 (bB false)) (Ev.c _ rfl) rfl) rfl ⟨rfl, trivial⟩ trivial ?_
          refine G.op1 (op_assign (Ev.t 39 (bB false)) rfl) rfl ⟨rfl, trivial⟩ trivial ?_
          refine G.endOps ?_
          cases hF
          exact G.ret1 Try.results22 (RVar.tmp 4 _) ⟨rfl, trivial⟩ trivial
      refine ifS hF (fun hc7 hF => ?_) (fun hc7 hF => ?_)
      · refine G.known (t := 26) hc7 rfl ?_
        refine G.opG1 (op_fieldP (off' := 2) Try.underlying32 rfl ti4 (by decide) rfl (Ev.t 2 (.ptr 1002 0)) rfl) rfl rfl rfl ⟨rfl, trivial⟩ trivial ?_
        refine G.opG1 (op_load1P (c := bB a_0.Gone) Try.underlying4 rfl rfl (Ev.t 27 (.ptr 1002 2)) rfl) rfl rfl rfl ⟨rfl, trivial⟩ ⟨rfl, trivial⟩ ?_
        refine G.opG1 (op_fieldP (off' := 2) Try.underlying32 rfl ti4 (by decide) rfl (Ev.t 3 (.ptr 1003 0)) rfl) rfl rfl rfl ⟨rfl, trivial⟩ trivial ?_
        refine G.opG1 (op_load1P (c := bB b_1.Gone) Try.underlying4 rfl rfl (Ev.t 29 (.ptr 1003 2)) rfl) rfl rfl rfl ⟨rfl, trivial⟩ ⟨rfl, trivial⟩ ?_
        refine G.opG1 (op_eqB Try.underlying4 (Ev.t 28 (bB a_0.Gone)) (Ev.t 30 (bB b_1.Gone)) rfl) rfl rfl rfl ⟨rfl, rfl, trivial⟩ trivial ?_
        refine G.op1 (op_pickT (Ev.t 26 (bB true)) (Ev.t 31 (bB (a_0.Gone == b_1.Gone))) rfl) rfl ⟨rfl, rfl, trivial⟩ trivial ?_
        exact G.arr (J6 (a_0.Gone == b_1.Gone) hF) ⟨rfl, rfl, rfl, trivial⟩ ⟨rfl, rfl, trivial⟩ rfl
      · refine G.known (t := 26) hc7 rfl ?_
        refine G.opN1 rfl rfl rfl rfl rfl ?_
        refine G.opN1 rfl rfl rfl rfl rfl ?_
        refine G.opN1 rfl rfl rfl rfl rfl ?_
        refine G.opN1 rfl rfl rfl rfl rfl ?_
        refine G.opN1 rfl rfl rfl rfl rfl ?_
        refine G.op1 (op_pickF (Ev.t 26 (bB false)) (Ev.c _ rfl) rfl) rfl ⟨rfl, trivial⟩ trivial ?_
        exact G.arr (J6 false hF) ⟨rfl, rfl, rfl, trivial⟩ ⟨rfl, rfl, trivial⟩ rfl
    refine ifS hF (fun hc9 hF => ?_) (fun hc9 hF => ?_)
    · refine G.known (t := 19) hc9 rfl ?_
      refine G.opG1 (op_fieldP (off' := 1) Try.underlying32 rfl ti9 (by decide) rfl (Ev.t 2 (.ptr 1002 0)) rfl) rfl rfl rfl ⟨rfl, trivial⟩ trivial ?_
      refine G.opG1 (op_load1P (c := bS a_0.Value) Try.underlying9 rfl rfl (Ev.t 20 (.ptr 1002 1)) rfl) rfl rfl rfl ⟨rfl, trivial⟩ ⟨rfl, trivial⟩ ?_
      refine G.opG1 (op_fieldP (off' := 1) Try.underlying32 rfl ti9 (by decide) rfl (Ev.t 3 (.ptr 1003 0)) rfl) rfl rfl rfl ⟨rfl, trivial⟩ trivial ?_
      refine G.opG1 (op_load1P (c := bS b_1.Value) Try.underlying9 rfl rfl (Ev.t 22 (.ptr 1003 1)) rfl) rfl rfl rfl ⟨rfl, trivial⟩ ⟨rfl, trivial⟩ ?_
      refine G.opG1 (op_eqS (Ev.t 21 (bS a_0.Value)) (Ev.t 23 (bS b_1.Value)) rfl) rfl rfl rfl ⟨rfl, rfl, trivial⟩ trivial ?_
      refine G.op1 (op_pickT (Ev.t 19 (bB true)) (Ev.t 24 (bB (seq a_0.Value b_1.Value))) rfl) rfl ⟨rfl, rfl, trivial⟩ trivial ?_
      exact G.arr (J8 (seq a_0.Value b_1.Value) hF) ⟨rfl, rfl, rfl, trivial⟩ ⟨rfl, rfl, trivial⟩ rfl
    · refine G.known (t := 19) hc9 rfl ?_
      refine G.opN1 rfl rfl rfl rfl rfl ?_
      refine G.opN1 rfl rfl rfl rfl rfl ?_
      refine G.opN1 rfl rfl rfl rfl rfl ?_
      refine G.opN1 rfl rfl rfl rfl rfl ?_
      refine G.opN1 rfl rfl rfl rfl rfl ?_
      refine G.op1 (op_pickF (Ev.t 19 (bB false)) (Ev.c _ rfl) rfl) rfl ⟨rfl, trivial⟩ trivial ?_
      exact G.arr (J8 false hF) ⟨rfl, rfl, rfl, trivial⟩ ⟨rfl, rfl, trivial⟩ rfl
  refine ifS hF (fun hc11 hF => ?_) (fun hc11 hF => ?_)
  · refine G.known (t := 12) hc11 rfl ?_
    refine G.opG1 (op_fieldP (off' := 0) Try.underlying32 rfl ti9 (by decide) rfl (Ev.t 2 (.ptr 1002 0)) rfl) rfl rfl rfl ⟨rfl, trivial⟩ trivial ?_
    refine G.opG1 (op_load1P (c := bS a_0.Key) Try.underlying9 rfl rfl (Ev.t 13 (.ptr 1002 0)) rfl) rfl rfl rfl ⟨rfl, trivial⟩ ⟨rfl, trivial⟩ ?_
    refine G.opG1 (op_fieldP (off' := 0) Try.underlying32 rfl ti9 (by decide) rfl (Ev.t 3 (.ptr 1003 0)) rfl) rfl rfl rfl ⟨rfl, trivial⟩ trivial ?_
    refine G.opG1 (op_load1P (c := bS b_1.Key) Try.underlying9 rfl rfl (Ev.t 15 (.ptr 1003 0)) rfl) rfl rfl rfl ⟨rfl, trivial⟩ ⟨rfl, trivial⟩ ?_
    refine G.opG1 (op_eqS (Ev.t 14 (bS a_0.Key)) (Ev.t 16 (bS b_1.Key)) rfl) rfl rfl rfl ⟨rfl, rfl, trivial⟩ trivial ?_
    refine G.op1 (op_pickT (Ev.t 12 (bB true)) (Ev.t 17 (bB (seq a_0.Key b_1.Key))) rfl) rfl ⟨rfl, rfl, trivial⟩ trivial ?_
    exact G.arr (J10 (seq a_0.Key b_1.Key) hF) ⟨rfl, rfl, rfl, trivial⟩ ⟨rfl, rfl, trivial⟩ rfl
  · refine G.known (t := 12) hc11 rfl ?_
    refine G.opN1 rfl rfl rfl rfl rfl ?_
    refine G.opN1 rfl rfl rfl rfl rfl ?_
    refine G.opN1 rfl rfl rfl rfl rfl ?_
    refine G.opN1 rfl rfl rfl rfl rfl ?_
    refine G.opN1 rfl rfl rfl rfl rfl ?_
    refine G.op1 (op_pickF (Ev.t 12 (bB false)) (Ev.c _ rfl) rfl) rfl ⟨rfl, trivial⟩ trivial ?_
    exact G.arr (J10 false hF) ⟨rfl, rfl, rfl, trivial⟩ ⟨rfl, rfl, trivial⟩ rfl


set_option maxRecDepth 20000 in
set_option maxHeartbeats 2000000 in
theorem ct_ref12_Same (a_0 : (List Api_Version)) (b_1 : (List Api_Version)) (r : Bool) (hF : ref12_Same a_0 b_1 = some r) : Ct Try.prog 23 [.g (.d (.sl 6 (List.map encApi_Version a_0))), .g (.d (.sl 6 (List.map encApi_Version b_1)))] (.one (.d (.v (.bool r)))) := by
  unfold ref12_Same at hF
  refine Ct.intro Try.func23 rfl Try.ntmps23 rfl rfl fun M w => ?_
  refine G.seq ?_
  refine G.region ?_
  refine G.op1 (op_assign (Ev.c _ rfl) rfl) rfl trivial trivial ?_
  refine G.endOps ?_
  refine G.seq ?_
  refine G.seq ?_
  refine G.region ?_
  refine G.op1 (op_move (Ev.t 0 (.g (.d (.sl 6 (List.map encApi_Version a_0))))) rfl) rfl ⟨rfl, trivial⟩ trivial ?_
  refine G.op1 (OpL.cast (op_lenD Try.underlying24 (Ev.t 7 (.g (.d (.sl 6 (List.map encApi_Version a_0))))) rfl) (by rw [List.length_map])) rfl ⟨rfl, trivial⟩ trivial ?_
  refine G.op1 (op_move (Ev.t 1 (.g (.d (.sl 6 (List.map encApi_Version b_1))))) rfl) rfl ⟨rfl, trivial⟩ trivial ?_
  refine G.op1 (OpL.cast (op_lenD Try.underlying24 (Ev.t 9 (.g (.d (.sl 6 (List.map encApi_Version b_1))))) rfl) (by rw [List.length_map])) rfl ⟨rfl, trivial⟩ trivial ?_
  refine G.op1 (op_neI (Ev.t 8 (bI .i64 (a_0.length : Int))) (Ev.t 10 (bI .i64 (b_1.length : Int))) rfl) rfl ⟨rfl, rfl, trivial⟩ trivial ?_
  refine G.endOps ?_
  refine ifS hF (fun hc1 hF => ?_) (fun hc1 hF => ?_)
  · refine G.cond rfl (fun _ => ?_) (fun hx => by rw [hc1] at hx; cases hx)
    refine G.seq ?_
    refine G.region ?_
    refine G.op1 (op_assign (Ev.c _ rfl) rfl) rfl trivial trivial ?_
    refine G.endOps ?_
    cases hF
    exact G.ret1 Try.results23 (RVar.tmp 4 _) ⟨rfl, trivial⟩ trivial
  · refine G.cond rfl (fun hx => by rw [hc1] at hx; cases hx) (fun _ => ?_)
    refine G.skip ?_
    refine G.seq ?_
    refine G.seq ?_
    refine G.region ?_
    refine G.op1 (op_assign (Ev.c _ rfl) rfl) rfl trivial trivial ?_
    refine G.endOps ?_
    refine G.joinC (T := Unit) (fun y2 => ⟨[], []⟩) (fun y2 => ref12_Same_k1 y2 = some r) (fun y2 hF => ?_) (fun J3 => ?_)
    · unfold ref12_Same_k1 at hF
      refine G.seq ?_
      refine G.region ?_
      refine G.op1 (op_assign (Ev.c _ rfl) rfl) rfl trivial trivial ?_
      refine G.endOps ?_
      cases hF
      exact G.ret1 Try.results23 (RVar.tmp 4 _) ⟨rfl, trivial⟩ trivial
    refine G.block ?_
    refine G.keep (sl' := [(0, .one (.g (.d (.sl 6 (List.map encApi_Version a_0))))), (1, .one (.g (.d (.sl 6 (List.map encApi_Version b_1))))), (5, .one (bI .i64 0))]) (hp' := []) ⟨rfl, rfl, rfl, trivial⟩ trivial rfl ?_
    refine G.loopF (fun (v4 : Int) => ⟨[(0, .one (.g (.d (.sl 6 (List.map encApi_Version a_0))))), (1, .one (.g (.d (.sl 6 (List.map encApi_Version b_1))))), (5, .one (bI .i64 v4))], []⟩) hF rfl (fun K7 again6 v4 J5 hF => ?_)
    unfold ref12_Same_l2 at hF
    refine G.seq ?_
    refine G.seq ?_
    refine G.region ?_
    refine G.op1 (op_move (Ev.t 5 (bI .i64 v4)) rfl) rfl ⟨rfl, trivial⟩ trivial ?_
    refine G.op1 (op_move (Ev.t 0 (.g (.d (.sl 6 (List.map encApi_Version a_0))))) rfl) rfl ⟨rfl, trivial⟩ trivial ?_
    refine G.op1 (OpL.cast (op_lenD Try.underlying24 (Ev.t 13 (.g (.d (.sl 6 (List.map encApi_Version a_0))))) rfl) (by rw [List.length_map])) rfl ⟨rfl, trivial⟩ trivial ?_
    refine G.op1 (op_lss (Ev.t 12 (bI .i64 v4)) (Ev.t 14 (bI .i64 (a_0.length : Int))) rfl) rfl ⟨rfl, rfl, trivial⟩ trivial ?_
    refine G.endOps ?_
    refine ifS hF (fun hc8 hF => ?_) (fun hc8 hF => ?_)
    · refine G.cond rfl (fun _ => ?_) (fun hx => by rw [hc8] at hx; cases hx)
      refine G.skip ?_
      refine G.seq ?_
      refine G.block ?_
      refine G.seq ?_
      obtain ⟨x9, hx9, hF⟩ := bindS hF
      obtain ⟨x10, hx10, hF⟩ := bindS hF
      obtain ⟨r11, hr11, hF⟩ := bindS hF
      refine G.drawn (effs := [⟨[(0, .one (.g (.d (.sl 6 (List.map encApi_Version a_0)))))], [], [(18, .one (.g (.d (.sl 6 (List.map encApi_Version a_0)))))], []⟩, ⟨[(5, .one (bI .i64 v4))], [], [(19, .one (bI .i64 v4))], []⟩, ⟨[(18, .one (.g (.d (.sl 6 (List.map encApi_Version a_0))))), (19, .one (bI .i64 v4))], [], [(20, .one (.ep [.v (.string x9.Key), .v (.string x9.Value), .v (.bool x9.Gone), .v (.int .i64 x9.Stamp.N), .v (.int .i64 x9.Stamp.Site), .sl 3 (List.map encApi_Dep x9.Past)]))], []⟩, ⟨[(20, .one (.ep [.v (.string x9.Key), .v (.string x9.Value), .v (.bool x9.Gone), .v (.int .i64 x9.Stamp.N), .v (.int .i64 x9.Stamp.Site), .sl 3 (List.map encApi_Dep x9.Past)]))], [], [(21, .one (.g (.agg [.v (.string x9.Key), .v (.string x9.Value), .v (.bool x9.Gone), .v (.int .i64 x9.Stamp.N), .v (.int .i64 x9.Stamp.Site), .sl 3 (List.map encApi_Dep x9.Past)])))], []⟩, ⟨[(1, .one (.g (.d (.sl 6 (List.map encApi_Version b_1)))))], [], [(22, .one (.g (.d (.sl 6 (List.map encApi_Version b_1)))))], []⟩, ⟨[(5, .one (bI .i64 v4))], [], [(23, .one (bI .i64 v4))], []⟩, ⟨[(22, .one (.g (.d (.sl 6 (List.map encApi_Version b_1))))), (23, .one (bI .i64 v4))], [], [(24, .one (.ep [.v (.string x10.Key), .v (.string x10.Value), .v (.bool x10.Gone), .v (.int .i64 x10.Stamp.N), .v (.int .i64 x10.Stamp.Site), .sl 3 (List.map encApi_Dep x10.Past)]))], []⟩, ⟨[(24, .one (.ep [.v (.string x10.Key), .v (.string x10.Value), .v (.bool x10.Gone), .v (.int .i64 x10.Stamp.N), .v (.int .i64 x10.Stamp.Site), .sl 3 (List.map encApi_Dep x10.Past)]))], [], [(25, .one (.g (.agg [.v (.string x10.Key), .v (.string x10.Value), .v (.bool x10.Gone), .v (.int .i64 x10.Stamp.N), .v (.int .i64 x10.Stamp.Site), .sl 3 (List.map encApi_Dep x10.Past)])))], []⟩, ⟨[(21, .one (.g (.agg [.v (.string x9.Key), .v (.string x9.Value), .v (.bool x9.Gone), .v (.int .i64 x9.Stamp.N), .v (.int .i64 x9.Stamp.Site), .sl 3 (List.map encApi_Dep x9.Past)]))), (25, .one (.g (.agg [.v (.string x10.Key), .v (.string x10.Value), .v (.bool x10.Gone), .v (.int .i64 x10.Stamp.N), .v (.int .i64 x10.Stamp.Site), .sl 3 (List.map encApi_Dep x10.Past)])))], [], [(26, .one (bB r11))], []⟩, ⟨[(26, .one (bB r11))], [], [(6, .one (bB r11))], []⟩]) (deps := [[], [], [0, 1], [0, 1, 2], [], [], [4, 5], [4, 5, 6], [0, 1, 2, 3, 4, 5, 6, 7], [0, 1, 2, 3, 4, 5, 6, 7, 8]]) (sl' := [(0, .one (.g (.d (.sl 6 (List.map encApi_Version a_0))))), (1, .one (.g (.d (.sl 6 (List.map encApi_Version b_1))))), (5, .one (bI .i64 v4)), (6, .one (bB r11))]) (hp' := []) follows rfl rfl rfl ⟨⟨rfl, trivial⟩, trivial, ⟨rfl, trivial⟩, trivial, ⟨rfl, rfl, trivial⟩, trivial, ⟨rfl, trivial⟩, trivial, ⟨rfl, trivial⟩, trivial, ⟨rfl, trivial⟩, trivial, ⟨rfl, rfl, trivial⟩, trivial, ⟨rfl, trivial⟩, trivial, ⟨rfl, rfl, trivial⟩, trivial, ⟨rfl, trivial⟩, trivial, trivial⟩ ⟨OpW.plain (op_move (Ev.t 0 (.g (.d (.sl 6 (List.map encApi_Version a_0))))) rfl) rfl rfl, OpW.plain (op_move (Ev.t 5 (bI .i64 v4)) rfl) rfl rfl, OpW.plain (op_index (cs := [.v (.string x9.Key), .v (.string x9.Value), .v (.bool x9.Gone), .v (.int .i64 x9.Stamp.N), .v (.int .i64 x9.Stamp.Site), .sl 3 (List.map encApi_Dep x9.Past)]) Try.underlying24 ti32 (idx_ok hx9).1 (idx_get hx9 encApi_Version) (Ev.t 18 (.g (.d (.sl 6 (List.map encApi_Version a_0))))) (Ev.t 19 (bI .i64 v4)) rfl) rfl rfl, OpW.plain (op_loadAE (ds := [.v (.string x9.Key), .v (.string x9.Value), .v (.bool x9.Gone), .v (.int .i64 x9.Stamp.N), .v (.int .i64 x9.Stamp.Site), .sl 3 (List.map encApi_Dep x9.Past)]) Try.underlying32 rfl ti32 rfl (Ev.t 20 (.ep [.v (.string x9.Key), .v (.string x9.Value), .v (.bool x9.Gone), .v (.int .i64 x9.Stamp.N), .v (.int .i64 x9.Stamp.Site), .sl 3 (List.map encApi_Dep x9.Past)])) rfl) rfl rfl, OpW.plain (op_move (Ev.t 1 (.g (.d (.sl 6 (List.map encApi_Version b_1))))) rfl) rfl rfl, OpW.plain (op_move (Ev.t 5 (bI .i64 v4)) rfl) rfl rfl, OpW.plain (op_index (cs := [.v (.string x10.Key), .v (.string x10.Value), .v (.bool x10.Gone), .v (.int .i64 x10.Stamp.N), .v (.int .i64 x10.Stamp.Site), .sl 3 (List.map encApi_Dep x10.Past)]) Try.underlying24 ti32 (idx_ok hx10).1 (idx_get hx10 encApi_Version) (Ev.t 22 (.g (.d (.sl 6 (List.map encApi_Version b_1))))) (Ev.t 23 (bI .i64 v4)) rfl) rfl rfl, OpW.plain (op_loadAE (ds := [.v (.string x10.Key), .v (.string x10.Value), .v (.bool x10.Gone), .v (.int .i64 x10.Stamp.N), .v (.int .i64 x10.Stamp.Site), .sl 3 (List.map encApi_Dep x10.Past)]) Try.underlying32 rfl ti32 rfl (Ev.t 24 (.ep [.v (.string x10.Key), .v (.string x10.Value), .v (.bool x10.Gone), .v (.int .i64 x10.Stamp.N), .v (.int .i64 x10.Stamp.Site), .sl 3 (List.map encApi_Dep x10.Past)])) rfl) rfl rfl, OpW.plain (op_callQ (sv := .one (bB r11)) cf22 (ct_ref06_Same x9 x10 r11 hr11) rfl rfl (EvQL.cons (EvQ.g (Ev.t 21 (.g (.agg [.v (.string x9.Key), .v (.string x9.Value), .v (.bool x9.Gone), .v (.int .i64 x9.Stamp.N), .v (.int .i64 x9.Stamp.Site), .sl 3 (List.map encApi_Dep x9.Past)])))) (EvQL.cons (EvQ.g (Ev.t 25 (.g (.agg [.v (.string x10.Key), .v (.string x10.Value), .v (.bool x10.Gone), .v (.int .i64 x10.Stamp.N), .v (.int .i64 x10.Stamp.Site), .sl 3 (List.map encApi_Dep x10.Past)])))) EvQL.nil)) rfl) rfl rfl, OpW.plain (op_assign (Ev.t 26 (bB r11)) rfl) rfl rfl, trivial⟩ ⟨rfl, rfl, rfl, rfl, trivial⟩ trivial rfl ?_
      refine G.seq ?_
      refine G.region ?_
      refine G.op1 (op_move (Ev.t 6 (bB r11)) rfl) rfl ⟨rfl, trivial⟩ trivial ?_
      refine G.op1 (op_not (Ev.t 27 (bB r11)) rfl) rfl ⟨rfl, trivial⟩ trivial ?_
      refine G.endOps ?_
      refine ifS hF (fun hc12 hF => ?_) (fun hc12 hF => ?_)
      · refine G.cond rfl (fun _ => ?_) (fun hx => by rw [hc12] at hx; cases hx)
        refine G.seq ?_
        refine G.region ?_
        refine G.op1 (op_assign (Ev.c _ rfl) rfl) rfl trivial trivial ?_
        refine G.endOps ?_
        cases hF
        exact G.ret1 Try.results23 (RVar.tmp 4 _) ⟨rfl, trivial⟩ trivial
      · refine G.cond rfl (fun hx => by rw [hc12] at hx; cases hx) (fun _ => ?_)
        refine G.skip ?_
        refine G.endBlock ?_
        refine G.region ?_
        refine G.op1 (op_move (Ev.t 5 (bI .i64 v4)) rfl) rfl ⟨rfl, trivial⟩ trivial ?_
        refine G.op1 (op_add (Ev.t 16 (bI .i64 v4)) (Ev.c _ rfl) rfl) rfl ⟨rfl, trivial⟩ trivial ?_
        refine G.op1 (op_assign (Ev.t 17 (bI .i64 (IntKind.wrap .i64 (v4 + 1)))) rfl) rfl ⟨rfl, trivial⟩ trivial ?_
        refine G.endOps ?_
        exact G.arr (J5 (IntKind.wrap .i64 (v4 + 1)) hF) ⟨rfl, rfl, rfl, trivial⟩ trivial rfl
    · refine G.cond rfl (fun hx => by rw [hc8] at hx; cases hx) (fun _ => ?_)
      refine G.exit ?_
      refine GX.c ?_
      refine GX.q ?_
      refine GX.bYes ?_
      exact G.arr (J3 () hF) trivial trivial rfl


set_option maxRecDepth 20000 in
set_option maxHeartbeats 2000000 in
theorem ct_law14_QueueDrop (l_0 : (List Law14_Write)) (which_1 : Int) (r : Bool) (hF : law14_QueueDrop l_0 which_1 = some r) : Ct Try.prog 5 [.g (.d (.sl 3 (List.map encLaw14_Write l_0))), .g (.d (.v (.int .i64 which_1)))] (.one (.d (.v (.bool r)))) := by
  unfold law14_QueueDrop at hF
  refine Ct.intro Try.func5 rfl Try.ntmps5 rfl rfl fun M w => ?_
  refine G.seq ?_
  refine G.region ?_
  refine G.op1 (op_assign (Ev.c _ rfl) rfl) rfl trivial trivial ?_
  refine G.endOps ?_
  refine G.seq ?_
  refine G.region ?_
  obtain ⟨r1, hr1, hF⟩ := bindS hF
  refine G.op1 (op_callQ (sv := .one (bB r1)) cf9 (ct_law14_awake r1 hr1) rfl rfl EvQL.nil rfl) rfl trivial trivial ?_
  refine G.op1 (op_assign (Ev.t 15 (bB r1)) rfl) rfl ⟨rfl, trivial⟩ trivial ?_
  refine G.endOps ?_
  refine G.seq ?_
  refine G.region ?_
  refine G.op1 (op_move (Ev.t 0 (.g (.d (.sl 3 (List.map encLaw14_Write l_0))))) rfl) rfl ⟨rfl, trivial⟩ trivial ?_
  obtain ⟨r2, hr2, hF⟩ := bindS hF
  refine G.op1 (op_call (sv := .one (.g (.d (.sl 6 (List.map encApi_Version r2))))) cf10 (ct_law14_made l_0 r2 hr2) rfl (EvL.cons (Ev.t 16 (.g (.d (.sl 3 (List.map encLaw14_Write l_0))))) EvL.nil) rfl) rfl ⟨rfl, trivial⟩ trivial ?_
  refine G.op1 (op_assign (Ev.t 17 (.g (.d (.sl 6 (List.map encApi_Version r2))))) rfl) rfl ⟨rfl, trivial⟩ trivial ?_
  refine G.endOps ?_
  refine G.seq ?_
  refine G.region ?_
  refine G.op1 (op_move (Ev.t 1 (bI .i64 which_1)) rfl) rfl ⟨rfl, trivial⟩ trivial ?_
  obtain ⟨r3, hr3, hF⟩ := bindS hF
  refine G.op1 (op_call (sv := .one (.g (.d (.sl 2 (List.map encApi_Range r3))))) cf11 (ct_law14_ranges which_1 r3 hr3) rfl (EvL.cons (Ev.t 18 (bI .i64 which_1)) EvL.nil) rfl) rfl ⟨rfl, trivial⟩ trivial ?_
  refine G.op1 (op_assign (Ev.t 19 (.g (.d (.sl 2 (List.map encApi_Range r3))))) rfl) rfl ⟨rfl, trivial⟩ trivial ?_
  refine G.endOps ?_
  refine G.seq ?_
  refine G.region ?_
  refine G.op1 (op_move (Ev.t 6 (.g (.d (.sl 6 (List.map encApi_Version r2))))) rfl) rfl ⟨rfl, trivial⟩ trivial ?_
  refine G.op1 (op_move (Ev.t 7 (.g (.d (.sl 2 (List.map encApi_Range r3))))) rfl) rfl ⟨rfl, trivial⟩ trivial ?_
  obtain ⟨r4, hr4, hF⟩ := bindS hF
  refine G.op1 (op_call (sv := .one (.g (.d (.sl 6 (List.map encApi_Version r4))))) cf21 (ct_queue_Drop r2 r3 r4 hr4) rfl (EvL.cons (Ev.t 20 (.g (.d (.sl 6 (List.map encApi_Version r2))))) (EvL.cons (Ev.t 21 (.g (.d (.sl 2 (List.map encApi_Range r3))))) EvL.nil)) rfl) rfl ⟨rfl, rfl, trivial⟩ trivial ?_
  refine G.op1 (op_assign (Ev.t 22 (.g (.d (.sl 6 (List.map encApi_Version r4))))) rfl) rfl ⟨rfl, trivial⟩ trivial ?_
  refine G.endOps ?_
  refine G.seq ?_
  refine G.region ?_
  refine G.op1 (op_assign (Ev.c _ rfl) rfl) rfl trivial trivial ?_
  refine G.endOps ?_
  refine G.seq ?_
  refine G.seq ?_
  refine G.region ?_
  refine G.op1 (op_assign (Ev.c _ rfl) rfl) rfl trivial trivial ?_
  refine G.endOps ?_
  refine G.joinC (T := Int) (fun y5 => ⟨[(5, .one (bB r1)), (6, .one (.g (.d (.sl 6 (List.map encApi_Version r2))))), (8, .one (.g (.d (.sl 6 (List.map encApi_Version r4))))), (9, .one (bI .i64 y5))], []⟩) (fun y5 => law14_QueueDrop_k1 r1 r2 r4 y5 = some r) (fun y5 hF => ?_) (fun J10 => ?_)
  · unfold law14_QueueDrop_k1 at hF
    refine G.seq ?_
    refine G.region ?_
    refine G.op1 (op_move (Ev.t 6 (.g (.d (.sl 6 (List.map encApi_Version r2))))) rfl) rfl ⟨rfl, trivial⟩ trivial ?_
    refine G.op1 (op_build (zs := [.v (.string ByteArray.empty), .v (.string ByteArray.empty)]) (ds := [.v (.string ByteArray.empty), .v (.string ByteArray.empty)]) Try.underlying51 ti51 (pl51 _ Try.underlying51) ⟨.v _ rfl, .v _ rfl, trivial⟩ EvP.nil rfl rfl) rfl trivial trivial ?_
    refine G.op1 (op_buildSlice (es := List.map encApi_Range [(Api_Range.mk ByteArray.empty ByteArray.empty)]) Try.underlying26 ti51 rfl rfl (EvP.cons (Ev.t 90 (.g (.agg [.v (.string ByteArray.empty), .v (.string ByteArray.empty)]))) EvP.nil) rfl rfl (by simp [encApi_Range]) rfl) rfl ⟨rfl, trivial⟩ trivial ?_
    obtain ⟨r6, hr6, hF⟩ := bindS hF
    refine G.op1 (op_call (sv := .one (.g (.d (.sl 6 (List.map encApi_Version r6))))) cf21 (ct_queue_Drop r2 ([(Api_Range.mk ByteArray.empty ByteArray.empty)]) r6 hr6) rfl (EvL.cons (Ev.t 89 (.g (.d (.sl 6 (List.map encApi_Version r2))))) (EvL.cons (Ev.t 91 (.g (.d (.sl 2 (List.map encApi_Range ([(Api_Range.mk ByteArray.empty ByteArray.empty)])))))) EvL.nil)) rfl) rfl ⟨rfl, rfl, trivial⟩ trivial ?_
    refine G.op1 (op_move (Ev.t 6 (.g (.d (.sl 6 (List.map encApi_Version r2))))) rfl) rfl ⟨rfl, trivial⟩ trivial ?_
    obtain ⟨r7, hr7, hF⟩ := bindS hF
    refine G.op1 (op_callQ (sv := .one (bB r7)) cf23 (ct_ref12_Same r6 r2 r7 hr7) rfl rfl (EvQL.cons (EvQ.g (Ev.t 92 (.g (.d (.sl 6 (List.map encApi_Version r6)))))) (EvQL.cons (EvQ.g (Ev.t 93 (.g (.d (.sl 6 (List.map encApi_Version r2)))))) EvQL.nil)) rfl) rfl ⟨rfl, rfl, trivial⟩ trivial ?_
    refine G.op1 (op_assign (Ev.t 94 (bB r7)) rfl) rfl ⟨rfl, trivial⟩ trivial ?_
    refine G.endOps ?_
    refine G.seq ?_
    refine G.region ?_
    refine G.op1 (op_move (Ev.t 5 (bB r1)) rfl) rfl ⟨rfl, trivial⟩ trivial ?_
    refine G.op1 (op_move (Ev.t 95 (bB r1)) rfl) rfl ⟨rfl, trivial⟩ trivial ?_
    refine ifS hF (fun hc8 hF => ?_) (fun hc8 hF => ?_)
    · refine G.known (t := 96) hc8 rfl ?_
      refine G.opG1 (op_move (Ev.t 9 (bI .i64 y5)) rfl) rfl rfl rfl ⟨rfl, trivial⟩ trivial ?_
      refine G.opG1 (op_move (Ev.t 8 (.g (.d (.sl 6 (List.map encApi_Version r4))))) rfl) rfl rfl rfl ⟨rfl, trivial⟩ trivial ?_
      refine G.opG1 (OpL.cast (op_lenD Try.underlying24 (Ev.t 98 (.g (.d (.sl 6 (List.map encApi_Version r4))))) rfl) (by rw [List.length_map])) rfl rfl rfl ⟨rfl, trivial⟩ trivial ?_
      refine G.opG1 (op_eqI (Ev.t 97 (bI .i64 y5)) (Ev.t 99 (bI .i64 (r4.length : Int))) rfl) rfl rfl rfl ⟨rfl, rfl, trivial⟩ trivial ?_
      refine G.op1 (op_pickT (Ev.t 96 (bB true)) (Ev.t 100 (bB (decide (y5 = (r4.length : Int))))) rfl) rfl ⟨rfl, rfl, trivial⟩ trivial ?_
      refine G.op1 (op_move (Ev.t 101 (bB (decide (y5 = (r4.length : Int))))) rfl) rfl ⟨rfl, trivial⟩ trivial ?_
      refine ifS hF (fun hc9 hF => ?_) (fun hc9 hF => ?_)
      · refine G.known (t := 102) hc9 rfl ?_
        refine G.opG1 (op_move (Ev.t 14 (bB r7)) rfl) rfl rfl rfl ⟨rfl, trivial⟩ trivial ?_
        refine G.op1 (op_pickT (Ev.t 102 (bB true)) (Ev.t 103 (bB r7)) rfl) rfl ⟨rfl, rfl, trivial⟩ trivial ?_
        refine G.op1 (op_assign (Ev.t 104 (bB r7)) rfl) rfl ⟨rfl, trivial⟩ trivial ?_
        refine G.endOps ?_
        cases hF
        exact G.ret1 Try.results5 (RVar.tmp 4 _) ⟨rfl, trivial⟩ trivial
      · refine G.known (t := 102) hc9 rfl ?_
        refine G.opN1 rfl rfl rfl rfl rfl ?_
        refine G.op1 (op_pickF (Ev.t 102 (bB false)) (Ev.c _ rfl) rfl) rfl ⟨rfl, trivial⟩ trivial ?_
        refine G.op1 (op_assign (Ev.t 104 (bB false)) rfl) rfl ⟨rfl, trivial⟩ trivial ?_
        refine G.endOps ?_
        cases hF
        exact G.ret1 Try.results5 (RVar.tmp 4 _) ⟨rfl, trivial⟩ trivial
    · refine G.known (t := 96) hc8 rfl ?_
      refine G.opN1 rfl rfl rfl rfl rfl ?_
      refine G.opN1 rfl rfl rfl rfl rfl ?_
      refine G.opN1 rfl rfl rfl rfl rfl ?_
      refine G.opN1 rfl rfl rfl rfl rfl ?_
      refine G.op1 (op_pickF (Ev.t 96 (bB false)) (Ev.c _ rfl) rfl) rfl ⟨rfl, trivial⟩ trivial ?_
      refine G.op1 (op_move (Ev.t 101 (bB false)) rfl) rfl ⟨rfl, trivial⟩ trivial ?_
      refine G.opN1 rfl rfl rfl rfl rfl ?_
      refine G.op1 (op_pickF (Ev.t 102 (bB false)) (Ev.c _ rfl) rfl) rfl ⟨rfl, trivial⟩ trivial ?_
      refine G.op1 (op_assign (Ev.t 104 (bB false)) rfl) rfl ⟨rfl, trivial⟩ trivial ?_
      refine G.endOps ?_
      cases hF
      exact G.ret1 Try.results5 (RVar.tmp 4 _) ⟨rfl, trivial⟩ trivial
  refine G.block ?_
  refine G.keep (sl' := [(5, .one (bB r1)), (6, .one (.g (.d (.sl 6 (List.map encApi_Version r2))))), (7, .one (.g (.d (.sl 2 (List.map encApi_Range r3))))), (8, .one (.g (.d (.sl 6 (List.map encApi_Version r4))))), (9, .one (bI .i64 0)), (10, .one (bI .i64 0))]) (hp' := []) ⟨rfl, rfl, rfl, rfl, rfl, rfl, trivial⟩ trivial rfl ?_
  refine G.loopF (fun (v11 : Int × Int) => ⟨[(5, .one (bB r1)), (6, .one (.g (.d (.sl 6 (List.map encApi_Version r2))))), (7, .one (.g (.d (.sl 2 (List.map encApi_Range r3))))), (8, .one (.g (.d (.sl 6 (List.map encApi_Version r4))))), (9, .one (bI .i64 v11.1)), (10, .one (bI .i64 v11.2))], []⟩) hF rfl (fun K14 again13 v11 J12 hF => ?_)
  unfold law14_QueueDrop_l2 at hF
  refine G.seq ?_
  refine G.seq ?_
  refine G.region ?_
  refine G.op1 (op_move (Ev.t 10 (bI .i64 v11.2)) rfl) rfl ⟨rfl, trivial⟩ trivial ?_
  refine G.op1 (op_move (Ev.t 6 (.g (.d (.sl 6 (List.map encApi_Version r2))))) rfl) rfl ⟨rfl, trivial⟩ trivial ?_
  refine G.op1 (OpL.cast (op_lenD Try.underlying24 (Ev.t 24 (.g (.d (.sl 6 (List.map encApi_Version r2))))) rfl) (by rw [List.length_map])) rfl ⟨rfl, trivial⟩ trivial ?_
  refine G.op1 (op_lss (Ev.t 23 (bI .i64 v11.2)) (Ev.t 25 (bI .i64 (r2.length : Int))) rfl) rfl ⟨rfl, rfl, trivial⟩ trivial ?_
  refine G.endOps ?_
  refine ifS hF (fun hc15 hF => ?_) (fun hc15 hF => ?_)
  · refine G.cond rfl (fun _ => ?_) (fun hx => by rw [hc15] at hx; cases hx)
    refine G.skip ?_
    refine G.seq ?_
    refine G.joinC (T := Int) (fun y16 => ⟨[(5, .one (bB r1)), (6, .one (.g (.d (.sl 6 (List.map encApi_Version r2))))), (7, .one (.g (.d (.sl 2 (List.map encApi_Range r3))))), (8, .one (.g (.d (.sl 6 (List.map encApi_Version r4))))), (9, .one (bI .i64 y16)), (10, .one (bI .i64 v11.2))], []⟩) (fun y16 => law14_QueueDrop_k3 again13 v11 y16 = some r) (fun y16 hF => ?_) (fun J17 => ?_)
    · unfold law14_QueueDrop_k3 at hF
      refine G.region ?_
      refine G.op1 (op_move (Ev.t 10 (bI .i64 v11.2)) rfl) rfl ⟨rfl, trivial⟩ trivial ?_
      refine G.op1 (op_add (Ev.t 27 (bI .i64 v11.2)) (Ev.c _ rfl) rfl) rfl ⟨rfl, trivial⟩ trivial ?_
      refine G.op1 (op_assign (Ev.t 28 (bI .i64 (IntKind.wrap .i64 (v11.2 + 1)))) rfl) rfl ⟨rfl, trivial⟩ trivial ?_
      refine G.endOps ?_
      exact G.arr (J12 (y16, IntKind.wrap .i64 (v11.2 + 1)) hF) ⟨rfl, rfl, rfl, rfl, rfl, rfl, trivial⟩ trivial rfl
    refine G.block ?_
    refine G.seq ?_
    refine G.region ?_
    refine G.op1 (op_assign (Ev.c _ rfl) rfl) rfl trivial trivial ?_
    refine G.endOps ?_
    refine G.seq ?_
    refine G.seq ?_
    refine G.region ?_
    refine G.op1 (op_assign (Ev.c _ rfl) rfl) rfl trivial trivial ?_
    refine G.endOps ?_
    refine G.joinC (T := Bool) (fun y18 => ⟨[(5, .one (bB r1)), (6, .one (.g (.d (.sl 6 (List.map encApi_Version r2))))), (7, .one (.g (.d (.sl 2 (List.map encApi_Range r3))))), (8, .one (.g (.d (.sl 6 (List.map encApi_Version r4))))), (9, .one (bI .i64 v11.1)), (10, .one (bI .i64 v11.2)), (11, .one (bB y18))], []⟩) (fun y18 => law14_QueueDrop_k4 r2 r4 again13 v11 y18 = some r) (fun y18 hF => ?_) (fun J25 => ?_)
    · unfold law14_QueueDrop_k4 at hF
      refine G.seq ?_
      refine G.seq ?_
      refine G.region ?_
      refine G.op1 (op_move (Ev.t 11 (bB y18)) rfl) rfl ⟨rfl, trivial⟩ trivial ?_
      refine G.op1 (op_not (Ev.t 70 (bB y18)) rfl) rfl ⟨rfl, trivial⟩ trivial ?_
      refine G.endOps ?_
      refine ifS hF (fun hc19 hF => ?_) (fun hc19 hF => ?_)
      · refine G.cond rfl (fun _ => ?_) (fun hx => by rw [hc19] at hx; cases hx)
        refine G.exit ?_
        refine GX.c ?_
        refine GX.bYes ?_
        exact G.arr (J17 v11.1 hF) ⟨rfl, rfl, rfl, rfl, rfl, rfl, trivial⟩ trivial rfl
      · refine G.cond rfl (fun hx => by rw [hc19] at hx; cases hx) (fun _ => ?_)
        refine G.skip ?_
        refine G.seq ?_
        refine G.seq ?_
        refine G.region ?_
        refine G.op1 (op_move (Ev.t 9 (bI .i64 v11.1)) rfl) rfl ⟨rfl, trivial⟩ trivial ?_
        refine G.op1 (op_move (Ev.t 8 (.g (.d (.sl 6 (List.map encApi_Version r4))))) rfl) rfl ⟨rfl, trivial⟩ trivial ?_
        refine G.op1 (OpL.cast (op_lenD Try.underlying24 (Ev.t 73 (.g (.d (.sl 6 (List.map encApi_Version r4))))) rfl) (by rw [List.length_map])) rfl ⟨rfl, trivial⟩ trivial ?_
        refine G.op1 (op_geq (Ev.t 72 (bI .i64 v11.1)) (Ev.t 74 (bI .i64 (r4.length : Int))) rfl) rfl ⟨rfl, rfl, trivial⟩ trivial ?_
        refine G.endOps ?_
        refine ifS hF (fun hc20 hF => ?_) (fun hc20 hF => ?_)
        · refine G.cond rfl (fun _ => ?_) (fun hx => by rw [hc20] at hx; cases hx)
          refine G.seq ?_
          refine G.region ?_
          refine G.op1 (op_assign (Ev.c _ rfl) rfl) rfl trivial trivial ?_
          refine G.endOps ?_
          cases hF
          exact G.ret1 Try.results5 (RVar.tmp 4 _) ⟨rfl, trivial⟩ trivial
        · refine G.cond rfl (fun hx => by rw [hc20] at hx; cases hx) (fun _ => ?_)
          refine G.skip ?_
          refine G.seq ?_
          obtain ⟨x21, hx21, hF⟩ := bindS hF
          obtain ⟨x22, hx22, hF⟩ := bindS hF
          obtain ⟨r23, hr23, hF⟩ := bindS hF
          refine G.drawn (effs := [⟨[(8, .one (.g (.d (.sl 6 (List.map encApi_Version r4)))))], [], [(76, .one (.g (.d (.sl 6 (List.map encApi_Version r4)))))], []⟩, ⟨[(9, .one (bI .i64 v11.1))], [], [(77, .one (bI .i64 v11.1))], []⟩, ⟨[(76, .one (.g (.d (.sl 6 (List.map encApi_Version r4))))), (77, .one (bI .i64 v11.1))], [], [(78, .one (.ep [.v (.string x21.Key), .v (.string x21.Value), .v (.bool x21.Gone), .v (.int .i64 x21.Stamp.N), .v (.int .i64 x21.Stamp.Site), .sl 3 (List.map encApi_Dep x21.Past)]))], []⟩, ⟨[(78, .one (.ep [.v (.string x21.Key), .v (.string x21.Value), .v (.bool x21.Gone), .v (.int .i64 x21.Stamp.N), .v (.int .i64 x21.Stamp.Site), .sl 3 (List.map encApi_Dep x21.Past)]))], [], [(79, .one (.g (.agg [.v (.string x21.Key), .v (.string x21.Value), .v (.bool x21.Gone), .v (.int .i64 x21.Stamp.N), .v (.int .i64 x21.Stamp.Site), .sl 3 (List.map encApi_Dep x21.Past)])))], []⟩, ⟨[(6, .one (.g (.d (.sl 6 (List.map encApi_Version r2)))))], [], [(80, .one (.g (.d (.sl 6 (List.map encApi_Version r2)))))], []⟩, ⟨[(10, .one (bI .i64 v11.2))], [], [(81, .one (bI .i64 v11.2))], []⟩, ⟨[(80, .one (.g (.d (.sl 6 (List.map encApi_Version r2))))), (81, .one (bI .i64 v11.2))], [], [(82, .one (.ep [.v (.string x22.Key), .v (.string x22.Value), .v (.bool x22.Gone), .v (.int .i64 x22.Stamp.N), .v (.int .i64 x22.Stamp.Site), .sl 3 (List.map encApi_Dep x22.Past)]))], []⟩, ⟨[(82, .one (.ep [.v (.string x22.Key), .v (.string x22.Value), .v (.bool x22.Gone), .v (.int .i64 x22.Stamp.N), .v (.int .i64 x22.Stamp.Site), .sl 3 (List.map encApi_Dep x22.Past)]))], [], [(83, .one (.g (.agg [.v (.string x22.Key), .v (.string x22.Value), .v (.bool x22.Gone), .v (.int .i64 x22.Stamp.N), .v (.int .i64 x22.Stamp.Site), .sl 3 (List.map encApi_Dep x22.Past)])))], []⟩, ⟨[(79, .one (.g (.agg [.v (.string x21.Key), .v (.string x21.Value), .v (.bool x21.Gone), .v (.int .i64 x21.Stamp.N), .v (.int .i64 x21.Stamp.Site), .sl 3 (List.map encApi_Dep x21.Past)]))), (83, .one (.g (.agg [.v (.string x22.Key), .v (.string x22.Value), .v (.bool x22.Gone), .v (.int .i64 x22.Stamp.N), .v (.int .i64 x22.Stamp.Site), .sl 3 (List.map encApi_Dep x22.Past)])))], [], [(84, .one (bB r23))], []⟩, ⟨[(84, .one (bB r23))], [], [(13, .one (bB r23))], []⟩]) (deps := [[], [], [0, 1], [0, 1, 2], [], [], [4, 5], [4, 5, 6], [0, 1, 2, 3, 4, 5, 6, 7], [0, 1, 2, 3, 4, 5, 6, 7, 8]]) (sl' := [(5, .one (bB r1)), (6, .one (.g (.d (.sl 6 (List.map encApi_Version r2))))), (7, .one (.g (.d (.sl 2 (List.map encApi_Range r3))))), (8, .one (.g (.d (.sl 6 (List.map encApi_Version r4))))), (9, .one (bI .i64 v11.1)), (10, .one (bI .i64 v11.2)), (13, .one (bB r23))]) (hp' := []) follows rfl rfl rfl ⟨⟨rfl, trivial⟩, trivial, ⟨rfl, trivial⟩, trivial, ⟨rfl, rfl, trivial⟩, trivial, ⟨rfl, trivial⟩, trivial, ⟨rfl, trivial⟩, trivial, ⟨rfl, trivial⟩, trivial, ⟨rfl, rfl, trivial⟩, trivial, ⟨rfl, trivial⟩, trivial, ⟨rfl, rfl, trivial⟩, trivial, ⟨rfl, trivial⟩, trivial, trivial⟩ ⟨OpW.plain (op_move (Ev.t 8 (.g (.d (.sl 6 (List.map encApi_Version r4))))) rfl) rfl rfl, OpW.plain (op_move (Ev.t 9 (bI .i64 v11.1)) rfl) rfl rfl, OpW.plain (op_index (cs := [.v (.string x21.Key), .v (.string x21.Value), .v (.bool x21.Gone), .v (.int .i64 x21.Stamp.N), .v (.int .i64 x21.Stamp.Site), .sl 3 (List.map encApi_Dep x21.Past)]) Try.underlying24 ti32 (idx_ok hx21).1 (idx_get hx21 encApi_Version) (Ev.t 76 (.g (.d (.sl 6 (List.map encApi_Version r4))))) (Ev.t 77 (bI .i64 v11.1)) rfl) rfl rfl, OpW.plain (op_loadAE (ds := [.v (.string x21.Key), .v (.string x21.Value), .v (.bool x21.Gone), .v (.int .i64 x21.Stamp.N), .v (.int .i64 x21.Stamp.Site), .sl 3 (List.map encApi_Dep x21.Past)]) Try.underlying32 rfl ti32 rfl (Ev.t 78 (.ep [.v (.string x21.Key), .v (.string x21.Value), .v (.bool x21.Gone), .v (.int .i64 x21.Stamp.N), .v (.int .i64 x21.Stamp.Site), .sl 3 (List.map encApi_Dep x21.Past)])) rfl) rfl rfl, OpW.plain (op_move (Ev.t 6 (.g (.d (.sl 6 (List.map encApi_Version r2))))) rfl) rfl rfl, OpW.plain (op_move (Ev.t 10 (bI .i64 v11.2)) rfl) rfl rfl, OpW.plain (op_index (cs := [.v (.string x22.Key), .v (.string x22.Value), .v (.bool x22.Gone), .v (.int .i64 x22.Stamp.N), .v (.int .i64 x22.Stamp.Site), .sl 3 (List.map encApi_Dep x22.Past)]) Try.underlying24 ti32 (idx_ok hx22).1 (idx_get hx22 encApi_Version) (Ev.t 80 (.g (.d (.sl 6 (List.map encApi_Version r2))))) (Ev.t 81 (bI .i64 v11.2)) rfl) rfl rfl, OpW.plain (op_loadAE (ds := [.v (.string x22.Key), .v (.string x22.Value), .v (.bool x22.Gone), .v (.int .i64 x22.Stamp.N), .v (.int .i64 x22.Stamp.Site), .sl 3 (List.map encApi_Dep x22.Past)]) Try.underlying32 rfl ti32 rfl (Ev.t 82 (.ep [.v (.string x22.Key), .v (.string x22.Value), .v (.bool x22.Gone), .v (.int .i64 x22.Stamp.N), .v (.int .i64 x22.Stamp.Site), .sl 3 (List.map encApi_Dep x22.Past)])) rfl) rfl rfl, OpW.plain (op_callQ (sv := .one (bB r23)) cf22 (ct_ref06_Same x21 x22 r23 hr23) rfl rfl (EvQL.cons (EvQ.g (Ev.t 79 (.g (.agg [.v (.string x21.Key), .v (.string x21.Value), .v (.bool x21.Gone), .v (.int .i64 x21.Stamp.N), .v (.int .i64 x21.Stamp.Site), .sl 3 (List.map encApi_Dep x21.Past)])))) (EvQL.cons (EvQ.g (Ev.t 83 (.g (.agg [.v (.string x22.Key), .v (.string x22.Value), .v (.bool x22.Gone), .v (.int .i64 x22.Stamp.N), .v (.int .i64 x22.Stamp.Site), .sl 3 (List.map encApi_Dep x22.Past)])))) EvQL.nil)) rfl) rfl rfl, OpW.plain (op_assign (Ev.t 84 (bB r23)) rfl) rfl rfl, trivial⟩ ⟨rfl, rfl, rfl, rfl, rfl, rfl, rfl, trivial⟩ trivial rfl ?_
          refine G.seq ?_
          refine G.seq ?_
          refine G.region ?_
          refine G.op1 (op_move (Ev.t 13 (bB r23)) rfl) rfl ⟨rfl, trivial⟩ trivial ?_
          refine G.op1 (op_not (Ev.t 85 (bB r23)) rfl) rfl ⟨rfl, trivial⟩ trivial ?_
          refine G.endOps ?_
          refine ifS hF (fun hc24 hF => ?_) (fun hc24 hF => ?_)
          · refine G.cond rfl (fun _ => ?_) (fun hx => by rw [hc24] at hx; cases hx)
            refine G.seq ?_
            refine G.region ?_
            refine G.op1 (op_assign (Ev.c _ rfl) rfl) rfl trivial trivial ?_
            refine G.endOps ?_
            cases hF
            exact G.ret1 Try.results5 (RVar.tmp 4 _) ⟨rfl, trivial⟩ trivial
          · refine G.cond rfl (fun hx => by rw [hc24] at hx; cases hx) (fun _ => ?_)
            refine G.skip ?_
            refine G.region ?_
            refine G.op1 (op_move (Ev.t 9 (bI .i64 v11.1)) rfl) rfl ⟨rfl, trivial⟩ trivial ?_
            refine G.op1 (op_add (Ev.t 87 (bI .i64 v11.1)) (Ev.c _ rfl) rfl) rfl ⟨rfl, trivial⟩ trivial ?_
            refine G.op1 (op_assign (Ev.t 88 (bI .i64 (IntKind.wrap .i64 (v11.1 + 1)))) rfl) rfl ⟨rfl, trivial⟩ trivial ?_
            refine G.endOps ?_
            refine G.endBlock ?_
            exact G.arr (J17 (IntKind.wrap .i64 (v11.1 + 1)) hF) ⟨rfl, rfl, rfl, rfl, rfl, rfl, trivial⟩ trivial rfl
    refine G.block ?_
    refine G.keep (sl' := [(5, .one (bB r1)), (6, .one (.g (.d (.sl 6 (List.map encApi_Version r2))))), (7, .one (.g (.d (.sl 2 (List.map encApi_Range r3))))), (8, .one (.g (.d (.sl 6 (List.map encApi_Version r4))))), (9, .one (bI .i64 v11.1)), (10, .one (bI .i64 v11.2)), (11, .one (bB false)), (12, .one (bI .i64 0))]) (hp' := []) ⟨rfl, rfl, rfl, rfl, rfl, rfl, rfl, rfl, trivial⟩ trivial rfl ?_
    refine G.loopF (fun (v26 : Bool × Int) => ⟨[(5, .one (bB r1)), (6, .one (.g (.d (.sl 6 (List.map encApi_Version r2))))), (7, .one (.g (.d (.sl 2 (List.map encApi_Range r3))))), (8, .one (.g (.d (.sl 6 (List.map encApi_Version r4))))), (9, .one (bI .i64 v11.1)), (10, .one (bI .i64 v11.2)), (11, .one (bB v26.1)), (12, .one (bI .i64 v26.2))], []⟩) hF rfl (fun K29 again28 v26 J27 hF => ?_)
    unfold law14_QueueDrop_l5 at hF
    refine G.seq ?_
    refine G.seq ?_
    refine G.region ?_
    refine G.op1 (op_move (Ev.t 12 (bI .i64 v26.2)) rfl) rfl ⟨rfl, trivial⟩ trivial ?_
    refine G.op1 (op_move (Ev.t 7 (.g (.d (.sl 2 (List.map encApi_Range r3))))) rfl) rfl ⟨rfl, trivial⟩ trivial ?_
    refine G.op1 (OpL.cast (op_lenD Try.underlying26 (Ev.t 30 (.g (.d (.sl 2 (List.map encApi_Range r3))))) rfl) (by rw [List.length_map])) rfl ⟨rfl, trivial⟩ trivial ?_
    refine G.op1 (op_lss (Ev.t 29 (bI .i64 v26.2)) (Ev.t 31 (bI .i64 (r3.length : Int))) rfl) rfl ⟨rfl, rfl, trivial⟩ trivial ?_
    refine G.endOps ?_
    refine ifS hF (fun hc30 hF => ?_) (fun hc30 hF => ?_)
    · refine G.cond rfl (fun _ => ?_) (fun hx => by rw [hc30] at hx; cases hx)
      refine G.skip ?_
      refine G.seq ?_
      refine G.block ?_
      refine ifS hF (fun hc31 hF => ?_) (fun hc31 hF => ?_)
      · refine G.known (t := 11) (c := true) hc31 rfl ?_
        refine G.drawn (effs := (⟨[(11, .one (bB true))], [], [(35, .one (bB true))], []⟩ :: ⟨[(35, .one (bB true))], [], [(36, .one (bB true))], []⟩ :: ⟨[(36, .one (bB true))], [], [(37, .one (.x Go.undef))], []⟩ :: ⟨[(36, .one (bB true))], [], [(38, .one (.x Go.undef))], []⟩ :: ⟨[(36, .one (bB true))], [], [(39, .one (.x Go.undef))], []⟩ :: ⟨[(36, .one (bB true))], [], [(40, .one (.x Go.undef))], []⟩ :: ⟨[(36, .one (bB true))], [], [(41, .one (.x Go.undef))], []⟩ :: ⟨[(36, .one (bB true))], [], [(42, .one (.x Go.undef))], []⟩ :: ⟨[(36, .one (bB true))], [], [(43, .one (.x Go.undef))], []⟩ :: ⟨[(36, .one (bB true))], [], [(44, .one (.x Go.undef))], []⟩ :: ⟨[(36, .one (bB true))], [], [(45, .one (.x Go.undef))], []⟩ :: ⟨[(36, .one (bB true))], [], [(46, .one (.x Go.undef))], []⟩ :: ⟨[(36, .one (bB true))], [], [(47, .one (.x Go.undef))], []⟩ :: ⟨[(36, .one (bB true))], [], [(48, .one (.x Go.undef))], []⟩ :: ⟨[(48, .one (.x Go.undef))], [], [(49, .one (.x Go.undef))], []⟩ :: ⟨[(48, .one (.x Go.undef))], [], [(50, .one (.x Go.undef))], []⟩ :: ⟨[(48, .one (.x Go.undef))], [], [(51, .one (.x Go.undef))], []⟩ :: ⟨[(48, .one (.x Go.undef))], [], [(52, .one (.x Go.undef))], []⟩ :: ⟨[(48, .one (.x Go.undef))], [], [(53, .one (.x Go.undef))], []⟩ :: ⟨[(48, .one (.x Go.undef))], [], [(54, .one (.x Go.undef))], []⟩ :: ⟨[(48, .one (.x Go.undef))], [], [(55, .one (.x Go.undef))], []⟩ :: ⟨[(55, .one (.x Go.undef))], [], [(56, .one (.x Go.undef))], []⟩ :: ⟨[(55, .one (.x Go.undef))], [], [(57, .one (.x Go.undef))], []⟩ :: ⟨[(55, .one (.x Go.undef))], [], [(58, .one (.x Go.undef))], []⟩ :: ⟨[(55, .one (.x Go.undef))], [], [(59, .one (.x Go.undef))], []⟩ :: ⟨[(55, .one (.x Go.undef))], [], [(60, .one (.x Go.undef))], []⟩ :: ⟨[(55, .one (.x Go.undef))], [], [(61, .one (.x Go.undef))], []⟩ :: ⟨[(55, .one (.x Go.undef))], [], [(62, .one (.x Go.undef))], []⟩ :: ⟨[(55, .one (.x Go.undef))], [], [(63, .one (.x Go.undef))], []⟩ :: ⟨[(55, .one (.x Go.undef))], [], [(64, .one (.x Go.undef))], []⟩ :: ⟨[(55, .one (.x Go.undef))], [], [(65, .one (.x Go.undef))], []⟩ :: ⟨[(55, .one (.x Go.undef))], [], [(66, .one (.x Go.undef))], []⟩ :: ⟨[(48, .one (.x Go.undef))], [], [(67, .one (.x Go.undef))], []⟩ :: ⟨[(36, .one (bB true))], [], [(68, .one (.x Go.undef))], []⟩ :: ⟨[(36, .one (bB true))], [], [(69, .one (bB true))], []⟩ :: ⟨[(69, .one (bB true))], [], [(11, .one (bB true))], []⟩ :: [])) (deps := ([] :: [0] :: [0, 1] :: [0, 1] :: [0, 1, 2, 3] :: [0, 1, 2, 3, 4] :: [0, 1, 2, 3, 4, 5] :: [0, 1] :: [0, 1] :: [0, 1, 7, 8] :: [0, 1, 7, 8, 9] :: [0, 1, 7, 8, 9, 10] :: [0, 1, 2, 3, 4, 5, 6, 7, 8, 9, 10, 11] :: [0, 1, 2, 3, 4, 5, 6, 7, 8, 9, 10, 11, 12] :: [0, 1, 2, 3, 4, 5, 6, 7, 8, 9, 10, 11, 12, 13] :: [0, 1, 2, 3, 4, 5, 6, 7, 8, 9, 10, 11, 12, 13] :: [0, 1, 2, 3, 4, 5, 6, 7, 8, 9, 10, 11, 12, 13, 14, 15] :: [0, 1, 2, 3, 4, 5, 6, 7, 8, 9, 10, 11, 12, 13, 14, 15, 16] :: [0, 1, 2, 3, 4, 5, 6, 7, 8, 9, 10, 11, 12, 13, 14, 15, 16, 17] :: [0, 1, 2, 3, 4, 5, 6, 7, 8, 9, 10, 11, 12, 13, 14, 15, 16, 17, 18] :: [0, 1, 2, 3, 4, 5, 6, 7, 8, 9, 10, 11, 12, 13, 14, 15, 16, 17, 18, 19] :: (0 :: 1 :: 2 :: 3 :: 4 :: 5 :: 6 :: 7 :: 8 :: 9 :: 10 :: 11 :: 12 :: 13 :: 14 :: 15 :: 16 :: 17 :: 18 :: 19 :: 20 :: []) :: (0 :: 1 :: 2 :: 3 :: 4 :: 5 :: 6 :: 7 :: 8 :: 9 :: 10 :: 11 :: 12 :: 13 :: 14 :: 15 :: 16 :: 17 :: 18 :: 19 :: 20 :: []) :: (0 :: 1 :: 2 :: 3 :: 4 :: 5 :: 6 :: 7 :: 8 :: 9 :: 10 :: 11 :: 12 :: 13 :: 14 :: 15 :: 16 :: 17 :: 18 :: 19 :: 20 :: 21 :: 22 :: []) :: (0 :: 1 :: 2 :: 3 :: 4 :: 5 :: 6 :: 7 :: 8 :: 9 :: 10 :: 11 :: 12 :: 13 :: 14 :: 15 :: 16 :: 17 :: 18 :: 19 :: 20 :: 21 :: 22 :: 23 :: []) :: (0 :: 1 :: 2 :: 3 :: 4 :: 5 :: 6 :: 7 :: 8 :: 9 :: 10 :: 11 :: 12 :: 13 :: 14 :: 15 :: 16 :: 17 :: 18 :: 19 :: 20 :: 21 :: 22 :: 23 :: 24 :: []) :: (0 :: 1 :: 2 :: 3 :: 4 :: 5 :: 6 :: 7 :: 8 :: 9 :: 10 :: 11 :: 12 :: 13 :: 14 :: 15 :: 16 :: 17 :: 18 :: 19 :: 20 :: []) :: (0 :: 1 :: 2 :: 3 :: 4 :: 5 :: 6 :: 7 :: 8 :: 9 :: 10 :: 11 :: 12 :: 13 :: 14 :: 15 :: 16 :: 17 :: 18 :: 19 :: 20 :: []) :: (0 :: 1 :: 2 :: 3 :: 4 :: 5 :: 6 :: 7 :: 8 :: 9 :: 10 :: 11 :: 12 :: 13 :: 14 :: 15 :: 16 :: 17 :: 18 :: 19 :: 20 :: 26 :: 27 :: []) :: (0 :: 1 :: 2 :: 3 :: 4 :: 5 :: 6 :: 7 :: 8 :: 9 :: 10 :: 11 :: 12 :: 13 :: 14 :: 15 :: 16 :: 17 :: 18 :: 19 :: 20 :: 26 :: 27 :: 28 :: []) :: (0 :: 1 :: 2 :: 3 :: 4 :: 5 :: 6 :: 7 :: 8 :: 9 :: 10 :: 11 :: 12 :: 13 :: 14 :: 15 :: 16 :: 17 :: 18 :: 19 :: 20 :: 26 :: 27 :: 28 :: 29 :: []) :: (0 :: 1 :: 2 :: 3 :: 4 :: 5 :: 6 :: 7 :: 8 :: 9 :: 10 :: 11 :: 12 :: 13 :: 14 :: 15 :: 16 :: 17 :: 18 :: 19 :: 20 :: 21 :: 22 :: 23 :: 24 :: 25 :: 26 :: 27 :: 28 :: 29 :: 30 :: []) :: (0 :: 1 :: 2 :: 3 :: 4 :: 5 :: 6 :: 7 :: 8 :: 9 :: 10 :: 11 :: 12 :: 13 :: 14 :: 15 :: 16 :: 17 :: 18 :: 19 :: 20 :: 21 :: 22 :: 23 :: 24 :: 25 :: 26 :: 27 :: 28 :: 29 :: 30 :: 31 :: []) :: (0 :: 1 :: 2 :: 3 :: 4 :: 5 :: 6 :: 7 :: 8 :: 9 :: 10 :: 11 :: 12 :: 13 :: 14 :: 15 :: 16 :: 17 :: 18 :: 19 :: 20 :: 21 :: 22 :: 23 :: 24 :: 25 :: 26 :: 27 :: 28 :: 29 :: 30 :: 31 :: 32 :: []) :: (0 :: 1 :: 2 :: 3 :: 4 :: 5 :: 6 :: 7 :: 8 :: 9 :: 10 :: 11 :: 12 :: 13 :: 14 :: 15 :: 16 :: 17 :: 18 :: 19 :: 20 :: 21 :: 22 :: 23 :: 24 :: 25 :: 26 :: 27 :: 28 :: 29 :: 30 :: 31 :: 32 :: 33 :: []) :: (0 :: 1 :: 2 :: 3 :: 4 :: 5 :: 6 :: 7 :: 8 :: 9 :: 10 :: 11 :: 12 :: 13 :: 14 :: 15 :: 16 :: 17 :: 18 :: 19 :: 20 :: 21 :: 22 :: 23 :: 24 :: 25 :: 26 :: 27 :: 28 :: 29 :: 30 :: 31 :: 32 :: 33 :: 34 :: []) :: [])) (sl' := [(5, .one (bB r1)), (6, .one (.g (.d (.sl 6 (List.map encApi_Version r2))))), (7, .one (.g (.d (.sl 2 (List.map encApi_Range r3))))), (8, .one (.g (.d (.sl 6 (List.map encApi_Version r4))))), (9, .one (bI .i64 v11.1)), (10, .one (bI .i64 v11.2)), (11, .one (bB true)), (12, .one (bI .i64 v26.2))]) (hp' := []) follows rfl rfl rfl ⟨⟨⟨rfl, rfl⟩, trivial⟩, trivial, ⟨rfl, trivial⟩, trivial, ⟨rfl, trivial⟩, trivial, ⟨rfl, trivial⟩, trivial, ⟨rfl, trivial⟩, trivial, ⟨rfl, trivial⟩, trivial, ⟨rfl, trivial⟩, trivial, ⟨rfl, trivial⟩, trivial, ⟨rfl, trivial⟩, trivial, ⟨rfl, trivial⟩, trivial, ⟨rfl, trivial⟩, trivial, ⟨rfl, trivial⟩, trivial, ⟨rfl, trivial⟩, trivial, ⟨rfl, trivial⟩, trivial, ⟨rfl, trivial⟩, trivial, ⟨rfl, trivial⟩, trivial, ⟨rfl, trivial⟩, trivial, ⟨rfl, trivial⟩, trivial, ⟨rfl, trivial⟩, trivial, ⟨rfl, trivial⟩, trivial, ⟨rfl, trivial⟩, trivial, ⟨rfl, trivial⟩, trivial, ⟨rfl, trivial⟩, trivial, ⟨rfl, trivial⟩, trivial, ⟨rfl, trivial⟩, trivial, ⟨rfl, trivial⟩, trivial, ⟨rfl, trivial⟩, trivial, ⟨rfl, trivial⟩, trivial, ⟨rfl, trivial⟩, trivial, ⟨rfl, trivial⟩, trivial, ⟨rfl, trivial⟩, trivial, ⟨rfl, trivial⟩, trivial, ⟨rfl, trivial⟩, trivial, ⟨rfl, trivial⟩, trivial, ⟨rfl, trivial⟩, trivial, ⟨rfl, trivial⟩, trivial, trivial⟩ ⟨OpW.plain (op_move (Ev.t 11 (bB true)) rfl) rfl rfl, OpW.plain (op_move (Ev.t 35 (bB true)) rfl) rfl rfl, OpW.no rfl rfl rfl rfl rfl, OpW.no rfl rfl rfl rfl rfl, OpW.no rfl rfl rfl rfl rfl, OpW.no rfl rfl rfl rfl rfl, OpW.no rfl rfl rfl rfl rfl, OpW.no rfl rfl rfl rfl rfl, OpW.no rfl rfl rfl rfl rfl, OpW.no rfl rfl rfl rfl rfl, OpW.no rfl rfl rfl rfl rfl, OpW.no rfl rfl rfl rfl rfl, OpW.no rfl rfl rfl rfl rfl, OpW.no rfl rfl rfl rfl rfl, OpW.un rfl rfl rfl rfl, OpW.un rfl rfl rfl rfl, OpW.un rfl rfl rfl rfl, OpW.un rfl rfl rfl rfl, OpW.un rfl rfl rfl rfl, OpW.un rfl rfl rfl rfl, OpW.un rfl rfl rfl rfl, OpW.un rfl rfl rfl rfl, OpW.un rfl rfl rfl rfl, OpW.un rfl rfl rfl rfl, OpW.un rfl rfl rfl rfl, OpW.un rfl rfl rfl rfl, OpW.un rfl rfl rfl rfl, OpW.un rfl rfl rfl rfl, OpW.un rfl rfl rfl rfl, OpW.un rfl rfl rfl rfl, OpW.un rfl rfl rfl rfl, OpW.un rfl rfl rfl rfl, OpW.un rfl rfl rfl rfl, OpW.no rfl rfl rfl rfl rfl, OpW.plain (op_pickT (Ev.t 36 (bB true)) (Ev.c _ rfl) rfl) rfl rfl, OpW.plain (op_assign (Ev.t 69 (bB true)) rfl) rfl rfl, trivial⟩ ⟨rfl, rfl, rfl, rfl, rfl, rfl, rfl, rfl, trivial⟩ trivial rfl ?_
        refine G.endBlock ?_
        refine G.region ?_
        refine G.op1 (op_move (Ev.t 12 (bI .i64 v26.2)) rfl) rfl ⟨rfl, trivial⟩ trivial ?_
        refine G.op1 (op_add (Ev.t 33 (bI .i64 v26.2)) (Ev.c _ rfl) rfl) rfl ⟨rfl, trivial⟩ trivial ?_
        refine G.op1 (op_assign (Ev.t 34 (bI .i64 (IntKind.wrap .i64 (v26.2 + 1)))) rfl) rfl ⟨rfl, trivial⟩ trivial ?_
        refine G.endOps ?_
        exact G.arr (J27 (true, IntKind.wrap .i64 (v26.2 + 1)) hF) ⟨rfl, rfl, rfl, rfl, rfl, rfl, rfl, rfl, trivial⟩ trivial rfl
      · refine G.known (t := 11) (c := false) hc31 rfl ?_
        obtain ⟨x32, hx32, hF⟩ := bindS hF
        obtain ⟨x33, hx33, hF⟩ := bindS hF
        refine ifS hF (fun hc34 hF => ?_) (fun hc34 hF => ?_)
        · obtain ⟨x35, hx35, hF⟩ := bindS hF
          refine ifS hF (fun hc36 hF => ?_) (fun hc36 hF => ?_)
          · refine G.drawn (effs := (⟨[(11, .one (bB false))], [], [(35, .one (bB false))], []⟩ :: ⟨[(35, .one (bB false))], [], [(36, .one (bB false))], []⟩ :: ⟨[(36, .one (bB false)), (6, .one (.g (.d (.sl 6 (List.map encApi_Version r2)))))], [], [(37, .one (.g (.d (.sl 6 (List.map encApi_Version r2)))))], []⟩ :: ⟨[(36, .one (bB false)), (10, .one (bI .i64 v11.2))], [], [(38, .one (bI .i64 v11.2))], []⟩ :: ⟨[(36, .one (bB false)), (37, .one (.g (.d (.sl 6 (List.map encApi_Version r2))))), (38, .one (bI .i64 v11.2))], [], [(39, .one (.ep [.v (.string x32.Key), .v (.string x32.Value), .v (.bool x32.Gone), .v (.int .i64 x32.Stamp.N), .v (.int .i64 x32.Stamp.Site), .sl 3 (List.map encApi_Dep x32.Past)]))], []⟩ :: ⟨[(36, .one (bB false)), (39, .one (.ep [.v (.string x32.Key), .v (.string x32.Value), .v (.bool x32.Gone), .v (.int .i64 x32.Stamp.N), .v (.int .i64 x32.Stamp.Site), .sl 3 (List.map encApi_Dep x32.Past)]))], [], [(40, .one (.ep [.v (.string x32.Key), .v (.string x32.Value), .v (.bool x32.Gone), .v (.int .i64 x32.Stamp.N), .v (.int .i64 x32.Stamp.Site), .sl 3 (List.map encApi_Dep x32.Past)]))], []⟩ :: ⟨[(36, .one (bB false)), (40, .one (.ep [.v (.string x32.Key), .v (.string x32.Value), .v (.bool x32.Gone), .v (.int .i64 x32.Stamp.N), .v (.int .i64 x32.Stamp.Site), .sl 3 (List.map encApi_Dep x32.Past)]))], [], [(41, .one (bS x32.Key))], []⟩ :: ⟨[(36, .one (bB false)), (7, .one (.g (.d (.sl 2 (List.map encApi_Range r3)))))], [], [(42, .one (.g (.d (.sl 2 (List.map encApi_Range r3)))))], []⟩ :: ⟨[(36, .one (bB false)), (12, .one (bI .i64 v26.2))], [], [(43, .one (bI .i64 v26.2))], []⟩ :: ⟨[(36, .one (bB false)), (42, .one (.g (.d (.sl 2 (List.map encApi_Range r3))))), (43, .one (bI .i64 v26.2))], [], [(44, .one (.ep [.v (.string x33.From), .v (.string x33.To)]))], []⟩ :: ⟨[(36, .one (bB false)), (44, .one (.ep [.v (.string x33.From), .v (.string x33.To)]))], [], [(45, .one (.ep [.v (.string x33.From), .v (.string x33.To)]))], []⟩ :: ⟨[(36, .one (bB false)), (45, .one (.ep [.v (.string x33.From), .v (.string x33.To)]))], [], [(46, .one (bS x33.From))], []⟩ :: ⟨[(36, .one (bB false)), (41, .one (bS x32.Key)), (46, .one (bS x33.From))], [], [(47, .one (bB true))], []⟩ :: ⟨[(36, .one (bB false)), (47, .one (bB true))], [], [(48, .one (bB true))], []⟩ :: ⟨[(48, .one (bB true)), (7, .one (.g (.d (.sl 2 (List.map encApi_Range r3)))))], [], [(49, .one (.g (.d (.sl 2 (List.map encApi_Range r3)))))], []⟩ :: ⟨[(48, .one (bB true)), (12, .one (bI .i64 v26.2))], [], [(50, .one (bI .i64 v26.2))], []⟩ :: ⟨[(48, .one (bB true)), (49, .one (.g (.d (.sl 2 (List.map encApi_Range r3))))), (50, .one (bI .i64 v26.2))], [], [(51, .one (.ep [.v (.string x35.From), .v (.string x35.To)]))], []⟩ :: ⟨[(48, .one (bB true)), (51, .one (.ep [.v (.string x35.From), .v (.string x35.To)]))], [], [(52, .one (.ep [.v (.string x35.To)]))], []⟩ :: ⟨[(48, .one (bB true)), (52, .one (.ep [.v (.string x35.To)]))], [], [(53, .one (bS x35.To))], []⟩ :: ⟨[(48, .one (bB true)), (53, .one (bS x35.To))], [], [(54, .one (bB true))], []⟩ :: ⟨[(48, .one (bB true)), (54, .one (bB true))], [], [(55, .one (bB true))], []⟩ :: ⟨[(55, .one (bB true))], [], [(56, .one (.x Go.undef))], []⟩ :: ⟨[(55, .one (bB true))], [], [(57, .one (.x Go.undef))], []⟩ :: ⟨[(55, .one (bB true))], [], [(58, .one (.x Go.undef))], []⟩ :: ⟨[(55, .one (bB true))], [], [(59, .one (.x Go.undef))], []⟩ :: ⟨[(55, .one (bB true))], [], [(60, .one (.x Go.undef))], []⟩ :: ⟨[(55, .one (bB true))], [], [(61, .one (.x Go.undef))], []⟩ :: ⟨[(55, .one (bB true))], [], [(62, .one (.x Go.undef))], []⟩ :: ⟨[(55, .one (bB true))], [], [(63, .one (.x Go.undef))], []⟩ :: ⟨[(55, .one (bB true))], [], [(64, .one (.x Go.undef))], []⟩ :: ⟨[(55, .one (bB true))], [], [(65, .one (.x Go.undef))], []⟩ :: ⟨[(55, .one (bB true))], [], [(66, .one (.x Go.undef))], []⟩ :: ⟨[(48, .one (bB true)), (55, .one (bB true))], [], [(67, .one (bB true))], []⟩ :: ⟨[(36, .one (bB false)), (48, .one (bB true)), (67, .one (bB true))], [], [(68, .one (bB true))], []⟩ :: ⟨[(36, .one (bB false)), (68, .one (bB true))], [], [(69, .one (bB true))], []⟩ :: ⟨[(69, .one (bB true))], [], [(11, .one (bB true))], []⟩ :: [])) (deps := ([] :: [0] :: [0, 1] :: [0, 1] :: [0, 1, 2, 3] :: [0, 1, 2, 3, 4] :: [0, 1, 2, 3, 4, 5] :: [0, 1] :: [0, 1] :: [0, 1, 7, 8] :: [0, 1, 7, 8, 9] :: [0, 1, 7, 8, 9, 10] :: [0, 1, 2, 3, 4, 5, 6, 7, 8, 9, 10, 11] :: [0, 1, 2, 3, 4, 5, 6, 7, 8, 9, 10, 11, 12] :: [0, 1, 2, 3, 4, 5, 6, 7, 8, 9, 10, 11, 12, 13] :: [0, 1, 2, 3, 4, 5, 6, 7, 8, 9, 10, 11, 12, 13] :: [0, 1, 2, 3, 4, 5, 6, 7, 8, 9, 10, 11, 12, 13, 14, 15] :: [0, 1, 2, 3, 4, 5, 6, 7, 8, 9, 10, 11, 12, 13, 14, 15, 16] :: [0, 1, 2, 3, 4, 5, 6, 7, 8, 9, 10, 11, 12, 13, 14, 15, 16, 17] :: [0, 1, 2, 3, 4, 5, 6, 7, 8, 9, 10, 11, 12, 13, 14, 15, 16, 17, 18] :: [0, 1, 2, 3, 4, 5, 6, 7, 8, 9, 10, 11, 12, 13, 14, 15, 16, 17, 18, 19] :: (0 :: 1 :: 2 :: 3 :: 4 :: 5 :: 6 :: 7 :: 8 :: 9 :: 10 :: 11 :: 12 :: 13 :: 14 :: 15 :: 16 :: 17 :: 18 :: 19 :: 20 :: []) :: (0 :: 1 :: 2 :: 3 :: 4 :: 5 :: 6 :: 7 :: 8 :: 9 :: 10 :: 11 :: 12 :: 13 :: 14 :: 15 :: 16 :: 17 :: 18 :: 19 :: 20 :: []) :: (0 :: 1 :: 2 :: 3 :: 4 :: 5 :: 6 :: 7 :: 8 :: 9 :: 10 :: 11 :: 12 :: 13 :: 14 :: 15 :: 16 :: 17 :: 18 :: 19 :: 20 :: 21 :: 22 :: []) :: (0 :: 1 :: 2 :: 3 :: 4 :: 5 :: 6 :: 7 :: 8 :: 9 :: 10 :: 11 :: 12 :: 13 :: 14 :: 15 :: 16 :: 17 :: 18 :: 19 :: 20 :: 21 :: 22 :: 23 :: []) :: (0 :: 1 :: 2 :: 3 :: 4 :: 5 :: 6 :: 7 :: 8 :: 9 :: 10 :: 11 :: 12 :: 13 :: 14 :: 15 :: 16 :: 17 :: 18 :: 19 :: 20 :: 21 :: 22 :: 23 :: 24 :: []) :: (0 :: 1 :: 2 :: 3 :: 4 :: 5 :: 6 :: 7 :: 8 :: 9 :: 10 :: 11 :: 12 :: 13 :: 14 :: 15 :: 16 :: 17 :: 18 :: 19 :: 20 :: []) :: (0 :: 1 :: 2 :: 3 :: 4 :: 5 :: 6 :: 7 :: 8 :: 9 :: 10 :: 11 :: 12 :: 13 :: 14 :: 15 :: 16 :: 17 :: 18 :: 19 :: 20 :: []) :: (0 :: 1 :: 2 :: 3 :: 4 :: 5 :: 6 :: 7 :: 8 :: 9 :: 10 :: 11 :: 12 :: 13 :: 14 :: 15 :: 16 :: 17 :: 18 :: 19 :: 20 :: 26 :: 27 :: []) :: (0 :: 1 :: 2 :: 3 :: 4 :: 5 :: 6 :: 7 :: 8 :: 9 :: 10 :: 11 :: 12 :: 13 :: 14 :: 15 :: 16 :: 17 :: 18 :: 19 :: 20 :: 26 :: 27 :: 28 :: []) :: (0 :: 1 :: 2 :: 3 :: 4 :: 5 :: 6 :: 7 :: 8 :: 9 :: 10 :: 11 :: 12 :: 13 :: 14 :: 15 :: 16 :: 17 :: 18 :: 19 :: 20 :: 26 :: 27 :: 28 :: 29 :: []) :: (0 :: 1 :: 2 :: 3 :: 4 :: 5 :: 6 :: 7 :: 8 :: 9 :: 10 :: 11 :: 12 :: 13 :: 14 :: 15 :: 16 :: 17 :: 18 :: 19 :: 20 :: 21 :: 22 :: 23 :: 24 :: 25 :: 26 :: 27 :: 28 :: 29 :: 30 :: []) :: (0 :: 1 :: 2 :: 3 :: 4 :: 5 :: 6 :: 7 :: 8 :: 9 :: 10 :: 11 :: 12 :: 13 :: 14 :: 15 :: 16 :: 17 :: 18 :: 19 :: 20 :: 21 :: 22 :: 23 :: 24 :: 25 :: 26 :: 27 :: 28 :: 29 :: 30 :: 31 :: []) :: (0 :: 1 :: 2 :: 3 :: 4 :: 5 :: 6 :: 7 :: 8 :: 9 :: 10 :: 11 :: 12 :: 13 :: 14 :: 15 :: 16 :: 17 :: 18 :: 19 :: 20 :: 21 :: 22 :: 23 :: 24 :: 25 :: 26 :: 27 :: 28 :: 29 :: 30 :: 31 :: 32 :: []) :: (0 :: 1 :: 2 :: 3 :: 4 :: 5 :: 6 :: 7 :: 8 :: 9 :: 10 :: 11 :: 12 :: 13 :: 14 :: 15 :: 16 :: 17 :: 18 :: 19 :: 20 :: 21 :: 22 :: 23 :: 24 :: 25 :: 26 :: 27 :: 28 :: 29 :: 30 :: 31 :: 32 :: 33 :: []) :: (0 :: 1 :: 2 :: 3 :: 4 :: 5 :: 6 :: 7 :: 8 :: 9 :: 10 :: 11 :: 12 :: 13 :: 14 :: 15 :: 16 :: 17 :: 18 :: 19 :: 20 :: 21 :: 22 :: 23 :: 24 :: 25 :: 26 :: 27 :: 28 :: 29 :: 30 :: 31 :: 32 :: 33 :: 34 :: []) :: [])) (sl' := [(5, .one (bB r1)), (6, .one (.g (.d (.sl 6 (List.map encApi_Version r2))))), (7, .one (.g (.d (.sl 2 (List.map encApi_Range r3))))), (8, .one (.g (.d (.sl 6 (List.map encApi_Version r4))))), (9, .one (bI .i64 v11.1)), (10, .one (bI .i64 v11.2)), (11, .one (bB true)), (12, .one (bI .i64 v26.2))]) (hp' := []) follows rfl rfl rfl ⟨⟨⟨rfl, rfl⟩, trivial⟩, trivial, ⟨rfl, trivial⟩, trivial, ⟨rfl, rfl, trivial⟩, trivial, ⟨rfl, rfl, trivial⟩, trivial, ⟨rfl, rfl, rfl, trivial⟩, trivial, ⟨rfl, rfl, trivial⟩, trivial, ⟨rfl, rfl, trivial⟩, trivial, ⟨rfl, rfl, trivial⟩, trivial, ⟨rfl, rfl, trivial⟩, trivial, ⟨rfl, rfl, rfl, trivial⟩, trivial, ⟨rfl, rfl, trivial⟩, trivial, ⟨rfl, rfl, trivial⟩, trivial, ⟨rfl, rfl, rfl, trivial⟩, trivial, ⟨rfl, rfl, trivial⟩, trivial, ⟨rfl, rfl, trivial⟩, trivial, ⟨rfl, rfl, trivial⟩, trivial, ⟨rfl, rfl, rfl, trivial⟩, trivial, ⟨rfl, rfl, trivial⟩, trivial, ⟨rfl, rfl, trivial⟩, trivial, ⟨rfl, rfl, trivial⟩, trivial, ⟨rfl, rfl, trivial⟩, trivial, ⟨rfl, trivial⟩, trivial, ⟨rfl, trivial⟩, trivial, ⟨rfl, trivial⟩, trivial, ⟨rfl, trivial⟩, trivial, ⟨rfl, trivial⟩, trivial, ⟨rfl, trivial⟩, trivial, ⟨rfl, trivial⟩, trivial, ⟨rfl, trivial⟩, trivial, ⟨rfl, trivial⟩, trivial, ⟨rfl, trivial⟩, trivial, ⟨rfl, trivial⟩, trivial, ⟨rfl, rfl, trivial⟩, trivial, ⟨rfl, rfl, rfl, trivial⟩, trivial, ⟨rfl, rfl, trivial⟩, trivial, ⟨rfl, trivial⟩, trivial, trivial⟩ ⟨OpW.plain (op_move (Ev.t 11 (bB false)) rfl) rfl rfl, OpW.plain (op_move (Ev.t 35 (bB false)) rfl) rfl rfl, OpW.yes (op_move (Ev.t 6 (.g (.d (.sl 6 (List.map encApi_Version r2))))) rfl) rfl rfl rfl, OpW.yes (op_move (Ev.t 10 (bI .i64 v11.2)) rfl) rfl rfl rfl, OpW.yes (op_index (cs := [.v (.string x32.Key), .v (.string x32.Value), .v (.bool x32.Gone), .v (.int .i64 x32.Stamp.N), .v (.int .i64 x32.Stamp.Site), .sl 3 (List.map encApi_Dep x32.Past)]) Try.underlying24 ti32 (idx_ok hx32).1 (idx_get hx32 encApi_Version) (Ev.t 37 (.g (.d (.sl 6 (List.map encApi_Version r2))))) (Ev.t 38 (bI .i64 v11.2)) rfl) rfl rfl rfl, OpW.yes (op_fieldE (cs' := [.v (.string x32.Key), .v (.string x32.Value), .v (.bool x32.Gone), .v (.int .i64 x32.Stamp.N), .v (.int .i64 x32.Stamp.Site), .sl 3 (List.map encApi_Dep x32.Past)]) Try.underlying32 rfl ti9 (by decide) rfl (Ev.t 39 (.ep [.v (.string x32.Key), .v (.string x32.Value), .v (.bool x32.Gone), .v (.int .i64 x32.Stamp.N), .v (.int .i64 x32.Stamp.Site), .sl 3 (List.map encApi_Dep x32.Past)])) rfl) rfl rfl rfl, OpW.yes (op_load1E (c := .v (.string x32.Key)) Try.underlying9 rfl rfl (Ev.t 40 (.ep [.v (.string x32.Key), .v (.string x32.Value), .v (.bool x32.Gone), .v (.int .i64 x32.Stamp.N), .v (.int .i64 x32.Stamp.Site), .sl 3 (List.map encApi_Dep x32.Past)])) rfl) rfl rfl rfl, OpW.yes (op_move (Ev.t 7 (.g (.d (.sl 2 (List.map encApi_Range r3))))) rfl) rfl rfl rfl, OpW.yes (op_move (Ev.t 12 (bI .i64 v26.2)) rfl) rfl rfl rfl, OpW.yes (op_index (cs := [.v (.string x33.From), .v (.string x33.To)]) Try.underlying26 ti51 (idx_ok hx33).1 (idx_get hx33 encApi_Range) (Ev.t 42 (.g (.d (.sl 2 (List.map encApi_Range r3))))) (Ev.t 43 (bI .i64 v26.2)) rfl) rfl rfl rfl, OpW.yes (op_fieldE (cs' := [.v (.string x33.From), .v (.string x33.To)]) Try.underlying51 rfl ti9 (by decide) rfl (Ev.t 44 (.ep [.v (.string x33.From), .v (.string x33.To)])) rfl) rfl rfl rfl, OpW.yes (op_load1E (c := .v (.string x33.From)) Try.underlying9 rfl rfl (Ev.t 45 (.ep [.v (.string x33.From), .v (.string x33.To)])) rfl) rfl rfl rfl, OpW.yes (OpL.cast (op_geS (Ev.t 41 (bS x32.Key)) (Ev.t 46 (bS x33.From)) rfl) (congrArg (fun b => bB b) hc34)) rfl rfl rfl, OpW.yes (op_move (Ev.t 47 (bB true)) rfl) rfl rfl rfl, OpW.yes (op_move (Ev.t 7 (.g (.d (.sl 2 (List.map encApi_Range r3))))) rfl) rfl rfl rfl, OpW.yes (op_move (Ev.t 12 (bI .i64 v26.2)) rfl) rfl rfl rfl, OpW.yes (op_index (cs := [.v (.string x35.From), .v (.string x35.To)]) Try.underlying26 ti51 (idx_ok hx35).1 (idx_get hx35 encApi_Range) (Ev.t 49 (.g (.d (.sl 2 (List.map encApi_Range r3))))) (Ev.t 50 (bI .i64 v26.2)) rfl) rfl rfl rfl, OpW.yes (op_fieldE (cs' := [.v (.string x35.To)]) Try.underlying51 rfl ti9 (by decide) rfl (Ev.t 51 (.ep [.v (.string x35.From), .v (.string x35.To)])) rfl) rfl rfl rfl, OpW.yes (op_load1E (c := .v (.string x35.To)) Try.underlying9 rfl rfl (Ev.t 52 (.ep [.v (.string x35.To)])) rfl) rfl rfl rfl, OpW.yes (OpL.cast (op_eqS (Ev.t 53 (bS x35.To)) (Ev.c _ rfl) rfl) (congrArg (fun b => bB b) hc36)) rfl rfl rfl, OpW.yes (op_move (Ev.t 54 (bB true)) rfl) rfl rfl rfl, OpW.no rfl rfl rfl rfl rfl, OpW.no rfl rfl rfl rfl rfl, OpW.no rfl rfl rfl rfl rfl, OpW.no rfl rfl rfl rfl rfl, OpW.no rfl rfl rfl rfl rfl, OpW.no rfl rfl rfl rfl rfl, OpW.no rfl rfl rfl rfl rfl, OpW.no rfl rfl rfl rfl rfl, OpW.no rfl rfl rfl rfl rfl, OpW.no rfl rfl rfl rfl rfl, OpW.no rfl rfl rfl rfl rfl, OpW.yes (op_pickT (Ev.t 55 (bB true)) (Ev.c _ rfl) rfl) rfl rfl rfl, OpW.yes (op_pickT (Ev.t 48 (bB true)) (Ev.t 67 (bB true)) rfl) rfl rfl rfl, OpW.plain (op_pickF (Ev.t 36 (bB false)) (Ev.t 68 (bB true)) rfl) rfl rfl, OpW.plain (op_assign (Ev.t 69 (bB true)) rfl) rfl rfl, trivial⟩ ⟨rfl, rfl, rfl, rfl, rfl, rfl, rfl, rfl, trivial⟩ trivial rfl ?_
            refine G.endBlock ?_
            refine G.region ?_
            refine G.op1 (op_move (Ev.t 12 (bI .i64 v26.2)) rfl) rfl ⟨rfl, trivial⟩ trivial ?_
            refine G.op1 (op_add (Ev.t 33 (bI .i64 v26.2)) (Ev.c _ rfl) rfl) rfl ⟨rfl, trivial⟩ trivial ?_
            refine G.op1 (op_assign (Ev.t 34 (bI .i64 (IntKind.wrap .i64 (v26.2 + 1)))) rfl) rfl ⟨rfl, trivial⟩ trivial ?_
            refine G.endOps ?_
            exact G.arr (J27 (true, IntKind.wrap .i64 (v26.2 + 1)) hF) ⟨rfl, rfl, rfl, rfl, rfl, rfl, rfl, rfl, trivial⟩ trivial rfl
          · obtain ⟨x37, hx37, hF⟩ := bindS hF
            obtain ⟨x38, hx38, hF⟩ := bindS hF
            refine G.drawn (effs := (⟨[(11, .one (bB false))], [], [(35, .one (bB false))], []⟩ :: ⟨[(35, .one (bB false))], [], [(36, .one (bB false))], []⟩ :: ⟨[(36, .one (bB false)), (6, .one (.g (.d (.sl 6 (List.map encApi_Version r2)))))], [], [(37, .one (.g (.d (.sl 6 (List.map encApi_Version r2)))))], []⟩ :: ⟨[(36, .one (bB false)), (10, .one (bI .i64 v11.2))], [], [(38, .one (bI .i64 v11.2))], []⟩ :: ⟨[(36, .one (bB false)), (37, .one (.g (.d (.sl 6 (List.map encApi_Version r2))))), (38, .one (bI .i64 v11.2))], [], [(39, .one (.ep [.v (.string x32.Key), .v (.string x32.Value), .v (.bool x32.Gone), .v (.int .i64 x32.Stamp.N), .v (.int .i64 x32.Stamp.Site), .sl 3 (List.map encApi_Dep x32.Past)]))], []⟩ :: ⟨[(36, .one (bB false)), (39, .one (.ep [.v (.string x32.Key), .v (.string x32.Value), .v (.bool x32.Gone), .v (.int .i64 x32.Stamp.N), .v (.int .i64 x32.Stamp.Site), .sl 3 (List.map encApi_Dep x32.Past)]))], [], [(40, .one (.ep [.v (.string x32.Key), .v (.string x32.Value), .v (.bool x32.Gone), .v (.int .i64 x32.Stamp.N), .v (.int .i64 x32.Stamp.Site), .sl 3 (List.map encApi_Dep x32.Past)]))], []⟩ :: ⟨[(36, .one (bB false)), (40, .one (.ep [.v (.string x32.Key), .v (.string x32.Value), .v (.bool x32.Gone), .v (.int .i64 x32.Stamp.N), .v (.int .i64 x32.Stamp.Site), .sl 3 (List.map encApi_Dep x32.Past)]))], [], [(41, .one (bS x32.Key))], []⟩ :: ⟨[(36, .one (bB false)), (7, .one (.g (.d (.sl 2 (List.map encApi_Range r3)))))], [], [(42, .one (.g (.d (.sl 2 (List.map encApi_Range r3)))))], []⟩ :: ⟨[(36, .one (bB false)), (12, .one (bI .i64 v26.2))], [], [(43, .one (bI .i64 v26.2))], []⟩ :: ⟨[(36, .one (bB false)), (42, .one (.g (.d (.sl 2 (List.map encApi_Range r3))))), (43, .one (bI .i64 v26.2))], [], [(44, .one (.ep [.v (.string x33.From), .v (.string x33.To)]))], []⟩ :: ⟨[(36, .one (bB false)), (44, .one (.ep [.v (.string x33.From), .v (.string x33.To)]))], [], [(45, .one (.ep [.v (.string x33.From), .v (.string x33.To)]))], []⟩ :: ⟨[(36, .one (bB false)), (45, .one (.ep [.v (.string x33.From), .v (.string x33.To)]))], [], [(46, .one (bS x33.From))], []⟩ :: ⟨[(36, .one (bB false)), (41, .one (bS x32.Key)), (46, .one (bS x33.From))], [], [(47, .one (bB true))], []⟩ :: ⟨[(36, .one (bB false)), (47, .one (bB true))], [], [(48, .one (bB true))], []⟩ :: ⟨[(48, .one (bB true)), (7, .one (.g (.d (.sl 2 (List.map encApi_Range r3)))))], [], [(49, .one (.g (.d (.sl 2 (List.map encApi_Range r3)))))], []⟩ :: ⟨[(48, .one (bB true)), (12, .one (bI .i64 v26.2))], [], [(50, .one (bI .i64 v26.2))], []⟩ :: ⟨[(48, .one (bB true)), (49, .one (.g (.d (.sl 2 (List.map encApi_Range r3))))), (50, .one (bI .i64 v26.2))], [], [(51, .one (.ep [.v (.string x35.From), .v (.string x35.To)]))], []⟩ :: ⟨[(48, .one (bB true)), (51, .one (.ep [.v (.string x35.From), .v (.string x35.To)]))], [], [(52, .one (.ep [.v (.string x35.To)]))], []⟩ :: ⟨[(48, .one (bB true)), (52, .one (.ep [.v (.string x35.To)]))], [], [(53, .one (bS x35.To))], []⟩ :: ⟨[(48, .one (bB true)), (53, .one (bS x35.To))], [], [(54, .one (bB false))], []⟩ :: ⟨[(48, .one (bB true)), (54, .one (bB false))], [], [(55, .one (bB false))], []⟩ :: ⟨[(55, .one (bB false)), (6, .one (.g (.d (.sl 6 (List.map encApi_Version r2)))))], [], [(56, .one (.g (.d (.sl 6 (List.map encApi_Version r2)))))], []⟩ :: ⟨[(55, .one (bB false)), (10, .one (bI .i64 v11.2))], [], [(57, .one (bI .i64 v11.2))], []⟩ :: ⟨[(55, .one (bB false)), (56, .one (.g (.d (.sl 6 (List.map encApi_Version r2))))), (57, .one (bI .i64 v11.2))], [], [(58, .one (.ep [.v (.string x37.Key), .v (.string x37.Value), .v (.bool x37.Gone), .v (.int .i64 x37.Stamp.N), .v (.int .i64 x37.Stamp.Site), .sl 3 (List.map encApi_Dep x37.Past)]))], []⟩ :: ⟨[(55, .one (bB false)), (58, .one (.ep [.v (.string x37.Key), .v (.string x37.Value), .v (.bool x37.Gone), .v (.int .i64 x37.Stamp.N), .v (.int .i64 x37.Stamp.Site), .sl 3 (List.map encApi_Dep x37.Past)]))], [], [(59, .one (.ep [.v (.string x37.Key), .v (.string x37.Value), .v (.bool x37.Gone), .v (.int .i64 x37.Stamp.N), .v (.int .i64 x37.Stamp.Site), .sl 3 (List.map encApi_Dep x37.Past)]))], []⟩ :: ⟨[(55, .one (bB false)), (59, .one (.ep [.v (.string x37.Key), .v (.string x37.Value), .v (.bool x37.Gone), .v (.int .i64 x37.Stamp.N), .v (.int .i64 x37.Stamp.Site), .sl 3 (List.map encApi_Dep x37.Past)]))], [], [(60, .one (bS x37.Key))], []⟩ :: ⟨[(55, .one (bB false)), (7, .one (.g (.d (.sl 2 (List.map encApi_Range r3)))))], [], [(61, .one (.g (.d (.sl 2 (List.map encApi_Range r3)))))], []⟩ :: ⟨[(55, .one (bB false)), (12, .one (bI .i64 v26.2))], [], [(62, .one (bI .i64 v26.2))], []⟩ :: ⟨[(55, .one (bB false)), (61, .one (.g (.d (.sl 2 (List.map encApi_Range r3))))), (62, .one (bI .i64 v26.2))], [], [(63, .one (.ep [.v (.string x38.From), .v (.string x38.To)]))], []⟩ :: ⟨[(55, .one (bB false)), (63, .one (.ep [.v (.string x38.From), .v (.string x38.To)]))], [], [(64, .one (.ep [.v (.string x38.To)]))], []⟩ :: ⟨[(55, .one (bB false)), (64, .one (.ep [.v (.string x38.To)]))], [], [(65, .one (bS x38.To))], []⟩ :: ⟨[(55, .one (bB false)), (60, .one (bS x37.Key)), (65, .one (bS x38.To))], [], [(66, .one (bB (slt x37.Key x38.To)))], []⟩ :: ⟨[(48, .one (bB true)), (55, .one (bB false)), (66, .one (bB (slt x37.Key x38.To)))], [], [(67, .one (bB (slt x37.Key x38.To)))], []⟩ :: ⟨[(36, .one (bB false)), (48, .one (bB true)), (67, .one (bB (slt x37.Key x38.To)))], [], [(68, .one (bB (slt x37.Key x38.To)))], []⟩ :: ⟨[(36, .one (bB false)), (68, .one (bB (slt x37.Key x38.To)))], [], [(69, .one (bB (slt x37.Key x38.To)))], []⟩ :: ⟨[(69, .one (bB (slt x37.Key x38.To)))], [], [(11, .one (bB (slt x37.Key x38.To)))], []⟩ :: [])) (deps := ([] :: [0] :: [0, 1] :: [0, 1] :: [0, 1, 2, 3] :: [0, 1, 2, 3, 4] :: [0, 1, 2, 3, 4, 5] :: [0, 1] :: [0, 1] :: [0, 1, 7, 8] :: [0, 1, 7, 8, 9] :: [0, 1, 7, 8, 9, 10] :: [0, 1, 2, 3, 4, 5, 6, 7, 8, 9, 10, 11] :: [0, 1, 2, 3, 4, 5, 6, 7, 8, 9, 10, 11, 12] :: [0, 1, 2, 3, 4, 5, 6, 7, 8, 9, 10, 11, 12, 13] :: [0, 1, 2, 3, 4, 5, 6, 7, 8, 9, 10, 11, 12, 13] :: [0, 1, 2, 3, 4, 5, 6, 7, 8, 9, 10, 11, 12, 13, 14, 15] :: [0, 1, 2, 3, 4, 5, 6, 7, 8, 9, 10, 11, 12, 13, 14, 15, 16] :: [0, 1, 2, 3, 4, 5, 6, 7, 8, 9, 10, 11, 12, 13, 14, 15, 16, 17] :: [0, 1, 2, 3, 4, 5, 6, 7, 8, 9, 10, 11, 12, 13, 14, 15, 16, 17, 18] :: [0, 1, 2, 3, 4, 5, 6, 7, 8, 9, 10, 11, 12, 13, 14, 15, 16, 17, 18, 19] :: (0 :: 1 :: 2 :: 3 :: 4 :: 5 :: 6 :: 7 :: 8 :: 9 :: 10 :: 11 :: 12 :: 13 :: 14 :: 15 :: 16 :: 17 :: 18 :: 19 :: 20 :: []) :: (0 :: 1 :: 2 :: 3 :: 4 :: 5 :: 6 :: 7 :: 8 :: 9 :: 10 :: 11 :: 12 :: 13 :: 14 :: 15 :: 16 :: 17 :: 18 :: 19 :: 20 :: []) :: (0 :: 1 :: 2 :: 3 :: 4 :: 5 :: 6 :: 7 :: 8 :: 9 :: 10 :: 11 :: 12 :: 13 :: 14 :: 15 :: 16 :: 17 :: 18 :: 19 :: 20 :: 21 :: 22 :: []) :: (0 :: 1 :: 2 :: 3 :: 4 :: 5 :: 6 :: 7 :: 8 :: 9 :: 10 :: 11 :: 12 :: 13 :: 14 :: 15 :: 16 :: 17 :: 18 :: 19 :: 20 :: 21 :: 22 :: 23 :: []) :: (0 :: 1 :: 2 :: 3 :: 4 :: 5 :: 6 :: 7 :: 8 :: 9 :: 10 :: 11 :: 12 :: 13 :: 14 :: 15 :: 16 :: 17 :: 18 :: 19 :: 20 :: 21 :: 22 :: 23 :: 24 :: []) :: (0 :: 1 :: 2 :: 3 :: 4 :: 5 :: 6 :: 7 :: 8 :: 9 :: 10 :: 11 :: 12 :: 13 :: 14 :: 15 :: 16 :: 17 :: 18 :: 19 :: 20 :: []) :: (0 :: 1 :: 2 :: 3 :: 4 :: 5 :: 6 :: 7 :: 8 :: 9 :: 10 :: 11 :: 12 :: 13 :: 14 :: 15 :: 16 :: 17 :: 18 :: 19 :: 20 :: []) :: (0 :: 1 :: 2 :: 3 :: 4 :: 5 :: 6 :: 7 :: 8 :: 9 :: 10 :: 11 :: 12 :: 13 :: 14 :: 15 :: 16 :: 17 :: 18 :: 19 :: 20 :: 26 :: 27 :: []) :: (0 :: 1 :: 2 :: 3 :: 4 :: 5 :: 6 :: 7 :: 8 :: 9 :: 10 :: 11 :: 12 :: 13 :: 14 :: 15 :: 16 :: 17 :: 18 :: 19 :: 20 :: 26 :: 27 :: 28 :: []) :: (0 :: 1 :: 2 :: 3 :: 4 :: 5 :: 6 :: 7 :: 8 :: 9 :: 10 :: 11 :: 12 :: 13 :: 14 :: 15 :: 16 :: 17 :: 18 :: 19 :: 20 :: 26 :: 27 :: 28 :: 29 :: []) :: (0 :: 1 :: 2 :: 3 :: 4 :: 5 :: 6 :: 7 :: 8 :: 9 :: 10 :: 11 :: 12 :: 13 :: 14 :: 15 :: 16 :: 17 :: 18 :: 19 :: 20 :: 21 :: 22 :: 23 :: 24 :: 25 :: 26 :: 27 :: 28 :: 29 :: 30 :: []) :: (0 :: 1 :: 2 :: 3 :: 4 :: 5 :: 6 :: 7 :: 8 :: 9 :: 10 :: 11 :: 12 :: 13 :: 14 :: 15 :: 16 :: 17 :: 18 :: 19 :: 20 :: 21 :: 22 :: 23 :: 24 :: 25 :: 26 :: 27 :: 28 :: 29 :: 30 :: 31 :: []) :: (0 :: 1 :: 2 :: 3 :: 4 :: 5 :: 6 :: 7 :: 8 :: 9 :: 10 :: 11 :: 12 :: 13 :: 14 :: 15 :: 16 :: 17 :: 18 :: 19 :: 20 :: 21 :: 22 :: 23 :: 24 :: 25 :: 26 :: 27 :: 28 :: 29 :: 30 :: 31 :: 32 :: []) :: (0 :: 1 :: 2 :: 3 :: 4 :: 5 :: 6 :: 7 :: 8 :: 9 :: 10 :: 11 :: 12 :: 13 :: 14 :: 15 :: 16 :: 17 :: 18 :: 19 :: 20 :: 21 :: 22 :: 23 :: 24 :: 25 :: 26 :: 27 :: 28 :: 29 :: 30 :: 31 :: 32 :: 33 :: []) :: (0 :: 1 :: 2 :: 3 :: 4 :: 5 :: 6 :: 7 :: 8 :: 9 :: 10 :: 11 :: 12 :: 13 :: 14 :: 15 :: 16 :: 17 :: 18 :: 19 :: 20 :: 21 :: 22 :: 23 :: 24 :: 25 :: 26 :: 27 :: 28 :: 29 :: 30 :: 31 :: 32 :: 33 :: 34 :: []) :: [])) (sl' := [(5, .one (bB r1)), (6, .one (.g (.d (.sl 6 (List.map encApi_Version r2))))), (7, .one (.g (.d (.sl 2 (List.map encApi_Range r3))))), (8, .one (.g (.d (.sl 6 (List.map encApi_Version r4))))), (9, .one (bI .i64 v11.1)), (10, .one (bI .i64 v11.2)), (11, .one (bB (slt x37.Key x38.To))), (12, .one (bI .i64 v26.2))]) (hp' := []) follows rfl rfl rfl ⟨⟨⟨rfl, rfl⟩, trivial⟩, trivial, ⟨rfl, trivial⟩, trivial, ⟨rfl, rfl, trivial⟩, trivial, ⟨rfl, rfl, trivial⟩, trivial, ⟨rfl, rfl, rfl, trivial⟩, trivial, ⟨rfl, rfl, trivial⟩, trivial, ⟨rfl, rfl, trivial⟩, trivial, ⟨rfl, rfl, trivial⟩, trivial, ⟨rfl, rfl, trivial⟩, trivial, ⟨rfl, rfl, rfl, trivial⟩, trivial, ⟨rfl, rfl, trivial⟩, trivial, ⟨rfl, rfl, trivial⟩, trivial, ⟨rfl, rfl, rfl, trivial⟩, trivial, ⟨rfl, rfl, trivial⟩, trivial, ⟨rfl, rfl, trivial⟩, trivial, ⟨rfl, rfl, trivial⟩, trivial, ⟨rfl, rfl, rfl, trivial⟩, trivial, ⟨rfl, rfl, trivial⟩, trivial, ⟨rfl, rfl, trivial⟩, trivial, ⟨rfl, rfl, trivial⟩, trivial, ⟨rfl, rfl, trivial⟩, trivial, ⟨rfl, rfl, trivial⟩, trivial, ⟨rfl, rfl, trivial⟩, trivial, ⟨rfl, rfl, rfl, trivial⟩, trivial, ⟨rfl, rfl, trivial⟩, trivial, ⟨rfl, rfl, trivial⟩, trivial, ⟨rfl, rfl, trivial⟩, trivial, ⟨rfl, rfl, trivial⟩, trivial, ⟨rfl, rfl, rfl, trivial⟩, trivial, ⟨rfl, rfl, trivial⟩, trivial, ⟨rfl, rfl, trivial⟩, trivial, ⟨rfl, rfl, rfl, trivial⟩, trivial, ⟨rfl, rfl, rfl, trivial⟩, trivial, ⟨rfl, rfl, rfl, trivial⟩, trivial, ⟨rfl, rfl, trivial⟩, trivial, ⟨rfl, trivial⟩, trivial, trivial⟩ ⟨OpW.plain (op_move (Ev.t 11 (bB false)) rfl) rfl rfl, OpW.plain (op_move (Ev.t 35 (bB false)) rfl) rfl rfl, OpW.yes (op_move (Ev.t 6 (.g (.d (.sl 6 (List.map encApi_Version r2))))) rfl) rfl rfl rfl, OpW.yes (op_move (Ev.t 10 (bI .i64 v11.2)) rfl) rfl rfl rfl, OpW.yes (op_index (cs := [.v (.string x32.Key), .v (.string x32.Value), .v (.bool x32.Gone), .v (.int .i64 x32.Stamp.N), .v (.int .i64 x32.Stamp.Site), .sl 3 (List.map encApi_Dep x32.Past)]) Try.underlying24 ti32 (idx_ok hx32).1 (idx_get hx32 encApi_Version) (Ev.t 37 (.g (.d (.sl 6 (List.map encApi_Version r2))))) (Ev.t 38 (bI .i64 v11.2)) rfl) rfl rfl rfl, OpW.yes (op_fieldE (cs' := [.v (.string x32.Key), .v (.string x32.Value), .v (.bool x32.Gone), .v (.int .i64 x32.Stamp.N), .v (.int .i64 x32.Stamp.Site), .sl 3 (List.map encApi_Dep x32.Past)]) Try.underlying32 rfl ti9 (by decide) rfl (Ev.t 39 (.ep [.v (.string x32.Key), .v (.string x32.Value), .v (.bool x32.Gone), .v (.int .i64 x32.Stamp.N), .v (.int .i64 x32.Stamp.Site), .sl 3 (List.map encApi_Dep x32.Past)])) rfl) rfl rfl rfl, OpW.yes (op_load1E (c := .v (.string x32.Key)) Try.underlying9 rfl rfl (Ev.t 40 (.ep [.v (.string x32.Key), .v (.string x32.Value), .v (.bool x32.Gone), .v (.int .i64 x32.Stamp.N), .v (.int .i64 x32.Stamp.Site), .sl 3 (List.map encApi_Dep x32.Past)])) rfl) rfl rfl rfl, OpW.yes (op_move (Ev.t 7 (.g (.d (.sl 2 (List.map encApi_Range r3))))) rfl) rfl rfl rfl, OpW.yes (op_move (Ev.t 12 (bI .i64 v26.2)) rfl) rfl rfl rfl, OpW.yes (op_index (cs := [.v (.string x33.From), .v (.string x33.To)]) Try.underlying26 ti51 (idx_ok hx33).1 (idx_get hx33 encApi_Range) (Ev.t 42 (.g (.d (.sl 2 (List.map encApi_Range r3))))) (Ev.t 43 (bI .i64 v26.2)) rfl) rfl rfl rfl, OpW.yes (op_fieldE (cs' := [.v (.string x33.From), .v (.string x33.To)]) Try.underlying51 rfl ti9 (by decide) rfl (Ev.t 44 (.ep [.v (.string x33.From), .v (.string x33.To)])) rfl) rfl rfl rfl, OpW.yes (op_load1E (c := .v (.string x33.From)) Try.underlying9 rfl rfl (Ev.t 45 (.ep [.v (.string x33.From), .v (.string x33.To)])) rfl) rfl rfl rfl, OpW.yes (OpL.cast (op_geS (Ev.t 41 (bS x32.Key)) (Ev.t 46 (bS x33.From)) rfl) (congrArg (fun b => bB b) hc34)) rfl rfl rfl, OpW.yes (op_move (Ev.t 47 (bB true)) rfl) rfl rfl rfl, OpW.yes (op_move (Ev.t 7 (.g (.d (.sl 2 (List.map encApi_Range r3))))) rfl) rfl rfl rfl, OpW.yes (op_move (Ev.t 12 (bI .i64 v26.2)) rfl) rfl rfl rfl, OpW.yes (op_index (cs := [.v (.string x35.From), .v (.string x35.To)]) Try.underlying26 ti51 (idx_ok hx35).1 (idx_get hx35 encApi_Range) (Ev.t 49 (.g (.d (.sl 2 (List.map encApi_Range r3))))) (Ev.t 50 (bI .i64 v26.2)) rfl) rfl rfl rfl, OpW.yes (op_fieldE (cs' := [.v (.string x35.To)]) Try.underlying51 rfl ti9 (by decide) rfl (Ev.t 51 (.ep [.v (.string x35.From), .v (.string x35.To)])) rfl) rfl rfl rfl, OpW.yes (op_load1E (c := .v (.string x35.To)) Try.underlying9 rfl rfl (Ev.t 52 (.ep [.v (.string x35.To)])) rfl) rfl rfl rfl, OpW.yes (OpL.cast (op_eqS (Ev.t 53 (bS x35.To)) (Ev.c _ rfl) rfl) (congrArg (fun b => bB b) hc36)) rfl rfl rfl, OpW.yes (op_move (Ev.t 54 (bB false)) rfl) rfl rfl rfl, OpW.yes (op_move (Ev.t 6 (.g (.d (.sl 6 (List.map encApi_Version r2))))) rfl) rfl rfl rfl, OpW.yes (op_move (Ev.t 10 (bI .i64 v11.2)) rfl) rfl rfl rfl, OpW.yes (op_index (cs := [.v (.string x37.Key), .v (.string x37.Value), .v (.bool x37.Gone), .v (.int .i64 x37.Stamp.N), .v (.int .i64 x37.Stamp.Site), .sl 3 (List.map encApi_Dep x37.Past)]) Try.underlying24 ti32 (idx_ok hx37).1 (idx_get hx37 encApi_Version) (Ev.t 56 (.g (.d (.sl 6 (List.map encApi_Version r2))))) (Ev.t 57 (bI .i64 v11.2)) rfl) rfl rfl rfl, OpW.yes (op_fieldE (cs' := [.v (.string x37.Key), .v (.string x37.Value), .v (.bool x37.Gone), .v (.int .i64 x37.Stamp.N), .v (.int .i64 x37.Stamp.Site), .sl 3 (List.map encApi_Dep x37.Past)]) Try.underlying32 rfl ti9 (by decide) rfl (Ev.t 58 (.ep [.v (.string x37.Key), .v (.string x37.Value), .v (.bool x37.Gone), .v (.int .i64 x37.Stamp.N), .v (.int .i64 x37.Stamp.Site), .sl 3 (List.map encApi_Dep x37.Past)])) rfl) rfl rfl rfl, OpW.yes (op_load1E (c := .v (.string x37.Key)) Try.underlying9 rfl rfl (Ev.t 59 (.ep [.v (.string x37.Key), .v (.string x37.Value), .v (.bool x37.Gone), .v (.int .i64 x37.Stamp.N), .v (.int .i64 x37.Stamp.Site), .sl 3 (List.map encApi_Dep x37.Past)])) rfl) rfl rfl rfl, OpW.yes (op_move (Ev.t 7 (.g (.d (.sl 2 (List.map encApi_Range r3))))) rfl) rfl rfl rfl, OpW.yes (op_move (Ev.t 12 (bI .i64 v26.2)) rfl) rfl rfl rfl, OpW.yes (op_index (cs := [.v (.string x38.From), .v (.string x38.To)]) Try.underlying26 ti51 (idx_ok hx38).1 (idx_get hx38 encApi_Range) (Ev.t 61 (.g (.d (.sl 2 (List.map encApi_Range r3))))) (Ev.t 62 (bI .i64 v26.2)) rfl) rfl rfl rfl, OpW.yes (op_fieldE (cs' := [.v (.string x38.To)]) Try.underlying51 rfl ti9 (by decide) rfl (Ev.t 63 (.ep [.v (.string x38.From), .v (.string x38.To)])) rfl) rfl rfl rfl, OpW.yes (op_load1E (c := .v (.string x38.To)) Try.underlying9 rfl rfl (Ev.t 64 (.ep [.v (.string x38.To)])) rfl) rfl rfl rfl, OpW.yes (op_ltS (Ev.t 60 (bS x37.Key)) (Ev.t 65 (bS x38.To)) rfl) rfl rfl rfl, OpW.yes (op_pickF (Ev.t 55 (bB false)) (Ev.t 66 (bB (slt x37.Key x38.To))) rfl) rfl rfl rfl, OpW.yes (op_pickT (Ev.t 48 (bB true)) (Ev.t 67 (bB (slt x37.Key x38.To))) rfl) rfl rfl rfl, OpW.plain (op_pickF (Ev.t 36 (bB false)) (Ev.t 68 (bB (slt x37.Key x38.To))) rfl) rfl rfl, OpW.plain (op_assign (Ev.t 69 (bB (slt x37.Key x38.To))) rfl) rfl rfl, trivial⟩ ⟨rfl, rfl, rfl, rfl, rfl, rfl, rfl, rfl, trivial⟩ trivial rfl ?_
            refine G.endBlock ?_
            refine G.region ?_
            refine G.op1 (op_move (Ev.t 12 (bI .i64 v26.2)) rfl) rfl ⟨rfl, trivial⟩ trivial ?_
            refine G.op1 (op_add (Ev.t 33 (bI .i64 v26.2)) (Ev.c _ rfl) rfl) rfl ⟨rfl, trivial⟩ trivial ?_
            refine G.op1 (op_assign (Ev.t 34 (bI .i64 (IntKind.wrap .i64 (v26.2 + 1)))) rfl) rfl ⟨rfl, trivial⟩ trivial ?_
            refine G.endOps ?_
            exact G.arr (J27 (slt x37.Key x38.To, IntKind.wrap .i64 (v26.2 + 1)) hF) ⟨rfl, rfl, rfl, rfl, rfl, rfl, rfl, rfl, trivial⟩ trivial rfl
        · refine G.drawn (effs := (⟨[(11, .one (bB false))], [], [(35, .one (bB false))], []⟩ :: ⟨[(35, .one (bB false))], [], [(36, .one (bB false))], []⟩ :: ⟨[(36, .one (bB false)), (6, .one (.g (.d (.sl 6 (List.map encApi_Version r2)))))], [], [(37, .one (.g (.d (.sl 6 (List.map encApi_Version r2)))))], []⟩ :: ⟨[(36, .one (bB false)), (10, .one (bI .i64 v11.2))], [], [(38, .one (bI .i64 v11.2))], []⟩ :: ⟨[(36, .one (bB false)), (37, .one (.g (.d (.sl 6 (List.map encApi_Version r2))))), (38, .one (bI .i64 v11.2))], [], [(39, .one (.ep [.v (.string x32.Key), .v (.string x32.Value), .v (.bool x32.Gone), .v (.int .i64 x32.Stamp.N), .v (.int .i64 x32.Stamp.Site), .sl 3 (List.map encApi_Dep x32.Past)]))], []⟩ :: ⟨[(36, .one (bB false)), (39, .one (.ep [.v (.string x32.Key), .v (.string x32.Value), .v (.bool x32.Gone), .v (.int .i64 x32.Stamp.N), .v (.int .i64 x32.Stamp.Site), .sl 3 (List.map encApi_Dep x32.Past)]))], [], [(40, .one (.ep [.v (.string x32.Key), .v (.string x32.Value), .v (.bool x32.Gone), .v (.int .i64 x32.Stamp.N), .v (.int .i64 x32.Stamp.Site), .sl 3 (List.map encApi_Dep x32.Past)]))], []⟩ :: ⟨[(36, .one (bB false)), (40, .one (.ep [.v (.string x32.Key), .v (.string x32.Value), .v (.bool x32.Gone), .v (.int .i64 x32.Stamp.N), .v (.int .i64 x32.Stamp.Site), .sl 3 (List.map encApi_Dep x32.Past)]))], [], [(41, .one (bS x32.Key))], []⟩ :: ⟨[(36, .one (bB false)), (7, .one (.g (.d (.sl 2 (List.map encApi_Range r3)))))], [], [(42, .one (.g (.d (.sl 2 (List.map encApi_Range r3)))))], []⟩ :: ⟨[(36, .one (bB false)), (12, .one (bI .i64 v26.2))], [], [(43, .one (bI .i64 v26.2))], []⟩ :: ⟨[(36, .one (bB false)), (42, .one (.g (.d (.sl 2 (List.map encApi_Range r3))))), (43, .one (bI .i64 v26.2))], [], [(44, .one (.ep [.v (.string x33.From), .v (.string x33.To)]))], []⟩ :: ⟨[(36, .one (bB false)), (44, .one (.ep [.v (.string x33.From), .v (.string x33.To)]))], [], [(45, .one (.ep [.v (.string x33.From), .v (.string x33.To)]))], []⟩ :: ⟨[(36, .one (bB false)), (45, .one (.ep [.v (.string x33.From), .v (.string x33.To)]))], [], [(46, .one (bS x33.From))], []⟩ :: ⟨[(36, .one (bB false)), (41, .one (bS x32.Key)), (46, .one (bS x33.From))], [], [(47, .one (bB false))], []⟩ :: ⟨[(36, .one (bB false)), (47, .one (bB false))], [], [(48, .one (bB false))], []⟩ :: ⟨[(48, .one (bB false))], [], [(49, .one (.x Go.undef))], []⟩ :: ⟨[(48, .one (bB false))], [], [(50, .one (.x Go.undef))], []⟩ :: ⟨[(48, .one (bB false))], [], [(51, .one (.x Go.undef))], []⟩ :: ⟨[(48, .one (bB false))], [], [(52, .one (.x Go.undef))], []⟩ :: ⟨[(48, .one (bB false))], [], [(53, .one (.x Go.undef))], []⟩ :: ⟨[(48, .one (bB false))], [], [(54, .one (.x Go.undef))], []⟩ :: ⟨[(48, .one (bB false))], [], [(55, .one (.x Go.undef))], []⟩ :: ⟨[(55, .one (.x Go.undef))], [], [(56, .one (.x Go.undef))], []⟩ :: ⟨[(55, .one (.x Go.undef))], [], [(57, .one (.x Go.undef))], []⟩ :: ⟨[(55, .one (.x Go.undef))], [], [(58, .one (.x Go.undef))], []⟩ :: ⟨[(55, .one (.x Go.undef))], [], [(59, .one (.x Go.undef))], []⟩ :: ⟨[(55, .one (.x Go.undef))], [], [(60, .one (.x Go.undef))], []⟩ :: ⟨[(55, .one (.x Go.undef))], [], [(61, .one (.x Go.undef))], []⟩ :: ⟨[(55, .one (.x Go.undef))], [], [(62, .one (.x Go.undef))], []⟩ :: ⟨[(55, .one (.x Go.undef))], [], [(63, .one (.x Go.undef))], []⟩ :: ⟨[(55, .one (.x Go.undef))], [], [(64, .one (.x Go.undef))], []⟩ :: ⟨[(55, .one (.x Go.undef))], [], [(65, .one (.x Go.undef))], []⟩ :: ⟨[(55, .one (.x Go.undef))], [], [(66, .one (.x Go.undef))], []⟩ :: ⟨[(48, .one (bB false))], [], [(67, .one (.x Go.undef))], []⟩ :: ⟨[(36, .one (bB false)), (48, .one (bB false))], [], [(68, .one (bB false))], []⟩ :: ⟨[(36, .one (bB false)), (68, .one (bB false))], [], [(69, .one (bB false))], []⟩ :: ⟨[(69, .one (bB false))], [], [(11, .one (bB false))], []⟩ :: [])) (deps := ([] :: [0] :: [0, 1] :: [0, 1] :: [0, 1, 2, 3] :: [0, 1, 2, 3, 4] :: [0, 1, 2, 3, 4, 5] :: [0, 1] :: [0, 1] :: [0, 1, 7, 8] :: [0, 1, 7, 8, 9] :: [0, 1, 7, 8, 9, 10] :: [0, 1, 2, 3, 4, 5, 6, 7, 8, 9, 10, 11] :: [0, 1, 2, 3, 4, 5, 6, 7, 8, 9, 10, 11, 12] :: [0, 1, 2, 3, 4, 5, 6, 7, 8, 9, 10, 11, 12, 13] :: [0, 1, 2, 3, 4, 5, 6, 7, 8, 9, 10, 11, 12, 13] :: [0, 1, 2, 3, 4, 5, 6, 7, 8, 9, 10, 11, 12, 13, 14, 15] :: [0, 1, 2, 3, 4, 5, 6, 7, 8, 9, 10, 11, 12, 13, 14, 15, 16] :: [0, 1, 2, 3, 4, 5, 6, 7, 8, 9, 10, 11, 12, 13, 14, 15, 16, 17] :: [0, 1, 2, 3, 4, 5, 6, 7, 8, 9, 10, 11, 12, 13, 14, 15, 16, 17, 18] :: [0, 1, 2, 3, 4, 5, 6, 7, 8, 9, 10, 11, 12, 13, 14, 15, 16, 17, 18, 19] :: (0 :: 1 :: 2 :: 3 :: 4 :: 5 :: 6 :: 7 :: 8 :: 9 :: 10 :: 11 :: 12 :: 13 :: 14 :: 15 :: 16 :: 17 :: 18 :: 19 :: 20 :: []) :: (0 :: 1 :: 2 :: 3 :: 4 :: 5 :: 6 :: 7 :: 8 :: 9 :: 10 :: 11 :: 12 :: 13 :: 14 :: 15 :: 16 :: 17 :: 18 :: 19 :: 20 :: []) :: (0 :: 1 :: 2 :: 3 :: 4 :: 5 :: 6 :: 7 :: 8 :: 9 :: 10 :: 11 :: 12 :: 13 :: 14 :: 15 :: 16 :: 17 :: 18 :: 19 :: 20 :: 21 :: 22 :: []) :: (0 :: 1 :: 2 :: 3 :: 4 :: 5 :: 6 :: 7 :: 8 :: 9 :: 10 :: 11 :: 12 :: 13 :: 14 :: 15 :: 16 :: 17 :: 18 :: 19 :: 20 :: 21 :: 22 :: 23 :: []) :: (0 :: 1 :: 2 :: 3 :: 4 :: 5 :: 6 :: 7 :: 8 :: 9 :: 10 :: 11 :: 12 :: 13 :: 14 :: 15 :: 16 :: 17 :: 18 :: 19 :: 20 :: 21 :: 22 :: 23 :: 24 :: []) :: (0 :: 1 :: 2 :: 3 :: 4 :: 5 :: 6 :: 7 :: 8 :: 9 :: 10 :: 11 :: 12 :: 13 :: 14 :: 15 :: 16 :: 17 :: 18 :: 19 :: 20 :: []) :: (0 :: 1 :: 2 :: 3 :: 4 :: 5 :: 6 :: 7 :: 8 :: 9 :: 10 :: 11 :: 12 :: 13 :: 14 :: 15 :: 16 :: 17 :: 18 :: 19 :: 20 :: []) :: (0 :: 1 :: 2 :: 3 :: 4 :: 5 :: 6 :: 7 :: 8 :: 9 :: 10 :: 11 :: 12 :: 13 :: 14 :: 15 :: 16 :: 17 :: 18 :: 19 :: 20 :: 26 :: 27 :: []) :: (0 :: 1 :: 2 :: 3 :: 4 :: 5 :: 6 :: 7 :: 8 :: 9 :: 10 :: 11 :: 12 :: 13 :: 14 :: 15 :: 16 :: 17 :: 18 :: 19 :: 20 :: 26 :: 27 :: 28 :: []) :: (0 :: 1 :: 2 :: 3 :: 4 :: 5 :: 6 :: 7 :: 8 :: 9 :: 10 :: 11 :: 12 :: 13 :: 14 :: 15 :: 16 :: 17 :: 18 :: 19 :: 20 :: 26 :: 27 :: 28 :: 29 :: []) :: (0 :: 1 :: 2 :: 3 :: 4 :: 5 :: 6 :: 7 :: 8 :: 9 :: 10 :: 11 :: 12 :: 13 :: 14 :: 15 :: 16 :: 17 :: 18 :: 19 :: 20 :: 21 :: 22 :: 23 :: 24 :: 25 :: 26 :: 27 :: 28 :: 29 :: 30 :: []) :: (0 :: 1 :: 2 :: 3 :: 4 :: 5 :: 6 :: 7 :: 8 :: 9 :: 10 :: 11 :: 12 :: 13 :: 14 :: 15 :: 16 :: 17 :: 18 :: 19 :: 20 :: 21 :: 22 :: 23 :: 24 :: 25 :: 26 :: 27 :: 28 :: 29 :: 30 :: 31 :: []) :: (0 :: 1 :: 2 :: 3 :: 4 :: 5 :: 6 :: 7 :: 8 :: 9 :: 10 :: 11 :: 12 :: 13 :: 14 :: 15 :: 16 :: 17 :: 18 :: 19 :: 20 :: 21 :: 22 :: 23 :: 24 :: 25 :: 26 :: 27 :: 28 :: 29 :: 30 :: 31 :: 32 :: []) :: (0 :: 1 :: 2 :: 3 :: 4 :: 5 :: 6 :: 7 :: 8 :: 9 :: 10 :: 11 :: 12 :: 13 :: 14 :: 15 :: 16 :: 17 :: 18 :: 19 :: 20 :: 21 :: 22 :: 23 :: 24 :: 25 :: 26 :: 27 :: 28 :: 29 :: 30 :: 31 :: 32 :: 33 :: []) :: (0 :: 1 :: 2 :: 3 :: 4 :: 5 :: 6 :: 7 :: 8 :: 9 :: 10 :: 11 :: 12 :: 13 :: 14 :: 15 :: 16 :: 17 :: 18 :: 19 :: 20 :: 21 :: 22 :: 23 :: 24 :: 25 :: 26 :: 27 :: 28 :: 29 :: 30 :: 31 :: 32 :: 33 :: 34 :: []) :: [])) (sl' := [(5, .one (bB r1)), (6, .one (.g (.d (.sl 6 (List.map encApi_Version r2))))), (7, .one (.g (.d (.sl 2 (List.map encApi_Range r3))))), (8, .one (.g (.d (.sl 6 (List.map encApi_Version r4))))), (9, .one (bI .i64 v11.1)), (10, .one (bI .i64 v11.2)), (11, .one (bB false)), (12, .one (bI .i64 v26.2))]) (hp' := []) follows rfl rfl rfl ⟨⟨⟨rfl, rfl⟩, trivial⟩, trivial, ⟨rfl, trivial⟩, trivial, ⟨rfl, rfl, trivial⟩, trivial, ⟨rfl, rfl, trivial⟩, trivial, ⟨rfl, rfl, rfl, trivial⟩, trivial, ⟨rfl, rfl, trivial⟩, trivial, ⟨rfl, rfl, trivial⟩, trivial, ⟨rfl, rfl, trivial⟩, trivial, ⟨rfl, rfl, trivial⟩, trivial, ⟨rfl, rfl, rfl, trivial⟩, trivial, ⟨rfl, rfl, trivial⟩, trivial, ⟨rfl, rfl, trivial⟩, trivial, ⟨rfl, rfl, rfl, trivial⟩, trivial, ⟨rfl, rfl, trivial⟩, trivial, ⟨rfl, trivial⟩, trivial, ⟨rfl, trivial⟩, trivial, ⟨rfl, trivial⟩, trivial, ⟨rfl, trivial⟩, trivial, ⟨rfl, trivial⟩, trivial, ⟨rfl, trivial⟩, trivial, ⟨rfl, trivial⟩, trivial, ⟨rfl, trivial⟩, trivial, ⟨rfl, trivial⟩, trivial, ⟨rfl, trivial⟩, trivial, ⟨rfl, trivial⟩, trivial, ⟨rfl, trivial⟩, trivial, ⟨rfl, trivial⟩, trivial, ⟨rfl, trivial⟩, trivial, ⟨rfl, trivial⟩, trivial, ⟨rfl, trivial⟩, trivial, ⟨rfl, trivial⟩, trivial, ⟨rfl, trivial⟩, trivial, ⟨rfl, trivial⟩, trivial, ⟨rfl, rfl, trivial⟩, trivial, ⟨rfl, rfl, trivial⟩, trivial, ⟨rfl, trivial⟩, trivial, trivial⟩ ⟨OpW.plain (op_move (Ev.t 11 (bB false)) rfl) rfl rfl, OpW.plain (op_move (Ev.t 35 (bB false)) rfl) rfl rfl, OpW.yes (op_move (Ev.t 6 (.g (.d (.sl 6 (List.map encApi_Version r2))))) rfl) rfl rfl rfl, OpW.yes (op_move (Ev.t 10 (bI .i64 v11.2)) rfl) rfl rfl rfl, OpW.yes (op_index (cs := [.v (.string x32.Key), .v (.string x32.Value), .v (.bool x32.Gone), .v (.int .i64 x32.Stamp.N), .v (.int .i64 x32.Stamp.Site), .sl 3 (List.map encApi_Dep x32.Past)]) Try.underlying24 ti32 (idx_ok hx32).1 (idx_get hx32 encApi_Version) (Ev.t 37 (.g (.d (.sl 6 (List.map encApi_Version r2))))) (Ev.t 38 (bI .i64 v11.2)) rfl) rfl rfl rfl, OpW.yes (op_fieldE (cs' := [.v (.string x32.Key), .v (.string x32.Value), .v (.bool x32.Gone), .v (.int .i64 x32.Stamp.N), .v (.int .i64 x32.Stamp.Site), .sl 3 (List.map encApi_Dep x32.Past)]) Try.underlying32 rfl ti9 (by decide) rfl (Ev.t 39 (.ep [.v (.string x32.Key), .v (.string x32.Value), .v (.bool x32.Gone), .v (.int .i64 x32.Stamp.N), .v (.int .i64 x32.Stamp.Site), .sl 3 (List.map encApi_Dep x32.Past)])) rfl) rfl rfl rfl, OpW.yes (op_load1E (c := .v (.string x32.Key)) Try.underlying9 rfl rfl (Ev.t 40 (.ep [.v (.string x32.Key), .v (.string x32.Value), .v (.bool x32.Gone), .v (.int .i64 x32.Stamp.N), .v (.int .i64 x32.Stamp.Site), .sl 3 (List.map encApi_Dep x32.Past)])) rfl) rfl rfl rfl, OpW.yes (op_move (Ev.t 7 (.g (.d (.sl 2 (List.map encApi_Range r3))))) rfl) rfl rfl rfl, OpW.yes (op_move (Ev.t 12 (bI .i64 v26.2)) rfl) rfl rfl rfl, OpW.yes (op_index (cs := [.v (.string x33.From), .v (.string x33.To)]) Try.underlying26 ti51 (idx_ok hx33).1 (idx_get hx33 encApi_Range) (Ev.t 42 (.g (.d (.sl 2 (List.map encApi_Range r3))))) (Ev.t 43 (bI .i64 v26.2)) rfl) rfl rfl rfl, OpW.yes (op_fieldE (cs' := [.v (.string x33.From), .v (.string x33.To)]) Try.underlying51 rfl ti9 (by decide) rfl (Ev.t 44 (.ep [.v (.string x33.From), .v (.string x33.To)])) rfl) rfl rfl rfl, OpW.yes (op_load1E (c := .v (.string x33.From)) Try.underlying9 rfl rfl (Ev.t 45 (.ep [.v (.string x33.From), .v (.string x33.To)])) rfl) rfl rfl rfl, OpW.yes (OpL.cast (op_geS (Ev.t 41 (bS x32.Key)) (Ev.t 46 (bS x33.From)) rfl) (congrArg (fun b => bB b) hc34)) rfl rfl rfl, OpW.yes (op_move (Ev.t 47 (bB false)) rfl) rfl rfl rfl, OpW.no rfl rfl rfl rfl rfl, OpW.no rfl rfl rfl rfl rfl, OpW.no rfl rfl rfl rfl rfl, OpW.no rfl rfl rfl rfl rfl, OpW.no rfl rfl rfl rfl rfl, OpW.no rfl rfl rfl rfl rfl, OpW.no rfl rfl rfl rfl rfl, OpW.un rfl rfl rfl rfl, OpW.un rfl rfl rfl rfl, OpW.un rfl rfl rfl rfl, OpW.un rfl rfl rfl rfl, OpW.un rfl rfl rfl rfl, OpW.un rfl rfl rfl rfl, OpW.un rfl rfl rfl rfl, OpW.un rfl rfl rfl rfl, OpW.un rfl rfl rfl rfl, OpW.un rfl rfl rfl rfl, OpW.un rfl rfl rfl rfl, OpW.no rfl rfl rfl rfl rfl, OpW.yes (op_pickF (Ev.t 48 (bB false)) (Ev.c _ rfl) rfl) rfl rfl rfl, OpW.plain (op_pickF (Ev.t 36 (bB false)) (Ev.t 68 (bB false)) rfl) rfl rfl, OpW.plain (op_assign (Ev.t 69 (bB false)) rfl) rfl rfl, trivial⟩ ⟨rfl, rfl, rfl, rfl, rfl, rfl, rfl, rfl, trivial⟩ trivial rfl ?_
          refine G.endBlock ?_
          refine G.region ?_
          refine G.op1 (op_move (Ev.t 12 (bI .i64 v26.2)) rfl) rfl ⟨rfl, trivial⟩ trivial ?_
          refine G.op1 (op_add (Ev.t 33 (bI .i64 v26.2)) (Ev.c _ rfl) rfl) rfl ⟨rfl, trivial⟩ trivial ?_
          refine G.op1 (op_assign (Ev.t 34 (bI .i64 (IntKind.wrap .i64 (v26.2 + 1)))) rfl) rfl ⟨rfl, trivial⟩ trivial ?_
          refine G.endOps ?_
          exact G.arr (J27 (false, IntKind.wrap .i64 (v26.2 + 1)) hF) ⟨rfl, rfl, rfl, rfl, rfl, rfl, rfl, rfl, trivial⟩ trivial rfl
    · refine G.cond rfl (fun hx => by rw [hc30] at hx; cases hx) (fun _ => ?_)
      refine G.exit ?_
      refine GX.c ?_
      refine GX.q ?_
      refine GX.bYes ?_
      exact G.arr (J25 v26.1 hF) ⟨rfl, rfl, rfl, rfl, rfl, rfl, rfl, trivial⟩ trivial rfl
  · refine G.cond rfl (fun hx => by rw [hc15] at hx; cases hx) (fun _ => ?_)
    refine G.exit ?_
    refine GX.c ?_
    refine GX.q ?_
    refine GX.bYes ?_
    exact G.arr (J10 v11.1 hF) ⟨rfl, rfl, rfl, rfl, trivial⟩ trivial rfl


end Go.Ark
