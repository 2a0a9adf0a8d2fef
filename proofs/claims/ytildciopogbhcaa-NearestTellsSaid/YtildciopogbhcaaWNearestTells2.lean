/- Walks, printed by a program of mine: each function of the program computes the typed function of its name. Conditions: none. -/
import Derived.Test.YtildciopogbhcaaWNearestTells1
namespace Go.Ark
open Go Go.Ab Go.RowKit Go.Lib Go.Proofs

set_option maxRecDepth 20000 in
set_option maxHeartbeats 2000000 in
theorem ct_law05_awake (r : Bool) (hF : law05_awake = some r) : Ct Try.prog 9 [] (.one (.d (.v (.bool r)))) := by
  unfold law05_awake at hF
  refine Ct.intro Try.func9 rfl Try.ntmps9 rfl rfl fun M w => ?_
  refine G.seq ?_
  refine G.region ?_
  refine G.op1 (op_assign (Ev.c _ rfl) rfl) rfl trivial trivial ?_
  refine G.endOps ?_
  refine G.seq ?_
  refine G.region ?_
  refine G.op1 (op_build (zs := [.v (.int .i64 0), .v (.int .i64 0)]) (ds := [.v (.int .i64 1), .v (.int .i64 0)]) Try.underlying24 ti24 (pl24 _ Try.underlying24) ⟨.v _ rfl, .v _ rfl, trivial⟩ (EvP.cons (Ev.c _ rfl) EvP.nil) rfl rfl) rfl trivial trivial ?_
  refine G.op1 (op_build (zs := [.v (.string ByteArray.empty), .v (.int .i64 0), .v (.int .i64 0)]) (ds := [.v (.string (ByteArray.mk #[97])), .v (.int .i64 1), .v (.int .i64 0)]) Try.underlying26 ti26 (pl26 _ Try.underlying26) ⟨.v _ rfl, .v _ rfl, .v _ rfl, trivial⟩ (EvP.cons (Ev.c _ rfl) (EvP.cons (Ev.t 7 (.g (.agg [.v (.int .i64 1), .v (.int .i64 0)]))) EvP.nil)) rfl rfl) rfl ⟨rfl, trivial⟩ trivial ?_
  refine G.op2 (op_alloc (k := 1001) (cs := [bS ByteArray.empty, bI .i64 0, bI .i64 0]) ti26 ⟨.v _ rfl, .v _ rfl, .v _ rfl, trivial⟩ rfl) rfl trivial ⟨rfl, trivial⟩ ?_
  refine G.op3 (op_storeA (cs' := [bS (ByteArray.mk #[97]), bI .i64 1, bI .i64 0]) ti26 rfl rfl (Ev.t 1 (.ptr 1001 0)) (Ev.t 8 (.g (.agg [.v (.string (ByteArray.mk #[97])), .v (.int .i64 1), .v (.int .i64 0)])))) rfl ⟨rfl, rfl, trivial⟩ ⟨rfl, trivial⟩ ?_
  refine G.endOps ?_
  refine G.seq ?_
  refine G.region ?_
  refine G.op1 (op_build (zs := [.v (.int .i64 0), .v (.int .i64 0)]) (ds := [.v (.int .i64 2), .v (.int .i64 0)]) Try.underlying24 ti24 (pl24 _ Try.underlying24) ⟨.v _ rfl, .v _ rfl, trivial⟩ (EvP.cons (Ev.c _ rfl) EvP.nil) rfl rfl) rfl trivial trivial ?_
  refine G.op1 (op_build (zs := [.v (.string ByteArray.empty), .v (.int .i64 0), .v (.int .i64 0)]) (ds := [.v (.string (ByteArray.mk #[98])), .v (.int .i64 2), .v (.int .i64 0)]) Try.underlying26 ti26 (pl26 _ Try.underlying26) ⟨.v _ rfl, .v _ rfl, .v _ rfl, trivial⟩ (EvP.cons (Ev.c _ rfl) (EvP.cons (Ev.t 9 (.g (.agg [.v (.int .i64 2), .v (.int .i64 0)]))) EvP.nil)) rfl rfl) rfl ⟨rfl, trivial⟩ trivial ?_
  refine G.op2 (op_alloc (k := 1002) (cs := [bS ByteArray.empty, bI .i64 0, bI .i64 0]) ti26 ⟨.v _ rfl, .v _ rfl, .v _ rfl, trivial⟩ rfl) rfl trivial ⟨rfl, trivial⟩ ?_
  refine G.op3 (op_storeA (cs' := [bS (ByteArray.mk #[98]), bI .i64 2, bI .i64 0]) ti26 rfl rfl (Ev.t 2 (.ptr 1002 0)) (Ev.t 10 (.g (.agg [.v (.string (ByteArray.mk #[98])), .v (.int .i64 2), .v (.int .i64 0)])))) rfl ⟨rfl, rfl, trivial⟩ ⟨rfl, trivial⟩ ?_
  refine G.endOps ?_
  refine G.seq ?_
  refine G.region ?_
  refine G.op1 (op_fieldP (off' := 1) Try.underlying26 rfl ti24 (by decide) rfl (Ev.t 1 (.ptr 1001 0)) rfl) rfl ⟨rfl, trivial⟩ trivial ?_
  refine G.op1 (op_loadAP (ds := [.v (.int .i64 1), .v (.int .i64 0)]) Try.underlying24 rfl ti24 rfl (Ev.t 11 (.ptr 1001 1)) rfl) rfl ⟨rfl, trivial⟩ ⟨rfl, trivial⟩ ?_
  refine G.op1 (op_build (zs := [.v (.string ByteArray.empty), .v (.string ByteArray.empty), .v (.bool false), .v (.int .i64 0), .v (.int .i64 0), .sl 3 (List.map encApi_Dep ([] : (List Api_Dep)))]) (ds := [.v (.string (ByteArray.mk #[97])), .v (.string ByteArray.empty), .v (.bool false), .v (.int .i64 1), .v (.int .i64 0), .sl 3 (List.map encApi_Dep ([] : (List Api_Dep)))]) Try.underlying34 ti34 (pl34 _ Try.underlying34) ⟨.v _ rfl, .v _ rfl, .v _ rfl, .v _ rfl, .v _ rfl, .n 3, trivial⟩ (EvP.cons (Ev.c _ rfl) (EvP.cons (Ev.t 12 (.g (.agg [.v (.int .i64 1), .v (.int .i64 0)]))) EvP.nil)) rfl rfl) rfl ⟨rfl, trivial⟩ trivial ?_
  refine G.op1 (op_fieldP (off' := 1) Try.underlying26 rfl ti24 (by decide) rfl (Ev.t 2 (.ptr 1002 0)) rfl) rfl ⟨rfl, trivial⟩ trivial ?_
  refine G.op1 (op_loadAP (ds := [.v (.int .i64 2), .v (.int .i64 0)]) Try.underlying24 rfl ti24 rfl (Ev.t 14 (.ptr 1002 1)) rfl) rfl ⟨rfl, trivial⟩ ⟨rfl, trivial⟩ ?_
  refine G.op1 (op_loadAP (ds := [.v (.string (ByteArray.mk #[97])), .v (.int .i64 1), .v (.int .i64 0)]) Try.underlying26 rfl ti26 rfl (Ev.t 1 (.ptr 1001 0)) rfl) rfl ⟨rfl, trivial⟩ ⟨rfl, trivial⟩ ?_
  refine G.op1 (op_buildSlice (es := List.map encApi_Dep [(Api_Dep.mk (ByteArray.mk #[97]) (Api_Stamp.mk 1 0))]) Try.underlying29 ti26 rfl rfl (EvP.cons (Ev.t 16 (.g (.agg [.v (.string (ByteArray.mk #[97])), .v (.int .i64 1), .v (.int .i64 0)]))) EvP.nil) rfl rfl (by simp [encApi_Dep]) rfl) rfl ⟨rfl, trivial⟩ trivial ?_
  refine G.op1 (op_build (zs := [.v (.string ByteArray.empty), .v (.string ByteArray.empty), .v (.bool false), .v (.int .i64 0), .v (.int .i64 0), .sl 3 (List.map encApi_Dep ([] : (List Api_Dep)))]) (ds := [.v (.string (ByteArray.mk #[98])), .v (.string ByteArray.empty), .v (.bool false), .v (.int .i64 2), .v (.int .i64 0), .sl 3 (List.map encApi_Dep ([(Api_Dep.mk (ByteArray.mk #[97]) (Api_Stamp.mk 1 0))]))]) Try.underlying34 ti34 (pl34 _ Try.underlying34) ⟨.v _ rfl, .v _ rfl, .v _ rfl, .v _ rfl, .v _ rfl, .n 3, trivial⟩ (EvP.cons (Ev.c _ rfl) (EvP.cons (Ev.t 15 (.g (.agg [.v (.int .i64 2), .v (.int .i64 0)]))) (EvP.cons (Ev.t 17 (.g (.d (.sl 3 (List.map encApi_Dep ([(Api_Dep.mk (ByteArray.mk #[97]) (Api_Stamp.mk 1 0))])))))) EvP.nil))) rfl rfl) rfl ⟨rfl, rfl, trivial⟩ trivial ?_
  refine G.op1 (op_buildSlice (es := List.map encApi_Version [(Api_Version.mk (ByteArray.mk #[97]) ByteArray.empty false (Api_Stamp.mk 1 0) ([] : (List Api_Dep))), (Api_Version.mk (ByteArray.mk #[98]) ByteArray.empty false (Api_Stamp.mk 2 0) ([(Api_Dep.mk (ByteArray.mk #[97]) (Api_Stamp.mk 1 0))]))]) Try.underlying31 ti34 rfl rfl (EvP.cons (Ev.t 13 (.g (.agg [.v (.string (ByteArray.mk #[97])), .v (.string ByteArray.empty), .v (.bool false), .v (.int .i64 1), .v (.int .i64 0), .sl 3 (List.map encApi_Dep ([] : (List Api_Dep)))]))) (EvP.cons (Ev.t 18 (.g (.agg [.v (.string (ByteArray.mk #[98])), .v (.string ByteArray.empty), .v (.bool false), .v (.int .i64 2), .v (.int .i64 0), .sl 3 (List.map encApi_Dep ([(Api_Dep.mk (ByteArray.mk #[97]) (Api_Stamp.mk 1 0))]))]))) EvP.nil)) rfl rfl (by simp [encApi_Version]) rfl) rfl ⟨rfl, rfl, trivial⟩ trivial ?_
  refine G.op1 (op_assign (Ev.t 19 (.g (.d (.sl 6 (List.map encApi_Version ([(Api_Version.mk (ByteArray.mk #[97]) ByteArray.empty false (Api_Stamp.mk 1 0) ([] : (List Api_Dep))), (Api_Version.mk (ByteArray.mk #[98]) ByteArray.empty false (Api_Stamp.mk 2 0) ([(Api_Dep.mk (ByteArray.mk #[97]) (Api_Stamp.mk 1 0))]))])))))) rfl) rfl ⟨rfl, trivial⟩ trivial ?_
  refine G.endOps ?_
  refine G.seq ?_
  refine G.region ?_
  refine G.op1 (op_loadAP (ds := [.v (.string (ByteArray.mk #[97])), .v (.int .i64 1), .v (.int .i64 0)]) Try.underlying26 rfl ti26 rfl (Ev.t 1 (.ptr 1001 0)) rfl) rfl ⟨rfl, trivial⟩ ⟨rfl, trivial⟩ ?_
  refine G.op1 (op_loadAP (ds := [.v (.string (ByteArray.mk #[98])), .v (.int .i64 2), .v (.int .i64 0)]) Try.underlying26 rfl ti26 rfl (Ev.t 2 (.ptr 1002 0)) rfl) rfl ⟨rfl, trivial⟩ ⟨rfl, trivial⟩ ?_
  refine G.op1 (op_buildSlice (es := List.map encApi_Dep [(Api_Dep.mk (ByteArray.mk #[97]) (Api_Stamp.mk 1 0)), (Api_Dep.mk (ByteArray.mk #[98]) (Api_Stamp.mk 2 0))]) Try.underlying29 ti26 rfl rfl (EvP.cons (Ev.t 20 (.g (.agg [.v (.string (ByteArray.mk #[97])), .v (.int .i64 1), .v (.int .i64 0)]))) (EvP.cons (Ev.t 21 (.g (.agg [.v (.string (ByteArray.mk #[98])), .v (.int .i64 2), .v (.int .i64 0)]))) EvP.nil)) rfl rfl (by simp [encApi_Dep]) rfl) rfl ⟨rfl, rfl, trivial⟩ trivial ?_
  refine G.op1 (op_assign (Ev.t 22 (.g (.d (.sl 3 (List.map encApi_Dep ([(Api_Dep.mk (ByteArray.mk #[97]) (Api_Stamp.mk 1 0)), (Api_Dep.mk (ByteArray.mk #[98]) (Api_Stamp.mk 2 0))])))))) rfl) rfl ⟨rfl, trivial⟩ trivial ?_
  refine G.endOps ?_
  refine G.seq ?_
  obtain ⟨r1, hr1, hF⟩ := bindS hF
  obtain ⟨r2, hr2, hF⟩ := bindS hF
  refine G.drawn (effs := [⟨[(4, .one (.g (.d (.sl 3 (List.map encApi_Dep ([(Api_Dep.mk (ByteArray.mk #[97]) (Api_Stamp.mk 1 0)), (Api_Dep.mk (ByteArray.mk #[98]) (Api_Stamp.mk 2 0))]))))))], [], [(23, .one (.g (.d (.sl 3 (List.map encApi_Dep ([(Api_Dep.mk (ByteArray.mk #[97]) (Api_Stamp.mk 1 0)), (Api_Dep.mk (ByteArray.mk #[98]) (Api_Stamp.mk 2 0))]))))))], []⟩, ⟨[(3, .one (.g (.d (.sl 6 (List.map encApi_Version ([(Api_Version.mk (ByteArray.mk #[97]) ByteArray.empty false (Api_Stamp.mk 1 0) ([] : (List Api_Dep))), (Api_Version.mk (ByteArray.mk #[98]) ByteArray.empty false (Api_Stamp.mk 2 0) ([(Api_Dep.mk (ByteArray.mk #[97]) (Api_Stamp.mk 1 0))]))]))))))], [], [(24, .one (.g (.d (.sl 6 (List.map encApi_Version ([(Api_Version.mk (ByteArray.mk #[97]) ByteArray.empty false (Api_Stamp.mk 1 0) ([] : (List Api_Dep))), (Api_Version.mk (ByteArray.mk #[98]) ByteArray.empty false (Api_Stamp.mk 2 0) ([(Api_Dep.mk (ByteArray.mk #[97]) (Api_Stamp.mk 1 0))]))]))))))], []⟩, ⟨[(23, .one (.g (.d (.sl 3 (List.map encApi_Dep ([(Api_Dep.mk (ByteArray.mk #[97]) (Api_Stamp.mk 1 0)), (Api_Dep.mk (ByteArray.mk #[98]) (Api_Stamp.mk 2 0))])))))), (24, .one (.g (.d (.sl 6 (List.map encApi_Version ([(Api_Version.mk (ByteArray.mk #[97]) ByteArray.empty false (Api_Stamp.mk 1 0) ([] : (List Api_Dep))), (Api_Version.mk (ByteArray.mk #[98]) ByteArray.empty false (Api_Stamp.mk 2 0) ([(Api_Dep.mk (ByteArray.mk #[97]) (Api_Stamp.mk 1 0))]))]))))))], [], [(25, .one (.g (.d (.sl 3 (List.map encApi_Dep r1)))))], []⟩, ⟨[(2, .one (.ptr 1002 0))], [(1002, some (.blk 26 [bS (ByteArray.mk #[98]), bI .i64 2, bI .i64 0]))], [(26, .one (.g (.agg [.v (.string (ByteArray.mk #[98])), .v (.int .i64 2), .v (.int .i64 0)])))], []⟩, ⟨[(26, .one (.g (.agg [.v (.string (ByteArray.mk #[98])), .v (.int .i64 2), .v (.int .i64 0)])))], [], [(27, .one (.g (.d (.sl 3 (List.map encApi_Dep ([(Api_Dep.mk (ByteArray.mk #[98]) (Api_Stamp.mk 2 0))]))))))], []⟩, ⟨[(25, .one (.g (.d (.sl 3 (List.map encApi_Dep r1))))), (27, .one (.g (.d (.sl 3 (List.map encApi_Dep ([(Api_Dep.mk (ByteArray.mk #[98]) (Api_Stamp.mk 2 0))]))))))], [], [(28, .one (bB r2))], []⟩, ⟨[(28, .one (bB r2))], [], [(5, .one (bB r2))], []⟩]) (deps := [[], [], [0, 1], [], [3], [0, 1, 2, 3, 4], [0, 1, 2, 3, 4, 5]]) (sl' := [(2, .one (.ptr 1002 0)), (3, .one (.g (.d (.sl 6 (List.map encApi_Version ([(Api_Version.mk (ByteArray.mk #[97]) ByteArray.empty false (Api_Stamp.mk 1 0) ([] : (List Api_Dep))), (Api_Version.mk (ByteArray.mk #[98]) ByteArray.empty false (Api_Stamp.mk 2 0) ([(Api_Dep.mk (ByteArray.mk #[97]) (Api_Stamp.mk 1 0))]))])))))), (4, .one (.g (.d (.sl 3 (List.map encApi_Dep ([(Api_Dep.mk (ByteArray.mk #[97]) (Api_Stamp.mk 1 0)), (Api_Dep.mk (ByteArray.mk #[98]) (Api_Stamp.mk 2 0))])))))), (5, .one (bB r2))]) (hp' := [(1002, some (.blk 26 [bS (ByteArray.mk #[98]), bI .i64 2, bI .i64 0]))]) follows rfl rfl rfl ⟨⟨rfl, trivial⟩, trivial, ⟨rfl, trivial⟩, trivial, ⟨rfl, rfl, trivial⟩, trivial, ⟨rfl, trivial⟩, ⟨⟨rfl, rfl⟩, trivial⟩, ⟨rfl, trivial⟩, trivial, ⟨rfl, rfl, trivial⟩, trivial, ⟨rfl, trivial⟩, trivial, trivial⟩ ⟨OpW.plain (op_move (Ev.t 4 (.g (.d (.sl 3 (List.map encApi_Dep ([(Api_Dep.mk (ByteArray.mk #[97]) (Api_Stamp.mk 1 0)), (Api_Dep.mk (ByteArray.mk #[98]) (Api_Stamp.mk 2 0))])))))) rfl) rfl rfl, OpW.plain (op_move (Ev.t 3 (.g (.d (.sl 6 (List.map encApi_Version ([(Api_Version.mk (ByteArray.mk #[97]) ByteArray.empty false (Api_Stamp.mk 1 0) ([] : (List Api_Dep))), (Api_Version.mk (ByteArray.mk #[98]) ByteArray.empty false (Api_Stamp.mk 2 0) ([(Api_Dep.mk (ByteArray.mk #[97]) (Api_Stamp.mk 1 0))]))])))))) rfl) rfl rfl, OpW.plain (op_call (sv := .one (.g (.d (.sl 3 (List.map encApi_Dep r1))))) cf14 (ct_nearest_Reduce ([(Api_Dep.mk (ByteArray.mk #[97]) (Api_Stamp.mk 1 0)), (Api_Dep.mk (ByteArray.mk #[98]) (Api_Stamp.mk 2 0))]) ([(Api_Version.mk (ByteArray.mk #[97]) ByteArray.empty false (Api_Stamp.mk 1 0) ([] : (List Api_Dep))), (Api_Version.mk (ByteArray.mk #[98]) ByteArray.empty false (Api_Stamp.mk 2 0) ([(Api_Dep.mk (ByteArray.mk #[97]) (Api_Stamp.mk 1 0))]))]) r1 hr1) rfl (EvL.cons (Ev.t 23 (.g (.d (.sl 3 (List.map encApi_Dep ([(Api_Dep.mk (ByteArray.mk #[97]) (Api_Stamp.mk 1 0)), (Api_Dep.mk (ByteArray.mk #[98]) (Api_Stamp.mk 2 0))])))))) (EvL.cons (Ev.t 24 (.g (.d (.sl 6 (List.map encApi_Version ([(Api_Version.mk (ByteArray.mk #[97]) ByteArray.empty false (Api_Stamp.mk 1 0) ([] : (List Api_Dep))), (Api_Version.mk (ByteArray.mk #[98]) ByteArray.empty false (Api_Stamp.mk 2 0) ([(Api_Dep.mk (ByteArray.mk #[97]) (Api_Stamp.mk 1 0))]))])))))) EvL.nil)) rfl) rfl rfl, OpW.plain (op_loadAP (ds := [.v (.string (ByteArray.mk #[98])), .v (.int .i64 2), .v (.int .i64 0)]) Try.underlying26 rfl ti26 rfl (Ev.t 2 (.ptr 1002 0)) rfl) rfl rfl, OpW.plain (op_buildSlice (es := List.map encApi_Dep [(Api_Dep.mk (ByteArray.mk #[98]) (Api_Stamp.mk 2 0))]) Try.underlying29 ti26 rfl rfl (EvP.cons (Ev.t 26 (.g (.agg [.v (.string (ByteArray.mk #[98])), .v (.int .i64 2), .v (.int .i64 0)]))) EvP.nil) rfl rfl (by simp [encApi_Dep]) rfl) rfl rfl, OpW.plain (op_callQ (sv := .one (bB r2)) cf13 (ct_ref04_Same r1 ([(Api_Dep.mk (ByteArray.mk #[98]) (Api_Stamp.mk 2 0))]) r2 hr2) rfl rfl (EvQL.cons (EvQ.g (Ev.t 25 (.g (.d (.sl 3 (List.map encApi_Dep r1)))))) (EvQL.cons (EvQ.g (Ev.t 27 (.g (.d (.sl 3 (List.map encApi_Dep ([(Api_Dep.mk (ByteArray.mk #[98]) (Api_Stamp.mk 2 0))]))))))) EvQL.nil)) rfl) rfl rfl, OpW.plain (op_assign (Ev.t 28 (bB r2)) rfl) rfl rfl, trivial⟩ ⟨rfl, rfl, rfl, rfl, trivial⟩ ⟨rfl, trivial⟩ rfl ?_
  refine G.seq ?_
  refine G.region ?_
  refine G.op1 (op_loadAP (ds := [.v (.string (ByteArray.mk #[98])), .v (.int .i64 2), .v (.int .i64 0)]) Try.underlying26 rfl ti26 rfl (Ev.t 2 (.ptr 1002 0)) rfl) rfl ⟨rfl, trivial⟩ ⟨rfl, trivial⟩ ?_
  refine G.op1 (op_buildSlice (es := List.map encApi_Dep [(Api_Dep.mk (ByteArray.mk #[98]) (Api_Stamp.mk 2 0))]) Try.underlying29 ti26 rfl rfl (EvP.cons (Ev.t 29 (.g (.agg [.v (.string (ByteArray.mk #[98])), .v (.int .i64 2), .v (.int .i64 0)]))) EvP.nil) rfl rfl (by simp [encApi_Dep]) rfl) rfl ⟨rfl, trivial⟩ trivial ?_
  refine G.op1 (op_move (Ev.t 3 (.g (.d (.sl 6 (List.map encApi_Version ([(Api_Version.mk (ByteArray.mk #[97]) ByteArray.empty false (Api_Stamp.mk 1 0) ([] : (List Api_Dep))), (Api_Version.mk (ByteArray.mk #[98]) ByteArray.empty false (Api_Stamp.mk 2 0) ([(Api_Dep.mk (ByteArray.mk #[97]) (Api_Stamp.mk 1 0))]))])))))) rfl) rfl ⟨rfl, trivial⟩ trivial ?_
  obtain ⟨r3, hr3, hF⟩ := bindS hF
  refine G.op1 (op_call (sv := .one (.g (.d (.sl 3 (List.map encApi_Dep r3))))) cf16 (ct_nearest_Expand ([(Api_Dep.mk (ByteArray.mk #[98]) (Api_Stamp.mk 2 0))]) ([(Api_Version.mk (ByteArray.mk #[97]) ByteArray.empty false (Api_Stamp.mk 1 0) ([] : (List Api_Dep))), (Api_Version.mk (ByteArray.mk #[98]) ByteArray.empty false (Api_Stamp.mk 2 0) ([(Api_Dep.mk (ByteArray.mk #[97]) (Api_Stamp.mk 1 0))]))]) r3 hr3) rfl (EvL.cons (Ev.t 30 (.g (.d (.sl 3 (List.map encApi_Dep ([(Api_Dep.mk (ByteArray.mk #[98]) (Api_Stamp.mk 2 0))])))))) (EvL.cons (Ev.t 31 (.g (.d (.sl 6 (List.map encApi_Version ([(Api_Version.mk (ByteArray.mk #[97]) ByteArray.empty false (Api_Stamp.mk 1 0) ([] : (List Api_Dep))), (Api_Version.mk (ByteArray.mk #[98]) ByteArray.empty false (Api_Stamp.mk 2 0) ([(Api_Dep.mk (ByteArray.mk #[97]) (Api_Stamp.mk 1 0))]))])))))) EvL.nil)) rfl) rfl ⟨rfl, rfl, trivial⟩ trivial ?_
  refine G.op1 (op_move (Ev.t 4 (.g (.d (.sl 3 (List.map encApi_Dep ([(Api_Dep.mk (ByteArray.mk #[97]) (Api_Stamp.mk 1 0)), (Api_Dep.mk (ByteArray.mk #[98]) (Api_Stamp.mk 2 0))])))))) rfl) rfl ⟨rfl, trivial⟩ trivial ?_
  obtain ⟨r4, hr4, hF⟩ := bindS hF
  refine G.op1 (op_callQ (sv := .one (bB r4)) cf13 (ct_ref04_Same r3 ([(Api_Dep.mk (ByteArray.mk #[97]) (Api_Stamp.mk 1 0)), (Api_Dep.mk (ByteArray.mk #[98]) (Api_Stamp.mk 2 0))]) r4 hr4) rfl rfl (EvQL.cons (EvQ.g (Ev.t 32 (.g (.d (.sl 3 (List.map encApi_Dep r3)))))) (EvQL.cons (EvQ.g (Ev.t 33 (.g (.d (.sl 3 (List.map encApi_Dep ([(Api_Dep.mk (ByteArray.mk #[97]) (Api_Stamp.mk 1 0)), (Api_Dep.mk (ByteArray.mk #[98]) (Api_Stamp.mk 2 0))]))))))) EvQL.nil)) rfl) rfl ⟨rfl, rfl, trivial⟩ trivial ?_
  refine G.op1 (op_assign (Ev.t 34 (bB r4)) rfl) rfl ⟨rfl, trivial⟩ trivial ?_
  refine G.endOps ?_
  refine G.seq ?_
  refine G.region ?_
  refine G.op1 (op_move (Ev.t 5 (bB r2)) rfl) rfl ⟨rfl, trivial⟩ trivial ?_
  refine G.op1 (op_move (Ev.t 35 (bB r2)) rfl) rfl ⟨rfl, trivial⟩ trivial ?_
  refine G.joinL (T := Bool) 2 (fun y5 => ⟨[(3, .one (.g (.d (.sl 6 (List.map encApi_Version ([(Api_Version.mk (ByteArray.mk #[97]) ByteArray.empty false (Api_Stamp.mk 1 0) ([] : (List Api_Dep))), (Api_Version.mk (ByteArray.mk #[98]) ByteArray.empty false (Api_Stamp.mk 2 0) ([(Api_Dep.mk (ByteArray.mk #[97]) (Api_Stamp.mk 1 0))]))])))))), (4, .one (.g (.d (.sl 3 (List.map encApi_Dep ([(Api_Dep.mk (ByteArray.mk #[97]) (Api_Stamp.mk 1 0)), (Api_Dep.mk (ByteArray.mk #[98]) (Api_Stamp.mk 2 0))])))))), (38, .one (bB y5))], []⟩) (fun y5 => law05_awake_k1 y5 = some r) (fun y5 hF => ?_) (fun J10 => ?_)
  · unfold law05_awake_k1 at hF
    refine G.op1 (op_move (Ev.t 38 (bB y5)) rfl) rfl ⟨rfl, trivial⟩ trivial ?_
    refine ifS hF (fun hc6 hF => ?_) (fun hc6 hF => ?_)
    · refine G.known (t := 39) hc6 rfl ?_
      refine G.opG1 (op_move (Ev.t 4 (.g (.d (.sl 3 (List.map encApi_Dep ([(Api_Dep.mk (ByteArray.mk #[97]) (Api_Stamp.mk 1 0)), (Api_Dep.mk (ByteArray.mk #[98]) (Api_Stamp.mk 2 0))])))))) rfl) rfl rfl rfl ⟨rfl, trivial⟩ trivial ?_
      refine G.opG1 (op_move (Ev.t 3 (.g (.d (.sl 6 (List.map encApi_Version ([(Api_Version.mk (ByteArray.mk #[97]) ByteArray.empty false (Api_Stamp.mk 1 0) ([] : (List Api_Dep))), (Api_Version.mk (ByteArray.mk #[98]) ByteArray.empty false (Api_Stamp.mk 2 0) ([(Api_Dep.mk (ByteArray.mk #[97]) (Api_Stamp.mk 1 0))]))])))))) rfl) rfl rfl rfl ⟨rfl, trivial⟩ trivial ?_
      obtain ⟨r7, hr7, hF⟩ := bindS hF
      refine G.opG1 (op_callQ (sv := .one (bB r7)) cf22 (ct_nearest_Closed ([(Api_Dep.mk (ByteArray.mk #[97]) (Api_Stamp.mk 1 0)), (Api_Dep.mk (ByteArray.mk #[98]) (Api_Stamp.mk 2 0))]) ([(Api_Version.mk (ByteArray.mk #[97]) ByteArray.empty false (Api_Stamp.mk 1 0) ([] : (List Api_Dep))), (Api_Version.mk (ByteArray.mk #[98]) ByteArray.empty false (Api_Stamp.mk 2 0) ([(Api_Dep.mk (ByteArray.mk #[97]) (Api_Stamp.mk 1 0))]))]) r7 hr7) rfl rfl (EvQL.cons (EvQ.g (Ev.t 40 (.g (.d (.sl 3 (List.map encApi_Dep ([(Api_Dep.mk (ByteArray.mk #[97]) (Api_Stamp.mk 1 0)), (Api_Dep.mk (ByteArray.mk #[98]) (Api_Stamp.mk 2 0))]))))))) (EvQL.cons (EvQ.g (Ev.t 41 (.g (.d (.sl 6 (List.map encApi_Version ([(Api_Version.mk (ByteArray.mk #[97]) ByteArray.empty false (Api_Stamp.mk 1 0) ([] : (List Api_Dep))), (Api_Version.mk (ByteArray.mk #[98]) ByteArray.empty false (Api_Stamp.mk 2 0) ([(Api_Dep.mk (ByteArray.mk #[97]) (Api_Stamp.mk 1 0))]))]))))))) EvQL.nil)) rfl) rfl rfl rfl ⟨rfl, rfl, trivial⟩ trivial ?_
      refine G.op1 (op_pickT (Ev.t 39 (bB true)) (Ev.t 42 (bB r7)) rfl) rfl ⟨rfl, rfl, trivial⟩ trivial ?_
      refine G.op1 (op_move (Ev.t 43 (bB r7)) rfl) rfl ⟨rfl, trivial⟩ trivial ?_
      refine ifS hF (fun hc8 hF => ?_) (fun hc8 hF => ?_)
      · refine G.known (t := 44) hc8 rfl ?_
        refine G.opG1 (op_move (Ev.t 3 (.g (.d (.sl 6 (List.map encApi_Version ([(Api_Version.mk (ByteArray.mk #[97]) ByteArray.empty false (Api_Stamp.mk 1 0) ([] : (List Api_Dep))), (Api_Version.mk (ByteArray.mk #[98]) ByteArray.empty false (Api_Stamp.mk 2 0) ([(Api_Dep.mk (ByteArray.mk #[97]) (Api_Stamp.mk 1 0))]))])))))) rfl) rfl rfl rfl ⟨rfl, trivial⟩ trivial ?_
        obtain ⟨r9, hr9, hF⟩ := bindS hF
        refine G.opG1 (op_callQ (sv := .one (bB r9)) cf20 (ct_nearest_Sound ([(Api_Version.mk (ByteArray.mk #[97]) ByteArray.empty false (Api_Stamp.mk 1 0) ([] : (List Api_Dep))), (Api_Version.mk (ByteArray.mk #[98]) ByteArray.empty false (Api_Stamp.mk 2 0) ([(Api_Dep.mk (ByteArray.mk #[97]) (Api_Stamp.mk 1 0))]))]) r9 hr9) rfl rfl (EvQL.cons (EvQ.g (Ev.t 45 (.g (.d (.sl 6 (List.map encApi_Version ([(Api_Version.mk (ByteArray.mk #[97]) ByteArray.empty false (Api_Stamp.mk 1 0) ([] : (List Api_Dep))), (Api_Version.mk (ByteArray.mk #[98]) ByteArray.empty false (Api_Stamp.mk 2 0) ([(Api_Dep.mk (ByteArray.mk #[97]) (Api_Stamp.mk 1 0))]))]))))))) EvQL.nil) rfl) rfl rfl rfl ⟨rfl, trivial⟩ trivial ?_
        refine G.op1 (op_pickT (Ev.t 44 (bB true)) (Ev.t 46 (bB r9)) rfl) rfl ⟨rfl, rfl, trivial⟩ trivial ?_
        refine G.op1 (op_assign (Ev.t 47 (bB r9)) rfl) rfl ⟨rfl, trivial⟩ trivial ?_
        refine G.endOps ?_
        cases hF
        exact G.ret1 Try.results9 (RVar.tmp 0 _) ⟨rfl, trivial⟩ trivial
      · refine G.known (t := 44) hc8 rfl ?_
        refine G.opN1 rfl rfl rfl rfl rfl ?_
        refine G.opN1 rfl rfl rfl rfl rfl ?_
        refine G.op1 (op_pickF (Ev.t 44 (bB false)) (Ev.c _ rfl) rfl) rfl ⟨rfl, trivial⟩ trivial ?_
        refine G.op1 (op_assign (Ev.t 47 (bB false)) rfl) rfl ⟨rfl, trivial⟩ trivial ?_
        refine G.endOps ?_
        cases hF
        exact G.ret1 Try.results9 (RVar.tmp 0 _) ⟨rfl, trivial⟩ trivial
    · refine G.known (t := 39) hc6 rfl ?_
      refine G.opN1 rfl rfl rfl rfl rfl ?_
      refine G.opN1 rfl rfl rfl rfl rfl ?_
      refine G.opN1 rfl rfl rfl rfl rfl ?_
      refine G.op1 (op_pickF (Ev.t 39 (bB false)) (Ev.c _ rfl) rfl) rfl ⟨rfl, trivial⟩ trivial ?_
      refine G.op1 (op_move (Ev.t 43 (bB false)) rfl) rfl ⟨rfl, trivial⟩ trivial ?_
      refine G.opN1 rfl rfl rfl rfl rfl ?_
      refine G.opN1 rfl rfl rfl rfl rfl ?_
      refine G.op1 (op_pickF (Ev.t 44 (bB false)) (Ev.c _ rfl) rfl) rfl ⟨rfl, trivial⟩ trivial ?_
      refine G.op1 (op_assign (Ev.t 47 (bB false)) rfl) rfl ⟨rfl, trivial⟩ trivial ?_
      refine G.endOps ?_
      cases hF
      exact G.ret1 Try.results9 (RVar.tmp 0 _) ⟨rfl, trivial⟩ trivial
  refine ifS hF (fun hc11 hF => ?_) (fun hc11 hF => ?_)
  · refine G.known (t := 36) hc11 rfl ?_
    refine G.opG1 (op_move (Ev.t 6 (bB r4)) rfl) rfl rfl rfl ⟨rfl, trivial⟩ trivial ?_
    refine G.op1 (op_pickT (Ev.t 36 (bB true)) (Ev.t 37 (bB r4)) rfl) rfl ⟨rfl, rfl, trivial⟩ trivial ?_
    exact G.arr (J10 r4 hF) ⟨rfl, rfl, rfl, trivial⟩ trivial rfl
  · refine G.known (t := 36) hc11 rfl ?_
    refine G.opN1 rfl rfl rfl rfl rfl ?_
    refine G.op1 (op_pickF (Ev.t 36 (bB false)) (Ev.c _ rfl) rfl) rfl ⟨rfl, trivial⟩ trivial ?_
    exact G.arr (J10 false hF) ⟨rfl, rfl, rfl, trivial⟩ trivial rfl


set_option maxRecDepth 20000 in
set_option maxHeartbeats 2000000 in
theorem ct_ref02_long (c_0 : Int) (r : Int) (hF : ref02_long c_0 = some r) : Ct Try.prog 56 [.g (.d (.v (.int .u8 c_0)))] (.one (.d (.v (.int .i64 r)))) := by
  unfold ref02_long at hF
  refine Ct.intro Try.func56 rfl Try.ntmps56 rfl rfl fun M w => ?_
  refine G.seq ?_
  refine G.region ?_
  refine G.op1 (op_assign (Ev.c _ rfl) rfl) rfl trivial trivial ?_
  refine G.endOps ?_
  refine G.seq ?_
  refine G.seq ?_
  refine G.region ?_
  refine G.op1 (op_move (Ev.t 0 (bI .u8 c_0)) rfl) rfl ⟨rfl, trivial⟩ trivial ?_
  refine G.op1 (op_lss (Ev.t 3 (bI .u8 c_0)) (Ev.c _ rfl) rfl) rfl ⟨rfl, trivial⟩ trivial ?_
  refine G.endOps ?_
  refine ifS hF (fun hc1 hF => ?_) (fun hc1 hF => ?_)
  · refine G.cond rfl (fun _ => ?_) (fun hx => by rw [hc1] at hx; cases hx)
    refine G.seq ?_
    refine G.region ?_
    refine G.op1 (op_assign (Ev.c _ rfl) rfl) rfl trivial trivial ?_
    refine G.endOps ?_
    cases hF
    exact G.ret1 Try.results56 (RVar.tmp 2 _) ⟨rfl, trivial⟩ trivial
  · refine G.cond rfl (fun hx => by rw [hc1] at hx; cases hx) (fun _ => ?_)
    refine G.skip ?_
    refine G.seq ?_
    refine G.seq ?_
    refine G.joinC (T := Bool) (fun y2 => ⟨[(0, .one (bI .u8 c_0)), (10, .one (bB y2))], []⟩) (fun y2 => ref02_long_k1 c_0 y2 = some r) (fun y2 hF => ?_) (fun J10 => ?_)
    · unfold ref02_long_k1 at hF
      refine ifS hF (fun hc3 hF => ?_) (fun hc3 hF => ?_)
      · refine G.cond rfl (fun _ => ?_) (fun hx => by rw [hc3] at hx; cases hx)
        refine G.seq ?_
        refine G.region ?_
        refine G.op1 (op_assign (Ev.c _ rfl) rfl) rfl trivial trivial ?_
        refine G.endOps ?_
        cases hF
        exact G.ret1 Try.results56 (RVar.tmp 2 _) ⟨rfl, trivial⟩ trivial
      · refine G.cond rfl (fun hx => by rw [hc3] at hx; cases hx) (fun _ => ?_)
        refine G.skip ?_
        refine G.seq ?_
        refine G.seq ?_
        refine G.joinC (T := Bool) (fun y4 => ⟨[(0, .one (bI .u8 c_0)), (16, .one (bB y4))], []⟩) (fun y4 => ref02_long_k2 c_0 y4 = some r) (fun y4 hF => ?_) (fun J8 => ?_)
        · unfold ref02_long_k2 at hF
          refine ifS hF (fun hc5 hF => ?_) (fun hc5 hF => ?_)
          · refine G.cond rfl (fun _ => ?_) (fun hx => by rw [hc5] at hx; cases hx)
            refine G.seq ?_
            refine G.region ?_
            refine G.op1 (op_assign (Ev.c _ rfl) rfl) rfl trivial trivial ?_
            refine G.endOps ?_
            cases hF
            exact G.ret1 Try.results56 (RVar.tmp 2 _) ⟨rfl, trivial⟩ trivial
          · refine G.cond rfl (fun hx => by rw [hc5] at hx; cases hx) (fun _ => ?_)
            refine G.skip ?_
            refine G.seq ?_
            refine G.seq ?_
            refine G.region ?_
            refine G.op1 (op_move (Ev.t 0 (bI .u8 c_0)) rfl) rfl ⟨rfl, trivial⟩ trivial ?_
            refine G.op1 (op_geq (Ev.t 17 (bI .u8 c_0)) (Ev.c _ rfl) rfl) rfl ⟨rfl, trivial⟩ trivial ?_
            refine G.op1 (op_move (Ev.t 18 (bB (decide (240 ≤ c_0)))) rfl) rfl ⟨rfl, trivial⟩ trivial ?_
            refine ifS hF (fun hc6 hF => ?_) (fun hc6 hF => ?_)
            · refine G.known (t := 19) hc6 rfl ?_
              refine G.opG1 (op_move (Ev.t 0 (bI .u8 c_0)) rfl) rfl rfl rfl ⟨rfl, trivial⟩ trivial ?_
              refine G.opG1 (op_leq (Ev.t 20 (bI .u8 c_0)) (Ev.c _ rfl) rfl) rfl rfl rfl ⟨rfl, trivial⟩ trivial ?_
              refine G.op1 (op_pickT (Ev.t 19 (bB true)) (Ev.t 21 (bB (decide (c_0 ≤ 244)))) rfl) rfl ⟨rfl, rfl, trivial⟩ trivial ?_
              refine G.endOps ?_
              refine ifS hF (fun hc7 hF => ?_) (fun hc7 hF => ?_)
              · refine G.cond rfl (fun _ => ?_) (fun hx => by rw [hc7] at hx; cases hx)
                refine G.seq ?_
                refine G.region ?_
                refine G.op1 (op_assign (Ev.c _ rfl) rfl) rfl trivial trivial ?_
                refine G.endOps ?_
                cases hF
                exact G.ret1 Try.results56 (RVar.tmp 2 _) ⟨rfl, trivial⟩ trivial
              · refine G.cond rfl (fun hx => by rw [hc7] at hx; cases hx) (fun _ => ?_)
                refine G.skip ?_
                refine G.seq ?_
                refine G.region ?_
                refine G.op1 (op_assign (Ev.c _ rfl) rfl) rfl trivial trivial ?_
                refine G.endOps ?_
                cases hF
                exact G.ret1 Try.results56 (RVar.tmp 2 _) ⟨rfl, trivial⟩ trivial
            · refine G.known (t := 19) hc6 rfl ?_
              refine G.opN1 rfl rfl rfl rfl rfl ?_
              refine G.opN1 rfl rfl rfl rfl rfl ?_
              refine G.op1 (op_pickF (Ev.t 19 (bB false)) (Ev.c _ rfl) rfl) rfl ⟨rfl, trivial⟩ trivial ?_
              refine G.endOps ?_
              refine G.condF rfl ?_
              refine G.skip ?_
              refine G.seq ?_
              refine G.region ?_
              refine G.op1 (op_assign (Ev.c _ rfl) rfl) rfl trivial trivial ?_
              refine G.endOps ?_
              cases hF
              exact G.ret1 Try.results56 (RVar.tmp 2 _) ⟨rfl, trivial⟩ trivial
        refine G.region ?_
        refine G.op1 (op_move (Ev.t 0 (bI .u8 c_0)) rfl) rfl ⟨rfl, trivial⟩ trivial ?_
        refine G.op1 (op_geq (Ev.t 11 (bI .u8 c_0)) (Ev.c _ rfl) rfl) rfl ⟨rfl, trivial⟩ trivial ?_
        refine G.op1 (op_move (Ev.t 12 (bB (decide (224 ≤ c_0)))) rfl) rfl ⟨rfl, trivial⟩ trivial ?_
        refine ifS hF (fun hc9 hF => ?_) (fun hc9 hF => ?_)
        · refine G.known (t := 13) hc9 rfl ?_
          refine G.opG1 (op_move (Ev.t 0 (bI .u8 c_0)) rfl) rfl rfl rfl ⟨rfl, trivial⟩ trivial ?_
          refine G.opG1 (op_leq (Ev.t 14 (bI .u8 c_0)) (Ev.c _ rfl) rfl) rfl rfl rfl ⟨rfl, trivial⟩ trivial ?_
          refine G.op1 (op_pickT (Ev.t 13 (bB true)) (Ev.t 15 (bB (decide (c_0 ≤ 239)))) rfl) rfl ⟨rfl, rfl, trivial⟩ trivial ?_
          refine G.endOps ?_
          exact G.arr (J8 (decide (c_0 ≤ 239)) hF) ⟨rfl, rfl, trivial⟩ trivial rfl
        · refine G.known (t := 13) hc9 rfl ?_
          refine G.opN1 rfl rfl rfl rfl rfl ?_
          refine G.opN1 rfl rfl rfl rfl rfl ?_
          refine G.op1 (op_pickF (Ev.t 13 (bB false)) (Ev.c _ rfl) rfl) rfl ⟨rfl, trivial⟩ trivial ?_
          refine G.endOps ?_
          exact G.arr (J8 false hF) ⟨rfl, rfl, trivial⟩ trivial rfl
    refine G.region ?_
    refine G.op1 (op_move (Ev.t 0 (bI .u8 c_0)) rfl) rfl ⟨rfl, trivial⟩ trivial ?_
    refine G.op1 (op_geq (Ev.t 5 (bI .u8 c_0)) (Ev.c _ rfl) rfl) rfl ⟨rfl, trivial⟩ trivial ?_
    refine G.op1 (op_move (Ev.t 6 (bB (decide (194 ≤ c_0)))) rfl) rfl ⟨rfl, trivial⟩ trivial ?_
    refine ifS hF (fun hc11 hF => ?_) (fun hc11 hF => ?_)
    · refine G.known (t := 7) hc11 rfl ?_
      refine G.opG1 (op_move (Ev.t 0 (bI .u8 c_0)) rfl) rfl rfl rfl ⟨rfl, trivial⟩ trivial ?_
      refine G.opG1 (op_leq (Ev.t 8 (bI .u8 c_0)) (Ev.c _ rfl) rfl) rfl rfl rfl ⟨rfl, trivial⟩ trivial ?_
      refine G.op1 (op_pickT (Ev.t 7 (bB true)) (Ev.t 9 (bB (decide (c_0 ≤ 223)))) rfl) rfl ⟨rfl, rfl, trivial⟩ trivial ?_
      refine G.endOps ?_
      exact G.arr (J10 (decide (c_0 ≤ 223)) hF) ⟨rfl, rfl, trivial⟩ trivial rfl
    · refine G.known (t := 7) hc11 rfl ?_
      refine G.opN1 rfl rfl rfl rfl rfl ?_
      refine G.opN1 rfl rfl rfl rfl rfl ?_
      refine G.op1 (op_pickF (Ev.t 7 (bB false)) (Ev.c _ rfl) rfl) rfl ⟨rfl, trivial⟩ trivial ?_
      refine G.endOps ?_
      exact G.arr (J10 false hF) ⟨rfl, rfl, trivial⟩ trivial rfl


set_option maxRecDepth 20000 in
set_option maxHeartbeats 2000000 in
theorem ct_ref02_Runes (s_0 : ByteArray) (r : Int) (hF : ref02_Runes s_0 = some r) : Ct Try.prog 50 [.g (.d (.v (.string s_0)))] (.one (.d (.v (.int .i64 r)))) := by
  unfold ref02_Runes at hF
  refine Ct.intro Try.func50 rfl Try.ntmps50 rfl rfl fun M w => ?_
  refine G.seq ?_
  refine G.region ?_
  refine G.op1 (op_assign (Ev.c _ rfl) rfl) rfl trivial trivial ?_
  refine G.endOps ?_
  refine G.seq ?_
  refine G.region ?_
  refine G.op1 (op_assign (Ev.c _ rfl) rfl) rfl trivial trivial ?_
  refine G.endOps ?_
  refine G.seq ?_
  refine G.seq ?_
  refine G.region ?_
  refine G.op1 (op_assign (Ev.c _ rfl) rfl) rfl trivial trivial ?_
  refine G.endOps ?_
  refine G.joinC (T := Int) (fun y1 => ⟨[(3, .one (bI .i64 y1))], []⟩) (fun y1 => ref02_Runes_k1 y1 = some r) (fun y1 hF => ?_) (fun J2 => ?_)
  · unfold ref02_Runes_k1 at hF
    refine G.seq ?_
    refine G.region ?_
    refine G.op1 (op_move (Ev.t 3 (bI .i64 y1)) rfl) rfl ⟨rfl, trivial⟩ trivial ?_
    refine G.op1 (op_assign (Ev.t 99 (bI .i64 y1)) rfl) rfl ⟨rfl, trivial⟩ trivial ?_
    refine G.endOps ?_
    cases hF
    exact G.ret1 Try.results50 (RVar.tmp 2 _) ⟨rfl, trivial⟩ trivial
  refine G.block ?_
  refine G.keep (sl' := [(0, .one (bS s_0)), (3, .one (bI .i64 0)), (4, .one (bI .i64 0))]) (hp' := []) ⟨rfl, rfl, rfl, trivial⟩ trivial rfl ?_
  refine G.loopF (fun (v3 : Int × Int) => ⟨[(0, .one (bS s_0)), (3, .one (bI .i64 v3.1)), (4, .one (bI .i64 v3.2))], []⟩) hF rfl (fun K6 again5 v3 J4 hF => ?_)
  unfold ref02_Runes_l2 at hF
  refine G.seq ?_
  refine G.seq ?_
  refine G.region ?_
  refine G.op1 (op_move (Ev.t 4 (bI .i64 v3.2)) rfl) rfl ⟨rfl, trivial⟩ trivial ?_
  refine G.op1 (op_move (Ev.t 0 (bS s_0)) rfl) rfl ⟨rfl, trivial⟩ trivial ?_
  refine G.op1 (op_lenS Try.underlying9 (Ev.t 8 (bS s_0)) rfl) rfl ⟨rfl, trivial⟩ trivial ?_
  refine G.op1 (op_lss (Ev.t 7 (bI .i64 v3.2)) (Ev.t 9 (bI .i64 (s_0.size : Int))) rfl) rfl ⟨rfl, rfl, trivial⟩ trivial ?_
  refine G.endOps ?_
  refine ifS hF (fun hc7 hF => ?_) (fun hc7 hF => ?_)
  · refine G.cond rfl (fun _ => ?_) (fun hx => by rw [hc7] at hx; cases hx)
    refine G.skip ?_
    refine G.block ?_
    refine G.seq ?_
    refine G.region ?_
    refine G.op1 (op_move (Ev.t 0 (bS s_0)) rfl) rfl ⟨rfl, trivial⟩ trivial ?_
    refine G.op1 (op_move (Ev.t 4 (bI .i64 v3.2)) rfl) rfl ⟨rfl, trivial⟩ trivial ?_
    obtain ⟨b8, hb8, hF⟩ := bindS hF
    refine G.op1 (op_indexS Try.underlying9 (sidx_ok hb8).1 (sidx_ok hb8).2 (Ev.t 11 (bS s_0)) (Ev.t 12 (bI .i64 v3.2)) rfl) rfl ⟨rfl, rfl, trivial⟩ trivial ?_
    obtain ⟨r9, hr9, hF⟩ := bindS hF
    refine G.op1 (op_callQ (sv := .one (bI .i64 r9)) cf56 (ct_ref02_long (b8.toNat : Int) r9 hr9) rfl rfl (EvQL.cons (EvQ.g (Ev.t 13 (bI .u8 (b8.toNat : Int)))) EvQL.nil) rfl) rfl ⟨rfl, trivial⟩ trivial ?_
    refine G.op1 (op_assign (Ev.t 14 (bI .i64 r9)) rfl) rfl ⟨rfl, trivial⟩ trivial ?_
    refine G.endOps ?_
    refine G.seq ?_
    refine G.seq ?_
    refine G.joinC (T := Bool) (fun y10 => ⟨[(0, .one (bS s_0)), (3, .one (bI .i64 v3.1)), (4, .one (bI .i64 v3.2)), (5, .one (bI .i64 r9)), (24, .one (bB y10))], []⟩) (fun y10 => ref02_Runes_k3 s_0 again5 v3 r9 y10 = some r) (fun y10 hF => ?_) (fun J47 => ?_)
    · unfold ref02_Runes_k3 at hF
      refine ifS hF (fun hc11 hF => ?_) (fun hc11 hF => ?_)
      · refine G.cond rfl (fun _ => ?_) (fun hx => by rw [hc11] at hx; cases hx)
        refine G.seq ?_
        refine G.region ?_
        refine G.op1 (op_assign (Ev.c _ rfl) rfl) rfl trivial trivial ?_
        refine G.endOps ?_
        cases hF
        exact G.ret1 Try.results50 (RVar.tmp 2 _) ⟨rfl, trivial⟩ trivial
      · refine G.cond rfl (fun hx => by rw [hc11] at hx; cases hx) (fun _ => ?_)
        refine G.skip ?_
        refine G.seq ?_
        refine G.seq ?_
        refine G.region ?_
        refine G.op1 (op_assign (Ev.c _ rfl) rfl) rfl trivial trivial ?_
        refine G.endOps ?_
        refine G.joinC (T := Unit) (fun y12 => ⟨[(0, .one (bS s_0)), (3, .one (bI .i64 v3.1)), (4, .one (bI .i64 v3.2)), (5, .one (bI .i64 r9))], []⟩) (fun y12 => ref02_Runes_k4 s_0 again5 v3 r9 y12 = some r) (fun y12 hF => ?_) (fun J37 => ?_)
        · unfold ref02_Runes_k4 at hF
          refine G.seq ?_
          refine G.seq ?_
          refine G.joinC (T := Bool) (fun y13 => ⟨[(0, .one (bS s_0)), (3, .one (bI .i64 v3.1)), (4, .one (bI .i64 v3.2)), (5, .one (bI .i64 r9)), (93, .one (bB y13))], []⟩) (fun y13 => ref02_Runes_k5 again5 v3 r9 y13 = some r) (fun y13 hF => ?_) (fun J15 => ?_)
          · unfold ref02_Runes_k5 at hF
            refine ifS hF (fun hc14 hF => ?_) (fun hc14 hF => ?_)
            · refine G.cond rfl (fun _ => ?_) (fun hx => by rw [hc14] at hx; cases hx)
              refine G.seq ?_
              refine G.region ?_
              refine G.op1 (op_assign (Ev.c _ rfl) rfl) rfl trivial trivial ?_
              refine G.endOps ?_
              cases hF
              exact G.ret1 Try.results50 (RVar.tmp 2 _) ⟨rfl, trivial⟩ trivial
            · refine G.cond rfl (fun hx => by rw [hc14] at hx; cases hx) (fun _ => ?_)
              refine G.skip ?_
              refine G.seq ?_
              refine G.region ?_
              refine G.op1 (op_move (Ev.t 4 (bI .i64 v3.2)) rfl) rfl ⟨rfl, trivial⟩ trivial ?_
              refine G.op1 (op_move (Ev.t 5 (bI .i64 r9)) rfl) rfl ⟨rfl, trivial⟩ trivial ?_
              refine G.op1 (op_add (Ev.t 94 (bI .i64 v3.2)) (Ev.t 95 (bI .i64 r9)) rfl) rfl ⟨rfl, rfl, trivial⟩ trivial ?_
              refine G.op1 (op_assign (Ev.t 96 (bI .i64 (IntKind.wrap .i64 (v3.2 + r9)))) rfl) rfl ⟨rfl, trivial⟩ trivial ?_
              refine G.endOps ?_
              refine G.region ?_
              refine G.op1 (op_move (Ev.t 3 (bI .i64 v3.1)) rfl) rfl ⟨rfl, trivial⟩ trivial ?_
              refine G.op1 (op_add (Ev.t 97 (bI .i64 v3.1)) (Ev.c _ rfl) rfl) rfl ⟨rfl, trivial⟩ trivial ?_
              refine G.op1 (op_assign (Ev.t 98 (bI .i64 (IntKind.wrap .i64 (v3.1 + 1)))) rfl) rfl ⟨rfl, trivial⟩ trivial ?_
              refine G.endOps ?_
              refine G.endBlock ?_
              exact G.arr (J4 (IntKind.wrap .i64 (v3.1 + 1), IntKind.wrap .i64 (v3.2 + r9)) hF) ⟨rfl, rfl, rfl, trivial⟩ trivial rfl
          refine G.region ?_
          refine G.op1 (op_move (Ev.t 0 (bS s_0)) rfl) rfl ⟨rfl, trivial⟩ trivial ?_
          refine G.op1 (op_move (Ev.t 4 (bI .i64 v3.2)) rfl) rfl ⟨rfl, trivial⟩ trivial ?_
          obtain ⟨b16, hb16, hF⟩ := bindS hF
          refine G.op1 (op_indexS Try.underlying9 (sidx_ok hb16).1 (sidx_ok hb16).2 (Ev.t 44 (bS s_0)) (Ev.t 45 (bI .i64 v3.2)) rfl) rfl ⟨rfl, rfl, trivial⟩ trivial ?_
          refine G.op1 (op_eqI (Ev.t 46 (bI .u8 (b16.toNat : Int))) (Ev.c _ rfl) rfl) rfl ⟨rfl, trivial⟩ trivial ?_
          refine G.op1 (op_move (Ev.t 47 (bB (decide ((b16.toNat : Int) = 224)))) rfl) rfl ⟨rfl, trivial⟩ trivial ?_
          refine G.joinL (T := Bool) 6 (fun y17 => ⟨[(0, .one (bS s_0)), (3, .one (bI .i64 v3.1)), (4, .one (bI .i64 v3.2)), (5, .one (bI .i64 r9)), (54, .one (bB y17))], []⟩) (fun y17 => ref02_Runes_k6 s_0 again5 v3 r9 y17 = some r) (fun y17 hF => ?_) (fun J34 => ?_)
          · unfold ref02_Runes_k6 at hF
            refine G.op1 (op_move (Ev.t 54 (bB y17)) rfl) rfl ⟨rfl, trivial⟩ trivial ?_
            refine G.joinL (T := Bool) 12 (fun y18 => ⟨[(0, .one (bS s_0)), (3, .one (bI .i64 v3.1)), (4, .one (bI .i64 v3.2)), (5, .one (bI .i64 r9)), (67, .one (bB y18))], []⟩) (fun y18 => ref02_Runes_k7 s_0 again5 v3 r9 y18 = some r) (fun y18 hF => ?_) (fun J29 => ?_)
            · unfold ref02_Runes_k7 at hF
              refine G.op1 (op_move (Ev.t 67 (bB y18)) rfl) rfl ⟨rfl, trivial⟩ trivial ?_
              refine G.joinL (T := Bool) 12 (fun y19 => ⟨[(0, .one (bS s_0)), (3, .one (bI .i64 v3.1)), (4, .one (bI .i64 v3.2)), (5, .one (bI .i64 r9)), (80, .one (bB y19))], []⟩) (fun y19 => ref02_Runes_k8 s_0 again5 v3 r9 y19 = some r) (fun y19 hF => ?_) (fun J24 => ?_)
              · unfold ref02_Runes_k8 at hF
                refine G.op1 (op_move (Ev.t 80 (bB y19)) rfl) rfl ⟨rfl, trivial⟩ trivial ?_
                refine ifS hF (fun hc20 hF => ?_) (fun hc20 hF => ?_)
                · refine G.known (t := 81) hc20 rfl ?_
                  refine G.opN1 rfl rfl rfl rfl rfl ?_
                  refine G.opN1 rfl rfl rfl rfl rfl ?_
                  refine G.opN1 rfl rfl rfl rfl rfl ?_
                  refine G.opN1 rfl rfl rfl rfl rfl ?_
                  refine G.opN1 rfl rfl rfl rfl rfl ?_
                  refine G.opU rfl rfl rfl rfl ?_
                  refine G.opU rfl rfl rfl rfl ?_
                  refine G.opU rfl rfl rfl rfl ?_
                  refine G.opU rfl rfl rfl rfl ?_
                  refine G.opU rfl rfl rfl rfl ?_
                  refine G.opN1 rfl rfl rfl rfl rfl ?_
                  refine G.op1 (op_pickT (Ev.t 81 (bB true)) (Ev.c _ rfl) rfl) rfl ⟨rfl, trivial⟩ trivial ?_
                  refine G.endOps ?_
                  exact G.arr (J15 true hF) ⟨rfl, rfl, rfl, rfl, rfl, trivial⟩ trivial rfl
                · refine G.known (t := 81) hc20 rfl ?_
                  refine G.opG1 (op_move (Ev.t 0 (bS s_0)) rfl) rfl rfl rfl ⟨rfl, trivial⟩ trivial ?_
                  refine G.opG1 (op_move (Ev.t 4 (bI .i64 v3.2)) rfl) rfl rfl rfl ⟨rfl, trivial⟩ trivial ?_
                  obtain ⟨b21, hb21, hF⟩ := bindS hF
                  refine G.opG1 (op_indexS Try.underlying9 (sidx_ok hb21).1 (sidx_ok hb21).2 (Ev.t 82 (bS s_0)) (Ev.t 83 (bI .i64 v3.2)) rfl) rfl rfl rfl ⟨rfl, rfl, trivial⟩ trivial ?_
                  refine G.opG1 (op_eqI (Ev.t 84 (bI .u8 (b21.toNat : Int))) (Ev.c _ rfl) rfl) rfl rfl rfl ⟨rfl, trivial⟩ trivial ?_
                  refine G.opG1 (op_move (Ev.t 85 (bB (decide ((b21.toNat : Int) = 244)))) rfl) rfl rfl rfl ⟨rfl, trivial⟩ trivial ?_
                  refine ifS hF (fun hc22 hF => ?_) (fun hc22 hF => ?_)
                  · refine G.known (t := 86) hc22 rfl ?_
                    refine G.opG1 (op_move (Ev.t 0 (bS s_0)) rfl) rfl rfl rfl ⟨rfl, trivial⟩ trivial ?_
                    refine G.opG1 (op_move (Ev.t 4 (bI .i64 v3.2)) rfl) rfl rfl rfl ⟨rfl, trivial⟩ trivial ?_
                    refine G.opG1 (op_add (Ev.t 88 (bI .i64 v3.2)) (Ev.c _ rfl) rfl) rfl rfl rfl ⟨rfl, trivial⟩ trivial ?_
                    obtain ⟨b23, hb23, hF⟩ := bindS hF
                    refine G.opG1 (op_indexS Try.underlying9 (sidx_ok hb23).1 (sidx_ok hb23).2 (Ev.t 87 (bS s_0)) (Ev.t 89 (bI .i64 (IntKind.wrap .i64 (v3.2 + 1)))) rfl) rfl rfl rfl ⟨rfl, rfl, trivial⟩ trivial ?_
                    refine G.opG1 (op_gtr (Ev.t 90 (bI .u8 (b23.toNat : Int))) (Ev.c _ rfl) rfl) rfl rfl rfl ⟨rfl, trivial⟩ trivial ?_
                    refine G.opG1 (op_pickT (Ev.t 86 (bB true)) (Ev.t 91 (bB (decide (143 < (b23.toNat : Int))))) rfl) rfl rfl rfl ⟨rfl, rfl, trivial⟩ trivial ?_
                    refine G.op1 (op_pickF (Ev.t 81 (bB false)) (Ev.t 92 (bB (decide (143 < (b23.toNat : Int))))) rfl) rfl ⟨rfl, rfl, trivial⟩ trivial ?_
                    refine G.endOps ?_
                    exact G.arr (J15 (decide (143 < (b23.toNat : Int))) hF) ⟨rfl, rfl, rfl, rfl, rfl, trivial⟩ trivial rfl
                  · refine G.known (t := 86) hc22 rfl ?_
                    refine G.opN1 rfl rfl rfl rfl rfl ?_
                    refine G.opN1 rfl rfl rfl rfl rfl ?_
                    refine G.opN1 rfl rfl rfl rfl rfl ?_
                    refine G.opN1 rfl rfl rfl rfl rfl ?_
                    refine G.opN1 rfl rfl rfl rfl rfl ?_
                    refine G.opG1 (op_pickF (Ev.t 86 (bB false)) (Ev.c _ rfl) rfl) rfl rfl rfl ⟨rfl, trivial⟩ trivial ?_
                    refine G.op1 (op_pickF (Ev.t 81 (bB false)) (Ev.t 92 (bB false)) rfl) rfl ⟨rfl, rfl, trivial⟩ trivial ?_
                    refine G.endOps ?_
                    exact G.arr (J15 false hF) ⟨rfl, rfl, rfl, rfl, rfl, trivial⟩ trivial rfl
              refine ifS hF (fun hc25 hF => ?_) (fun hc25 hF => ?_)
              · refine G.known (t := 68) hc25 rfl ?_
                refine G.opN1 rfl rfl rfl rfl rfl ?_
                refine G.opN1 rfl rfl rfl rfl rfl ?_
                refine G.opN1 rfl rfl rfl rfl rfl ?_
                refine G.opN1 rfl rfl rfl rfl rfl ?_
                refine G.opN1 rfl rfl rfl rfl rfl ?_
                refine G.opU rfl rfl rfl rfl ?_
                refine G.opU rfl rfl rfl rfl ?_
                refine G.opU rfl rfl rfl rfl ?_
                refine G.opU rfl rfl rfl rfl ?_
                refine G.opU rfl rfl rfl rfl ?_
                refine G.opN1 rfl rfl rfl rfl rfl ?_
                refine G.op1 (op_pickT (Ev.t 68 (bB true)) (Ev.c _ rfl) rfl) rfl ⟨rfl, trivial⟩ trivial ?_
                exact G.arr (J24 true hF) ⟨rfl, rfl, rfl, rfl, rfl, trivial⟩ trivial rfl
              · refine G.known (t := 68) hc25 rfl ?_
                refine G.opG1 (op_move (Ev.t 0 (bS s_0)) rfl) rfl rfl rfl ⟨rfl, trivial⟩ trivial ?_
                refine G.opG1 (op_move (Ev.t 4 (bI .i64 v3.2)) rfl) rfl rfl rfl ⟨rfl, trivial⟩ trivial ?_
                obtain ⟨b26, hb26, hF⟩ := bindS hF
                refine G.opG1 (op_indexS Try.underlying9 (sidx_ok hb26).1 (sidx_ok hb26).2 (Ev.t 69 (bS s_0)) (Ev.t 70 (bI .i64 v3.2)) rfl) rfl rfl rfl ⟨rfl, rfl, trivial⟩ trivial ?_
                refine G.opG1 (op_eqI (Ev.t 71 (bI .u8 (b26.toNat : Int))) (Ev.c _ rfl) rfl) rfl rfl rfl ⟨rfl, trivial⟩ trivial ?_
                refine G.opG1 (op_move (Ev.t 72 (bB (decide ((b26.toNat : Int) = 240)))) rfl) rfl rfl rfl ⟨rfl, trivial⟩ trivial ?_
                refine ifS hF (fun hc27 hF => ?_) (fun hc27 hF => ?_)
                · refine G.known (t := 73) hc27 rfl ?_
                  refine G.opG1 (op_move (Ev.t 0 (bS s_0)) rfl) rfl rfl rfl ⟨rfl, trivial⟩ trivial ?_
                  refine G.opG1 (op_move (Ev.t 4 (bI .i64 v3.2)) rfl) rfl rfl rfl ⟨rfl, trivial⟩ trivial ?_
                  refine G.opG1 (op_add (Ev.t 75 (bI .i64 v3.2)) (Ev.c _ rfl) rfl) rfl rfl rfl ⟨rfl, trivial⟩ trivial ?_
                  obtain ⟨b28, hb28, hF⟩ := bindS hF
                  refine G.opG1 (op_indexS Try.underlying9 (sidx_ok hb28).1 (sidx_ok hb28).2 (Ev.t 74 (bS s_0)) (Ev.t 76 (bI .i64 (IntKind.wrap .i64 (v3.2 + 1)))) rfl) rfl rfl rfl ⟨rfl, rfl, trivial⟩ trivial ?_
                  refine G.opG1 (op_lss (Ev.t 77 (bI .u8 (b28.toNat : Int))) (Ev.c _ rfl) rfl) rfl rfl rfl ⟨rfl, trivial⟩ trivial ?_
                  refine G.opG1 (op_pickT (Ev.t 73 (bB true)) (Ev.t 78 (bB (decide ((b28.toNat : Int) < 144)))) rfl) rfl rfl rfl ⟨rfl, rfl, trivial⟩ trivial ?_
                  refine G.op1 (op_pickF (Ev.t 68 (bB false)) (Ev.t 79 (bB (decide ((b28.toNat : Int) < 144)))) rfl) rfl ⟨rfl, rfl, trivial⟩ trivial ?_
                  exact G.arr (J24 (decide ((b28.toNat : Int) < 144)) hF) ⟨rfl, rfl, rfl, rfl, rfl, trivial⟩ trivial rfl
                · refine G.known (t := 73) hc27 rfl ?_
                  refine G.opN1 rfl rfl rfl rfl rfl ?_
                  refine G.opN1 rfl rfl rfl rfl rfl ?_
                  refine G.opN1 rfl rfl rfl rfl rfl ?_
                  refine G.opN1 rfl rfl rfl rfl rfl ?_
                  refine G.opN1 rfl rfl rfl rfl rfl ?_
                  refine G.opG1 (op_pickF (Ev.t 73 (bB false)) (Ev.c _ rfl) rfl) rfl rfl rfl ⟨rfl, trivial⟩ trivial ?_
                  refine G.op1 (op_pickF (Ev.t 68 (bB false)) (Ev.t 79 (bB false)) rfl) rfl ⟨rfl, rfl, trivial⟩ trivial ?_
                  exact G.arr (J24 false hF) ⟨rfl, rfl, rfl, rfl, rfl, trivial⟩ trivial rfl
            refine ifS hF (fun hc30 hF => ?_) (fun hc30 hF => ?_)
            · refine G.known (t := 55) hc30 rfl ?_
              refine G.opN1 rfl rfl rfl rfl rfl ?_
              refine G.opN1 rfl rfl rfl rfl rfl ?_
              refine G.opN1 rfl rfl rfl rfl rfl ?_
              refine G.opN1 rfl rfl rfl rfl rfl ?_
              refine G.opN1 rfl rfl rfl rfl rfl ?_
              refine G.opU rfl rfl rfl rfl ?_
              refine G.opU rfl rfl rfl rfl ?_
              refine G.opU rfl rfl rfl rfl ?_
              refine G.opU rfl rfl rfl rfl ?_
              refine G.opU rfl rfl rfl rfl ?_
              refine G.opN1 rfl rfl rfl rfl rfl ?_
              refine G.op1 (op_pickT (Ev.t 55 (bB true)) (Ev.c _ rfl) rfl) rfl ⟨rfl, trivial⟩ trivial ?_
              exact G.arr (J29 true hF) ⟨rfl, rfl, rfl, rfl, rfl, trivial⟩ trivial rfl
            · refine G.known (t := 55) hc30 rfl ?_
              refine G.opG1 (op_move (Ev.t 0 (bS s_0)) rfl) rfl rfl rfl ⟨rfl, trivial⟩ trivial ?_
              refine G.opG1 (op_move (Ev.t 4 (bI .i64 v3.2)) rfl) rfl rfl rfl ⟨rfl, trivial⟩ trivial ?_
              obtain ⟨b31, hb31, hF⟩ := bindS hF
              refine G.opG1 (op_indexS Try.underlying9 (sidx_ok hb31).1 (sidx_ok hb31).2 (Ev.t 56 (bS s_0)) (Ev.t 57 (bI .i64 v3.2)) rfl) rfl rfl rfl ⟨rfl, rfl, trivial⟩ trivial ?_
              refine G.opG1 (op_eqI (Ev.t 58 (bI .u8 (b31.toNat : Int))) (Ev.c _ rfl) rfl) rfl rfl rfl ⟨rfl, trivial⟩ trivial ?_
              refine G.opG1 (op_move (Ev.t 59 (bB (decide ((b31.toNat : Int) = 237)))) rfl) rfl rfl rfl ⟨rfl, trivial⟩ trivial ?_
              refine ifS hF (fun hc32 hF => ?_) (fun hc32 hF => ?_)
              · refine G.known (t := 60) hc32 rfl ?_
                refine G.opG1 (op_move (Ev.t 0 (bS s_0)) rfl) rfl rfl rfl ⟨rfl, trivial⟩ trivial ?_
                refine G.opG1 (op_move (Ev.t 4 (bI .i64 v3.2)) rfl) rfl rfl rfl ⟨rfl, trivial⟩ trivial ?_
                refine G.opG1 (op_add (Ev.t 62 (bI .i64 v3.2)) (Ev.c _ rfl) rfl) rfl rfl rfl ⟨rfl, trivial⟩ trivial ?_
                obtain ⟨b33, hb33, hF⟩ := bindS hF
                refine G.opG1 (op_indexS Try.underlying9 (sidx_ok hb33).1 (sidx_ok hb33).2 (Ev.t 61 (bS s_0)) (Ev.t 63 (bI .i64 (IntKind.wrap .i64 (v3.2 + 1)))) rfl) rfl rfl rfl ⟨rfl, rfl, trivial⟩ trivial ?_
                refine G.opG1 (op_gtr (Ev.t 64 (bI .u8 (b33.toNat : Int))) (Ev.c _ rfl) rfl) rfl rfl rfl ⟨rfl, trivial⟩ trivial ?_
                refine G.opG1 (op_pickT (Ev.t 60 (bB true)) (Ev.t 65 (bB (decide (159 < (b33.toNat : Int))))) rfl) rfl rfl rfl ⟨rfl, rfl, trivial⟩ trivial ?_
                refine G.op1 (op_pickF (Ev.t 55 (bB false)) (Ev.t 66 (bB (decide (159 < (b33.toNat : Int))))) rfl) rfl ⟨rfl, rfl, trivial⟩ trivial ?_
                exact G.arr (J29 (decide (159 < (b33.toNat : Int))) hF) ⟨rfl, rfl, rfl, rfl, rfl, trivial⟩ trivial rfl
              · refine G.known (t := 60) hc32 rfl ?_
                refine G.opN1 rfl rfl rfl rfl rfl ?_
                refine G.opN1 rfl rfl rfl rfl rfl ?_
                refine G.opN1 rfl rfl rfl rfl rfl ?_
                refine G.opN1 rfl rfl rfl rfl rfl ?_
                refine G.opN1 rfl rfl rfl rfl rfl ?_
                refine G.opG1 (op_pickF (Ev.t 60 (bB false)) (Ev.c _ rfl) rfl) rfl rfl rfl ⟨rfl, trivial⟩ trivial ?_
                refine G.op1 (op_pickF (Ev.t 55 (bB false)) (Ev.t 66 (bB false)) rfl) rfl ⟨rfl, rfl, trivial⟩ trivial ?_
                exact G.arr (J29 false hF) ⟨rfl, rfl, rfl, rfl, rfl, trivial⟩ trivial rfl
          refine ifS hF (fun hc35 hF => ?_) (fun hc35 hF => ?_)
          · refine G.known (t := 48) hc35 rfl ?_
            refine G.opG1 (op_move (Ev.t 0 (bS s_0)) rfl) rfl rfl rfl ⟨rfl, trivial⟩ trivial ?_
            refine G.opG1 (op_move (Ev.t 4 (bI .i64 v3.2)) rfl) rfl rfl rfl ⟨rfl, trivial⟩ trivial ?_
            refine G.opG1 (op_add (Ev.t 50 (bI .i64 v3.2)) (Ev.c _ rfl) rfl) rfl rfl rfl ⟨rfl, trivial⟩ trivial ?_
            obtain ⟨b36, hb36, hF⟩ := bindS hF
            refine G.opG1 (op_indexS Try.underlying9 (sidx_ok hb36).1 (sidx_ok hb36).2 (Ev.t 49 (bS s_0)) (Ev.t 51 (bI .i64 (IntKind.wrap .i64 (v3.2 + 1)))) rfl) rfl rfl rfl ⟨rfl, rfl, trivial⟩ trivial ?_
            refine G.opG1 (op_lss (Ev.t 52 (bI .u8 (b36.toNat : Int))) (Ev.c _ rfl) rfl) rfl rfl rfl ⟨rfl, trivial⟩ trivial ?_
            refine G.op1 (op_pickT (Ev.t 48 (bB true)) (Ev.t 53 (bB (decide ((b36.toNat : Int) < 160)))) rfl) rfl ⟨rfl, rfl, trivial⟩ trivial ?_
            exact G.arr (J34 (decide ((b36.toNat : Int) < 160)) hF) ⟨rfl, rfl, rfl, rfl, rfl, trivial⟩ trivial rfl
          · refine G.known (t := 48) hc35 rfl ?_
            refine G.opN1 rfl rfl rfl rfl rfl ?_
            refine G.opN1 rfl rfl rfl rfl rfl ?_
            refine G.opN1 rfl rfl rfl rfl rfl ?_
            refine G.opN1 rfl rfl rfl rfl rfl ?_
            refine G.opN1 rfl rfl rfl rfl rfl ?_
            refine G.op1 (op_pickF (Ev.t 48 (bB false)) (Ev.c _ rfl) rfl) rfl ⟨rfl, trivial⟩ trivial ?_
            exact G.arr (J34 false hF) ⟨rfl, rfl, rfl, rfl, rfl, trivial⟩ trivial rfl
        refine G.block ?_
        refine G.keep (sl' := [(0, .one (bS s_0)), (3, .one (bI .i64 v3.1)), (4, .one (bI .i64 v3.2)), (5, .one (bI .i64 r9)), (6, .one (bI .i64 1))]) (hp' := []) ⟨rfl, rfl, rfl, rfl, rfl, trivial⟩ trivial rfl ?_
        refine G.loopF (fun (v38 : Int) => ⟨[(0, .one (bS s_0)), (3, .one (bI .i64 v3.1)), (4, .one (bI .i64 v3.2)), (5, .one (bI .i64 r9)), (6, .one (bI .i64 v38))], []⟩) hF rfl (fun K41 again40 v38 J39 hF => ?_)
        unfold ref02_Runes_l9 at hF
        refine G.seq ?_
        refine G.seq ?_
        refine G.region ?_
        refine G.op1 (op_move (Ev.t 6 (bI .i64 v38)) rfl) rfl ⟨rfl, trivial⟩ trivial ?_
        refine G.op1 (op_move (Ev.t 5 (bI .i64 r9)) rfl) rfl ⟨rfl, trivial⟩ trivial ?_
        refine G.op1 (op_lss (Ev.t 25 (bI .i64 v38)) (Ev.t 26 (bI .i64 r9)) rfl) rfl ⟨rfl, rfl, trivial⟩ trivial ?_
        refine G.endOps ?_
        refine ifS hF (fun hc42 hF => ?_) (fun hc42 hF => ?_)
        · refine G.cond rfl (fun _ => ?_) (fun hx => by rw [hc42] at hx; cases hx)
          refine G.skip ?_
          refine G.seq ?_
          refine G.block ?_
          refine G.seq ?_
          refine G.region ?_
          refine G.op1 (op_move (Ev.t 0 (bS s_0)) rfl) rfl ⟨rfl, trivial⟩ trivial ?_
          refine G.op1 (op_move (Ev.t 4 (bI .i64 v3.2)) rfl) rfl ⟨rfl, trivial⟩ trivial ?_
          refine G.op1 (op_move (Ev.t 6 (bI .i64 v38)) rfl) rfl ⟨rfl, trivial⟩ trivial ?_
          refine G.op1 (op_add (Ev.t 31 (bI .i64 v3.2)) (Ev.t 32 (bI .i64 v38)) rfl) rfl ⟨rfl, rfl, trivial⟩ trivial ?_
          obtain ⟨b43, hb43, hF⟩ := bindS hF
          refine G.op1 (op_indexS Try.underlying9 (sidx_ok hb43).1 (sidx_ok hb43).2 (Ev.t 30 (bS s_0)) (Ev.t 33 (bI .i64 (IntKind.wrap .i64 (v3.2 + v38)))) rfl) rfl ⟨rfl, rfl, trivial⟩ trivial ?_
          refine G.op1 (op_lss (Ev.t 34 (bI .u8 (b43.toNat : Int))) (Ev.c _ rfl) rfl) rfl ⟨rfl, trivial⟩ trivial ?_
          refine G.op1 (op_move (Ev.t 35 (bB (decide ((b43.toNat : Int) < 128)))) rfl) rfl ⟨rfl, trivial⟩ trivial ?_
          refine ifS hF (fun hc44 hF => ?_) (fun hc44 hF => ?_)
          · refine G.known (t := 36) hc44 rfl ?_
            refine G.opN1 rfl rfl rfl rfl rfl ?_
            refine G.opN1 rfl rfl rfl rfl rfl ?_
            refine G.opN1 rfl rfl rfl rfl rfl ?_
            refine G.opN1 rfl rfl rfl rfl rfl ?_
            refine G.opN1 rfl rfl rfl rfl rfl ?_
            refine G.opN1 rfl rfl rfl rfl rfl ?_
            refine G.op1 (op_pickT (Ev.t 36 (bB true)) (Ev.c _ rfl) rfl) rfl ⟨rfl, trivial⟩ trivial ?_
            refine G.endOps ?_
            refine G.condT rfl ?_
            refine G.seq ?_
            refine G.region ?_
            refine G.op1 (op_assign (Ev.c _ rfl) rfl) rfl trivial trivial ?_
            refine G.endOps ?_
            cases hF
            exact G.ret1 Try.results50 (RVar.tmp 2 _) ⟨rfl, trivial⟩ trivial
          · refine G.known (t := 36) hc44 rfl ?_
            refine G.opG1 (op_move (Ev.t 0 (bS s_0)) rfl) rfl rfl rfl ⟨rfl, trivial⟩ trivial ?_
            refine G.opG1 (op_move (Ev.t 4 (bI .i64 v3.2)) rfl) rfl rfl rfl ⟨rfl, trivial⟩ trivial ?_
            refine G.opG1 (op_move (Ev.t 6 (bI .i64 v38)) rfl) rfl rfl rfl ⟨rfl, trivial⟩ trivial ?_
            refine G.opG1 (op_add (Ev.t 38 (bI .i64 v3.2)) (Ev.t 39 (bI .i64 v38)) rfl) rfl rfl rfl ⟨rfl, rfl, trivial⟩ trivial ?_
            obtain ⟨b45, hb45, hF⟩ := bindS hF
            refine G.opG1 (op_indexS Try.underlying9 (sidx_ok hb45).1 (sidx_ok hb45).2 (Ev.t 37 (bS s_0)) (Ev.t 40 (bI .i64 (IntKind.wrap .i64 (v3.2 + v38)))) rfl) rfl rfl rfl ⟨rfl, rfl, trivial⟩ trivial ?_
            refine G.opG1 (op_gtr (Ev.t 41 (bI .u8 (b45.toNat : Int))) (Ev.c _ rfl) rfl) rfl rfl rfl ⟨rfl, trivial⟩ trivial ?_
            refine G.op1 (op_pickF (Ev.t 36 (bB false)) (Ev.t 42 (bB (decide (191 < (b45.toNat : Int))))) rfl) rfl ⟨rfl, rfl, trivial⟩ trivial ?_
            refine G.endOps ?_
            refine ifS hF (fun hc46 hF => ?_) (fun hc46 hF => ?_)
            · refine G.cond rfl (fun _ => ?_) (fun hx => by rw [hc46] at hx; cases hx)
              refine G.seq ?_
              refine G.region ?_
              refine G.op1 (op_assign (Ev.c _ rfl) rfl) rfl trivial trivial ?_
              refine G.endOps ?_
              cases hF
              exact G.ret1 Try.results50 (RVar.tmp 2 _) ⟨rfl, trivial⟩ trivial
            · refine G.cond rfl (fun hx => by rw [hc46] at hx; cases hx) (fun _ => ?_)
              refine G.skip ?_
              refine G.endBlock ?_
              refine G.region ?_
              refine G.op1 (op_move (Ev.t 6 (bI .i64 v38)) rfl) rfl ⟨rfl, trivial⟩ trivial ?_
              refine G.op1 (op_add (Ev.t 28 (bI .i64 v38)) (Ev.c _ rfl) rfl) rfl ⟨rfl, trivial⟩ trivial ?_
              refine G.op1 (op_assign (Ev.t 29 (bI .i64 (IntKind.wrap .i64 (v38 + 1)))) rfl) rfl ⟨rfl, trivial⟩ trivial ?_
              refine G.endOps ?_
              exact G.arr (J39 (IntKind.wrap .i64 (v38 + 1)) hF) ⟨rfl, rfl, rfl, rfl, rfl, trivial⟩ trivial rfl
        · refine G.cond rfl (fun hx => by rw [hc42] at hx; cases hx) (fun _ => ?_)
          refine G.exit ?_
          refine GX.c ?_
          refine GX.q ?_
          refine GX.bYes ?_
          exact G.arr (J37 () hF) ⟨rfl, rfl, rfl, rfl, trivial⟩ trivial rfl
    refine G.region ?_
    refine G.op1 (op_move (Ev.t 5 (bI .i64 r9)) rfl) rfl ⟨rfl, trivial⟩ trivial ?_
    refine G.op1 (op_eqI (Ev.t 15 (bI .i64 r9)) (Ev.c _ rfl) rfl) rfl ⟨rfl, trivial⟩ trivial ?_
    refine G.op1 (op_move (Ev.t 16 (bB (decide (r9 = 0)))) rfl) rfl ⟨rfl, trivial⟩ trivial ?_
    refine ifS hF (fun hc48 hF => ?_) (fun hc48 hF => ?_)
    · refine G.known (t := 17) hc48 rfl ?_
      refine G.opN1 rfl rfl rfl rfl rfl ?_
      refine G.opN1 rfl rfl rfl rfl rfl ?_
      refine G.opN1 rfl rfl rfl rfl rfl ?_
      refine G.opN1 rfl rfl rfl rfl rfl ?_
      refine G.opN1 rfl rfl rfl rfl rfl ?_
      refine G.opN1 rfl rfl rfl rfl rfl ?_
      refine G.op1 (op_pickT (Ev.t 17 (bB true)) (Ev.c _ rfl) rfl) rfl ⟨rfl, trivial⟩ trivial ?_
      refine G.endOps ?_
      exact G.arr (J47 true hF) ⟨rfl, rfl, rfl, rfl, rfl, trivial⟩ trivial rfl
    · refine G.known (t := 17) hc48 rfl ?_
      refine G.opG1 (op_move (Ev.t 5 (bI .i64 r9)) rfl) rfl rfl rfl ⟨rfl, trivial⟩ trivial ?_
      refine G.opG1 (op_move (Ev.t 0 (bS s_0)) rfl) rfl rfl rfl ⟨rfl, trivial⟩ trivial ?_
      refine G.opG1 (op_lenS Try.underlying9 (Ev.t 19 (bS s_0)) rfl) rfl rfl rfl ⟨rfl, trivial⟩ trivial ?_
      refine G.opG1 (op_move (Ev.t 4 (bI .i64 v3.2)) rfl) rfl rfl rfl ⟨rfl, trivial⟩ trivial ?_
      refine G.opG1 (op_sub (Ev.t 20 (bI .i64 (s_0.size : Int))) (Ev.t 21 (bI .i64 v3.2)) rfl) rfl rfl rfl ⟨rfl, rfl, trivial⟩ trivial ?_
      refine G.opG1 (op_gtr (Ev.t 18 (bI .i64 r9)) (Ev.t 22 (bI .i64 (IntKind.wrap .i64 ((s_0.size : Int) - v3.2)))) rfl) rfl rfl rfl ⟨rfl, rfl, trivial⟩ trivial ?_
      refine G.op1 (op_pickF (Ev.t 17 (bB false)) (Ev.t 23 (bB (decide ((IntKind.wrap .i64 ((s_0.size : Int) - v3.2)) < r9)))) rfl) rfl ⟨rfl, rfl, trivial⟩ trivial ?_
      refine G.endOps ?_
      exact G.arr (J47 (decide ((IntKind.wrap .i64 ((s_0.size : Int) - v3.2)) < r9)) hF) ⟨rfl, rfl, rfl, rfl, rfl, trivial⟩ trivial rfl
  · refine G.cond rfl (fun hx => by rw [hc7] at hx; cases hx) (fun _ => ?_)
    refine G.exit ?_
    refine GX.c ?_
    refine GX.q ?_
    refine GX.bYes ?_
    exact G.arr (J2 v3.1 hF) ⟨rfl, trivial⟩ trivial rfl


set_option maxRecDepth 20000 in
set_option maxHeartbeats 2000000 in
theorem ct_ref02_Check (s_0 : ByteArray) (r : Bool) (hF : ref02_Check s_0 = some r) : Ct Try.prog 43 [.g (.d (.v (.string s_0)))] (.one (.d (.v (.bool r)))) := by
  unfold ref02_Check at hF
  refine Ct.intro Try.func43 rfl Try.ntmps43 rfl rfl fun M w => ?_
  refine G.seq ?_
  refine G.region ?_
  refine G.op1 (op_assign (Ev.c _ rfl) rfl) rfl trivial trivial ?_
  refine G.endOps ?_
  refine G.seq ?_
  refine G.region ?_
  refine G.op1 (op_move (Ev.t 0 (bS s_0)) rfl) rfl ⟨rfl, trivial⟩ trivial ?_
  obtain ⟨r1, hr1, hF⟩ := bindS hF
  refine G.op1 (op_callQ (sv := .one (bI .i64 r1)) cf50 (ct_ref02_Runes s_0 r1 hr1) rfl rfl (EvQL.cons (EvQ.g (Ev.t 5 (bS s_0))) EvQL.nil) rfl) rfl ⟨rfl, trivial⟩ trivial ?_
  refine G.op1 (op_assign (Ev.t 6 (bI .i64 r1)) rfl) rfl ⟨rfl, trivial⟩ trivial ?_
  refine G.endOps ?_
  refine G.seq ?_
  refine G.seq ?_
  refine G.region ?_
  refine G.op1 (op_assign (Ev.c _ rfl) rfl) rfl trivial trivial ?_
  refine G.endOps ?_
  refine G.joinC (T := Unit) (fun y2 => ⟨[(3, .one (bI .i64 r1))], []⟩) (fun y2 => ref02_Check_k1 r1 y2 = some r) (fun y2 hF => ?_) (fun J4 => ?_)
  · unfold ref02_Check_k1 at hF
    refine G.seq ?_
    refine G.region ?_
    refine G.op1 (op_move (Ev.t 3 (bI .i64 r1)) rfl) rfl ⟨rfl, trivial⟩ trivial ?_
    refine G.op1 (op_geq (Ev.t 17 (bI .i64 r1)) (Ev.c _ rfl) rfl) rfl ⟨rfl, trivial⟩ trivial ?_
    refine G.op1 (op_move (Ev.t 18 (bB (decide (1 ≤ r1)))) rfl) rfl ⟨rfl, trivial⟩ trivial ?_
    refine ifS hF (fun hc3 hF => ?_) (fun hc3 hF => ?_)
    · refine G.known (t := 19) hc3 rfl ?_
      refine G.opG1 (op_move (Ev.t 3 (bI .i64 r1)) rfl) rfl rfl rfl ⟨rfl, trivial⟩ trivial ?_
      refine G.opG1 (op_leq (Ev.t 20 (bI .i64 r1)) (Ev.c _ rfl) rfl) rfl rfl rfl ⟨rfl, trivial⟩ trivial ?_
      refine G.op1 (op_pickT (Ev.t 19 (bB true)) (Ev.t 21 (bB (decide (r1 ≤ 8)))) rfl) rfl ⟨rfl, rfl, trivial⟩ trivial ?_
      refine G.op1 (op_assign (Ev.t 22 (bB (decide (r1 ≤ 8)))) rfl) rfl ⟨rfl, trivial⟩ trivial ?_
      refine G.endOps ?_
      cases hF
      exact G.ret1 Try.results43 (RVar.tmp 2 _) ⟨rfl, trivial⟩ trivial
    · refine G.known (t := 19) hc3 rfl ?_
      refine G.opN1 rfl rfl rfl rfl rfl ?_
      refine G.opN1 rfl rfl rfl rfl rfl ?_
      refine G.op1 (op_pickF (Ev.t 19 (bB false)) (Ev.c _ rfl) rfl) rfl ⟨rfl, trivial⟩ trivial ?_
      refine G.op1 (op_assign (Ev.t 22 (bB false)) rfl) rfl ⟨rfl, trivial⟩ trivial ?_
      refine G.endOps ?_
      cases hF
      exact G.ret1 Try.results43 (RVar.tmp 2 _) ⟨rfl, trivial⟩ trivial
  refine G.block ?_
  refine G.keep (sl' := [(0, .one (bS s_0)), (3, .one (bI .i64 r1)), (4, .one (bI .i64 0))]) (hp' := []) ⟨rfl, rfl, rfl, trivial⟩ trivial rfl ?_
  refine G.loopF (fun (v5 : Int) => ⟨[(0, .one (bS s_0)), (3, .one (bI .i64 r1)), (4, .one (bI .i64 v5))], []⟩) hF rfl (fun K8 again7 v5 J6 hF => ?_)
  unfold ref02_Check_l2 at hF
  refine G.seq ?_
  refine G.seq ?_
  refine G.region ?_
  refine G.op1 (op_move (Ev.t 4 (bI .i64 v5)) rfl) rfl ⟨rfl, trivial⟩ trivial ?_
  refine G.op1 (op_move (Ev.t 0 (bS s_0)) rfl) rfl ⟨rfl, trivial⟩ trivial ?_
  refine G.op1 (op_lenS Try.underlying9 (Ev.t 8 (bS s_0)) rfl) rfl ⟨rfl, trivial⟩ trivial ?_
  refine G.op1 (op_lss (Ev.t 7 (bI .i64 v5)) (Ev.t 9 (bI .i64 (s_0.size : Int))) rfl) rfl ⟨rfl, rfl, trivial⟩ trivial ?_
  refine G.endOps ?_
  refine ifS hF (fun hc9 hF => ?_) (fun hc9 hF => ?_)
  · refine G.cond rfl (fun _ => ?_) (fun hx => by rw [hc9] at hx; cases hx)
    refine G.skip ?_
    refine G.seq ?_
    refine G.block ?_
    refine G.seq ?_
    refine G.region ?_
    refine G.op1 (op_move (Ev.t 0 (bS s_0)) rfl) rfl ⟨rfl, trivial⟩ trivial ?_
    refine G.op1 (op_move (Ev.t 4 (bI .i64 v5)) rfl) rfl ⟨rfl, trivial⟩ trivial ?_
    obtain ⟨b10, hb10, hF⟩ := bindS hF
    refine G.op1 (op_indexS Try.underlying9 (sidx_ok hb10).1 (sidx_ok hb10).2 (Ev.t 13 (bS s_0)) (Ev.t 14 (bI .i64 v5)) rfl) rfl ⟨rfl, rfl, trivial⟩ trivial ?_
    refine G.op1 (op_lss (Ev.t 15 (bI .u8 (b10.toNat : Int))) (Ev.c _ rfl) rfl) rfl ⟨rfl, trivial⟩ trivial ?_
    refine G.endOps ?_
    refine ifS hF (fun hc11 hF => ?_) (fun hc11 hF => ?_)
    · refine G.cond rfl (fun _ => ?_) (fun hx => by rw [hc11] at hx; cases hx)
      refine G.seq ?_
      refine G.region ?_
      refine G.op1 (op_assign (Ev.c _ rfl) rfl) rfl trivial trivial ?_
      refine G.endOps ?_
      cases hF
      exact G.ret1 Try.results43 (RVar.tmp 2 _) ⟨rfl, trivial⟩ trivial
    · refine G.cond rfl (fun hx => by rw [hc11] at hx; cases hx) (fun _ => ?_)
      refine G.skip ?_
      refine G.endBlock ?_
      refine G.region ?_
      refine G.op1 (op_move (Ev.t 4 (bI .i64 v5)) rfl) rfl ⟨rfl, trivial⟩ trivial ?_
      refine G.op1 (op_add (Ev.t 11 (bI .i64 v5)) (Ev.c _ rfl) rfl) rfl ⟨rfl, trivial⟩ trivial ?_
      refine G.op1 (op_assign (Ev.t 12 (bI .i64 (IntKind.wrap .i64 (v5 + 1)))) rfl) rfl ⟨rfl, trivial⟩ trivial ?_
      refine G.endOps ?_
      exact G.arr (J6 (IntKind.wrap .i64 (v5 + 1)) hF) ⟨rfl, rfl, rfl, trivial⟩ trivial rfl
  · refine G.cond rfl (fun hx => by rw [hc9] at hx; cases hx) (fun _ => ?_)
    refine G.exit ?_
    refine GX.c ?_
    refine GX.q ?_
    refine GX.bYes ?_
    exact G.arr (J4 () hF) ⟨rfl, trivial⟩ trivial rfl


set_option maxRecDepth 20000 in
set_option maxHeartbeats 2000000 in
theorem ct_ref03_Check (s_0 : Api_Stamp) (r : Bool) (hF : ref03_Check s_0 = some r) : Ct Try.prog 40 [.g (.agg (encApi_Stamp s_0))] (.one (.d (.v (.bool r)))) := by
  unfold ref03_Check at hF
  refine Ct.intro Try.func40 rfl Try.ntmps40 rfl rfl fun M w => ?_
  refine G.seq ?_
  refine G.region ?_
  refine G.op2 (op_boxA (k := 1001) (Ev.t 0 (.g (.agg [.v (.int .i64 s_0.N), .v (.int .i64 s_0.Site)]))) rfl) rfl ⟨rfl, trivial⟩ ⟨rfl, trivial⟩ ?_
  refine G.op1 (op_assign (Ev.c _ rfl) rfl) rfl trivial trivial ?_
  refine G.endOps ?_
  refine G.seq ?_
  refine G.region ?_
  refine G.op1 (op_fieldP (off' := 0) Try.underlying24 rfl ti3 (by decide) rfl (Ev.t 1 (.ptr 1001 0)) rfl) rfl ⟨rfl, trivial⟩ trivial ?_
  refine G.op1 (op_load1P (c := bI .i64 s_0.N) Try.underlying3 rfl rfl (Ev.t 3 (.ptr 1001 0)) rfl) rfl ⟨rfl, trivial⟩ ⟨rfl, trivial⟩ ?_
  refine G.op1 (op_geq (Ev.t 4 (bI .i64 s_0.N)) (Ev.c _ rfl) rfl) rfl ⟨rfl, trivial⟩ trivial ?_
  refine G.op1 (op_move (Ev.t 5 (bB (decide (1 ≤ s_0.N)))) rfl) rfl ⟨rfl, trivial⟩ trivial ?_
  refine G.joinL (T := Bool) 4 (fun y1 => ⟨[(1, .one (.ptr 1001 0)), (10, .one (bB y1))], [(1001, some (.blk 24 [bI .i64 s_0.N, bI .i64 s_0.Site]))]⟩) (fun y1 => ref03_Check_k1 s_0 y1 = some r) (fun y1 hF => ?_) (fun J6 => ?_)
  · unfold ref03_Check_k1 at hF
    refine G.op1 (op_move (Ev.t 10 (bB y1)) rfl) rfl ⟨rfl, trivial⟩ trivial ?_
    refine G.joinL (T := Bool) 4 (fun y2 => ⟨[(1, .one (.ptr 1001 0)), (15, .one (bB y2))], [(1001, some (.blk 24 [bI .i64 s_0.N, bI .i64 s_0.Site]))]⟩) (fun y2 => ref03_Check_k2 s_0 y2 = some r) (fun y2 hF => ?_) (fun J4 => ?_)
    · unfold ref03_Check_k2 at hF
      refine G.op1 (op_move (Ev.t 15 (bB y2)) rfl) rfl ⟨rfl, trivial⟩ trivial ?_
      refine ifS hF (fun hc3 hF => ?_) (fun hc3 hF => ?_)
      · refine G.known (t := 16) hc3 rfl ?_
        refine G.opG1 (op_fieldP (off' := 1) Try.underlying24 rfl ti3 (by decide) rfl (Ev.t 1 (.ptr 1001 0)) rfl) rfl rfl rfl ⟨rfl, trivial⟩ trivial ?_
        refine G.opG1 (op_load1P (c := bI .i64 s_0.Site) Try.underlying3 rfl rfl (Ev.t 17 (.ptr 1001 1)) rfl) rfl rfl rfl ⟨rfl, trivial⟩ ⟨rfl, trivial⟩ ?_
        refine G.opG1 (op_lss (Ev.t 18 (bI .i64 s_0.Site)) (Ev.c _ rfl) rfl) rfl rfl rfl ⟨rfl, trivial⟩ trivial ?_
        refine G.op1 (op_pickT (Ev.t 16 (bB true)) (Ev.t 19 (bB (decide (s_0.Site < 6)))) rfl) rfl ⟨rfl, rfl, trivial⟩ trivial ?_
        refine G.op1 (op_assign (Ev.t 20 (bB (decide (s_0.Site < 6)))) rfl) rfl ⟨rfl, trivial⟩ trivial ?_
        refine G.endOps ?_
        cases hF
        exact G.ret1 Try.results40 (RVar.tmp 2 _) ⟨rfl, trivial⟩ trivial
      · refine G.known (t := 16) hc3 rfl ?_
        refine G.opN1 rfl rfl rfl rfl rfl ?_
        refine G.opN1 rfl rfl rfl rfl rfl ?_
        refine G.opN1 rfl rfl rfl rfl rfl ?_
        refine G.op1 (op_pickF (Ev.t 16 (bB false)) (Ev.c _ rfl) rfl) rfl ⟨rfl, trivial⟩ trivial ?_
        refine G.op1 (op_assign (Ev.t 20 (bB false)) rfl) rfl ⟨rfl, trivial⟩ trivial ?_
        refine G.endOps ?_
        cases hF
        exact G.ret1 Try.results40 (RVar.tmp 2 _) ⟨rfl, trivial⟩ trivial
    refine ifS hF (fun hc5 hF => ?_) (fun hc5 hF => ?_)
    · refine G.known (t := 11) hc5 rfl ?_
      refine G.opG1 (op_fieldP (off' := 1) Try.underlying24 rfl ti3 (by decide) rfl (Ev.t 1 (.ptr 1001 0)) rfl) rfl rfl rfl ⟨rfl, trivial⟩ trivial ?_
      refine G.opG1 (op_load1P (c := bI .i64 s_0.Site) Try.underlying3 rfl rfl (Ev.t 12 (.ptr 1001 1)) rfl) rfl rfl rfl ⟨rfl, trivial⟩ ⟨rfl, trivial⟩ ?_
      refine G.opG1 (op_geq (Ev.t 13 (bI .i64 s_0.Site)) (Ev.c _ rfl) rfl) rfl rfl rfl ⟨rfl, trivial⟩ trivial ?_
      refine G.op1 (op_pickT (Ev.t 11 (bB true)) (Ev.t 14 (bB (decide (0 ≤ s_0.Site)))) rfl) rfl ⟨rfl, rfl, trivial⟩ trivial ?_
      exact G.arr (J4 (decide (0 ≤ s_0.Site)) hF) ⟨rfl, rfl, trivial⟩ ⟨rfl, trivial⟩ rfl
    · refine G.known (t := 11) hc5 rfl ?_
      refine G.opN1 rfl rfl rfl rfl rfl ?_
      refine G.opN1 rfl rfl rfl rfl rfl ?_
      refine G.opN1 rfl rfl rfl rfl rfl ?_
      refine G.op1 (op_pickF (Ev.t 11 (bB false)) (Ev.c _ rfl) rfl) rfl ⟨rfl, trivial⟩ trivial ?_
      exact G.arr (J4 false hF) ⟨rfl, rfl, trivial⟩ ⟨rfl, trivial⟩ rfl
  refine ifS hF (fun hc7 hF => ?_) (fun hc7 hF => ?_)
  · refine G.known (t := 6) hc7 rfl ?_
    refine G.opG1 (op_fieldP (off' := 0) Try.underlying24 rfl ti3 (by decide) rfl (Ev.t 1 (.ptr 1001 0)) rfl) rfl rfl rfl ⟨rfl, trivial⟩ trivial ?_
    refine G.opG1 (op_load1P (c := bI .i64 s_0.N) Try.underlying3 rfl rfl (Ev.t 7 (.ptr 1001 0)) rfl) rfl rfl rfl ⟨rfl, trivial⟩ ⟨rfl, trivial⟩ ?_
    refine G.opG1 (op_leq (Ev.t 8 (bI .i64 s_0.N)) (Ev.c _ rfl) rfl) rfl rfl rfl ⟨rfl, trivial⟩ trivial ?_
    refine G.op1 (op_pickT (Ev.t 6 (bB true)) (Ev.t 9 (bB (decide (s_0.N ≤ 1099511627776)))) rfl) rfl ⟨rfl, rfl, trivial⟩ trivial ?_
    exact G.arr (J6 (decide (s_0.N ≤ 1099511627776)) hF) ⟨rfl, rfl, trivial⟩ ⟨rfl, trivial⟩ rfl
  · refine G.known (t := 6) hc7 rfl ?_
    refine G.opN1 rfl rfl rfl rfl rfl ?_
    refine G.opN1 rfl rfl rfl rfl rfl ?_
    refine G.opN1 rfl rfl rfl rfl rfl ?_
    refine G.op1 (op_pickF (Ev.t 6 (bB false)) (Ev.c _ rfl) rfl) rfl ⟨rfl, trivial⟩ trivial ?_
    exact G.arr (J6 false hF) ⟨rfl, rfl, trivial⟩ ⟨rfl, trivial⟩ rfl


set_option maxRecDepth 20000 in
set_option maxHeartbeats 2000000 in
theorem ct_ref03_Less (a_0 : Api_Stamp) (b_1 : Api_Stamp) (r : Bool) (hF : ref03_Less a_0 b_1 = some r) : Ct Try.prog 25 [.g (.agg (encApi_Stamp a_0)), .g (.agg (encApi_Stamp b_1))] (.one (.d (.v (.bool r)))) := by
  unfold ref03_Less at hF
  refine Ct.intro Try.func25 rfl Try.ntmps25 rfl rfl fun M w => ?_
  refine G.seq ?_
  refine G.region ?_
  refine G.op2 (op_boxA (k := 1002) (Ev.t 0 (.g (.agg [.v (.int .i64 a_0.N), .v (.int .i64 a_0.Site)]))) rfl) rfl ⟨rfl, trivial⟩ ⟨rfl, trivial⟩ ?_
  refine G.op2 (op_boxA (k := 1003) (Ev.t 1 (.g (.agg [.v (.int .i64 b_1.N), .v (.int .i64 b_1.Site)]))) rfl) rfl ⟨rfl, trivial⟩ ⟨rfl, trivial⟩ ?_
  refine G.op1 (op_assign (Ev.c _ rfl) rfl) rfl trivial trivial ?_
  refine G.endOps ?_
  refine G.seq ?_
  refine G.seq ?_
  refine G.region ?_
  refine G.op1 (op_fieldP (off' := 0) Try.underlying24 rfl ti3 (by decide) rfl (Ev.t 2 (.ptr 1002 0)) rfl) rfl ⟨rfl, trivial⟩ trivial ?_
  refine G.op1 (op_load1P (c := bI .i64 a_0.N) Try.underlying3 rfl rfl (Ev.t 5 (.ptr 1002 0)) rfl) rfl ⟨rfl, trivial⟩ ⟨rfl, trivial⟩ ?_
  refine G.op1 (op_fieldP (off' := 0) Try.underlying24 rfl ti3 (by decide) rfl (Ev.t 3 (.ptr 1003 0)) rfl) rfl ⟨rfl, trivial⟩ trivial ?_
  refine G.op1 (op_load1P (c := bI .i64 b_1.N) Try.underlying3 rfl rfl (Ev.t 7 (.ptr 1003 0)) rfl) rfl ⟨rfl, trivial⟩ ⟨rfl, trivial⟩ ?_
  refine G.op1 (op_neI (Ev.t 6 (bI .i64 a_0.N)) (Ev.t 8 (bI .i64 b_1.N)) rfl) rfl ⟨rfl, rfl, trivial⟩ trivial ?_
  refine G.endOps ?_
  refine ifS hF (fun hc1 hF => ?_) (fun hc1 hF => ?_)
  · refine G.cond rfl (fun _ => ?_) (fun hx => by rw [hc1] at hx; cases hx)
    refine G.seq ?_
    refine G.region ?_
    refine G.op1 (op_fieldP (off' := 0) Try.underlying24 rfl ti3 (by decide) rfl (Ev.t 2 (.ptr 1002 0)) rfl) rfl ⟨rfl, trivial⟩ trivial ?_
    refine G.op1 (op_load1P (c := bI .i64 a_0.N) Try.underlying3 rfl rfl (Ev.t 10 (.ptr 1002 0)) rfl) rfl ⟨rfl, trivial⟩ ⟨rfl, trivial⟩ ?_
    refine G.op1 (op_fieldP (off' := 0) Try.underlying24 rfl ti3 (by decide) rfl (Ev.t 3 (.ptr 1003 0)) rfl) rfl ⟨rfl, trivial⟩ trivial ?_
    refine G.op1 (op_load1P (c := bI .i64 b_1.N) Try.underlying3 rfl rfl (Ev.t 12 (.ptr 1003 0)) rfl) rfl ⟨rfl, trivial⟩ ⟨rfl, trivial⟩ ?_
    refine G.op1 (op_lss (Ev.t 11 (bI .i64 a_0.N)) (Ev.t 13 (bI .i64 b_1.N)) rfl) rfl ⟨rfl, rfl, trivial⟩ trivial ?_
    refine G.op1 (op_assign (Ev.t 14 (bB (decide (a_0.N < b_1.N)))) rfl) rfl ⟨rfl, trivial⟩ trivial ?_
    refine G.endOps ?_
    cases hF
    exact G.ret1 Try.results25 (RVar.tmp 4 _) ⟨rfl, trivial⟩ trivial
  · refine G.cond rfl (fun hx => by rw [hc1] at hx; cases hx) (fun _ => ?_)
    refine G.skip ?_
    refine G.seq ?_
    refine G.region ?_
    refine G.op1 (op_fieldP (off' := 1) Try.underlying24 rfl ti3 (by decide) rfl (Ev.t 2 (.ptr 1002 0)) rfl) rfl ⟨rfl, trivial⟩ trivial ?_
    refine G.op1 (op_load1P (c := bI .i64 a_0.Site) Try.underlying3 rfl rfl (Ev.t 15 (.ptr 1002 1)) rfl) rfl ⟨rfl, trivial⟩ ⟨rfl, trivial⟩ ?_
    refine G.op1 (op_fieldP (off' := 1) Try.underlying24 rfl ti3 (by decide) rfl (Ev.t 3 (.ptr 1003 0)) rfl) rfl ⟨rfl, trivial⟩ trivial ?_
    refine G.op1 (op_load1P (c := bI .i64 b_1.Site) Try.underlying3 rfl rfl (Ev.t 17 (.ptr 1003 1)) rfl) rfl ⟨rfl, trivial⟩ ⟨rfl, trivial⟩ ?_
    refine G.op1 (op_lss (Ev.t 16 (bI .i64 a_0.Site)) (Ev.t 18 (bI .i64 b_1.Site)) rfl) rfl ⟨rfl, rfl, trivial⟩ trivial ?_
    refine G.op1 (op_assign (Ev.t 19 (bB (decide (a_0.Site < b_1.Site)))) rfl) rfl ⟨rfl, trivial⟩ trivial ?_
    refine G.endOps ?_
    cases hF
    exact G.ret1 Try.results25 (RVar.tmp 4 _) ⟨rfl, trivial⟩ trivial


set_option maxRecDepth 20000 in
set_option maxHeartbeats 2000000 in
theorem ct_ref04_Add (p_0 : (List Api_Dep)) (d_1 : Api_Dep) (r : (List Api_Dep)) (hF : ref04_Add p_0 d_1 = some r) : Ct Try.prog 28 [.g (.d (.sl 3 (List.map encApi_Dep p_0))), .g (.agg (encApi_Dep d_1))] (.one (.d (.sl 3 (List.map encApi_Dep r)))) := by
  unfold ref04_Add at hF
  refine Ct.intro Try.func28 rfl Try.ntmps28 rfl rfl fun M w => ?_
  refine G.seq ?_
  refine G.region ?_
  refine G.op2 (op_boxA (k := 1003) (Ev.t 1 (.g (.agg [.v (.string d_1.Key), .v (.int .i64 d_1.Stamp.N), .v (.int .i64 d_1.Stamp.Site)]))) rfl) rfl ⟨rfl, trivial⟩ ⟨rfl, trivial⟩ ?_
  refine G.op1 (op_assign (Ev.n 3) rfl) rfl trivial trivial ?_
  refine G.endOps ?_
  refine G.seq ?_
  refine G.region ?_
  refine G.op1 (op_fieldP (off' := 0) Try.underlying26 rfl ti9 (by decide) rfl (Ev.t 3 (.ptr 1003 0)) rfl) rfl ⟨rfl, trivial⟩ trivial ?_
  refine G.op1 (op_load1P (c := bS d_1.Key) Try.underlying9 rfl rfl (Ev.t 11 (.ptr 1003 0)) rfl) rfl ⟨rfl, trivial⟩ ⟨rfl, trivial⟩ ?_
  obtain ⟨r1, hr1, hF⟩ := bindS hF
  refine G.op1 (op_callQ (sv := .one (bB r1)) cf43 (ct_ref02_Check d_1.Key r1 hr1) rfl rfl (EvQL.cons (EvQ.g (Ev.t 12 (bS d_1.Key))) EvQL.nil) rfl) rfl ⟨rfl, trivial⟩ trivial ?_
  refine G.op1 (op_assign (Ev.t 13 (bB r1)) rfl) rfl ⟨rfl, trivial⟩ trivial ?_
  refine G.endOps ?_
  refine G.seq ?_
  refine G.region ?_
  refine G.op1 (op_fieldP (off' := 1) Try.underlying26 rfl ti24 (by decide) rfl (Ev.t 3 (.ptr 1003 0)) rfl) rfl ⟨rfl, trivial⟩ trivial ?_
  refine G.op1 (op_loadAP (ds := [.v (.int .i64 d_1.Stamp.N), .v (.int .i64 d_1.Stamp.Site)]) Try.underlying24 rfl ti24 rfl (Ev.t 14 (.ptr 1003 1)) rfl) rfl ⟨rfl, trivial⟩ ⟨rfl, trivial⟩ ?_
  obtain ⟨r2, hr2, hF⟩ := bindS hF
  refine G.op1 (op_callQ (sv := .one (bB r2)) cf40 (ct_ref03_Check d_1.Stamp r2 hr2) rfl rfl (EvQL.cons (EvQ.g (Ev.t 15 (.g (.agg [.v (.int .i64 d_1.Stamp.N), .v (.int .i64 d_1.Stamp.Site)])))) EvQL.nil) rfl) rfl ⟨rfl, trivial⟩ trivial ?_
  refine G.op1 (op_assign (Ev.t 16 (bB r2)) rfl) rfl ⟨rfl, trivial⟩ trivial ?_
  refine G.endOps ?_
  refine G.seq ?_
  refine G.seq ?_
  refine G.joinC (T := Bool) (fun y3 => ⟨[(0, .one (.g (.d (.sl 3 (List.map encApi_Dep p_0))))), (3, .one (.ptr 1003 0)), (22, .one (bB y3))], [(1003, some (.blk 26 [bS d_1.Key, bI .i64 d_1.Stamp.N, bI .i64 d_1.Stamp.Site]))]⟩) (fun y3 => ref04_Add_k1 p_0 d_1 y3 = some r) (fun y3 hF => ?_) (fun J28 => ?_)
  · unfold ref04_Add_k1 at hF
    refine ifS hF (fun hc4 hF => ?_) (fun hc4 hF => ?_)
    · refine G.cond rfl (fun _ => ?_) (fun hx => by rw [hc4] at hx; cases hx)
      refine G.seq ?_
      refine G.region ?_
      refine G.op1 (op_move (Ev.t 0 (.g (.d (.sl 3 (List.map encApi_Dep p_0))))) rfl) rfl ⟨rfl, trivial⟩ trivial ?_
      refine G.op1 (op_assign (Ev.t 23 (.g (.d (.sl 3 (List.map encApi_Dep p_0))))) rfl) rfl ⟨rfl, trivial⟩ trivial ?_
      refine G.endOps ?_
      cases hF
      exact G.ret1 Try.results28 (RVar.tmp 4 _) ⟨rfl, trivial⟩ trivial
    · refine G.cond rfl (fun hx => by rw [hc4] at hx; cases hx) (fun _ => ?_)
      refine G.skip ?_
      refine G.seq ?_
      refine G.region ?_
      refine G.op2 (op_assignRow (E := 26) (size := 3) (k := 2007) (ex := false) rfl rfl) rfl trivial ⟨rfl, trivial⟩ ?_
      refine G.endOps ?_
      refine G.seq ?_
      refine G.region ?_
      refine G.op1 (op_assign (Ev.c _ rfl) rfl) rfl trivial trivial ?_
      refine G.endOps ?_
      refine G.seq ?_
      refine G.seq ?_
      refine G.region ?_
      refine G.op1 (op_assign (Ev.c _ rfl) rfl) rfl trivial trivial ?_
      refine G.endOps ?_
      refine G.joinC (T := Bool × (List Api_Dep)) (fun y5 => ⟨[(3, .one (.ptr 1003 0)), (7, .one (.own 2007 (List.map encApi_Dep y5.2))), (8, .one (bB y5.1))], [(1003, some (.blk 26 [bS d_1.Key, bI .i64 d_1.Stamp.N, bI .i64 d_1.Stamp.Site])), (2007, some (.row 26 3 (List.map encApi_Dep y5.2) false))]⟩) (fun y5 => ref04_Add_k2 d_1 y5 = some r) (fun y5 hF => ?_) (fun J8 => ?_)
      · unfold ref04_Add_k2 at hF
        refine G.seq ?_
        refine G.seq ?_
        refine G.region ?_
        refine G.op1 (op_move (Ev.t 8 (bB y5.1)) rfl) rfl ⟨rfl, trivial⟩ trivial ?_
        refine G.op1 (op_not (Ev.t 62 (bB y5.1)) rfl) rfl ⟨rfl, trivial⟩ trivial ?_
        refine G.endOps ?_
        refine ifS hF (fun hc6 hF => ?_) (fun hc6 hF => ?_)
        · refine G.cond rfl (fun _ => ?_) (fun hx => by rw [hc6] at hx; cases hx)
          refine G.region ?_
          refine G.op1 (op_move (Ev.t 7 (.own 2007 (List.map encApi_Dep y5.2))) rfl) rfl ⟨rfl, trivial⟩ trivial ?_
          refine G.op1 (op_loadAP (ds := [.v (.string d_1.Key), .v (.int .i64 d_1.Stamp.N), .v (.int .i64 d_1.Stamp.Site)]) Try.underlying26 rfl ti26 rfl (Ev.t 3 (.ptr 1003 0)) rfl) rfl ⟨rfl, trivial⟩ ⟨rfl, trivial⟩ ?_
          refine G.op1 (op_buildSlice (es := List.map encApi_Dep [d_1]) Try.underlying29 ti26 rfl rfl (EvP.cons (Ev.t 65 (.g (.agg [.v (.string d_1.Key), .v (.int .i64 d_1.Stamp.N), .v (.int .i64 d_1.Stamp.Site)]))) EvP.nil) rfl rfl (by simp [encApi_Dep]) rfl) rfl ⟨rfl, trivial⟩ trivial ?_
          obtain ⟨l7, hl7, hF⟩ := bindS hF
          refine G.op2 (op_appendO Try.underlying29 ti26 rfl (app_map hl7 encApi_Dep) (app_b1 hl7 encApi_Dep) (app_b2 hl7 encApi_Dep) (Ev.t 64 (.own 2007 (List.map encApi_Dep y5.2))) (Ev.t 66 (.g (.d (.sl 3 (List.map encApi_Dep ([d_1])))))) rfl) rfl ⟨rfl, rfl, trivial⟩ ⟨rfl, trivial⟩ ?_
          refine G.op1 (op_assign (Ev.t 67 (.own 2007 (List.map encApi_Dep l7))) rfl) rfl ⟨rfl, trivial⟩ trivial ?_
          refine G.endOps ?_
          refine G.seq ?_
          refine G.region ?_
          refine G.op1 (op_move (Ev.t 7 (.own 2007 (List.map encApi_Dep l7))) rfl) rfl ⟨rfl, trivial⟩ trivial ?_
          refine G.op1 (op_assign (Ev.t 68 (.own 2007 (List.map encApi_Dep l7))) rfl) rfl ⟨rfl, trivial⟩ trivial ?_
          refine G.endOps ?_
          refine G.view (t := 4) rfl rfl ?_
          cases hF
          exact G.ret1 Try.results28 (RVar.tmp 4 _) ⟨rfl, trivial⟩ trivial
        · refine G.cond rfl (fun hx => by rw [hc6] at hx; cases hx) (fun _ => ?_)
          refine G.skip ?_
          refine G.seq ?_
          refine G.region ?_
          refine G.op1 (op_move (Ev.t 7 (.own 2007 (List.map encApi_Dep y5.2))) rfl) rfl ⟨rfl, trivial⟩ trivial ?_
          refine G.op1 (op_assign (Ev.t 68 (.own 2007 (List.map encApi_Dep y5.2))) rfl) rfl ⟨rfl, trivial⟩ trivial ?_
          refine G.endOps ?_
          refine G.view (t := 4) rfl rfl ?_
          cases hF
          exact G.ret1 Try.results28 (RVar.tmp 4 _) ⟨rfl, trivial⟩ trivial
      refine G.block ?_
      refine G.keep (sl' := [(0, .one (.g (.d (.sl 3 (List.map encApi_Dep p_0))))), (3, .one (.ptr 1003 0)), (7, .one (.own 2007 (List.map encApi_Dep ([] : (List Api_Dep))))), (8, .one (bB false)), (9, .one (bI .i64 0))]) (hp' := [(1003, some (.blk 26 [bS d_1.Key, bI .i64 d_1.Stamp.N, bI .i64 d_1.Stamp.Site])), (2007, some (.row 26 3 (List.map encApi_Dep ([] : (List Api_Dep))) false))]) ⟨rfl, rfl, rfl, rfl, rfl, trivial⟩ ⟨rfl, rfl, trivial⟩ rfl ?_
      refine G.loopF (fun (v9 : Bool × Int × (List Api_Dep)) => ⟨[(0, .one (.g (.d (.sl 3 (List.map encApi_Dep p_0))))), (3, .one (.ptr 1003 0)), (7, .one (.own 2007 (List.map encApi_Dep v9.2.2))), (8, .one (bB v9.1)), (9, .one (bI .i64 v9.2.1))], [(1003, some (.blk 26 [bS d_1.Key, bI .i64 d_1.Stamp.N, bI .i64 d_1.Stamp.Site])), (2007, some (.row 26 3 (List.map encApi_Dep v9.2.2) false))]⟩) hF rfl (fun K12 again11 v9 J10 hF => ?_)
      unfold ref04_Add_l3 at hF
      refine G.seq ?_
      refine G.seq ?_
      refine G.region ?_
      refine G.op1 (op_move (Ev.t 9 (bI .i64 v9.2.1)) rfl) rfl ⟨rfl, trivial⟩ trivial ?_
      refine G.op1 (op_move (Ev.t 0 (.g (.d (.sl 3 (List.map encApi_Dep p_0))))) rfl) rfl ⟨rfl, trivial⟩ trivial ?_
      refine G.op1 (OpL.cast (op_lenD Try.underlying29 (Ev.t 25 (.g (.d (.sl 3 (List.map encApi_Dep p_0))))) rfl) (by rw [List.length_map])) rfl ⟨rfl, trivial⟩ trivial ?_
      refine G.op1 (op_lss (Ev.t 24 (bI .i64 v9.2.1)) (Ev.t 26 (bI .i64 (p_0.length : Int))) rfl) rfl ⟨rfl, rfl, trivial⟩ trivial ?_
      refine G.endOps ?_
      refine ifS hF (fun hc13 hF => ?_) (fun hc13 hF => ?_)
      · refine G.cond rfl (fun _ => ?_) (fun hx => by rw [hc13] at hx; cases hx)
        refine G.skip ?_
        refine G.seq ?_
        refine G.block ?_
        refine G.seq ?_
        refine G.region ?_
        refine G.op1 (op_move (Ev.t 0 (.g (.d (.sl 3 (List.map encApi_Dep p_0))))) rfl) rfl ⟨rfl, trivial⟩ trivial ?_
        refine G.op1 (op_move (Ev.t 9 (bI .i64 v9.2.1)) rfl) rfl ⟨rfl, trivial⟩ trivial ?_
        obtain ⟨x14, hx14, hF⟩ := bindS hF
        refine G.op1 (op_index (cs := [.v (.string x14.Key), .v (.int .i64 x14.Stamp.N), .v (.int .i64 x14.Stamp.Site)]) Try.underlying29 ti26 (idx_ok hx14).1 (idx_get hx14 encApi_Dep) (Ev.t 30 (.g (.d (.sl 3 (List.map encApi_Dep p_0))))) (Ev.t 31 (bI .i64 v9.2.1)) rfl) rfl ⟨rfl, rfl, trivial⟩ trivial ?_
        refine G.op1 (op_loadAE (ds := [.v (.string x14.Key), .v (.int .i64 x14.Stamp.N), .v (.int .i64 x14.Stamp.Site)]) Try.underlying26 rfl ti26 rfl (Ev.t 32 (.ep [.v (.string x14.Key), .v (.int .i64 x14.Stamp.N), .v (.int .i64 x14.Stamp.Site)])) rfl) rfl ⟨rfl, trivial⟩ trivial ?_
        refine G.op2 (op_alloc (k := 1010) (cs := [bS ByteArray.empty, bI .i64 0, bI .i64 0]) ti26 ⟨.v _ rfl, .v _ rfl, .v _ rfl, trivial⟩ rfl) rfl trivial ⟨rfl, trivial⟩ ?_
        refine G.op3 (op_storeA (cs' := [bS x14.Key, bI .i64 x14.Stamp.N, bI .i64 x14.Stamp.Site]) ti26 rfl rfl (Ev.t 10 (.ptr 1010 0)) (Ev.t 33 (.g (.agg [.v (.string x14.Key), .v (.int .i64 x14.Stamp.N), .v (.int .i64 x14.Stamp.Site)])))) rfl ⟨rfl, rfl, trivial⟩ ⟨rfl, trivial⟩ ?_
        refine G.endOps ?_
        refine G.seq ?_
        refine G.seq ?_
        refine G.region ?_
        refine G.op1 (op_fieldP (off' := 0) Try.underlying26 rfl ti9 (by decide) rfl (Ev.t 10 (.ptr 1010 0)) rfl) rfl ⟨rfl, trivial⟩ trivial ?_
        refine G.op1 (op_load1P (c := bS x14.Key) Try.underlying9 rfl rfl (Ev.t 34 (.ptr 1010 0)) rfl) rfl ⟨rfl, trivial⟩ ⟨rfl, trivial⟩ ?_
        refine G.op1 (op_fieldP (off' := 0) Try.underlying26 rfl ti9 (by decide) rfl (Ev.t 3 (.ptr 1003 0)) rfl) rfl ⟨rfl, trivial⟩ trivial ?_
        refine G.op1 (op_load1P (c := bS d_1.Key) Try.underlying9 rfl rfl (Ev.t 36 (.ptr 1003 0)) rfl) rfl ⟨rfl, trivial⟩ ⟨rfl, trivial⟩ ?_
        refine G.op1 (op_eqS (Ev.t 35 (bS x14.Key)) (Ev.t 37 (bS d_1.Key)) rfl) rfl ⟨rfl, rfl, trivial⟩ trivial ?_
        refine G.endOps ?_
        refine G.joinC (T := Bool × ByteArray × Int × Int) (fun y15 => ⟨[(0, .one (.g (.d (.sl 3 (List.map encApi_Dep p_0))))), (3, .one (.ptr 1003 0)), (7, .one (.own 2007 (List.map encApi_Dep v9.2.2))), (8, .one (bB y15.1)), (9, .one (bI .i64 v9.2.1)), (10, .one (.ptr 1010 0))], [(1003, some (.blk 26 [bS d_1.Key, bI .i64 d_1.Stamp.N, bI .i64 d_1.Stamp.Site])), (1010, some (.blk 26 [bS y15.2.1, bI .i64 y15.2.2.1, bI .i64 y15.2.2.2])), (2007, some (.row 26 3 (List.map encApi_Dep v9.2.2) false))]⟩) (fun y15 => ref04_Add_k4 d_1 again11 v9 y15 = some r) (fun y15 hF => ?_) (fun J24 => ?_)
        · unfold ref04_Add_k4 at hF
          refine G.seq ?_
          refine G.seq ?_
          refine G.joinC (T := Bool) (fun y16 => ⟨[(0, .one (.g (.d (.sl 3 (List.map encApi_Dep p_0))))), (3, .one (.ptr 1003 0)), (7, .one (.own 2007 (List.map encApi_Dep v9.2.2))), (8, .one (bB y15.1)), (9, .one (bI .i64 v9.2.1)), (10, .one (.ptr 1010 0)), (53, .one (bB y16))], [(1003, some (.blk 26 [bS d_1.Key, bI .i64 d_1.Stamp.N, bI .i64 d_1.Stamp.Site])), (1010, some (.blk 26 [bS y15.2.1, bI .i64 y15.2.2.1, bI .i64 y15.2.2.2])), (2007, some (.row 26 3 (List.map encApi_Dep v9.2.2) false))]⟩) (fun y16 => ref04_Add_k5 d_1 again11 v9 y15 y16 = some r) (fun y16 hF => ?_) (fun J22 => ?_)
          · unfold ref04_Add_k5 at hF
            refine G.joinC (T := Bool × (List Api_Dep)) (fun y17 => ⟨[(0, .one (.g (.d (.sl 3 (List.map encApi_Dep p_0))))), (3, .one (.ptr 1003 0)), (7, .one (.own 2007 (List.map encApi_Dep y17.2))), (8, .one (bB y17.1)), (9, .one (bI .i64 v9.2.1)), (10, .one (.ptr 1010 0))], [(1003, some (.blk 26 [bS d_1.Key, bI .i64 d_1.Stamp.N, bI .i64 d_1.Stamp.Site])), (1010, some (.blk 26 [bS y15.2.1, bI .i64 y15.2.2.1, bI .i64 y15.2.2.2])), (2007, some (.row 26 3 (List.map encApi_Dep y17.2) false))]⟩) (fun y17 => ref04_Add_k6 again11 v9 y15 y17 = some r) (fun y17 hF => ?_) (fun J19 => ?_)
            · unfold ref04_Add_k6 at hF
              refine G.region ?_
              refine G.op1 (op_move (Ev.t 7 (.own 2007 (List.map encApi_Dep y17.2))) rfl) rfl ⟨rfl, trivial⟩ trivial ?_
              refine G.op1 (op_loadAP (ds := [.v (.string y15.2.1), .v (.int .i64 y15.2.2.1), .v (.int .i64 y15.2.2.2)]) Try.underlying26 rfl ti26 rfl (Ev.t 10 (.ptr 1010 0)) rfl) rfl ⟨rfl, trivial⟩ ⟨rfl, trivial⟩ ?_
              refine G.op1 (op_buildSlice (es := List.map encApi_Dep [(Api_Dep.mk y15.2.1 (Api_Stamp.mk y15.2.2.1 y15.2.2.2))]) Try.underlying29 ti26 rfl rfl (EvP.cons (Ev.t 59 (.g (.agg [.v (.string y15.2.1), .v (.int .i64 y15.2.2.1), .v (.int .i64 y15.2.2.2)]))) EvP.nil) rfl rfl (by simp [encApi_Dep]) rfl) rfl ⟨rfl, trivial⟩ trivial ?_
              obtain ⟨l18, hl18, hF⟩ := bindS hF
              refine G.op2 (op_appendO Try.underlying29 ti26 rfl (app_map hl18 encApi_Dep) (app_b1 hl18 encApi_Dep) (app_b2 hl18 encApi_Dep) (Ev.t 58 (.own 2007 (List.map encApi_Dep y17.2))) (Ev.t 60 (.g (.d (.sl 3 (List.map encApi_Dep ([(Api_Dep.mk y15.2.1 (Api_Stamp.mk y15.2.2.1 y15.2.2.2))])))))) rfl) rfl ⟨rfl, rfl, trivial⟩ ⟨rfl, trivial⟩ ?_
              refine G.op1 (op_assign (Ev.t 61 (.own 2007 (List.map encApi_Dep l18))) rfl) rfl ⟨rfl, trivial⟩ trivial ?_
              refine G.endOps ?_
              refine G.endBlock ?_
              refine G.region ?_
              refine G.op1 (op_move (Ev.t 9 (bI .i64 v9.2.1)) rfl) rfl ⟨rfl, trivial⟩ trivial ?_
              refine G.op1 (op_add (Ev.t 28 (bI .i64 v9.2.1)) (Ev.c _ rfl) rfl) rfl ⟨rfl, trivial⟩ trivial ?_
              refine G.op1 (op_assign (Ev.t 29 (bI .i64 (IntKind.wrap .i64 (v9.2.1 + 1)))) rfl) rfl ⟨rfl, trivial⟩ trivial ?_
              refine G.endOps ?_
              exact G.arr (J10 (y17.1, IntKind.wrap .i64 (v9.2.1 + 1), l18) hF) ⟨rfl, rfl, rfl, rfl, rfl, trivial⟩ ⟨rfl, rfl, trivial⟩ rfl
            refine ifS hF (fun hc20 hF => ?_) (fun hc20 hF => ?_)
            · refine G.cond rfl (fun _ => ?_) (fun hx => by rw [hc20] at hx; cases hx)
              refine G.seq ?_
              refine G.region ?_
              refine G.op1 (op_move (Ev.t 7 (.own 2007 (List.map encApi_Dep v9.2.2))) rfl) rfl ⟨rfl, trivial⟩ trivial ?_
              refine G.op1 (op_loadAP (ds := [.v (.string d_1.Key), .v (.int .i64 d_1.Stamp.N), .v (.int .i64 d_1.Stamp.Site)]) Try.underlying26 rfl ti26 rfl (Ev.t 3 (.ptr 1003 0)) rfl) rfl ⟨rfl, trivial⟩ ⟨rfl, trivial⟩ ?_
              refine G.op1 (op_buildSlice (es := List.map encApi_Dep [d_1]) Try.underlying29 ti26 rfl rfl (EvP.cons (Ev.t 55 (.g (.agg [.v (.string d_1.Key), .v (.int .i64 d_1.Stamp.N), .v (.int .i64 d_1.Stamp.Site)]))) EvP.nil) rfl rfl (by simp [encApi_Dep]) rfl) rfl ⟨rfl, trivial⟩ trivial ?_
              obtain ⟨l21, hl21, hF⟩ := bindS hF
              refine G.op2 (op_appendO Try.underlying29 ti26 rfl (app_map hl21 encApi_Dep) (app_b1 hl21 encApi_Dep) (app_b2 hl21 encApi_Dep) (Ev.t 54 (.own 2007 (List.map encApi_Dep v9.2.2))) (Ev.t 56 (.g (.d (.sl 3 (List.map encApi_Dep ([d_1])))))) rfl) rfl ⟨rfl, rfl, trivial⟩ ⟨rfl, trivial⟩ ?_
              refine G.op1 (op_assign (Ev.t 57 (.own 2007 (List.map encApi_Dep l21))) rfl) rfl ⟨rfl, trivial⟩ trivial ?_
              refine G.endOps ?_
              refine G.region ?_
              refine G.op1 (op_assign (Ev.c _ rfl) rfl) rfl trivial trivial ?_
              refine G.endOps ?_
              exact G.arr (J19 (true, l21) hF) ⟨rfl, rfl, rfl, rfl, rfl, rfl, trivial⟩ ⟨rfl, rfl, rfl, trivial⟩ rfl
            · refine G.cond rfl (fun hx => by rw [hc20] at hx; cases hx) (fun _ => ?_)
              refine G.skip ?_
              exact G.arr (J19 (y15.1, v9.2.2) hF) ⟨rfl, rfl, rfl, rfl, rfl, rfl, trivial⟩ ⟨rfl, rfl, rfl, trivial⟩ rfl
          refine G.region ?_
          refine G.op1 (op_move (Ev.t 8 (bB y15.1)) rfl) rfl ⟨rfl, trivial⟩ trivial ?_
          refine G.op1 (op_not (Ev.t 45 (bB y15.1)) rfl) rfl ⟨rfl, trivial⟩ trivial ?_
          refine G.op1 (op_move (Ev.t 46 (bB (!y15.1))) rfl) rfl ⟨rfl, trivial⟩ trivial ?_
          refine ifS hF (fun hc23 hF => ?_) (fun hc23 hF => ?_)
          · refine G.known (t := 47) hc23 rfl ?_
            refine G.opG1 (op_fieldP (off' := 0) Try.underlying26 rfl ti9 (by decide) rfl (Ev.t 10 (.ptr 1010 0)) rfl) rfl rfl rfl ⟨rfl, trivial⟩ trivial ?_
            refine G.opG1 (op_load1P (c := bS y15.2.1) Try.underlying9 rfl rfl (Ev.t 48 (.ptr 1010 0)) rfl) rfl rfl rfl ⟨rfl, trivial⟩ ⟨rfl, trivial⟩ ?_
            refine G.opG1 (op_fieldP (off' := 0) Try.underlying26 rfl ti9 (by decide) rfl (Ev.t 3 (.ptr 1003 0)) rfl) rfl rfl rfl ⟨rfl, trivial⟩ trivial ?_
            refine G.opG1 (op_load1P (c := bS d_1.Key) Try.underlying9 rfl rfl (Ev.t 50 (.ptr 1003 0)) rfl) rfl rfl rfl ⟨rfl, trivial⟩ ⟨rfl, trivial⟩ ?_
            refine G.opG1 (op_gtS (Ev.t 49 (bS y15.2.1)) (Ev.t 51 (bS d_1.Key)) rfl) rfl rfl rfl ⟨rfl, rfl, trivial⟩ trivial ?_
            refine G.op1 (op_pickT (Ev.t 47 (bB true)) (Ev.t 52 (bB (!(slt y15.2.1 d_1.Key || seq y15.2.1 d_1.Key)))) rfl) rfl ⟨rfl, rfl, trivial⟩ trivial ?_
            refine G.endOps ?_
            exact G.arr (J22 (!(slt y15.2.1 d_1.Key || seq y15.2.1 d_1.Key)) hF) ⟨rfl, rfl, rfl, rfl, rfl, rfl, rfl, trivial⟩ ⟨rfl, rfl, rfl, trivial⟩ rfl
          · refine G.known (t := 47) hc23 rfl ?_
            refine G.opN1 rfl rfl rfl rfl rfl ?_
            refine G.opN1 rfl rfl rfl rfl rfl ?_
            refine G.opN1 rfl rfl rfl rfl rfl ?_
            refine G.opN1 rfl rfl rfl rfl rfl ?_
            refine G.opN1 rfl rfl rfl rfl rfl ?_
            refine G.op1 (op_pickF (Ev.t 47 (bB false)) (Ev.c _ rfl) rfl) rfl ⟨rfl, trivial⟩ trivial ?_
            refine G.endOps ?_
            exact G.arr (J22 false hF) ⟨rfl, rfl, rfl, rfl, rfl, rfl, rfl, trivial⟩ ⟨rfl, rfl, rfl, trivial⟩ rfl
        refine ifS hF (fun hc25 hF => ?_) (fun hc25 hF => ?_)
        · refine G.cond rfl (fun _ => ?_) (fun hx => by rw [hc25] at hx; cases hx)
          refine G.seq ?_
          refine G.seq ?_
          refine G.region ?_
          refine G.op1 (op_fieldP (off' := 1) Try.underlying26 rfl ti24 (by decide) rfl (Ev.t 10 (.ptr 1010 0)) rfl) rfl ⟨rfl, trivial⟩ trivial ?_
          refine G.op1 (op_loadAP (ds := [.v (.int .i64 x14.Stamp.N), .v (.int .i64 x14.Stamp.Site)]) Try.underlying24 rfl ti24 rfl (Ev.t 39 (.ptr 1010 1)) rfl) rfl ⟨rfl, trivial⟩ ⟨rfl, trivial⟩ ?_
          refine G.op1 (op_fieldP (off' := 1) Try.underlying26 rfl ti24 (by decide) rfl (Ev.t 3 (.ptr 1003 0)) rfl) rfl ⟨rfl, trivial⟩ trivial ?_
          refine G.op1 (op_loadAP (ds := [.v (.int .i64 d_1.Stamp.N), .v (.int .i64 d_1.Stamp.Site)]) Try.underlying24 rfl ti24 rfl (Ev.t 41 (.ptr 1003 1)) rfl) rfl ⟨rfl, trivial⟩ ⟨rfl, trivial⟩ ?_
          obtain ⟨r26, hr26, hF⟩ := bindS hF
          refine G.op1 (op_callQ (sv := .one (bB r26)) cf25 (ct_ref03_Less x14.Stamp d_1.Stamp r26 hr26) rfl rfl (EvQL.cons (EvQ.g (Ev.t 40 (.g (.agg [.v (.int .i64 x14.Stamp.N), .v (.int .i64 x14.Stamp.Site)])))) (EvQL.cons (EvQ.g (Ev.t 42 (.g (.agg [.v (.int .i64 d_1.Stamp.N), .v (.int .i64 d_1.Stamp.Site)])))) EvQL.nil)) rfl) rfl ⟨rfl, rfl, trivial⟩ trivial ?_
          refine G.endOps ?_
          refine ifS hF (fun hc27 hF => ?_) (fun hc27 hF => ?_)
          · refine G.cond rfl (fun _ => ?_) (fun hx => by rw [hc27] at hx; cases hx)
            refine G.region ?_
            refine G.op1 (op_loadAP (ds := [.v (.string d_1.Key), .v (.int .i64 d_1.Stamp.N), .v (.int .i64 d_1.Stamp.Site)]) Try.underlying26 rfl ti26 rfl (Ev.t 3 (.ptr 1003 0)) rfl) rfl ⟨rfl, trivial⟩ ⟨rfl, trivial⟩ ?_
            refine G.op3 (op_storeA (cs' := [bS d_1.Key, bI .i64 d_1.Stamp.N, bI .i64 d_1.Stamp.Site]) ti26 rfl rfl (Ev.t 10 (.ptr 1010 0)) (Ev.t 44 (.g (.agg [.v (.string d_1.Key), .v (.int .i64 d_1.Stamp.N), .v (.int .i64 d_1.Stamp.Site)])))) rfl ⟨rfl, rfl, trivial⟩ ⟨rfl, trivial⟩ ?_
            refine G.endOps ?_
            refine G.region ?_
            refine G.op1 (op_assign (Ev.c _ rfl) rfl) rfl trivial trivial ?_
            refine G.endOps ?_
            exact G.arr (J24 (true, d_1.Key, d_1.Stamp.N, d_1.Stamp.Site) hF) ⟨rfl, rfl, rfl, rfl, rfl, rfl, trivial⟩ ⟨rfl, rfl, rfl, trivial⟩ rfl
          · refine G.cond rfl (fun hx => by rw [hc27] at hx; cases hx) (fun _ => ?_)
            refine G.skip ?_
            refine G.region ?_
            refine G.op1 (op_assign (Ev.c _ rfl) rfl) rfl trivial trivial ?_
            refine G.endOps ?_
            exact G.arr (J24 (true, x14.Key, x14.Stamp.N, x14.Stamp.Site) hF) ⟨rfl, rfl, rfl, rfl, rfl, rfl, trivial⟩ ⟨rfl, rfl, rfl, trivial⟩ rfl
        · refine G.cond rfl (fun hx => by rw [hc25] at hx; cases hx) (fun _ => ?_)
          refine G.skip ?_
          exact G.arr (J24 (v9.1, x14.Key, x14.Stamp.N, x14.Stamp.Site) hF) ⟨rfl, rfl, rfl, rfl, rfl, rfl, trivial⟩ ⟨rfl, rfl, rfl, trivial⟩ rfl
      · refine G.cond rfl (fun hx => by rw [hc13] at hx; cases hx) (fun _ => ?_)
        refine G.exit ?_
        refine GX.c ?_
        refine GX.q ?_
        refine GX.bYes ?_
        exact G.arr (J8 (v9.1, v9.2.2) hF) ⟨rfl, rfl, rfl, trivial⟩ ⟨rfl, rfl, trivial⟩ rfl
  refine G.region ?_
  refine G.op1 (op_move (Ev.t 5 (bB r1)) rfl) rfl ⟨rfl, trivial⟩ trivial ?_
  refine G.op1 (op_not (Ev.t 17 (bB r1)) rfl) rfl ⟨rfl, trivial⟩ trivial ?_
  refine G.op1 (op_move (Ev.t 18 (bB (!r1))) rfl) rfl ⟨rfl, trivial⟩ trivial ?_
  refine ifS hF (fun hc29 hF => ?_) (fun hc29 hF => ?_)
  · refine G.known (t := 19) hc29 rfl ?_
    refine G.opN1 rfl rfl rfl rfl rfl ?_
    refine G.opN1 rfl rfl rfl rfl rfl ?_
    refine G.op1 (op_pickT (Ev.t 19 (bB true)) (Ev.c _ rfl) rfl) rfl ⟨rfl, trivial⟩ trivial ?_
    refine G.endOps ?_
    exact G.arr (J28 true hF) ⟨rfl, rfl, rfl, trivial⟩ ⟨rfl, trivial⟩ rfl
  · refine G.known (t := 19) hc29 rfl ?_
    refine G.opG1 (op_move (Ev.t 6 (bB r2)) rfl) rfl rfl rfl ⟨rfl, trivial⟩ trivial ?_
    refine G.opG1 (op_not (Ev.t 20 (bB r2)) rfl) rfl rfl rfl ⟨rfl, trivial⟩ trivial ?_
    refine G.op1 (op_pickF (Ev.t 19 (bB false)) (Ev.t 21 (bB (!r2))) rfl) rfl ⟨rfl, rfl, trivial⟩ trivial ?_
    refine G.endOps ?_
    exact G.arr (J28 (!r2) hF) ⟨rfl, rfl, rfl, trivial⟩ ⟨rfl, trivial⟩ rfl


set_option maxRecDepth 20000 in
set_option maxHeartbeats 2000000 in
theorem ct_ref04_Merge (l_0 : (List (List Api_Dep))) (r : (List Api_Dep)) (hF : ref04_Merge l_0 = some r) : Ct Try.prog 27 [.g (.d (.sl 1 (List.map encL_encApi_Dep l_0)))] (.one (.d (.sl 3 (List.map encApi_Dep r)))) := by
  unfold ref04_Merge at hF
  refine Ct.intro Try.func27 rfl Try.ntmps27 rfl rfl fun M w => ?_
  refine G.seq ?_
  refine G.region ?_
  refine G.op1 (op_assign (Ev.n 3) rfl) rfl trivial trivial ?_
  refine G.endOps ?_
  refine G.seq ?_
  refine G.region ?_
  refine G.op1 (op_assign (Ev.n 3) rfl) rfl trivial trivial ?_
  refine G.endOps ?_
  refine G.seq ?_
  refine G.seq ?_
  refine G.region ?_
  refine G.op1 (op_assign (Ev.c _ rfl) rfl) rfl trivial trivial ?_
  refine G.endOps ?_
  refine G.joinC (T := (List Api_Dep)) (fun y1 => ⟨[(3, .one (.g (.d (.sl 3 (List.map encApi_Dep y1)))))], []⟩) (fun y1 => ref04_Merge_k1 y1 = some r) (fun y1 hF => ?_) (fun J2 => ?_)
  · unfold ref04_Merge_k1 at hF
    refine G.seq ?_
    refine G.region ?_
    refine G.op1 (op_move (Ev.t 3 (.g (.d (.sl 3 (List.map encApi_Dep y1))))) rfl) rfl ⟨rfl, trivial⟩ trivial ?_
    refine G.op1 (op_assign (Ev.t 30 (.g (.d (.sl 3 (List.map encApi_Dep y1))))) rfl) rfl ⟨rfl, trivial⟩ trivial ?_
    refine G.endOps ?_
    cases hF
    exact G.ret1 Try.results27 (RVar.tmp 2 _) ⟨rfl, trivial⟩ trivial
  refine G.block ?_
  refine G.keep (sl' := [(0, .one (.g (.d (.sl 1 (List.map encL_encApi_Dep l_0))))), (3, .one (.g (.d (.sl 3 (List.map encApi_Dep ([] : (List Api_Dep))))))), (4, .one (bI .i64 0))]) (hp' := []) ⟨rfl, rfl, rfl, trivial⟩ trivial rfl ?_
  refine G.loopF (fun (v3 : (List Api_Dep) × Int) => ⟨[(0, .one (.g (.d (.sl 1 (List.map encL_encApi_Dep l_0))))), (3, .one (.g (.d (.sl 3 (List.map encApi_Dep v3.1))))), (4, .one (bI .i64 v3.2))], []⟩) hF rfl (fun K6 again5 v3 J4 hF => ?_)
  unfold ref04_Merge_l2 at hF
  refine G.seq ?_
  refine G.seq ?_
  refine G.region ?_
  refine G.op1 (op_move (Ev.t 4 (bI .i64 v3.2)) rfl) rfl ⟨rfl, trivial⟩ trivial ?_
  refine G.op1 (op_move (Ev.t 0 (.g (.d (.sl 1 (List.map encL_encApi_Dep l_0))))) rfl) rfl ⟨rfl, trivial⟩ trivial ?_
  refine G.op1 (OpL.cast (op_lenD Try.underlying53 (Ev.t 7 (.g (.d (.sl 1 (List.map encL_encApi_Dep l_0))))) rfl) (by rw [List.length_map])) rfl ⟨rfl, trivial⟩ trivial ?_
  refine G.op1 (op_lss (Ev.t 6 (bI .i64 v3.2)) (Ev.t 8 (bI .i64 (l_0.length : Int))) rfl) rfl ⟨rfl, rfl, trivial⟩ trivial ?_
  refine G.endOps ?_
  refine ifS hF (fun hc7 hF => ?_) (fun hc7 hF => ?_)
  · refine G.cond rfl (fun _ => ?_) (fun hx => by rw [hc7] at hx; cases hx)
    refine G.skip ?_
    refine G.seq ?_
    refine G.joinC (T := (List Api_Dep)) (fun y8 => ⟨[(0, .one (.g (.d (.sl 1 (List.map encL_encApi_Dep l_0))))), (3, .one (.g (.d (.sl 3 (List.map encApi_Dep y8))))), (4, .one (bI .i64 v3.2))], []⟩) (fun y8 => ref04_Merge_k3 again5 v3 y8 = some r) (fun y8 hF => ?_) (fun J9 => ?_)
    · unfold ref04_Merge_k3 at hF
      refine G.region ?_
      refine G.op1 (op_move (Ev.t 4 (bI .i64 v3.2)) rfl) rfl ⟨rfl, trivial⟩ trivial ?_
      refine G.op1 (op_add (Ev.t 10 (bI .i64 v3.2)) (Ev.c _ rfl) rfl) rfl ⟨rfl, trivial⟩ trivial ?_
      refine G.op1 (op_assign (Ev.t 11 (bI .i64 (IntKind.wrap .i64 (v3.2 + 1)))) rfl) rfl ⟨rfl, trivial⟩ trivial ?_
      refine G.endOps ?_
      exact G.arr (J4 (y8, IntKind.wrap .i64 (v3.2 + 1)) hF) ⟨rfl, rfl, rfl, trivial⟩ trivial rfl
    refine G.block ?_
    refine G.seq ?_
    refine G.region ?_
    refine G.op1 (op_assign (Ev.c _ rfl) rfl) rfl trivial trivial ?_
    refine G.endOps ?_
    refine G.joinC (T := (List Api_Dep)) (fun y10 => ⟨[(0, .one (.g (.d (.sl 1 (List.map encL_encApi_Dep l_0))))), (3, .one (.g (.d (.sl 3 (List.map encApi_Dep y10))))), (4, .one (bI .i64 v3.2))], []⟩) (fun y10 => ref04_Merge_k4 again5 v3 y10 = some r) (fun y10 hF => ?_) (fun J11 => ?_)
    · unfold ref04_Merge_k4 at hF
      refine G.endBlock ?_
      exact G.arr (J9 y10 hF) ⟨rfl, rfl, rfl, trivial⟩ trivial rfl
    refine G.block ?_
    refine G.keep (sl' := [(0, .one (.g (.d (.sl 1 (List.map encL_encApi_Dep l_0))))), (3, .one (.g (.d (.sl 3 (List.map encApi_Dep v3.1))))), (4, .one (bI .i64 v3.2)), (5, .one (bI .i64 0))]) (hp' := []) ⟨rfl, rfl, rfl, rfl, trivial⟩ trivial rfl ?_
    refine G.loopF (fun (v12 : (List Api_Dep) × Int) => ⟨[(0, .one (.g (.d (.sl 1 (List.map encL_encApi_Dep l_0))))), (3, .one (.g (.d (.sl 3 (List.map encApi_Dep v12.1))))), (4, .one (bI .i64 v3.2)), (5, .one (bI .i64 v12.2))], []⟩) hF rfl (fun K15 again14 v12 J13 hF => ?_)
    unfold ref04_Merge_l5 at hF
    refine G.seq ?_
    refine G.seq ?_
    refine G.region ?_
    refine G.op1 (op_move (Ev.t 5 (bI .i64 v12.2)) rfl) rfl ⟨rfl, trivial⟩ trivial ?_
    refine G.op1 (op_move (Ev.t 0 (.g (.d (.sl 1 (List.map encL_encApi_Dep l_0))))) rfl) rfl ⟨rfl, trivial⟩ trivial ?_
    refine G.op1 (op_move (Ev.t 4 (bI .i64 v3.2)) rfl) rfl ⟨rfl, trivial⟩ trivial ?_
    obtain ⟨x16, hx16, hF⟩ := bindS hF
    refine G.op1 (op_index (cs := [.sl 3 (List.map encApi_Dep x16)]) Try.underlying53 ti29 (idx_ok hx16).1 (idx_get hx16 encL_encApi_Dep) (Ev.t 13 (.g (.d (.sl 1 (List.map encL_encApi_Dep l_0))))) (Ev.t 14 (bI .i64 v3.2)) rfl) rfl ⟨rfl, rfl, trivial⟩ trivial ?_
    refine G.op1 (op_load1E (c := .sl 3 (List.map encApi_Dep x16)) Try.underlying29 rfl rfl (Ev.t 15 (.ep [.sl 3 (List.map encApi_Dep x16)])) rfl) rfl ⟨rfl, trivial⟩ trivial ?_
    refine G.op1 (OpL.cast (op_lenD Try.underlying29 (Ev.t 16 (.g (.d (.sl 3 (List.map encApi_Dep x16))))) rfl) (by rw [List.length_map])) rfl ⟨rfl, trivial⟩ trivial ?_
    refine G.op1 (op_lss (Ev.t 12 (bI .i64 v12.2)) (Ev.t 17 (bI .i64 (x16.length : Int))) rfl) rfl ⟨rfl, rfl, trivial⟩ trivial ?_
    refine G.endOps ?_
    refine ifS hF (fun hc17 hF => ?_) (fun hc17 hF => ?_)
    · refine G.cond rfl (fun _ => ?_) (fun hx => by rw [hc17] at hx; cases hx)
      refine G.skip ?_
      refine G.seq ?_
      refine G.block ?_
      refine G.region ?_
      refine G.op1 (op_move (Ev.t 3 (.g (.d (.sl 3 (List.map encApi_Dep v12.1))))) rfl) rfl ⟨rfl, trivial⟩ trivial ?_
      refine G.op1 (op_move (Ev.t 0 (.g (.d (.sl 1 (List.map encL_encApi_Dep l_0))))) rfl) rfl ⟨rfl, trivial⟩ trivial ?_
      refine G.op1 (op_move (Ev.t 4 (bI .i64 v3.2)) rfl) rfl ⟨rfl, trivial⟩ trivial ?_
      obtain ⟨x18, hx18, hF⟩ := bindS hF
      refine G.op1 (op_index (cs := [.sl 3 (List.map encApi_Dep x18)]) Try.underlying53 ti29 (idx_ok hx18).1 (idx_get hx18 encL_encApi_Dep) (Ev.t 22 (.g (.d (.sl 1 (List.map encL_encApi_Dep l_0))))) (Ev.t 23 (bI .i64 v3.2)) rfl) rfl ⟨rfl, rfl, trivial⟩ trivial ?_
      refine G.op1 (op_load1E (c := .sl 3 (List.map encApi_Dep x18)) Try.underlying29 rfl rfl (Ev.t 24 (.ep [.sl 3 (List.map encApi_Dep x18)])) rfl) rfl ⟨rfl, trivial⟩ trivial ?_
      refine G.op1 (op_move (Ev.t 5 (bI .i64 v12.2)) rfl) rfl ⟨rfl, trivial⟩ trivial ?_
      obtain ⟨x19, hx19, hF⟩ := bindS hF
      refine G.op1 (op_index (cs := [.v (.string x19.Key), .v (.int .i64 x19.Stamp.N), .v (.int .i64 x19.Stamp.Site)]) Try.underlying29 ti26 (idx_ok hx19).1 (idx_get hx19 encApi_Dep) (Ev.t 25 (.g (.d (.sl 3 (List.map encApi_Dep x18))))) (Ev.t 26 (bI .i64 v12.2)) rfl) rfl ⟨rfl, rfl, trivial⟩ trivial ?_
      refine G.op1 (op_loadAE (ds := [.v (.string x19.Key), .v (.int .i64 x19.Stamp.N), .v (.int .i64 x19.Stamp.Site)]) Try.underlying26 rfl ti26 rfl (Ev.t 27 (.ep [.v (.string x19.Key), .v (.int .i64 x19.Stamp.N), .v (.int .i64 x19.Stamp.Site)])) rfl) rfl ⟨rfl, trivial⟩ trivial ?_
      obtain ⟨r20, hr20, hF⟩ := bindS hF
      refine G.op1 (op_call (sv := .one (.g (.d (.sl 3 (List.map encApi_Dep r20))))) cf28 (ct_ref04_Add v12.1 x19 r20 hr20) rfl (EvL.cons (Ev.t 21 (.g (.d (.sl 3 (List.map encApi_Dep v12.1))))) (EvL.cons (Ev.t 28 (.g (.agg [.v (.string x19.Key), .v (.int .i64 x19.Stamp.N), .v (.int .i64 x19.Stamp.Site)]))) EvL.nil)) rfl) rfl ⟨rfl, rfl, trivial⟩ trivial ?_
      refine G.op1 (op_assign (Ev.t 29 (.g (.d (.sl 3 (List.map encApi_Dep r20))))) rfl) rfl ⟨rfl, trivial⟩ trivial ?_
      refine G.endOps ?_
      refine G.endBlock ?_
      refine G.region ?_
      refine G.op1 (op_move (Ev.t 5 (bI .i64 v12.2)) rfl) rfl ⟨rfl, trivial⟩ trivial ?_
      refine G.op1 (op_add (Ev.t 19 (bI .i64 v12.2)) (Ev.c _ rfl) rfl) rfl ⟨rfl, trivial⟩ trivial ?_
      refine G.op1 (op_assign (Ev.t 20 (bI .i64 (IntKind.wrap .i64 (v12.2 + 1)))) rfl) rfl ⟨rfl, trivial⟩ trivial ?_
      refine G.endOps ?_
      exact G.arr (J13 (r20, IntKind.wrap .i64 (v12.2 + 1)) hF) ⟨rfl, rfl, rfl, rfl, trivial⟩ trivial rfl
    · refine G.cond rfl (fun hx => by rw [hc17] at hx; cases hx) (fun _ => ?_)
      refine G.exit ?_
      refine GX.c ?_
      refine GX.q ?_
      refine GX.bYes ?_
      exact G.arr (J11 v12.1 hF) ⟨rfl, rfl, rfl, trivial⟩ trivial rfl
  · refine G.cond rfl (fun hx => by rw [hc7] at hx; cases hx) (fun _ => ?_)
    refine G.exit ?_
    refine GX.c ?_
    refine GX.q ?_
    refine GX.bYes ?_
    exact G.arr (J2 v3.1 hF) ⟨rfl, trivial⟩ trivial rfl


set_option maxRecDepth 20000 in
set_option maxHeartbeats 2000000 in
theorem ct_ref05_Find (l_0 : (List Api_Version)) (d_1 : Api_Dep) (r : (Api_Version × Bool)) (hF : ref05_Find l_0 d_1 = some r) : Ct Try.prog 19 [.g (.d (.sl 6 (List.map encApi_Version l_0))), .g (.agg (encApi_Dep d_1))] (.tup [.agg (encApi_Version r.1), .d (.v (.bool r.2))]) := by
  unfold ref05_Find at hF
  refine Ct.intro Try.func19 rfl Try.ntmps19 rfl rfl fun M w => ?_
  refine G.seq ?_
  refine G.region ?_
  refine G.op2 (op_boxA (k := 1003) (Ev.t 1 (.g (.agg [.v (.string d_1.Key), .v (.int .i64 d_1.Stamp.N), .v (.int .i64 d_1.Stamp.Site)]))) rfl) rfl ⟨rfl, trivial⟩ ⟨rfl, trivial⟩ ?_
  refine G.op2 (op_alloc (k := 1004) (cs := [bS ByteArray.empty, bS ByteArray.empty, bB false, bI .i64 0, bI .i64 0, .g (.d (.sl 3 (List.map encApi_Dep ([] : (List Api_Dep)))))]) ti34 ⟨.v _ rfl, .v _ rfl, .v _ rfl, .v _ rfl, .v _ rfl, .n 3, trivial⟩ rfl) rfl trivial ⟨rfl, trivial⟩ ?_
  refine G.op1 (op_assign (Ev.c _ rfl) rfl) rfl trivial trivial ?_
  refine G.endOps ?_
  refine G.seq ?_
  refine G.seq ?_
  refine G.region ?_
  refine G.op1 (op_assign (Ev.c _ rfl) rfl) rfl trivial trivial ?_
  refine G.endOps ?_
  refine G.joinC (T := Unit) (fun y1 => ⟨[(4, .one (.ptr 1004 0))], [(1004, some (.blk 34 [bS ByteArray.empty, bS ByteArray.empty, bB false, bI .i64 0, bI .i64 0, .g (.d (.sl 3 (List.map encApi_Dep ([] : (List Api_Dep)))))]))]⟩) (fun y1 => ref05_Find_k1 y1 = some r) (fun y1 hF => ?_) (fun J2 => ?_)
  · unfold ref05_Find_k1 at hF
    refine G.seq ?_
    refine G.region ?_
    refine G.op1 (op_build (zs := [.v (.string ByteArray.empty), .v (.string ByteArray.empty), .v (.bool false), .v (.int .i64 0), .v (.int .i64 0), .sl 3 (List.map encApi_Dep ([] : (List Api_Dep)))]) (ds := [.v (.string ByteArray.empty), .v (.string ByteArray.empty), .v (.bool false), .v (.int .i64 0), .v (.int .i64 0), .sl 3 (List.map encApi_Dep ([] : (List Api_Dep)))]) Try.underlying34 ti34 (pl34 _ Try.underlying34) ⟨.v _ rfl, .v _ rfl, .v _ rfl, .v _ rfl, .v _ rfl, .n 3, trivial⟩ EvP.nil rfl rfl) rfl trivial trivial ?_
    refine G.op3 (op_storeA (cs' := [bS ByteArray.empty, bS ByteArray.empty, bB false, bI .i64 0, bI .i64 0, .g (.d (.sl 3 (List.map encApi_Dep ([] : (List Api_Dep)))))]) ti34 rfl rfl (Ev.t 4 (.ptr 1004 0)) (Ev.t 35 (.g (.agg [.v (.string ByteArray.empty), .v (.string ByteArray.empty), .v (.bool false), .v (.int .i64 0), .v (.int .i64 0), .sl 3 (List.map encApi_Dep ([] : (List Api_Dep)))])))) rfl ⟨rfl, rfl, trivial⟩ ⟨rfl, trivial⟩ ?_
    refine G.op1 (op_assign (Ev.c _ rfl) rfl) rfl trivial trivial ?_
    refine G.endOps ?_
    cases hF
    exact G.ret2 Try.results19 (RVar.cellA (ds := [.v (.string ByteArray.empty), .v (.string ByteArray.empty), .v (.bool false), .v (.int .i64 0), .v (.int .i64 0), .sl 3 (List.map encApi_Dep ([] : (List Api_Dep)))]) Try.underlying34 rfl ti34 rfl) (RVar.tmp 5 _) ⟨rfl, rfl, trivial⟩ ⟨rfl, trivial⟩
  refine G.block ?_
  refine G.keep (sl' := [(0, .one (.g (.d (.sl 6 (List.map encApi_Version l_0))))), (3, .one (.ptr 1003 0)), (4, .one (.ptr 1004 0)), (6, .one (bI .i64 0))]) (hp' := [(1003, some (.blk 26 [bS d_1.Key, bI .i64 d_1.Stamp.N, bI .i64 d_1.Stamp.Site])), (1004, some (.blk 34 [bS ByteArray.empty, bS ByteArray.empty, bB false, bI .i64 0, bI .i64 0, .g (.d (.sl 3 (List.map encApi_Dep ([] : (List Api_Dep)))))]))]) ⟨rfl, rfl, rfl, rfl, trivial⟩ ⟨rfl, rfl, trivial⟩ rfl ?_
  refine G.loopF (fun (v3 : Int) => ⟨[(0, .one (.g (.d (.sl 6 (List.map encApi_Version l_0))))), (3, .one (.ptr 1003 0)), (4, .one (.ptr 1004 0)), (6, .one (bI .i64 v3))], [(1003, some (.blk 26 [bS d_1.Key, bI .i64 d_1.Stamp.N, bI .i64 d_1.Stamp.Site])), (1004, some (.blk 34 [bS ByteArray.empty, bS ByteArray.empty, bB false, bI .i64 0, bI .i64 0, .g (.d (.sl 3 (List.map encApi_Dep ([] : (List Api_Dep)))))]))]⟩) hF rfl (fun K6 again5 v3 J4 hF => ?_)
  unfold ref05_Find_l2 at hF
  refine G.seq ?_
  refine G.seq ?_
  refine G.region ?_
  refine G.op1 (op_move (Ev.t 6 (bI .i64 v3)) rfl) rfl ⟨rfl, trivial⟩ trivial ?_
  refine G.op1 (op_move (Ev.t 0 (.g (.d (.sl 6 (List.map encApi_Version l_0))))) rfl) rfl ⟨rfl, trivial⟩ trivial ?_
  refine G.op1 (OpL.cast (op_lenD Try.underlying31 (Ev.t 8 (.g (.d (.sl 6 (List.map encApi_Version l_0))))) rfl) (by rw [List.length_map])) rfl ⟨rfl, trivial⟩ trivial ?_
  refine G.op1 (op_lss (Ev.t 7 (bI .i64 v3)) (Ev.t 9 (bI .i64 (l_0.length : Int))) rfl) rfl ⟨rfl, rfl, trivial⟩ trivial ?_
  refine G.endOps ?_
  refine ifS hF (fun hc7 hF => ?_) (fun hc7 hF => ?_)
  · refine G.cond rfl (fun _ => ?_) (fun hx => by rw [hc7] at hx; cases hx)
    refine G.skip ?_
    refine G.seq ?_
    refine G.block ?_
    refine G.seq ?_
    refine G.joinC (T := Bool) (fun y8 => ⟨[(0, .one (.g (.d (.sl 6 (List.map encApi_Version l_0))))), (3, .one (.ptr 1003 0)), (4, .one (.ptr 1004 0)), (6, .one (bI .i64 v3)), (30, .one (bB y8))], [(1003, some (.blk 26 [bS d_1.Key, bI .i64 d_1.Stamp.N, bI .i64 d_1.Stamp.Site])), (1004, some (.blk 34 [bS ByteArray.empty, bS ByteArray.empty, bB false, bI .i64 0, bI .i64 0, .g (.d (.sl 3 (List.map encApi_Dep ([] : (List Api_Dep)))))]))]⟩) (fun y8 => ref05_Find_k3 l_0 again5 v3 y8 = some r) (fun y8 hF => ?_) (fun J11 => ?_)
    · unfold ref05_Find_k3 at hF
      refine ifS hF (fun hc9 hF => ?_) (fun hc9 hF => ?_)
      · refine G.cond rfl (fun _ => ?_) (fun hx => by rw [hc9] at hx; cases hx)
        refine G.seq ?_
        refine G.region ?_
        refine G.op1 (op_move (Ev.t 0 (.g (.d (.sl 6 (List.map encApi_Version l_0))))) rfl) rfl ⟨rfl, trivial⟩ trivial ?_
        refine G.op1 (op_move (Ev.t 6 (bI .i64 v3)) rfl) rfl ⟨rfl, trivial⟩ trivial ?_
        obtain ⟨x10, hx10, hF⟩ := bindS hF
        refine G.op1 (op_index (cs := [.v (.string x10.Key), .v (.string x10.Value), .v (.bool x10.Gone), .v (.int .i64 x10.Stamp.N), .v (.int .i64 x10.Stamp.Site), .sl 3 (List.map encApi_Dep x10.Past)]) Try.underlying31 ti34 (idx_ok hx10).1 (idx_get hx10 encApi_Version) (Ev.t 31 (.g (.d (.sl 6 (List.map encApi_Version l_0))))) (Ev.t 32 (bI .i64 v3)) rfl) rfl ⟨rfl, rfl, trivial⟩ trivial ?_
        refine G.op1 (op_loadAE (ds := [.v (.string x10.Key), .v (.string x10.Value), .v (.bool x10.Gone), .v (.int .i64 x10.Stamp.N), .v (.int .i64 x10.Stamp.Site), .sl 3 (List.map encApi_Dep x10.Past)]) Try.underlying34 rfl ti34 rfl (Ev.t 33 (.ep [.v (.string x10.Key), .v (.string x10.Value), .v (.bool x10.Gone), .v (.int .i64 x10.Stamp.N), .v (.int .i64 x10.Stamp.Site), .sl 3 (List.map encApi_Dep x10.Past)])) rfl) rfl ⟨rfl, trivial⟩ trivial ?_
        refine G.op3 (op_storeA (cs' := [bS x10.Key, bS x10.Value, bB x10.Gone, bI .i64 x10.Stamp.N, bI .i64 x10.Stamp.Site, .g (.d (.sl 3 (List.map encApi_Dep x10.Past)))]) ti34 rfl rfl (Ev.t 4 (.ptr 1004 0)) (Ev.t 34 (.g (.agg [.v (.string x10.Key), .v (.string x10.Value), .v (.bool x10.Gone), .v (.int .i64 x10.Stamp.N), .v (.int .i64 x10.Stamp.Site), .sl 3 (List.map encApi_Dep x10.Past)])))) rfl ⟨rfl, rfl, trivial⟩ ⟨rfl, trivial⟩ ?_
        refine G.op1 (op_assign (Ev.c _ rfl) rfl) rfl trivial trivial ?_
        refine G.endOps ?_
        cases hF
        exact G.ret2 Try.results19 (RVar.cellA (ds := [.v (.string x10.Key), .v (.string x10.Value), .v (.bool x10.Gone), .v (.int .i64 x10.Stamp.N), .v (.int .i64 x10.Stamp.Site), .sl 3 (List.map encApi_Dep x10.Past)]) Try.underlying34 rfl ti34 rfl) (RVar.tmp 5 _) ⟨rfl, rfl, trivial⟩ ⟨rfl, trivial⟩
      · refine G.cond rfl (fun hx => by rw [hc9] at hx; cases hx) (fun _ => ?_)
        refine G.skip ?_
        refine G.endBlock ?_
        refine G.region ?_
        refine G.op1 (op_move (Ev.t 6 (bI .i64 v3)) rfl) rfl ⟨rfl, trivial⟩ trivial ?_
        refine G.op1 (op_add (Ev.t 11 (bI .i64 v3)) (Ev.c _ rfl) rfl) rfl ⟨rfl, trivial⟩ trivial ?_
        refine G.op1 (op_assign (Ev.t 12 (bI .i64 (IntKind.wrap .i64 (v3 + 1)))) rfl) rfl ⟨rfl, trivial⟩ trivial ?_
        refine G.endOps ?_
        exact G.arr (J4 (IntKind.wrap .i64 (v3 + 1)) hF) ⟨rfl, rfl, rfl, rfl, trivial⟩ ⟨rfl, rfl, trivial⟩ rfl
    obtain ⟨x12, hx12, hF⟩ := bindS hF
    refine ifS hF (fun hc13 hF => ?_) (fun hc13 hF => ?_)
    · obtain ⟨x14, hx14, hF⟩ := bindS hF
      refine G.drawn (effs := [⟨[(0, .one (.g (.d (.sl 6 (List.map encApi_Version l_0)))))], [], [(13, .one (.g (.d (.sl 6 (List.map encApi_Version l_0)))))], []⟩, ⟨[(6, .one (bI .i64 v3))], [], [(14, .one (bI .i64 v3))], []⟩, ⟨[(13, .one (.g (.d (.sl 6 (List.map encApi_Version l_0))))), (14, .one (bI .i64 v3))], [], [(15, .one (.ep [.v (.string x12.Key), .v (.string x12.Value), .v (.bool x12.Gone), .v (.int .i64 x12.Stamp.N), .v (.int .i64 x12.Stamp.Site), .sl 3 (List.map encApi_Dep x12.Past)]))], []⟩, ⟨[(15, .one (.ep [.v (.string x12.Key), .v (.string x12.Value), .v (.bool x12.Gone), .v (.int .i64 x12.Stamp.N), .v (.int .i64 x12.Stamp.Site), .sl 3 (List.map encApi_Dep x12.Past)]))], [], [(16, .one (.ep [.v (.string x12.Key), .v (.string x12.Value), .v (.bool x12.Gone), .v (.int .i64 x12.Stamp.N), .v (.int .i64 x12.Stamp.Site), .sl 3 (List.map encApi_Dep x12.Past)]))], []⟩, ⟨[(16, .one (.ep [.v (.string x12.Key), .v (.string x12.Value), .v (.bool x12.Gone), .v (.int .i64 x12.Stamp.N), .v (.int .i64 x12.Stamp.Site), .sl 3 (List.map encApi_Dep x12.Past)]))], [], [(17, .one (bS x12.Key))], []⟩, ⟨[(3, .one (.ptr 1003 0))], [], [(18, .one (.ptr 1003 0))], []⟩, ⟨[(18, .one (.ptr 1003 0))], [(1003, some (.blk 26 [bS d_1.Key, bI .i64 d_1.Stamp.N, bI .i64 d_1.Stamp.Site]))], [(19, .one (bS d_1.Key))], []⟩, ⟨[(17, .one (bS x12.Key)), (19, .one (bS d_1.Key))], [], [(20, .one (bB true))], []⟩, ⟨[(20, .one (bB true))], [], [(21, .one (bB true))], []⟩, ⟨[(21, .one (bB true)), (0, .one (.g (.d (.sl 6 (List.map encApi_Version l_0)))))], [], [(22, .one (.g (.d (.sl 6 (List.map encApi_Version l_0)))))], []⟩, ⟨[(21, .one (bB true)), (6, .one (bI .i64 v3))], [], [(23, .one (bI .i64 v3))], []⟩, ⟨[(21, .one (bB true)), (22, .one (.g (.d (.sl 6 (List.map encApi_Version l_0))))), (23, .one (bI .i64 v3))], [], [(24, .one (.ep [.v (.string x14.Key), .v (.string x14.Value), .v (.bool x14.Gone), .v (.int .i64 x14.Stamp.N), .v (.int .i64 x14.Stamp.Site), .sl 3 (List.map encApi_Dep x14.Past)]))], []⟩, ⟨[(21, .one (bB true)), (24, .one (.ep [.v (.string x14.Key), .v (.string x14.Value), .v (.bool x14.Gone), .v (.int .i64 x14.Stamp.N), .v (.int .i64 x14.Stamp.Site), .sl 3 (List.map encApi_Dep x14.Past)]))], [], [(25, .one (.ep [.v (.int .i64 x14.Stamp.N), .v (.int .i64 x14.Stamp.Site), .sl 3 (List.map encApi_Dep x14.Past)]))], []⟩, ⟨[(21, .one (bB true)), (25, .one (.ep [.v (.int .i64 x14.Stamp.N), .v (.int .i64 x14.Stamp.Site), .sl 3 (List.map encApi_Dep x14.Past)]))], [], [(26, .one (.g (.agg [.v (.int .i64 x14.Stamp.N), .v (.int .i64 x14.Stamp.Site)])))], []⟩, ⟨[(21, .one (bB true)), (3, .one (.ptr 1003 0))], [], [(27, .one (.ptr 1003 1))], []⟩, ⟨[(21, .one (bB true)), (27, .one (.ptr 1003 1))], [(1003, some (.blk 26 [bS d_1.Key, bI .i64 d_1.Stamp.N, bI .i64 d_1.Stamp.Site]))], [(28, .one (.g (.agg [.v (.int .i64 d_1.Stamp.N), .v (.int .i64 d_1.Stamp.Site)])))], []⟩, ⟨[(21, .one (bB true)), (26, .one (.g (.agg [.v (.int .i64 x14.Stamp.N), .v (.int .i64 x14.Stamp.Site)]))), (28, .one (.g (.agg [.v (.int .i64 d_1.Stamp.N), .v (.int .i64 d_1.Stamp.Site)])))], [], [(29, .one (bB (decide (x14.Stamp.N = d_1.Stamp.N) && decide (x14.Stamp.Site = d_1.Stamp.Site))))], []⟩, ⟨[(21, .one (bB true)), (29, .one (bB (decide (x14.Stamp.N = d_1.Stamp.N) && decide (x14.Stamp.Site = d_1.Stamp.Site))))], [], [(30, .one (bB (decide (x14.Stamp.N = d_1.Stamp.N) && decide (x14.Stamp.Site = d_1.Stamp.Site))))], []⟩]) (deps := [[], [], [0, 1], [0, 1, 2], [0, 1, 2, 3], [], [5], [0, 1, 2, 3, 4, 5, 6], [0, 1, 2, 3, 4, 5, 6, 7], [0, 1, 2, 3, 4, 5, 6, 7, 8], [0, 1, 2, 3, 4, 5, 6, 7, 8], [0, 1, 2, 3, 4, 5, 6, 7, 8, 9, 10], [0, 1, 2, 3, 4, 5, 6, 7, 8, 9, 10, 11], [0, 1, 2, 3, 4, 5, 6, 7, 8, 9, 10, 11, 12], [0, 1, 2, 3, 4, 5, 6, 7, 8], [0, 1, 2, 3, 4, 5, 6, 7, 8, 14], [0, 1, 2, 3, 4, 5, 6, 7, 8, 9, 10, 11, 12, 13, 14, 15], [0, 1, 2, 3, 4, 5, 6, 7, 8, 9, 10, 11, 12, 13, 14, 15, 16]]) (sl' := [(0, .one (.g (.d (.sl 6 (List.map encApi_Version l_0))))), (3, .one (.ptr 1003 0)), (4, .one (.ptr 1004 0)), (6, .one (bI .i64 v3)), (30, .one (bB (decide (x14.Stamp.N = d_1.Stamp.N) && decide (x14.Stamp.Site = d_1.Stamp.Site))))]) (hp' := [(1003, some (.blk 26 [bS d_1.Key, bI .i64 d_1.Stamp.N, bI .i64 d_1.Stamp.Site])), (1004, some (.blk 34 [bS ByteArray.empty, bS ByteArray.empty, bB false, bI .i64 0, bI .i64 0, .g (.d (.sl 3 (List.map encApi_Dep ([] : (List Api_Dep)))))]))]) follows rfl rfl rfl ⟨⟨rfl, trivial⟩, trivial, ⟨rfl, trivial⟩, trivial, ⟨rfl, rfl, trivial⟩, trivial, ⟨rfl, trivial⟩, trivial, ⟨rfl, trivial⟩, trivial, ⟨rfl, trivial⟩, trivial, ⟨rfl, trivial⟩, ⟨⟨rfl, rfl⟩, trivial⟩, ⟨rfl, rfl, trivial⟩, trivial, ⟨rfl, trivial⟩, trivial, ⟨rfl, rfl, trivial⟩, trivial, ⟨rfl, rfl, trivial⟩, trivial, ⟨rfl, rfl, rfl, trivial⟩, trivial, ⟨rfl, rfl, trivial⟩, trivial, ⟨rfl, rfl, trivial⟩, trivial, ⟨rfl, rfl, trivial⟩, trivial, ⟨rfl, rfl, trivial⟩, ⟨⟨rfl, rfl⟩, trivial⟩, ⟨rfl, rfl, rfl, trivial⟩, trivial, ⟨rfl, rfl, trivial⟩, trivial, trivial⟩ ⟨OpW.plain (op_move (Ev.t 0 (.g (.d (.sl 6 (List.map encApi_Version l_0))))) rfl) rfl rfl, OpW.plain (op_move (Ev.t 6 (bI .i64 v3)) rfl) rfl rfl, OpW.plain (op_index (cs := [.v (.string x12.Key), .v (.string x12.Value), .v (.bool x12.Gone), .v (.int .i64 x12.Stamp.N), .v (.int .i64 x12.Stamp.Site), .sl 3 (List.map encApi_Dep x12.Past)]) Try.underlying31 ti34 (idx_ok hx12).1 (idx_get hx12 encApi_Version) (Ev.t 13 (.g (.d (.sl 6 (List.map encApi_Version l_0))))) (Ev.t 14 (bI .i64 v3)) rfl) rfl rfl, OpW.plain (op_fieldE (cs' := [.v (.string x12.Key), .v (.string x12.Value), .v (.bool x12.Gone), .v (.int .i64 x12.Stamp.N), .v (.int .i64 x12.Stamp.Site), .sl 3 (List.map encApi_Dep x12.Past)]) Try.underlying34 rfl ti9 (by decide) rfl (Ev.t 15 (.ep [.v (.string x12.Key), .v (.string x12.Value), .v (.bool x12.Gone), .v (.int .i64 x12.Stamp.N), .v (.int .i64 x12.Stamp.Site), .sl 3 (List.map encApi_Dep x12.Past)])) rfl) rfl rfl, OpW.plain (op_load1E (c := .v (.string x12.Key)) Try.underlying9 rfl rfl (Ev.t 16 (.ep [.v (.string x12.Key), .v (.string x12.Value), .v (.bool x12.Gone), .v (.int .i64 x12.Stamp.N), .v (.int .i64 x12.Stamp.Site), .sl 3 (List.map encApi_Dep x12.Past)])) rfl) rfl rfl, OpW.plain (op_fieldP (off' := 0) Try.underlying26 rfl ti9 (by decide) rfl (Ev.t 3 (.ptr 1003 0)) rfl) rfl rfl, OpW.plain (op_load1P (c := bS d_1.Key) Try.underlying9 rfl rfl (Ev.t 18 (.ptr 1003 0)) rfl) rfl rfl, OpW.plain (OpL.cast (op_eqS (Ev.t 17 (bS x12.Key)) (Ev.t 19 (bS d_1.Key)) rfl) (congrArg (fun b => bB b) hc13)) rfl rfl, OpW.plain (op_move (Ev.t 20 (bB true)) rfl) rfl rfl, OpW.yes (op_move (Ev.t 0 (.g (.d (.sl 6 (List.map encApi_Version l_0))))) rfl) rfl rfl rfl, OpW.yes (op_move (Ev.t 6 (bI .i64 v3)) rfl) rfl rfl rfl, OpW.yes (op_index (cs := [.v (.string x14.Key), .v (.string x14.Value), .v (.bool x14.Gone), .v (.int .i64 x14.Stamp.N), .v (.int .i64 x14.Stamp.Site), .sl 3 (List.map encApi_Dep x14.Past)]) Try.underlying31 ti34 (idx_ok hx14).1 (idx_get hx14 encApi_Version) (Ev.t 22 (.g (.d (.sl 6 (List.map encApi_Version l_0))))) (Ev.t 23 (bI .i64 v3)) rfl) rfl rfl rfl, OpW.yes (op_fieldE (cs' := [.v (.int .i64 x14.Stamp.N), .v (.int .i64 x14.Stamp.Site), .sl 3 (List.map encApi_Dep x14.Past)]) Try.underlying34 rfl ti24 (by decide) rfl (Ev.t 24 (.ep [.v (.string x14.Key), .v (.string x14.Value), .v (.bool x14.Gone), .v (.int .i64 x14.Stamp.N), .v (.int .i64 x14.Stamp.Site), .sl 3 (List.map encApi_Dep x14.Past)])) rfl) rfl rfl rfl, OpW.yes (op_loadAE (ds := [.v (.int .i64 x14.Stamp.N), .v (.int .i64 x14.Stamp.Site)]) Try.underlying24 rfl ti24 rfl (Ev.t 25 (.ep [.v (.int .i64 x14.Stamp.N), .v (.int .i64 x14.Stamp.Site), .sl 3 (List.map encApi_Dep x14.Past)])) rfl) rfl rfl rfl, OpW.yes (op_fieldP (off' := 1) Try.underlying26 rfl ti24 (by decide) rfl (Ev.t 3 (.ptr 1003 0)) rfl) rfl rfl rfl, OpW.yes (op_loadAP (ds := [.v (.int .i64 d_1.Stamp.N), .v (.int .i64 d_1.Stamp.Site)]) Try.underlying24 rfl ti24 rfl (Ev.t 27 (.ptr 1003 1)) rfl) rfl rfl rfl, OpW.yes (op_eqA (us := [.int .i64 x14.Stamp.N, .int .i64 x14.Stamp.Site]) (vs := [.int .i64 d_1.Stamp.N, .int .i64 d_1.Stamp.Site]) rfl rfl Try.eqGuardType24 (fun w => eq24 x14.Stamp.N x14.Stamp.Site d_1.Stamp.N d_1.Stamp.Site w) (Ev.t 26 (.g (.agg [.v (.int .i64 x14.Stamp.N), .v (.int .i64 x14.Stamp.Site)]))) (Ev.t 28 (.g (.agg [.v (.int .i64 d_1.Stamp.N), .v (.int .i64 d_1.Stamp.Site)]))) rfl) rfl rfl rfl, OpW.plain (op_pickT (Ev.t 21 (bB true)) (Ev.t 29 (bB (decide (x14.Stamp.N = d_1.Stamp.N) && decide (x14.Stamp.Site = d_1.Stamp.Site)))) rfl) rfl rfl, trivial⟩ ⟨rfl, rfl, rfl, rfl, rfl, trivial⟩ ⟨rfl, rfl, trivial⟩ rfl ?_
      exact G.arr (J11 (decide (x14.Stamp.N = d_1.Stamp.N) && decide (x14.Stamp.Site = d_1.Stamp.Site)) hF) ⟨rfl, rfl, rfl, rfl, rfl, trivial⟩ ⟨rfl, rfl, trivial⟩ rfl
    · refine G.drawn (effs := [⟨[(0, .one (.g (.d (.sl 6 (List.map encApi_Version l_0)))))], [], [(13, .one (.g (.d (.sl 6 (List.map encApi_Version l_0)))))], []⟩, ⟨[(6, .one (bI .i64 v3))], [], [(14, .one (bI .i64 v3))], []⟩, ⟨[(13, .one (.g (.d (.sl 6 (List.map encApi_Version l_0))))), (14, .one (bI .i64 v3))], [], [(15, .one (.ep [.v (.string x12.Key), .v (.string x12.Value), .v (.bool x12.Gone), .v (.int .i64 x12.Stamp.N), .v (.int .i64 x12.Stamp.Site), .sl 3 (List.map encApi_Dep x12.Past)]))], []⟩, ⟨[(15, .one (.ep [.v (.string x12.Key), .v (.string x12.Value), .v (.bool x12.Gone), .v (.int .i64 x12.Stamp.N), .v (.int .i64 x12.Stamp.Site), .sl 3 (List.map encApi_Dep x12.Past)]))], [], [(16, .one (.ep [.v (.string x12.Key), .v (.string x12.Value), .v (.bool x12.Gone), .v (.int .i64 x12.Stamp.N), .v (.int .i64 x12.Stamp.Site), .sl 3 (List.map encApi_Dep x12.Past)]))], []⟩, ⟨[(16, .one (.ep [.v (.string x12.Key), .v (.string x12.Value), .v (.bool x12.Gone), .v (.int .i64 x12.Stamp.N), .v (.int .i64 x12.Stamp.Site), .sl 3 (List.map encApi_Dep x12.Past)]))], [], [(17, .one (bS x12.Key))], []⟩, ⟨[(3, .one (.ptr 1003 0))], [], [(18, .one (.ptr 1003 0))], []⟩, ⟨[(18, .one (.ptr 1003 0))], [(1003, some (.blk 26 [bS d_1.Key, bI .i64 d_1.Stamp.N, bI .i64 d_1.Stamp.Site]))], [(19, .one (bS d_1.Key))], []⟩, ⟨[(17, .one (bS x12.Key)), (19, .one (bS d_1.Key))], [], [(20, .one (bB false))], []⟩, ⟨[(20, .one (bB false))], [], [(21, .one (bB false))], []⟩, ⟨[(21, .one (bB false))], [], [(22, .one (.x Go.undef))], []⟩, ⟨[(21, .one (bB false))], [], [(23, .one (.x Go.undef))], []⟩, ⟨[(21, .one (bB false))], [], [(24, .one (.x Go.undef))], []⟩, ⟨[(21, .one (bB false))], [], [(25, .one (.x Go.undef))], []⟩, ⟨[(21, .one (bB false))], [], [(26, .one (.x Go.undef))], []⟩, ⟨[(21, .one (bB false))], [], [(27, .one (.x Go.undef))], []⟩, ⟨[(21, .one (bB false))], [], [(28, .one (.x Go.undef))], []⟩, ⟨[(21, .one (bB false))], [], [(29, .one (.x Go.undef))], []⟩, ⟨[(21, .one (bB false))], [], [(30, .one (bB false))], []⟩]) (deps := [[], [], [0, 1], [0, 1, 2], [0, 1, 2, 3], [], [5], [0, 1, 2, 3, 4, 5, 6], [0, 1, 2, 3, 4, 5, 6, 7], [0, 1, 2, 3, 4, 5, 6, 7, 8], [0, 1, 2, 3, 4, 5, 6, 7, 8], [0, 1, 2, 3, 4, 5, 6, 7, 8, 9, 10], [0, 1, 2, 3, 4, 5, 6, 7, 8, 9, 10, 11], [0, 1, 2, 3, 4, 5, 6, 7, 8, 9, 10, 11, 12], [0, 1, 2, 3, 4, 5, 6, 7, 8], [0, 1, 2, 3, 4, 5, 6, 7, 8, 14], [0, 1, 2, 3, 4, 5, 6, 7, 8, 9, 10, 11, 12, 13, 14, 15], [0, 1, 2, 3, 4, 5, 6, 7, 8, 9, 10, 11, 12, 13, 14, 15, 16]]) (sl' := [(0, .one (.g (.d (.sl 6 (List.map encApi_Version l_0))))), (3, .one (.ptr 1003 0)), (4, .one (.ptr 1004 0)), (6, .one (bI .i64 v3)), (30, .one (bB false))]) (hp' := [(1003, some (.blk 26 [bS d_1.Key, bI .i64 d_1.Stamp.N, bI .i64 d_1.Stamp.Site])), (1004, some (.blk 34 [bS ByteArray.empty, bS ByteArray.empty, bB false, bI .i64 0, bI .i64 0, .g (.d (.sl 3 (List.map encApi_Dep ([] : (List Api_Dep)))))]))]) follows rfl rfl rfl ⟨⟨rfl, trivial⟩, trivial, ⟨rfl, trivial⟩, trivial, ⟨rfl, rfl, trivial⟩, trivial, ⟨rfl, trivial⟩, trivial, ⟨rfl, trivial⟩, trivial, ⟨rfl, trivial⟩, trivial, ⟨rfl, trivial⟩, ⟨⟨rfl, rfl⟩, trivial⟩, ⟨rfl, rfl, trivial⟩, trivial, ⟨rfl, trivial⟩, trivial, ⟨rfl, trivial⟩, trivial, ⟨rfl, trivial⟩, trivial, ⟨rfl, trivial⟩, trivial, ⟨rfl, trivial⟩, trivial, ⟨rfl, trivial⟩, trivial, ⟨rfl, trivial⟩, trivial, ⟨rfl, trivial⟩, trivial, ⟨rfl, trivial⟩, trivial, ⟨rfl, trivial⟩, trivial, trivial⟩ ⟨OpW.plain (op_move (Ev.t 0 (.g (.d (.sl 6 (List.map encApi_Version l_0))))) rfl) rfl rfl, OpW.plain (op_move (Ev.t 6 (bI .i64 v3)) rfl) rfl rfl, OpW.plain (op_index (cs := [.v (.string x12.Key), .v (.string x12.Value), .v (.bool x12.Gone), .v (.int .i64 x12.Stamp.N), .v (.int .i64 x12.Stamp.Site), .sl 3 (List.map encApi_Dep x12.Past)]) Try.underlying31 ti34 (idx_ok hx12).1 (idx_get hx12 encApi_Version) (Ev.t 13 (.g (.d (.sl 6 (List.map encApi_Version l_0))))) (Ev.t 14 (bI .i64 v3)) rfl) rfl rfl, OpW.plain (op_fieldE (cs' := [.v (.string x12.Key), .v (.string x12.Value), .v (.bool x12.Gone), .v (.int .i64 x12.Stamp.N), .v (.int .i64 x12.Stamp.Site), .sl 3 (List.map encApi_Dep x12.Past)]) Try.underlying34 rfl ti9 (by decide) rfl (Ev.t 15 (.ep [.v (.string x12.Key), .v (.string x12.Value), .v (.bool x12.Gone), .v (.int .i64 x12.Stamp.N), .v (.int .i64 x12.Stamp.Site), .sl 3 (List.map encApi_Dep x12.Past)])) rfl) rfl rfl, OpW.plain (op_load1E (c := .v (.string x12.Key)) Try.underlying9 rfl rfl (Ev.t 16 (.ep [.v (.string x12.Key), .v (.string x12.Value), .v (.bool x12.Gone), .v (.int .i64 x12.Stamp.N), .v (.int .i64 x12.Stamp.Site), .sl 3 (List.map encApi_Dep x12.Past)])) rfl) rfl rfl, OpW.plain (op_fieldP (off' := 0) Try.underlying26 rfl ti9 (by decide) rfl (Ev.t 3 (.ptr 1003 0)) rfl) rfl rfl, OpW.plain (op_load1P (c := bS d_1.Key) Try.underlying9 rfl rfl (Ev.t 18 (.ptr 1003 0)) rfl) rfl rfl, OpW.plain (OpL.cast (op_eqS (Ev.t 17 (bS x12.Key)) (Ev.t 19 (bS d_1.Key)) rfl) (congrArg (fun b => bB b) hc13)) rfl rfl, OpW.plain (op_move (Ev.t 20 (bB false)) rfl) rfl rfl, OpW.no rfl rfl rfl rfl rfl, OpW.no rfl rfl rfl rfl rfl, OpW.no rfl rfl rfl rfl rfl, OpW.no rfl rfl rfl rfl rfl, OpW.no rfl rfl rfl rfl rfl, OpW.no rfl rfl rfl rfl rfl, OpW.no rfl rfl rfl rfl rfl, OpW.no rfl rfl rfl rfl rfl, OpW.plain (op_pickF (Ev.t 21 (bB false)) (Ev.c _ rfl) rfl) rfl rfl, trivial⟩ ⟨rfl, rfl, rfl, rfl, rfl, trivial⟩ ⟨rfl, rfl, trivial⟩ rfl ?_
      exact G.arr (J11 false hF) ⟨rfl, rfl, rfl, rfl, rfl, trivial⟩ ⟨rfl, rfl, trivial⟩ rfl
  · refine G.cond rfl (fun hx => by rw [hc7] at hx; cases hx) (fun _ => ?_)
    refine G.exit ?_
    refine GX.c ?_
    refine GX.q ?_
    refine GX.bYes ?_
    exact G.arr (J2 () hF) ⟨rfl, trivial⟩ ⟨rfl, trivial⟩ rfl


set_option maxRecDepth 20000 in
set_option maxHeartbeats 2000000 in
theorem ct_law05_made (l_0 : (List Law05_Write)) (r : (List Api_Version)) (hF : law05_made l_0 = some r) : Ct Try.prog 10 [.g (.d (.sl 3 (List.map encLaw05_Write l_0)))] (.new 34 6 (List.map encApi_Version r)) := by
  unfold law05_made at hF
  refine Ct.intro Try.func10 rfl Try.ntmps10 rfl rfl fun M w => ?_
  refine G.seq ?_
  refine G.region ?_
  refine G.op1 (op_assign (c := .x (.slice none 0 0)) (Ev.x _) rfl) rfl trivial trivial ?_
  refine G.endOps ?_
  refine G.seq ?_
  refine G.region ?_
  refine G.op1 (op_buildA (zs := [.v (.string ByteArray.empty), .v (.string ByteArray.empty), .v (.string ByteArray.empty), .v (.string ByteArray.empty), .v (.string ByteArray.empty), .v (.string ByteArray.empty), .v (.string ByteArray.empty), .v (.string ByteArray.empty)]) (ds := List.flatMap encS [(ByteArray.mk #[97]), (ByteArray.mk #[98]), (ByteArray.mk #[99]), (ByteArray.mk #[100]), (ByteArray.mk #[101]), (ByteArray.mk #[102]), (ByteArray.mk #[103]), (ByteArray.mk #[104])]) Try.underlying54 ti54 ti9 ⟨.v _ rfl, .v _ rfl, .v _ rfl, .v _ rfl, .v _ rfl, .v _ rfl, .v _ rfl, .v _ rfl, trivial⟩ (EvP.cons (Ev.c _ rfl) (EvP.cons (Ev.c _ rfl) (EvP.cons (Ev.c _ rfl) (EvP.cons (Ev.c _ rfl) (EvP.cons (Ev.c _ rfl) (EvP.cons (Ev.c _ rfl) (EvP.cons (Ev.c _ rfl) (EvP.cons (Ev.c _ rfl) EvP.nil)))))))) rfl rfl) rfl trivial trivial ?_
  refine G.op2 (op_alloc (k := 1003) (cs := dat (List.flatMap encS (List.replicate 8 ByteArray.empty))) ti54 ⟨.v _ rfl, .v _ rfl, .v _ rfl, .v _ rfl, .v _ rfl, .v _ rfl, .v _ rfl, .v _ rfl, trivial⟩ rfl) rfl trivial ⟨rfl, trivial⟩ ?_
  refine G.op3 (op_storeA (ds := List.flatMap encS ([(ByteArray.mk #[97]), (ByteArray.mk #[98]), (ByteArray.mk #[99]), (ByteArray.mk #[100]), (ByteArray.mk #[101]), (ByteArray.mk #[102]), (ByteArray.mk #[103]), (ByteArray.mk #[104])])) (cs' := dat (List.flatMap encS ([(ByteArray.mk #[97]), (ByteArray.mk #[98]), (ByteArray.mk #[99]), (ByteArray.mk #[100]), (ByteArray.mk #[101]), (ByteArray.mk #[102]), (ByteArray.mk #[103]), (ByteArray.mk #[104])]))) ti54 rfl rfl (Ev.t 3 (.ptr 1003 0)) (Ev.t 14 (.g (.agg (List.flatMap encS ([(ByteArray.mk #[97]), (ByteArray.mk #[98]), (ByteArray.mk #[99]), (ByteArray.mk #[100]), (ByteArray.mk #[101]), (ByteArray.mk #[102]), (ByteArray.mk #[103]), (ByteArray.mk #[104])])))))) rfl ⟨rfl, rfl, trivial⟩ ⟨rfl, trivial⟩ ?_
  refine G.endOps ?_
  refine G.seq ?_
  refine G.region ?_
  refine G.op2 (op_assignRow (E := 34) (size := 6) (k := 2004) (ex := true) rfl rfl) rfl trivial ⟨rfl, trivial⟩ ?_
  refine G.endOps ?_
  refine G.seq ?_
  refine G.seq ?_
  refine G.region ?_
  refine G.op1 (op_assign (Ev.c _ rfl) rfl) rfl trivial trivial ?_
  refine G.endOps ?_
  refine G.joinC (T := (List Api_Version)) (fun y1 => ⟨[(4, .one (.own 2004 (List.map encApi_Version y1)))], [(2004, some (.row 34 6 (List.map encApi_Version y1) true))]⟩) (fun y1 => law05_made_k1 y1 = some r) (fun y1 hF => ?_) (fun J2 => ?_)
  · unfold law05_made_k1 at hF
    refine G.seq ?_
    refine G.region ?_
    refine G.op1 (op_move (Ev.t 4 (.own 2004 (List.map encApi_Version y1))) rfl) rfl ⟨rfl, trivial⟩ trivial ?_
    refine G.op1 (op_assign (Ev.t 128 (.own 2004 (List.map encApi_Version y1))) rfl) rfl ⟨rfl, trivial⟩ trivial ?_
    refine G.endOps ?_
    cases hF
    exact G.retNew Try.results10 rfl rfl
  refine G.block ?_
  refine G.keep (sl' := [(0, .one (.g (.d (.sl 3 (List.map encLaw05_Write l_0))))), (3, .one (.ptr 1003 0)), (4, .one (.own 2004 (List.map encApi_Version ([] : (List Api_Version))))), (5, .one (bI .i64 0))]) (hp' := [(1003, some (.blk 54 (dat (List.flatMap encS ([(ByteArray.mk #[97]), (ByteArray.mk #[98]), (ByteArray.mk #[99]), (ByteArray.mk #[100]), (ByteArray.mk #[101]), (ByteArray.mk #[102]), (ByteArray.mk #[103]), (ByteArray.mk #[104])]))))), (2004, some (.row 34 6 (List.map encApi_Version ([] : (List Api_Version))) true))]) ⟨rfl, rfl, rfl, rfl, trivial⟩ ⟨rfl, rfl, trivial⟩ (by simp only [wellId, List.all_cons, List.all_nil, HE.ids, ids_dat]; rfl) ?_
  refine G.loopF (fun (v3 : Int × (List Api_Version)) => ⟨[(0, .one (.g (.d (.sl 3 (List.map encLaw05_Write l_0))))), (3, .one (.ptr 1003 0)), (4, .one (.own 2004 (List.map encApi_Version v3.2))), (5, .one (bI .i64 v3.1))], [(1003, some (.blk 54 (dat (List.flatMap encS ([(ByteArray.mk #[97]), (ByteArray.mk #[98]), (ByteArray.mk #[99]), (ByteArray.mk #[100]), (ByteArray.mk #[101]), (ByteArray.mk #[102]), (ByteArray.mk #[103]), (ByteArray.mk #[104])]))))), (2004, some (.row 34 6 (List.map encApi_Version v3.2) true))]⟩) hF rfl (fun K6 again5 v3 J4 hF => ?_)
  unfold law05_made_l2 at hF
  refine G.seq ?_
  refine G.seq ?_
  refine G.joinC (T := Bool) (fun y7 => ⟨[(0, .one (.g (.d (.sl 3 (List.map encLaw05_Write l_0))))), (3, .one (.ptr 1003 0)), (4, .one (.own 2004 (List.map encApi_Version v3.2))), (5, .one (bI .i64 v3.1)), (22, .one (bB y7))], [(1003, some (.blk 54 (dat (List.flatMap encS ([(ByteArray.mk #[97]), (ByteArray.mk #[98]), (ByteArray.mk #[99]), (ByteArray.mk #[100]), (ByteArray.mk #[101]), (ByteArray.mk #[102]), (ByteArray.mk #[103]), (ByteArray.mk #[104])]))))), (2004, some (.row 34 6 (List.map encApi_Version v3.2) true))]⟩) (fun y7 => law05_made_k3 l_0 again5 v3 y7 = some r) (fun y7 hF => ?_) (fun J45 => ?_)
  · unfold law05_made_k3 at hF
    refine ifS hF (fun hc8 hF => ?_) (fun hc8 hF => ?_)
    · refine G.cond rfl (fun _ => ?_) (fun hx => by rw [hc8] at hx; cases hx)
      refine G.skip ?_
      refine G.seq ?_
      refine G.joinC (T := (List Api_Version)) (fun y9 => ⟨[(0, .one (.g (.d (.sl 3 (List.map encLaw05_Write l_0))))), (3, .one (.ptr 1003 0)), (4, .one (.own 2004 (List.map encApi_Version y9))), (5, .one (bI .i64 v3.1))], [(1003, some (.blk 54 (dat (List.flatMap encS ([(ByteArray.mk #[97]), (ByteArray.mk #[98]), (ByteArray.mk #[99]), (ByteArray.mk #[100]), (ByteArray.mk #[101]), (ByteArray.mk #[102]), (ByteArray.mk #[103]), (ByteArray.mk #[104])]))))), (2004, some (.row 34 6 (List.map encApi_Version y9) true))]⟩) (fun y9 => law05_made_k4 again5 v3 y9 = some r) (fun y9 hF => ?_) (fun J10 => ?_)
      · unfold law05_made_k4 at hF
        refine G.region ?_
        refine G.op1 (op_move (Ev.t 5 (bI .i64 v3.1)) rfl) rfl ⟨rfl, trivial⟩ trivial ?_
        refine G.op1 (op_add (Ev.t 23 (bI .i64 v3.1)) (Ev.c _ rfl) rfl) rfl ⟨rfl, trivial⟩ trivial ?_
        refine G.op1 (op_assign (Ev.t 24 (bI .i64 (IntKind.wrap .i64 (v3.1 + 1)))) rfl) rfl ⟨rfl, trivial⟩ trivial ?_
        refine G.endOps ?_
        exact G.arr (J4 (IntKind.wrap .i64 (v3.1 + 1), y9) hF) ⟨rfl, rfl, rfl, rfl, trivial⟩ ⟨rfl, rfl, trivial⟩ (by simp only [wellId, List.all_cons, List.all_nil, HE.ids, ids_dat]; rfl)
      refine G.block ?_
      refine G.seq ?_
      refine G.region ?_
      refine G.op1 (op_assign (Ev.n 3) rfl) rfl trivial trivial ?_
      refine G.endOps ?_
      refine G.seq ?_
      refine G.region ?_
      refine G.op1 (op_assign (Ev.c _ rfl) rfl) rfl trivial trivial ?_
      refine G.endOps ?_
      refine G.seq ?_
      refine G.seq ?_
      refine G.region ?_
      refine G.op1 (op_assign (Ev.c _ rfl) rfl) rfl trivial trivial ?_
      refine G.endOps ?_
      refine G.joinC (T := (List Api_Dep)) (fun y11 => ⟨[(0, .one (.g (.d (.sl 3 (List.map encLaw05_Write l_0))))), (3, .one (.ptr 1003 0)), (4, .one (.own 2004 (List.map encApi_Version v3.2))), (5, .one (bI .i64 v3.1)), (6, .one (.g (.d (.sl 3 (List.map encApi_Dep y11))))), (7, .one (bI .i64 0))], [(1003, some (.blk 54 (dat (List.flatMap encS ([(ByteArray.mk #[97]), (ByteArray.mk #[98]), (ByteArray.mk #[99]), (ByteArray.mk #[100]), (ByteArray.mk #[101]), (ByteArray.mk #[102]), (ByteArray.mk #[103]), (ByteArray.mk #[104])]))))), (2004, some (.row 34 6 (List.map encApi_Version v3.2) true))]⟩) (fun y11 => law05_made_k5 l_0 again5 v3 y11 = some r) (fun y11 hF => ?_) (fun J28 => ?_)
      · unfold law05_made_k5 at hF
        refine G.seq ?_
        refine G.seq ?_
        refine G.region ?_
        refine G.op1 (op_assign (Ev.c _ rfl) rfl) rfl trivial trivial ?_
        refine G.endOps ?_
        refine G.joinC (T := Int) (fun y12 => ⟨[(0, .one (.g (.d (.sl 3 (List.map encLaw05_Write l_0))))), (3, .one (.ptr 1003 0)), (4, .one (.own 2004 (List.map encApi_Version v3.2))), (5, .one (bI .i64 v3.1)), (6, .one (.g (.d (.sl 3 (List.map encApi_Dep y11))))), (7, .one (bI .i64 y12))], [(1003, some (.blk 54 (dat (List.flatMap encS ([(ByteArray.mk #[97]), (ByteArray.mk #[98]), (ByteArray.mk #[99]), (ByteArray.mk #[100]), (ByteArray.mk #[101]), (ByteArray.mk #[102]), (ByteArray.mk #[103]), (ByteArray.mk #[104])]))))), (2004, some (.row 34 6 (List.map encApi_Version v3.2) true))]⟩) (fun y12 => law05_made_k6 l_0 again5 v3 y11 y12 = some r) (fun y12 hF => ?_) (fun J19 => ?_)
        · unfold law05_made_k6 at hF
          refine G.seq ?_
          obtain ⟨x13, hx13, hF⟩ := bindS hF
          obtain ⟨x14, hx14, hF⟩ := bindS hF
          obtain ⟨x15, hx15, hF⟩ := bindS hF
          refine G.drawn (effs := (⟨[(0, .one (.g (.d (.sl 3 (List.map encLaw05_Write l_0)))))], [], [(93, .one (.g (.d (.sl 3 (List.map encLaw05_Write l_0)))))], []⟩ :: ⟨[(5, .one (bI .i64 v3.1))], [], [(94, .one (bI .i64 v3.1))], []⟩ :: ⟨[(93, .one (.g (.d (.sl 3 (List.map encLaw05_Write l_0))))), (94, .one (bI .i64 v3.1))], [], [(95, .one (.ep [.v (.int .i64 x13.Key), .v (.int .i64 x13.Site), .sl 1 (List.map encI_i64 x13.Saw)]))], []⟩ :: ⟨[(95, .one (.ep [.v (.int .i64 x13.Key), .v (.int .i64 x13.Site), .sl 1 (List.map encI_i64 x13.Saw)]))], [], [(96, .one (.ep [.v (.int .i64 x13.Key), .v (.int .i64 x13.Site), .sl 1 (List.map encI_i64 x13.Saw)]))], []⟩ :: ⟨[(96, .one (.ep [.v (.int .i64 x13.Key), .v (.int .i64 x13.Site), .sl 1 (List.map encI_i64 x13.Saw)]))], [], [(97, .one (bI .i64 x13.Key))], []⟩ :: ⟨[(97, .one (bI .i64 x13.Key))], [], [(98, .one (bI .i64 (IntKind.wrap .i64 (BitVec.ofInt (IntKind.bits .i64) x13.Key &&& BitVec.ofInt (IntKind.bits .i64) 7).toNat)))], []⟩ :: ⟨[(3, .one (.ptr 1003 0)), (98, .one (bI .i64 (IntKind.wrap .i64 (BitVec.ofInt (IntKind.bits .i64) x13.Key &&& BitVec.ofInt (IntKind.bits .i64) 7).toNat)))], [], [(99, .one (.ptr 1003 (Int.toNat (IntKind.wrap .i64 (BitVec.ofInt (IntKind.bits .i64) x13.Key &&& BitVec.ofInt (IntKind.bits .i64) 7).toNat) * 1)))], []⟩ :: ⟨[(99, .one (.ptr 1003 (Int.toNat (IntKind.wrap .i64 (BitVec.ofInt (IntKind.bits .i64) x13.Key &&& BitVec.ofInt (IntKind.bits .i64) 7).toNat) * 1)))], [(1003, some (.blk 54 (dat (List.flatMap encS ([(ByteArray.mk #[97]), (ByteArray.mk #[98]), (ByteArray.mk #[99]), (ByteArray.mk #[100]), (ByteArray.mk #[101]), (ByteArray.mk #[102]), (ByteArray.mk #[103]), (ByteArray.mk #[104])])))))], [(100, .one (bS x14))], []⟩ :: ⟨[(7, .one (bI .i64 y12))], [], [(101, .one (bI .i64 y12))], []⟩ :: ⟨[(101, .one (bI .i64 y12))], [], [(102, .one (bI .i64 (IntKind.wrap .i64 (y12 + 1))))], []⟩ :: ⟨[(0, .one (.g (.d (.sl 3 (List.map encLaw05_Write l_0)))))], [], [(103, .one (.g (.d (.sl 3 (List.map encLaw05_Write l_0)))))], []⟩ :: ⟨[(5, .one (bI .i64 v3.1))], [], [(104, .one (bI .i64 v3.1))], []⟩ :: ⟨[(103, .one (.g (.d (.sl 3 (List.map encLaw05_Write l_0))))), (104, .one (bI .i64 v3.1))], [], [(105, .one (.ep [.v (.int .i64 x15.Key), .v (.int .i64 x15.Site), .sl 1 (List.map encI_i64 x15.Saw)]))], []⟩ :: ⟨[(105, .one (.ep [.v (.int .i64 x15.Key), .v (.int .i64 x15.Site), .sl 1 (List.map encI_i64 x15.Saw)]))], [], [(106, .one (.ep [.v (.int .i64 x15.Site), .sl 1 (List.map encI_i64 x15.Saw)]))], []⟩ :: ⟨[(106, .one (.ep [.v (.int .i64 x15.Site), .sl 1 (List.map encI_i64 x15.Saw)]))], [], [(107, .one (bI .i64 x15.Site))], []⟩ :: ⟨[(107, .one (bI .i64 x15.Site))], [], [(108, .one (bI .i64 (IntKind.wrap .i64 (BitVec.ofInt (IntKind.bits .i64) x15.Site &&& BitVec.ofInt (IntKind.bits .i64) 3).toNat)))], []⟩ :: ⟨[(102, .one (bI .i64 (IntKind.wrap .i64 (y12 + 1)))), (108, .one (bI .i64 (IntKind.wrap .i64 (BitVec.ofInt (IntKind.bits .i64) x15.Site &&& BitVec.ofInt (IntKind.bits .i64) 3).toNat)))], [], [(109, .one (.g (.agg [.v (.int .i64 (IntKind.wrap .i64 (y12 + 1))), .v (.int .i64 (IntKind.wrap .i64 (BitVec.ofInt (IntKind.bits .i64) x15.Site &&& BitVec.ofInt (IntKind.bits .i64) 3).toNat))])))], []⟩ :: ⟨[(6, .one (.g (.d (.sl 3 (List.map encApi_Dep y11)))))], [], [(110, .one (.g (.d (.sl 3 (List.map encApi_Dep y11)))))], []⟩ :: ⟨[(100, .one (bS x14)), (109, .one (.g (.agg [.v (.int .i64 (IntKind.wrap .i64 (y12 + 1))), .v (.int .i64 (IntKind.wrap .i64 (BitVec.ofInt (IntKind.bits .i64) x15.Site &&& BitVec.ofInt (IntKind.bits .i64) 3).toNat))]))), (110, .one (.g (.d (.sl 3 (List.map encApi_Dep y11)))))], [], [(111, .one (.g (.agg [.v (.string x14), .v (.string ByteArray.empty), .v (.bool false), .v (.int .i64 (IntKind.wrap .i64 (y12 + 1))), .v (.int .i64 (IntKind.wrap .i64 (BitVec.ofInt (IntKind.bits .i64) x15.Site &&& BitVec.ofInt (IntKind.bits .i64) 3).toNat)), .sl 3 (List.map encApi_Dep y11)])))], []⟩ :: ⟨[], [(1011, none)], [(11, .one (.ptr 1011 0))], [(1011, some (.blk 34 [bS ByteArray.empty, bS ByteArray.empty, bB false, bI .i64 0, bI .i64 0, .g (.d (.sl 3 (List.map encApi_Dep ([] : (List Api_Dep)))))]))]⟩ :: ⟨[(11, .one (.ptr 1011 0)), (111, .one (.g (.agg [.v (.string x14), .v (.string ByteArray.empty), .v (.bool false), .v (.int .i64 (IntKind.wrap .i64 (y12 + 1))), .v (.int .i64 (IntKind.wrap .i64 (BitVec.ofInt (IntKind.bits .i64) x15.Site &&& BitVec.ofInt (IntKind.bits .i64) 3).toNat)), .sl 3 (List.map encApi_Dep y11)])))], [(1011, some (.blk 34 [bS ByteArray.empty, bS ByteArray.empty, bB false, bI .i64 0, bI .i64 0, .g (.d (.sl 3 (List.map encApi_Dep ([] : (List Api_Dep)))))]))], [], [(1011, some (.blk 34 [bS x14, bS ByteArray.empty, bB false, bI .i64 (IntKind.wrap .i64 (y12 + 1)), bI .i64 (IntKind.wrap .i64 (BitVec.ofInt (IntKind.bits .i64) x15.Site &&& BitVec.ofInt (IntKind.bits .i64) 3).toNat), .g (.d (.sl 3 (List.map encApi_Dep y11)))]))]⟩ :: [])) (deps := ([] :: [] :: [0, 1] :: [0, 1, 2] :: [0, 1, 2, 3] :: [0, 1, 2, 3, 4] :: [0, 1, 2, 3, 4, 5] :: [0, 1, 2, 3, 4, 5, 6] :: [] :: [8] :: [] :: [] :: [10, 11] :: [10, 11, 12] :: [10, 11, 12, 13] :: [10, 11, 12, 13, 14] :: [8, 9, 10, 11, 12, 13, 14, 15] :: [] :: [0, 1, 2, 3, 4, 5, 6, 7, 8, 9, 10, 11, 12, 13, 14, 15, 16, 17] :: [] :: [0, 1, 2, 3, 4, 5, 6, 7, 8, 9, 10, 11, 12, 13, 14, 15, 16, 17, 18, 19] :: [])) (sl' := [(0, .one (.g (.d (.sl 3 (List.map encLaw05_Write l_0))))), (3, .one (.ptr 1003 0)), (4, .one (.own 2004 (List.map encApi_Version v3.2))), (5, .one (bI .i64 v3.1)), (11, .one (.ptr 1011 0))]) (hp' := [(1003, some (.blk 54 (dat (List.flatMap encS ([(ByteArray.mk #[97]), (ByteArray.mk #[98]), (ByteArray.mk #[99]), (ByteArray.mk #[100]), (ByteArray.mk #[101]), (ByteArray.mk #[102]), (ByteArray.mk #[103]), (ByteArray.mk #[104])]))))), (1011, some (.blk 34 [bS x14, bS ByteArray.empty, bB false, bI .i64 (IntKind.wrap .i64 (y12 + 1)), bI .i64 (IntKind.wrap .i64 (BitVec.ofInt (IntKind.bits .i64) x15.Site &&& BitVec.ofInt (IntKind.bits .i64) 3).toNat), .g (.d (.sl 3 (List.map encApi_Dep y11)))])), (2004, some (.row 34 6 (List.map encApi_Version v3.2) true))]) follows rfl rfl rfl ⟨⟨rfl, trivial⟩, trivial, ⟨rfl, trivial⟩, trivial, ⟨rfl, rfl, trivial⟩, trivial, ⟨rfl, trivial⟩, trivial, ⟨rfl, trivial⟩, trivial, ⟨rfl, trivial⟩, trivial, ⟨rfl, rfl, trivial⟩, trivial, ⟨rfl, trivial⟩, ⟨⟨rfl, rfl⟩, trivial⟩, ⟨rfl, trivial⟩, trivial, ⟨rfl, trivial⟩, trivial, ⟨rfl, trivial⟩, trivial, ⟨rfl, trivial⟩, trivial, ⟨rfl, rfl, trivial⟩, trivial, ⟨rfl, trivial⟩, trivial, ⟨rfl, trivial⟩, trivial, ⟨rfl, trivial⟩, trivial, ⟨rfl, rfl, trivial⟩, trivial, ⟨rfl, trivial⟩, trivial, ⟨rfl, rfl, rfl, trivial⟩, trivial, trivial, ⟨⟨rfl, rfl⟩, trivial⟩, ⟨rfl, rfl, trivial⟩, ⟨⟨rfl, rfl⟩, trivial⟩, trivial⟩ ⟨OpW.plain (op_move (Ev.t 0 (.g (.d (.sl 3 (List.map encLaw05_Write l_0))))) rfl) rfl rfl, OpW.plain (op_move (Ev.t 5 (bI .i64 v3.1)) rfl) rfl rfl, OpW.plain (op_index (cs := [.v (.int .i64 x13.Key), .v (.int .i64 x13.Site), .sl 1 (List.map encI_i64 x13.Saw)]) Try.underlying22 ti49 (idx_ok hx13).1 (idx_get hx13 encLaw05_Write) (Ev.t 93 (.g (.d (.sl 3 (List.map encLaw05_Write l_0))))) (Ev.t 94 (bI .i64 v3.1)) rfl) rfl rfl, OpW.plain (op_fieldE (cs' := [.v (.int .i64 x13.Key), .v (.int .i64 x13.Site), .sl 1 (List.map encI_i64 x13.Saw)]) Try.underlying49 rfl ti3 (by decide) rfl (Ev.t 95 (.ep [.v (.int .i64 x13.Key), .v (.int .i64 x13.Site), .sl 1 (List.map encI_i64 x13.Saw)])) rfl) rfl rfl, OpW.plain (op_load1E (c := .v (.int .i64 x13.Key)) Try.underlying3 rfl rfl (Ev.t 96 (.ep [.v (.int .i64 x13.Key), .v (.int .i64 x13.Site), .sl 1 (List.map encI_i64 x13.Saw)])) rfl) rfl rfl, OpW.plain (op_and (Ev.t 97 (bI .i64 x13.Key)) (Ev.c _ rfl) rfl) rfl rfl, OpW.plain (op_indexA Try.underlying54 ti9 (aidx_ok hx14).1 (aidx_ok hx14).2.1 (Ev.t 3 (.ptr 1003 0)) (Ev.t 98 (bI .i64 (IntKind.wrap .i64 (BitVec.ofInt (IntKind.bits .i64) x13.Key &&& BitVec.ofInt (IntKind.bits .i64) 7).toNat))) rfl) rfl rfl, OpW.plain (op_load1P (c := bS x14) Try.underlying9 rfl (arr_at1 hx14 (fun _ => rfl) rfl) (Ev.t 99 (.ptr 1003 (Int.toNat (IntKind.wrap .i64 (BitVec.ofInt (IntKind.bits .i64) x13.Key &&& BitVec.ofInt (IntKind.bits .i64) 7).toNat) * 1))) rfl) rfl rfl, OpW.plain (op_move (Ev.t 7 (bI .i64 y12)) rfl) rfl rfl, OpW.plain (op_add (Ev.t 101 (bI .i64 y12)) (Ev.c _ rfl) rfl) rfl rfl, OpW.plain (op_move (Ev.t 0 (.g (.d (.sl 3 (List.map encLaw05_Write l_0))))) rfl) rfl rfl, OpW.plain (op_move (Ev.t 5 (bI .i64 v3.1)) rfl) rfl rfl, OpW.plain (op_index (cs := [.v (.int .i64 x15.Key), .v (.int .i64 x15.Site), .sl 1 (List.map encI_i64 x15.Saw)]) Try.underlying22 ti49 (idx_ok hx15).1 (idx_get hx15 encLaw05_Write) (Ev.t 103 (.g (.d (.sl 3 (List.map encLaw05_Write l_0))))) (Ev.t 104 (bI .i64 v3.1)) rfl) rfl rfl, OpW.plain (op_fieldE (cs' := [.v (.int .i64 x15.Site), .sl 1 (List.map encI_i64 x15.Saw)]) Try.underlying49 rfl ti3 (by decide) rfl (Ev.t 105 (.ep [.v (.int .i64 x15.Key), .v (.int .i64 x15.Site), .sl 1 (List.map encI_i64 x15.Saw)])) rfl) rfl rfl, OpW.plain (op_load1E (c := .v (.int .i64 x15.Site)) Try.underlying3 rfl rfl (Ev.t 106 (.ep [.v (.int .i64 x15.Site), .sl 1 (List.map encI_i64 x15.Saw)])) rfl) rfl rfl, OpW.plain (op_and (Ev.t 107 (bI .i64 x15.Site)) (Ev.c _ rfl) rfl) rfl rfl, OpW.plain (op_build (zs := [.v (.int .i64 0), .v (.int .i64 0)]) (ds := [.v (.int .i64 (IntKind.wrap .i64 (y12 + 1))), .v (.int .i64 (IntKind.wrap .i64 (BitVec.ofInt (IntKind.bits .i64) x15.Site &&& BitVec.ofInt (IntKind.bits .i64) 3).toNat))]) Try.underlying24 ti24 (pl24 _ Try.underlying24) ⟨.v _ rfl, .v _ rfl, trivial⟩ (EvP.cons (Ev.t 102 (bI .i64 (IntKind.wrap .i64 (y12 + 1)))) (EvP.cons (Ev.t 108 (bI .i64 (IntKind.wrap .i64 (BitVec.ofInt (IntKind.bits .i64) x15.Site &&& BitVec.ofInt (IntKind.bits .i64) 3).toNat))) EvP.nil)) rfl rfl) rfl rfl, OpW.plain (op_move (Ev.t 6 (.g (.d (.sl 3 (List.map encApi_Dep y11))))) rfl) rfl rfl, OpW.plain (op_build (zs := [.v (.string ByteArray.empty), .v (.string ByteArray.empty), .v (.bool false), .v (.int .i64 0), .v (.int .i64 0), .sl 3 (List.map encApi_Dep ([] : (List Api_Dep)))]) (ds := [.v (.string x14), .v (.string ByteArray.empty), .v (.bool false), .v (.int .i64 (IntKind.wrap .i64 (y12 + 1))), .v (.int .i64 (IntKind.wrap .i64 (BitVec.ofInt (IntKind.bits .i64) x15.Site &&& BitVec.ofInt (IntKind.bits .i64) 3).toNat)), .sl 3 (List.map encApi_Dep y11)]) Try.underlying34 ti34 (pl34 _ Try.underlying34) ⟨.v _ rfl, .v _ rfl, .v _ rfl, .v _ rfl, .v _ rfl, .n 3, trivial⟩ (EvP.cons (Ev.t 100 (bS x14)) (EvP.cons (Ev.t 109 (.g (.agg [.v (.int .i64 (IntKind.wrap .i64 (y12 + 1))), .v (.int .i64 (IntKind.wrap .i64 (BitVec.ofInt (IntKind.bits .i64) x15.Site &&& BitVec.ofInt (IntKind.bits .i64) 3).toNat))]))) (EvP.cons (Ev.t 110 (.g (.d (.sl 3 (List.map encApi_Dep y11))))) EvP.nil))) rfl rfl) rfl rfl, OpW.plain (op_alloc (k := 1011) (cs := [bS ByteArray.empty, bS ByteArray.empty, bB false, bI .i64 0, bI .i64 0, .g (.d (.sl 3 (List.map encApi_Dep ([] : (List Api_Dep)))))]) ti34 ⟨.v _ rfl, .v _ rfl, .v _ rfl, .v _ rfl, .v _ rfl, .n 3, trivial⟩ rfl) rfl rfl, OpW.plain (op_storeA (cs' := [bS x14, bS ByteArray.empty, bB false, bI .i64 (IntKind.wrap .i64 (y12 + 1)), bI .i64 (IntKind.wrap .i64 (BitVec.ofInt (IntKind.bits .i64) x15.Site &&& BitVec.ofInt (IntKind.bits .i64) 3).toNat), .g (.d (.sl 3 (List.map encApi_Dep y11)))]) ti34 rfl rfl (Ev.t 11 (.ptr 1011 0)) (Ev.t 111 (.g (.agg [.v (.string x14), .v (.string ByteArray.empty), .v (.bool false), .v (.int .i64 (IntKind.wrap .i64 (y12 + 1))), .v (.int .i64 (IntKind.wrap .i64 (BitVec.ofInt (IntKind.bits .i64) x15.Site &&& BitVec.ofInt (IntKind.bits .i64) 3).toNat)), .sl 3 (List.map encApi_Dep y11)])))) rfl rfl, trivial⟩ ⟨rfl, rfl, rfl, rfl, rfl, trivial⟩ ⟨rfl, rfl, rfl, trivial⟩ (by simp only [wellId, List.all_cons, List.all_nil, HE.ids, ids_dat]; rfl) ?_
          refine G.seq ?_
          refine G.region ?_
          refine G.op1 (op_move (Ev.t 4 (.own 2004 (List.map encApi_Version v3.2))) rfl) rfl ⟨rfl, trivial⟩ trivial ?_
          refine G.op1 (op_fieldP (off' := 0) Try.underlying34 rfl ti9 (by decide) rfl (Ev.t 11 (.ptr 1011 0)) rfl) rfl ⟨rfl, trivial⟩ trivial ?_
          refine G.op1 (op_load1P (c := bS x14) Try.underlying9 rfl rfl (Ev.t 114 (.ptr 1011 0)) rfl) rfl ⟨rfl, trivial⟩ ⟨rfl, trivial⟩ ?_
          refine G.op1 (op_fieldP (off' := 3) Try.underlying34 rfl ti24 (by decide) rfl (Ev.t 11 (.ptr 1011 0)) rfl) rfl ⟨rfl, trivial⟩ trivial ?_
          refine G.op1 (op_loadAP (ds := [.v (.int .i64 (IntKind.wrap .i64 (y12 + 1))), .v (.int .i64 (IntKind.wrap .i64 (BitVec.ofInt (IntKind.bits .i64) x15.Site &&& BitVec.ofInt (IntKind.bits .i64) 3).toNat))]) Try.underlying24 rfl ti24 rfl (Ev.t 116 (.ptr 1011 3)) rfl) rfl ⟨rfl, trivial⟩ ⟨rfl, trivial⟩ ?_
          refine G.op1 (op_build (zs := [.v (.string ByteArray.empty), .v (.int .i64 0), .v (.int .i64 0)]) (ds := [.v (.string x14), .v (.int .i64 (IntKind.wrap .i64 (y12 + 1))), .v (.int .i64 (IntKind.wrap .i64 (BitVec.ofInt (IntKind.bits .i64) x15.Site &&& BitVec.ofInt (IntKind.bits .i64) 3).toNat))]) Try.underlying26 ti26 (pl26 _ Try.underlying26) ⟨.v _ rfl, .v _ rfl, .v _ rfl, trivial⟩ (EvP.cons (Ev.t 115 (bS x14)) (EvP.cons (Ev.t 117 (.g (.agg [.v (.int .i64 (IntKind.wrap .i64 (y12 + 1))), .v (.int .i64 (IntKind.wrap .i64 (BitVec.ofInt (IntKind.bits .i64) x15.Site &&& BitVec.ofInt (IntKind.bits .i64) 3).toNat))]))) EvP.nil)) rfl rfl) rfl ⟨rfl, rfl, trivial⟩ trivial ?_
          obtain ⟨r16, hr16, hF⟩ := bindS hF
          refine G.op1 (op_callLend (kk := 2004) (T := 34) (size := 6) (es := List.map encApi_Version v3.2) (ex := true) (bs := [.any 6, bB r16.2]) cf19 (ct_ref05_Find v3.2 (Api_Dep.mk x14 (Api_Stamp.mk (IntKind.wrap .i64 (y12 + 1)) (IntKind.wrap .i64 (BitVec.ofInt (IntKind.bits .i64) x15.Site &&& BitVec.ofInt (IntKind.bits .i64) 3).toNat))) r16 hr16) (EvLd.own (Ev.t 113 (.own 2004 (List.map encApi_Version v3.2))) (EvLd.g (Ev.t 118 (.g (.agg [.v (.string x14), .v (.int .i64 (IntKind.wrap .i64 (y12 + 1))), .v (.int .i64 (IntKind.wrap .i64 (BitVec.ofInt (IntKind.bits .i64) x15.Site &&& BitVec.ofInt (IntKind.bits .i64) 3).toNat))]))) EvLd.nil)) (LdR.agg rfl (LdR.v LdR.nil)) rfl) rfl ⟨rfl, rfl, trivial⟩ ⟨rfl, trivial⟩ ?_
          refine G.op1 (op_moveS (t := 119) (sv := .tup [.any 6, bB r16.2]) rfl) rfl ⟨rfl, trivial⟩ trivial ?_
          refine G.op1 (op_extract (l := [.any 6, bB r16.2]) (c := .any 6) rfl rfl) rfl ⟨rfl, trivial⟩ trivial ?_
          refine G.op1 (op_extract (l := [.any 6, bB r16.2]) (c := bB r16.2) rfl rfl) rfl ⟨rfl, trivial⟩ trivial ?_
          refine G.op2 (op_alloc (k := 1012) (cs := [bS ByteArray.empty, bS ByteArray.empty, bB false, bI .i64 0, bI .i64 0, .g (.d (.sl 3 (List.map encApi_Dep ([] : (List Api_Dep)))))]) ti34 ⟨.v _ rfl, .v _ rfl, .v _ rfl, .v _ rfl, .v _ rfl, .n 3, trivial⟩ rfl) rfl trivial ⟨rfl, trivial⟩ ?_
          refine G.op3 (op_storeAny (cs' := [.any 0, .any 0, .any 0, .any 0, .any 0, .any 0]) ti34 rfl rfl rfl (Ev.t 12 (.ptr 1012 0)) (Ev.t 120 (.any 6))) rfl ⟨rfl, rfl, trivial⟩ ⟨rfl, trivial⟩ ?_
          refine G.op1 (op_assign (Ev.t 121 (bB r16.2)) rfl) rfl ⟨rfl, trivial⟩ trivial ?_
          refine G.endOps ?_
          refine G.seq ?_
          refine G.region ?_
          refine G.op1 (op_move (Ev.t 13 (bB r16.2)) rfl) rfl ⟨rfl, trivial⟩ trivial ?_
          refine G.op1 (op_not (Ev.t 122 (bB r16.2)) rfl) rfl ⟨rfl, trivial⟩ trivial ?_
          refine G.endOps ?_
          refine ifS hF (fun hc17 hF => ?_) (fun hc17 hF => ?_)
          · refine G.cond rfl (fun _ => ?_) (fun hx => by rw [hc17] at hx; cases hx)
            refine G.region ?_
            refine G.op1 (op_move (Ev.t 4 (.own 2004 (List.map encApi_Version v3.2))) rfl) rfl ⟨rfl, trivial⟩ trivial ?_
            refine G.op1 (op_loadAP (ds := [.v (.string x14), .v (.string ByteArray.empty), .v (.bool false), .v (.int .i64 (IntKind.wrap .i64 (y12 + 1))), .v (.int .i64 (IntKind.wrap .i64 (BitVec.ofInt (IntKind.bits .i64) x15.Site &&& BitVec.ofInt (IntKind.bits .i64) 3).toNat)), .sl 3 (List.map encApi_Dep y11)]) Try.underlying34 rfl ti34 rfl (Ev.t 11 (.ptr 1011 0)) rfl) rfl ⟨rfl, trivial⟩ ⟨rfl, trivial⟩ ?_
            refine G.op1 (op_buildSlice (es := List.map encApi_Version [(Api_Version.mk x14 ByteArray.empty false (Api_Stamp.mk (IntKind.wrap .i64 (y12 + 1)) (IntKind.wrap .i64 (BitVec.ofInt (IntKind.bits .i64) x15.Site &&& BitVec.ofInt (IntKind.bits .i64) 3).toNat)) y11)]) Try.underlying31 ti34 rfl rfl (EvP.cons (Ev.t 125 (.g (.agg [.v (.string x14), .v (.string ByteArray.empty), .v (.bool false), .v (.int .i64 (IntKind.wrap .i64 (y12 + 1))), .v (.int .i64 (IntKind.wrap .i64 (BitVec.ofInt (IntKind.bits .i64) x15.Site &&& BitVec.ofInt (IntKind.bits .i64) 3).toNat)), .sl 3 (List.map encApi_Dep y11)]))) EvP.nil) rfl rfl (by simp [encApi_Version]) rfl) rfl ⟨rfl, trivial⟩ trivial ?_
            obtain ⟨l18, hl18, hF⟩ := bindS hF
            refine G.op2 (op_appendO Try.underlying31 ti34 rfl (app_map hl18 encApi_Version) (app_b1 hl18 encApi_Version) (app_b2 hl18 encApi_Version) (Ev.t 124 (.own 2004 (List.map encApi_Version v3.2))) (Ev.t 126 (.g (.d (.sl 6 (List.map encApi_Version ([(Api_Version.mk x14 ByteArray.empty false (Api_Stamp.mk (IntKind.wrap .i64 (y12 + 1)) (IntKind.wrap .i64 (BitVec.ofInt (IntKind.bits .i64) x15.Site &&& BitVec.ofInt (IntKind.bits .i64) 3).toNat)) y11)])))))) rfl) rfl ⟨rfl, rfl, trivial⟩ ⟨rfl, trivial⟩ ?_
            refine G.op1 (op_assign (Ev.t 127 (.own 2004 (List.map encApi_Version l18))) rfl) rfl ⟨rfl, trivial⟩ trivial ?_
            refine G.endOps ?_
            refine G.endBlock ?_
            exact G.arr (J10 l18 hF) ⟨rfl, rfl, rfl, rfl, trivial⟩ ⟨rfl, rfl, trivial⟩ (by simp only [wellId, List.all_cons, List.all_nil, HE.ids, ids_dat]; rfl)
          · refine G.cond rfl (fun hx => by rw [hc17] at hx; cases hx) (fun _ => ?_)
            refine G.skip ?_
            refine G.endBlock ?_
            exact G.arr (J10 v3.2 hF) ⟨rfl, rfl, rfl, rfl, trivial⟩ ⟨rfl, rfl, trivial⟩ (by simp only [wellId, List.all_cons, List.all_nil, HE.ids, ids_dat]; rfl)
        refine G.block ?_
        refine G.keep (sl' := [(0, .one (.g (.d (.sl 3 (List.map encLaw05_Write l_0))))), (3, .one (.ptr 1003 0)), (4, .one (.own 2004 (List.map encApi_Version v3.2))), (5, .one (bI .i64 v3.1)), (6, .one (.g (.d (.sl 3 (List.map encApi_Dep y11))))), (7, .one (bI .i64 0)), (10, .one (bI .i64 0))]) (hp' := [(1003, some (.blk 54 (dat (List.flatMap encS ([(ByteArray.mk #[97]), (ByteArray.mk #[98]), (ByteArray.mk #[99]), (ByteArray.mk #[100]), (ByteArray.mk #[101]), (ByteArray.mk #[102]), (ByteArray.mk #[103]), (ByteArray.mk #[104])]))))), (2004, some (.row 34 6 (List.map encApi_Version v3.2) true))]) ⟨rfl, rfl, rfl, rfl, rfl, rfl, rfl, trivial⟩ ⟨rfl, rfl, trivial⟩ (by simp only [wellId, List.all_cons, List.all_nil, HE.ids, ids_dat]; rfl) ?_
        refine G.loopF (fun (v20 : Int × Int) => ⟨[(0, .one (.g (.d (.sl 3 (List.map encLaw05_Write l_0))))), (3, .one (.ptr 1003 0)), (4, .one (.own 2004 (List.map encApi_Version v3.2))), (5, .one (bI .i64 v3.1)), (6, .one (.g (.d (.sl 3 (List.map encApi_Dep y11))))), (7, .one (bI .i64 v20.1)), (10, .one (bI .i64 v20.2))], [(1003, some (.blk 54 (dat (List.flatMap encS ([(ByteArray.mk #[97]), (ByteArray.mk #[98]), (ByteArray.mk #[99]), (ByteArray.mk #[100]), (ByteArray.mk #[101]), (ByteArray.mk #[102]), (ByteArray.mk #[103]), (ByteArray.mk #[104])]))))), (2004, some (.row 34 6 (List.map encApi_Version v3.2) true))]⟩) hF rfl (fun K23 again22 v20 J21 hF => ?_)
        unfold law05_made_l7 at hF
        refine G.seq ?_
        refine G.seq ?_
        refine G.region ?_
        refine G.op1 (op_move (Ev.t 10 (bI .i64 v20.2)) rfl) rfl ⟨rfl, trivial⟩ trivial ?_
        refine G.op1 (op_move (Ev.t 6 (.g (.d (.sl 3 (List.map encApi_Dep y11))))) rfl) rfl ⟨rfl, trivial⟩ trivial ?_
        refine G.op1 (OpL.cast (op_lenD Try.underlying29 (Ev.t 74 (.g (.d (.sl 3 (List.map encApi_Dep y11))))) rfl) (by rw [List.length_map])) rfl ⟨rfl, trivial⟩ trivial ?_
        refine G.op1 (op_lss (Ev.t 73 (bI .i64 v20.2)) (Ev.t 75 (bI .i64 (y11.length : Int))) rfl) rfl ⟨rfl, rfl, trivial⟩ trivial ?_
        refine G.endOps ?_
        refine ifS hF (fun hc24 hF => ?_) (fun hc24 hF => ?_)
        · refine G.cond rfl (fun _ => ?_) (fun hx => by rw [hc24] at hx; cases hx)
          refine G.skip ?_
          refine G.seq ?_
          refine G.block ?_
          refine G.seq ?_
          refine G.region ?_
          refine G.op1 (op_move (Ev.t 6 (.g (.d (.sl 3 (List.map encApi_Dep y11))))) rfl) rfl ⟨rfl, trivial⟩ trivial ?_
          refine G.op1 (op_move (Ev.t 10 (bI .i64 v20.2)) rfl) rfl ⟨rfl, trivial⟩ trivial ?_
          obtain ⟨x25, hx25, hF⟩ := bindS hF
          refine G.op1 (op_index (cs := [.v (.string x25.Key), .v (.int .i64 x25.Stamp.N), .v (.int .i64 x25.Stamp.Site)]) Try.underlying29 ti26 (idx_ok hx25).1 (idx_get hx25 encApi_Dep) (Ev.t 79 (.g (.d (.sl 3 (List.map encApi_Dep y11))))) (Ev.t 80 (bI .i64 v20.2)) rfl) rfl ⟨rfl, rfl, trivial⟩ trivial ?_
          refine G.op1 (op_fieldE (cs' := [.v (.int .i64 x25.Stamp.N), .v (.int .i64 x25.Stamp.Site)]) Try.underlying26 rfl ti24 (by decide) rfl (Ev.t 81 (.ep [.v (.string x25.Key), .v (.int .i64 x25.Stamp.N), .v (.int .i64 x25.Stamp.Site)])) rfl) rfl ⟨rfl, trivial⟩ trivial ?_
          refine G.op1 (op_fieldE (cs' := [.v (.int .i64 x25.Stamp.N), .v (.int .i64 x25.Stamp.Site)]) Try.underlying24 rfl ti3 (by decide) rfl (Ev.t 82 (.ep [.v (.int .i64 x25.Stamp.N), .v (.int .i64 x25.Stamp.Site)])) rfl) rfl ⟨rfl, trivial⟩ trivial ?_
          refine G.op1 (op_load1E (c := .v (.int .i64 x25.Stamp.N)) Try.underlying3 rfl rfl (Ev.t 83 (.ep [.v (.int .i64 x25.Stamp.N), .v (.int .i64 x25.Stamp.Site)])) rfl) rfl ⟨rfl, trivial⟩ trivial ?_
          refine G.op1 (op_move (Ev.t 7 (bI .i64 v20.1)) rfl) rfl ⟨rfl, trivial⟩ trivial ?_
          refine G.op1 (op_gtr (Ev.t 84 (bI .i64 x25.Stamp.N)) (Ev.t 85 (bI .i64 v20.1)) rfl) rfl ⟨rfl, rfl, trivial⟩ trivial ?_
          refine G.endOps ?_
          refine ifS hF (fun hc26 hF => ?_) (fun hc26 hF => ?_)
          · refine G.cond rfl (fun _ => ?_) (fun hx => by rw [hc26] at hx; cases hx)
            refine G.region ?_
            refine G.op1 (op_move (Ev.t 6 (.g (.d (.sl 3 (List.map encApi_Dep y11))))) rfl) rfl ⟨rfl, trivial⟩ trivial ?_
            refine G.op1 (op_move (Ev.t 10 (bI .i64 v20.2)) rfl) rfl ⟨rfl, trivial⟩ trivial ?_
            obtain ⟨x27, hx27, hF⟩ := bindS hF
            refine G.op1 (op_index (cs := [.v (.string x27.Key), .v (.int .i64 x27.Stamp.N), .v (.int .i64 x27.Stamp.Site)]) Try.underlying29 ti26 (idx_ok hx27).1 (idx_get hx27 encApi_Dep) (Ev.t 87 (.g (.d (.sl 3 (List.map encApi_Dep y11))))) (Ev.t 88 (bI .i64 v20.2)) rfl) rfl ⟨rfl, rfl, trivial⟩ trivial ?_
            refine G.op1 (op_fieldE (cs' := [.v (.int .i64 x27.Stamp.N), .v (.int .i64 x27.Stamp.Site)]) Try.underlying26 rfl ti24 (by decide) rfl (Ev.t 89 (.ep [.v (.string x27.Key), .v (.int .i64 x27.Stamp.N), .v (.int .i64 x27.Stamp.Site)])) rfl) rfl ⟨rfl, trivial⟩ trivial ?_
            refine G.op1 (op_fieldE (cs' := [.v (.int .i64 x27.Stamp.N), .v (.int .i64 x27.Stamp.Site)]) Try.underlying24 rfl ti3 (by decide) rfl (Ev.t 90 (.ep [.v (.int .i64 x27.Stamp.N), .v (.int .i64 x27.Stamp.Site)])) rfl) rfl ⟨rfl, trivial⟩ trivial ?_
            refine G.op1 (op_load1E (c := .v (.int .i64 x27.Stamp.N)) Try.underlying3 rfl rfl (Ev.t 91 (.ep [.v (.int .i64 x27.Stamp.N), .v (.int .i64 x27.Stamp.Site)])) rfl) rfl ⟨rfl, trivial⟩ trivial ?_
            refine G.op1 (op_assign (Ev.t 92 (bI .i64 x27.Stamp.N)) rfl) rfl ⟨rfl, trivial⟩ trivial ?_
            refine G.endOps ?_
            refine G.endBlock ?_
            refine G.region ?_
            refine G.op1 (op_move (Ev.t 10 (bI .i64 v20.2)) rfl) rfl ⟨rfl, trivial⟩ trivial ?_
            refine G.op1 (op_add (Ev.t 77 (bI .i64 v20.2)) (Ev.c _ rfl) rfl) rfl ⟨rfl, trivial⟩ trivial ?_
            refine G.op1 (op_assign (Ev.t 78 (bI .i64 (IntKind.wrap .i64 (v20.2 + 1)))) rfl) rfl ⟨rfl, trivial⟩ trivial ?_
            refine G.endOps ?_
            exact G.arr (J21 (x27.Stamp.N, IntKind.wrap .i64 (v20.2 + 1)) hF) ⟨rfl, rfl, rfl, rfl, rfl, rfl, rfl, trivial⟩ ⟨rfl, rfl, trivial⟩ (by simp only [wellId, List.all_cons, List.all_nil, HE.ids, ids_dat]; rfl)
          · refine G.cond rfl (fun hx => by rw [hc26] at hx; cases hx) (fun _ => ?_)
            refine G.skip ?_
            refine G.endBlock ?_
            refine G.region ?_
            refine G.op1 (op_move (Ev.t 10 (bI .i64 v20.2)) rfl) rfl ⟨rfl, trivial⟩ trivial ?_
            refine G.op1 (op_add (Ev.t 77 (bI .i64 v20.2)) (Ev.c _ rfl) rfl) rfl ⟨rfl, trivial⟩ trivial ?_
            refine G.op1 (op_assign (Ev.t 78 (bI .i64 (IntKind.wrap .i64 (v20.2 + 1)))) rfl) rfl ⟨rfl, trivial⟩ trivial ?_
            refine G.endOps ?_
            exact G.arr (J21 (v20.1, IntKind.wrap .i64 (v20.2 + 1)) hF) ⟨rfl, rfl, rfl, rfl, rfl, rfl, rfl, trivial⟩ ⟨rfl, rfl, trivial⟩ (by simp only [wellId, List.all_cons, List.all_nil, HE.ids, ids_dat]; rfl)
        · refine G.cond rfl (fun hx => by rw [hc24] at hx; cases hx) (fun _ => ?_)
          refine G.exit ?_
          refine GX.c ?_
          refine GX.q ?_
          refine GX.bYes ?_
          exact G.arr (J19 v20.1 hF) ⟨rfl, rfl, rfl, rfl, rfl, rfl, trivial⟩ ⟨rfl, rfl, trivial⟩ (by simp only [wellId, List.all_cons, List.all_nil, HE.ids, ids_dat]; rfl)
      refine G.block ?_
      refine G.keep (sl' := [(0, .one (.g (.d (.sl 3 (List.map encLaw05_Write l_0))))), (3, .one (.ptr 1003 0)), (4, .one (.own 2004 (List.map encApi_Version v3.2))), (5, .one (bI .i64 v3.1)), (6, .one (.g (.d (.sl 3 (List.map encApi_Dep ([] : (List Api_Dep))))))), (7, .one (bI .i64 0)), (8, .one (bI .i64 0))]) (hp' := [(1003, some (.blk 54 (dat (List.flatMap encS ([(ByteArray.mk #[97]), (ByteArray.mk #[98]), (ByteArray.mk #[99]), (ByteArray.mk #[100]), (ByteArray.mk #[101]), (ByteArray.mk #[102]), (ByteArray.mk #[103]), (ByteArray.mk #[104])]))))), (2004, some (.row 34 6 (List.map encApi_Version v3.2) true))]) ⟨rfl, rfl, rfl, rfl, rfl, rfl, rfl, trivial⟩ ⟨rfl, rfl, trivial⟩ (by simp only [wellId, List.all_cons, List.all_nil, HE.ids, ids_dat]; rfl) ?_
      refine G.loopF (fun (v29 : (List Api_Dep) × Int) => ⟨[(0, .one (.g (.d (.sl 3 (List.map encLaw05_Write l_0))))), (3, .one (.ptr 1003 0)), (4, .one (.own 2004 (List.map encApi_Version v3.2))), (5, .one (bI .i64 v3.1)), (6, .one (.g (.d (.sl 3 (List.map encApi_Dep v29.1))))), (7, .one (bI .i64 0)), (8, .one (bI .i64 v29.2))], [(1003, some (.blk 54 (dat (List.flatMap encS ([(ByteArray.mk #[97]), (ByteArray.mk #[98]), (ByteArray.mk #[99]), (ByteArray.mk #[100]), (ByteArray.mk #[101]), (ByteArray.mk #[102]), (ByteArray.mk #[103]), (ByteArray.mk #[104])]))))), (2004, some (.row 34 6 (List.map encApi_Version v3.2) true))]⟩) hF rfl (fun K32 again31 v29 J30 hF => ?_)
      unfold law05_made_l8 at hF
      refine G.seq ?_
      refine G.seq ?_
      refine G.joinC (T := Bool) (fun y33 => ⟨[(0, .one (.g (.d (.sl 3 (List.map encLaw05_Write l_0))))), (3, .one (.ptr 1003 0)), (4, .one (.own 2004 (List.map encApi_Version v3.2))), (5, .one (bI .i64 v3.1)), (6, .one (.g (.d (.sl 3 (List.map encApi_Dep v29.1))))), (7, .one (bI .i64 0)), (8, .one (bI .i64 v29.2)), (36, .one (bB y33))], [(1003, some (.blk 54 (dat (List.flatMap encS ([(ByteArray.mk #[97]), (ByteArray.mk #[98]), (ByteArray.mk #[99]), (ByteArray.mk #[100]), (ByteArray.mk #[101]), (ByteArray.mk #[102]), (ByteArray.mk #[103]), (ByteArray.mk #[104])]))))), (2004, some (.row 34 6 (List.map encApi_Version v3.2) true))]⟩) (fun y33 => law05_made_k9 l_0 again5 v3 again31 v29 y33 = some r) (fun y33 hF => ?_) (fun J42 => ?_)
      · unfold law05_made_k9 at hF
        refine ifS hF (fun hc34 hF => ?_) (fun hc34 hF => ?_)
        · refine G.cond rfl (fun _ => ?_) (fun hx => by rw [hc34] at hx; cases hx)
          refine G.skip ?_
          refine G.seq ?_
          refine G.block ?_
          refine G.seq ?_
          refine G.seq ?_
          refine G.region ?_
          refine G.op1 (op_move (Ev.t 4 (.own 2004 (List.map encApi_Version v3.2))) rfl) rfl ⟨rfl, trivial⟩ trivial ?_
          refine G.op1 (OpL.cast (op_lenO Try.underlying31 (Ev.t 39 (.own 2004 (List.map encApi_Version v3.2))) rfl) (by rw [List.length_map])) rfl ⟨rfl, trivial⟩ ⟨rfl, trivial⟩ ?_
          refine G.op1 (op_eqI (Ev.t 40 (bI .i64 (v3.2.length : Int))) (Ev.c _ rfl) rfl) rfl ⟨rfl, trivial⟩ trivial ?_
          refine G.endOps ?_
          refine ifS hF (fun hc35 hF => ?_) (fun hc35 hF => ?_)
          · refine G.cond rfl (fun _ => ?_) (fun hx => by rw [hc35] at hx; cases hx)
            refine G.exit ?_
            refine GX.c ?_
            refine GX.bYes ?_
            refine G.region ?_
            refine G.op1 (op_move (Ev.t 8 (bI .i64 v29.2)) rfl) rfl ⟨rfl, trivial⟩ trivial ?_
            refine G.op1 (op_add (Ev.t 37 (bI .i64 v29.2)) (Ev.c _ rfl) rfl) rfl ⟨rfl, trivial⟩ trivial ?_
            refine G.op1 (op_assign (Ev.t 38 (bI .i64 (IntKind.wrap .i64 (v29.2 + 1)))) rfl) rfl ⟨rfl, trivial⟩ trivial ?_
            refine G.endOps ?_
            exact G.arr (J30 (v29.1, IntKind.wrap .i64 (v29.2 + 1)) hF) ⟨rfl, rfl, rfl, rfl, rfl, rfl, rfl, trivial⟩ ⟨rfl, rfl, trivial⟩ (by simp only [wellId, List.all_cons, List.all_nil, HE.ids, ids_dat]; rfl)
          · refine G.cond rfl (fun hx => by rw [hc35] at hx; cases hx) (fun _ => ?_)
            refine G.skip ?_
            refine G.seq ?_
            refine G.region ?_
            refine G.op1 (op_move (Ev.t 4 (.own 2004 (List.map encApi_Version v3.2))) rfl) rfl ⟨rfl, trivial⟩ trivial ?_
            refine G.op1 (op_move (Ev.t 0 (.g (.d (.sl 3 (List.map encLaw05_Write l_0))))) rfl) rfl ⟨rfl, trivial⟩ trivial ?_
            refine G.op1 (op_move (Ev.t 5 (bI .i64 v3.1)) rfl) rfl ⟨rfl, trivial⟩ trivial ?_
            obtain ⟨x36, hx36, hF⟩ := bindS hF
            refine G.op1 (op_index (cs := [.v (.int .i64 x36.Key), .v (.int .i64 x36.Site), .sl 1 (List.map encI_i64 x36.Saw)]) Try.underlying22 ti49 (idx_ok hx36).1 (idx_get hx36 encLaw05_Write) (Ev.t 43 (.g (.d (.sl 3 (List.map encLaw05_Write l_0))))) (Ev.t 44 (bI .i64 v3.1)) rfl) rfl ⟨rfl, rfl, trivial⟩ trivial ?_
            refine G.op1 (op_fieldE (cs' := [.sl 1 (List.map encI_i64 x36.Saw)]) Try.underlying49 rfl ti47 (by decide) rfl (Ev.t 45 (.ep [.v (.int .i64 x36.Key), .v (.int .i64 x36.Site), .sl 1 (List.map encI_i64 x36.Saw)])) rfl) rfl ⟨rfl, trivial⟩ trivial ?_
            refine G.op1 (op_load1E (c := .sl 1 (List.map encI_i64 x36.Saw)) Try.underlying47 rfl rfl (Ev.t 46 (.ep [.sl 1 (List.map encI_i64 x36.Saw)])) rfl) rfl ⟨rfl, trivial⟩ trivial ?_
            refine G.op1 (op_move (Ev.t 8 (bI .i64 v29.2)) rfl) rfl ⟨rfl, trivial⟩ trivial ?_
            obtain ⟨x37, hx37, hF⟩ := bindS hF
            refine G.op1 (op_index (cs := [.v (.int .i64 x37)]) Try.underlying47 ti3 (idx_ok hx37).1 (idx_get hx37 encI_i64) (Ev.t 47 (.g (.d (.sl 1 (List.map encI_i64 x36.Saw))))) (Ev.t 48 (bI .i64 v29.2)) rfl) rfl ⟨rfl, rfl, trivial⟩ trivial ?_
            refine G.op1 (op_load1E (c := .v (.int .i64 x37)) Try.underlying3 rfl rfl (Ev.t 49 (.ep [.v (.int .i64 x37)])) rfl) rfl ⟨rfl, trivial⟩ trivial ?_
            refine G.op1 (op_move (Ev.t 4 (.own 2004 (List.map encApi_Version v3.2))) rfl) rfl ⟨rfl, trivial⟩ trivial ?_
            refine G.op1 (OpL.cast (op_lenO Try.underlying31 (Ev.t 51 (.own 2004 (List.map encApi_Version v3.2))) rfl) (by rw [List.length_map])) rfl ⟨rfl, trivial⟩ ⟨rfl, trivial⟩ ?_
            obtain ⟨hz38, hF⟩ := chkS hF
            refine G.op1 (op_rem (by simpa using hz38) (Ev.t 50 (bI .i64 x37)) (Ev.t 52 (bI .i64 (v3.2.length : Int))) rfl) rfl ⟨rfl, rfl, trivial⟩ trivial ?_
            refine G.op1 (op_move (Ev.t 4 (.own 2004 (List.map encApi_Version v3.2))) rfl) rfl ⟨rfl, trivial⟩ trivial ?_
            refine G.op1 (OpL.cast (op_lenO Try.underlying31 (Ev.t 54 (.own 2004 (List.map encApi_Version v3.2))) rfl) (by rw [List.length_map])) rfl ⟨rfl, trivial⟩ ⟨rfl, trivial⟩ ?_
            refine G.op1 (op_add (Ev.t 53 (bI .i64 (Int.tmod x37 (v3.2.length : Int)))) (Ev.t 55 (bI .i64 (v3.2.length : Int))) rfl) rfl ⟨rfl, rfl, trivial⟩ trivial ?_
            refine G.op1 (op_move (Ev.t 4 (.own 2004 (List.map encApi_Version v3.2))) rfl) rfl ⟨rfl, trivial⟩ trivial ?_
            refine G.op1 (OpL.cast (op_lenO Try.underlying31 (Ev.t 57 (.own 2004 (List.map encApi_Version v3.2))) rfl) (by rw [List.length_map])) rfl ⟨rfl, trivial⟩ ⟨rfl, trivial⟩ ?_
            obtain ⟨hz39, hF⟩ := chkS hF
            refine G.op1 (op_rem (by simpa using hz39) (Ev.t 56 (bI .i64 (IntKind.wrap .i64 ((Int.tmod x37 (v3.2.length : Int)) + (v3.2.length : Int))))) (Ev.t 58 (bI .i64 (v3.2.length : Int))) rfl) rfl ⟨rfl, rfl, trivial⟩ trivial ?_
            obtain ⟨x40, hx40, hF⟩ := bindS hF
            refine G.loadRow (cs := [.v (.string x40.Key), .v (.string x40.Value), .v (.bool x40.Gone), .v (.int .i64 x40.Stamp.N), .v (.int .i64 x40.Stamp.Site), .sl 3 (List.map encApi_Dep x40.Past)]) Try.underlying31 Try.underlying34 rfl ti34 (idx_ok hx40).1 (idx_get hx40 encApi_Version) (Ev.t 42 (.own 2004 (List.map encApi_Version v3.2))) (Ev.t 59 (bI .i64 (Int.tmod (IntKind.wrap .i64 ((Int.tmod x37 (v3.2.length : Int)) + (v3.2.length : Int))) (v3.2.length : Int)))) rfl rfl ⟨rfl, rfl, trivial⟩ rfl ?_
            refine G.op2 (op_alloc (k := 1009) (cs := [bS ByteArray.empty, bS ByteArray.empty, bB false, bI .i64 0, bI .i64 0, .g (.d (.sl 3 (List.map encApi_Dep ([] : (List Api_Dep)))))]) ti34 ⟨.v _ rfl, .v _ rfl, .v _ rfl, .v _ rfl, .v _ rfl, .n 3, trivial⟩ rfl) rfl trivial ⟨rfl, trivial⟩ ?_
            refine G.op3 (op_storeA (cs' := [bS x40.Key, bS x40.Value, bB x40.Gone, bI .i64 x40.Stamp.N, bI .i64 x40.Stamp.Site, .g (.d (.sl 3 (List.map encApi_Dep x40.Past)))]) ti34 rfl rfl (Ev.t 9 (.ptr 1009 0)) (Ev.t 61 (.g (.agg [.v (.string x40.Key), .v (.string x40.Value), .v (.bool x40.Gone), .v (.int .i64 x40.Stamp.N), .v (.int .i64 x40.Stamp.Site), .sl 3 (List.map encApi_Dep x40.Past)])))) rfl ⟨rfl, rfl, trivial⟩ ⟨rfl, trivial⟩ ?_
            refine G.endOps ?_
            refine G.region ?_
            refine G.op1 (op_move (Ev.t 6 (.g (.d (.sl 3 (List.map encApi_Dep v29.1))))) rfl) rfl ⟨rfl, trivial⟩ trivial ?_
            refine G.op1 (op_fieldP (off' := 5) Try.underlying34 rfl ti29 (by decide) rfl (Ev.t 9 (.ptr 1009 0)) rfl) rfl ⟨rfl, trivial⟩ trivial ?_
            refine G.op1 (op_load1P (c := .g (.d (.sl 3 (List.map encApi_Dep x40.Past)))) Try.underlying29 rfl rfl (Ev.t 63 (.ptr 1009 5)) rfl) rfl ⟨rfl, trivial⟩ ⟨rfl, trivial⟩ ?_
            refine G.op1 (op_fieldP (off' := 0) Try.underlying34 rfl ti9 (by decide) rfl (Ev.t 9 (.ptr 1009 0)) rfl) rfl ⟨rfl, trivial⟩ trivial ?_
            refine G.op1 (op_load1P (c := bS x40.Key) Try.underlying9 rfl rfl (Ev.t 65 (.ptr 1009 0)) rfl) rfl ⟨rfl, trivial⟩ ⟨rfl, trivial⟩ ?_
            refine G.op1 (op_fieldP (off' := 3) Try.underlying34 rfl ti24 (by decide) rfl (Ev.t 9 (.ptr 1009 0)) rfl) rfl ⟨rfl, trivial⟩ trivial ?_
            refine G.op1 (op_loadAP (ds := [.v (.int .i64 x40.Stamp.N), .v (.int .i64 x40.Stamp.Site)]) Try.underlying24 rfl ti24 rfl (Ev.t 67 (.ptr 1009 3)) rfl) rfl ⟨rfl, trivial⟩ ⟨rfl, trivial⟩ ?_
            refine G.op1 (op_build (zs := [.v (.string ByteArray.empty), .v (.int .i64 0), .v (.int .i64 0)]) (ds := [.v (.string x40.Key), .v (.int .i64 x40.Stamp.N), .v (.int .i64 x40.Stamp.Site)]) Try.underlying26 ti26 (pl26 _ Try.underlying26) ⟨.v _ rfl, .v _ rfl, .v _ rfl, trivial⟩ (EvP.cons (Ev.t 66 (bS x40.Key)) (EvP.cons (Ev.t 68 (.g (.agg [.v (.int .i64 x40.Stamp.N), .v (.int .i64 x40.Stamp.Site)]))) EvP.nil)) rfl rfl) rfl ⟨rfl, rfl, trivial⟩ trivial ?_
            refine G.op1 (op_buildSlice (es := List.map encApi_Dep [(Api_Dep.mk x40.Key x40.Stamp)]) Try.underlying29 ti26 rfl rfl (EvP.cons (Ev.t 69 (.g (.agg [.v (.string x40.Key), .v (.int .i64 x40.Stamp.N), .v (.int .i64 x40.Stamp.Site)]))) EvP.nil) rfl rfl (by simp [encApi_Dep]) rfl) rfl ⟨rfl, trivial⟩ trivial ?_
            refine G.op1 (op_buildSlice (es := List.map encL_encApi_Dep [v29.1, x40.Past, [(Api_Dep.mk x40.Key x40.Stamp)]]) Try.underlying53 ti29 rfl rfl (EvP.cons (Ev.t 62 (.g (.d (.sl 3 (List.map encApi_Dep v29.1))))) (EvP.cons (Ev.t 64 (.g (.d (.sl 3 (List.map encApi_Dep x40.Past))))) (EvP.cons (Ev.t 70 (.g (.d (.sl 3 (List.map encApi_Dep ([(Api_Dep.mk x40.Key x40.Stamp)])))))) EvP.nil))) rfl rfl (by simp [encL_encApi_Dep]) rfl) rfl ⟨rfl, rfl, rfl, trivial⟩ trivial ?_
            obtain ⟨r41, hr41, hF⟩ := bindS hF
            refine G.op1 (op_call (sv := .one (.g (.d (.sl 3 (List.map encApi_Dep r41))))) cf27 (ct_ref04_Merge ([v29.1, x40.Past, [(Api_Dep.mk x40.Key x40.Stamp)]]) r41 hr41) rfl (EvL.cons (Ev.t 71 (.g (.d (.sl 1 (List.map encL_encApi_Dep ([v29.1, x40.Past, [(Api_Dep.mk x40.Key x40.Stamp)]])))))) EvL.nil) rfl) rfl ⟨rfl, trivial⟩ trivial ?_
            refine G.op1 (op_assign (Ev.t 72 (.g (.d (.sl 3 (List.map encApi_Dep r41))))) rfl) rfl ⟨rfl, trivial⟩ trivial ?_
            refine G.endOps ?_
            refine G.endBlock ?_
            refine G.region ?_
            refine G.op1 (op_move (Ev.t 8 (bI .i64 v29.2)) rfl) rfl ⟨rfl, trivial⟩ trivial ?_
            refine G.op1 (op_add (Ev.t 37 (bI .i64 v29.2)) (Ev.c _ rfl) rfl) rfl ⟨rfl, trivial⟩ trivial ?_
            refine G.op1 (op_assign (Ev.t 38 (bI .i64 (IntKind.wrap .i64 (v29.2 + 1)))) rfl) rfl ⟨rfl, trivial⟩ trivial ?_
            refine G.endOps ?_
            exact G.arr (J30 (r41, IntKind.wrap .i64 (v29.2 + 1)) hF) ⟨rfl, rfl, rfl, rfl, rfl, rfl, rfl, trivial⟩ ⟨rfl, rfl, trivial⟩ (by simp only [wellId, List.all_cons, List.all_nil, HE.ids, ids_dat]; rfl)
        · refine G.cond rfl (fun hx => by rw [hc34] at hx; cases hx) (fun _ => ?_)
          refine G.exit ?_
          refine GX.c ?_
          refine GX.q ?_
          refine GX.bYes ?_
          exact G.arr (J28 v29.1 hF) ⟨rfl, rfl, rfl, rfl, rfl, rfl, trivial⟩ ⟨rfl, rfl, trivial⟩ (by simp only [wellId, List.all_cons, List.all_nil, HE.ids, ids_dat]; rfl)
      refine G.region ?_
      refine G.op1 (op_move (Ev.t 8 (bI .i64 v29.2)) rfl) rfl ⟨rfl, trivial⟩ trivial ?_
      refine G.op1 (op_move (Ev.t 0 (.g (.d (.sl 3 (List.map encLaw05_Write l_0))))) rfl) rfl ⟨rfl, trivial⟩ trivial ?_
      refine G.op1 (op_move (Ev.t 5 (bI .i64 v3.1)) rfl) rfl ⟨rfl, trivial⟩ trivial ?_
      obtain ⟨x43, hx43, hF⟩ := bindS hF
      refine G.op1 (op_index (cs := [.v (.int .i64 x43.Key), .v (.int .i64 x43.Site), .sl 1 (List.map encI_i64 x43.Saw)]) Try.underlying22 ti49 (idx_ok hx43).1 (idx_get hx43 encLaw05_Write) (Ev.t 26 (.g (.d (.sl 3 (List.map encLaw05_Write l_0))))) (Ev.t 27 (bI .i64 v3.1)) rfl) rfl ⟨rfl, rfl, trivial⟩ trivial ?_
      refine G.op1 (op_fieldE (cs' := [.sl 1 (List.map encI_i64 x43.Saw)]) Try.underlying49 rfl ti47 (by decide) rfl (Ev.t 28 (.ep [.v (.int .i64 x43.Key), .v (.int .i64 x43.Site), .sl 1 (List.map encI_i64 x43.Saw)])) rfl) rfl ⟨rfl, trivial⟩ trivial ?_
      refine G.op1 (op_load1E (c := .sl 1 (List.map encI_i64 x43.Saw)) Try.underlying47 rfl rfl (Ev.t 29 (.ep [.sl 1 (List.map encI_i64 x43.Saw)])) rfl) rfl ⟨rfl, trivial⟩ trivial ?_
      refine G.op1 (OpL.cast (op_lenD Try.underlying47 (Ev.t 30 (.g (.d (.sl 1 (List.map encI_i64 x43.Saw))))) rfl) (by rw [List.length_map])) rfl ⟨rfl, trivial⟩ trivial ?_
      refine G.op1 (op_lss (Ev.t 25 (bI .i64 v29.2)) (Ev.t 31 (bI .i64 (x43.Saw.length : Int))) rfl) rfl ⟨rfl, rfl, trivial⟩ trivial ?_
      refine G.op1 (op_move (Ev.t 32 (bB (decide (v29.2 < (x43.Saw.length : Int))))) rfl) rfl ⟨rfl, trivial⟩ trivial ?_
      refine ifS hF (fun hc44 hF => ?_) (fun hc44 hF => ?_)
      · refine G.known (t := 33) hc44 rfl ?_
        refine G.opG1 (op_move (Ev.t 8 (bI .i64 v29.2)) rfl) rfl rfl rfl ⟨rfl, trivial⟩ trivial ?_
        refine G.opG1 (op_lss (Ev.t 34 (bI .i64 v29.2)) (Ev.c _ rfl) rfl) rfl rfl rfl ⟨rfl, trivial⟩ trivial ?_
        refine G.op1 (op_pickT (Ev.t 33 (bB true)) (Ev.t 35 (bB (decide (v29.2 < 4)))) rfl) rfl ⟨rfl, rfl, trivial⟩ trivial ?_
        refine G.endOps ?_
        exact G.arr (J42 (decide (v29.2 < 4)) hF) ⟨rfl, rfl, rfl, rfl, rfl, rfl, rfl, rfl, trivial⟩ ⟨rfl, rfl, trivial⟩ (by simp only [wellId, List.all_cons, List.all_nil, HE.ids, ids_dat]; rfl)
      · refine G.known (t := 33) hc44 rfl ?_
        refine G.opN1 rfl rfl rfl rfl rfl ?_
        refine G.opN1 rfl rfl rfl rfl rfl ?_
        refine G.op1 (op_pickF (Ev.t 33 (bB false)) (Ev.c _ rfl) rfl) rfl ⟨rfl, trivial⟩ trivial ?_
        refine G.endOps ?_
        exact G.arr (J42 false hF) ⟨rfl, rfl, rfl, rfl, rfl, rfl, rfl, rfl, trivial⟩ ⟨rfl, rfl, trivial⟩ (by simp only [wellId, List.all_cons, List.all_nil, HE.ids, ids_dat]; rfl)
    · refine G.cond rfl (fun hx => by rw [hc8] at hx; cases hx) (fun _ => ?_)
      refine G.exit ?_
      refine GX.c ?_
      refine GX.q ?_
      refine GX.bYes ?_
      exact G.arr (J2 v3.2 hF) ⟨rfl, trivial⟩ ⟨rfl, trivial⟩ rfl
  refine G.region ?_
  refine G.op1 (op_move (Ev.t 5 (bI .i64 v3.1)) rfl) rfl ⟨rfl, trivial⟩ trivial ?_
  refine G.op1 (op_move (Ev.t 0 (.g (.d (.sl 3 (List.map encLaw05_Write l_0))))) rfl) rfl ⟨rfl, trivial⟩ trivial ?_
  refine G.op1 (OpL.cast (op_lenD Try.underlying22 (Ev.t 16 (.g (.d (.sl 3 (List.map encLaw05_Write l_0))))) rfl) (by rw [List.length_map])) rfl ⟨rfl, trivial⟩ trivial ?_
  refine G.op1 (op_lss (Ev.t 15 (bI .i64 v3.1)) (Ev.t 17 (bI .i64 (l_0.length : Int))) rfl) rfl ⟨rfl, rfl, trivial⟩ trivial ?_
  refine G.op1 (op_move (Ev.t 18 (bB (decide (v3.1 < (l_0.length : Int))))) rfl) rfl ⟨rfl, trivial⟩ trivial ?_
  refine ifS hF (fun hc46 hF => ?_) (fun hc46 hF => ?_)
  · refine G.known (t := 19) hc46 rfl ?_
    refine G.opG1 (op_move (Ev.t 5 (bI .i64 v3.1)) rfl) rfl rfl rfl ⟨rfl, trivial⟩ trivial ?_
    refine G.opG1 (op_lss (Ev.t 20 (bI .i64 v3.1)) (Ev.c _ rfl) rfl) rfl rfl rfl ⟨rfl, trivial⟩ trivial ?_
    refine G.op1 (op_pickT (Ev.t 19 (bB true)) (Ev.t 21 (bB (decide (v3.1 < 14)))) rfl) rfl ⟨rfl, rfl, trivial⟩ trivial ?_
    refine G.endOps ?_
    exact G.arr (J45 (decide (v3.1 < 14)) hF) ⟨rfl, rfl, rfl, rfl, rfl, trivial⟩ ⟨rfl, rfl, trivial⟩ (by simp only [wellId, List.all_cons, List.all_nil, HE.ids, ids_dat]; rfl)
  · refine G.known (t := 19) hc46 rfl ?_
    refine G.opN1 rfl rfl rfl rfl rfl ?_
    refine G.opN1 rfl rfl rfl rfl rfl ?_
    refine G.op1 (op_pickF (Ev.t 19 (bB false)) (Ev.c _ rfl) rfl) rfl ⟨rfl, trivial⟩ trivial ?_
    refine G.endOps ?_
    exact G.arr (J45 false hF) ⟨rfl, rfl, rfl, rfl, rfl, trivial⟩ ⟨rfl, rfl, trivial⟩ (by simp only [wellId, List.all_cons, List.all_nil, HE.ids, ids_dat]; rfl)


set_option maxRecDepth 20000 in
set_option maxHeartbeats 2000000 in
theorem ct_law05_few (l_0 : (List Api_Dep)) (r : (List Api_Dep)) (hF : law05_few l_0 = some r) : Ct Try.prog 11 [.g (.d (.sl 3 (List.map encApi_Dep l_0)))] (.one (.d (.sl 3 (List.map encApi_Dep r)))) := by
  unfold law05_few at hF
  refine Ct.intro Try.func11 rfl Try.ntmps11 rfl rfl fun M w => ?_
  refine G.seq ?_
  refine G.region ?_
  refine G.op1 (op_assign (Ev.n 3) rfl) rfl trivial trivial ?_
  refine G.endOps ?_
  refine G.seq ?_
  refine G.region ?_
  refine G.op1 (op_assign (Ev.n 3) rfl) rfl trivial trivial ?_
  refine G.endOps ?_
  refine G.seq ?_
  refine G.seq ?_
  refine G.region ?_
  refine G.op1 (op_assign (Ev.c _ rfl) rfl) rfl trivial trivial ?_
  refine G.endOps ?_
  refine G.joinC (T := (List Api_Dep)) (fun y1 => ⟨[(3, .one (.g (.d (.sl 3 (List.map encApi_Dep y1)))))], []⟩) (fun y1 => law05_few_k1 y1 = some r) (fun y1 hF => ?_) (fun J2 => ?_)
  · unfold law05_few_k1 at hF
    refine G.seq ?_
    refine G.region ?_
    refine G.op1 (op_move (Ev.t 3 (.g (.d (.sl 3 (List.map encApi_Dep y1))))) rfl) rfl ⟨rfl, trivial⟩ trivial ?_
    refine G.op1 (op_assign (Ev.t 31 (.g (.d (.sl 3 (List.map encApi_Dep y1))))) rfl) rfl ⟨rfl, trivial⟩ trivial ?_
    refine G.endOps ?_
    cases hF
    exact G.ret1 Try.results11 (RVar.tmp 2 _) ⟨rfl, trivial⟩ trivial
  refine G.block ?_
  refine G.keep (sl' := [(0, .one (.g (.d (.sl 3 (List.map encApi_Dep l_0))))), (3, .one (.g (.d (.sl 3 (List.map encApi_Dep ([] : (List Api_Dep))))))), (4, .one (bI .i64 0))]) (hp' := []) ⟨rfl, rfl, rfl, trivial⟩ trivial rfl ?_
  refine G.loopF (fun (v3 : (List Api_Dep) × Int) => ⟨[(0, .one (.g (.d (.sl 3 (List.map encApi_Dep l_0))))), (3, .one (.g (.d (.sl 3 (List.map encApi_Dep v3.1))))), (4, .one (bI .i64 v3.2))], []⟩) hF rfl (fun K6 again5 v3 J4 hF => ?_)
  unfold law05_few_l2 at hF
  refine G.seq ?_
  refine G.seq ?_
  refine G.joinC (T := Bool) (fun y7 => ⟨[(0, .one (.g (.d (.sl 3 (List.map encApi_Dep l_0))))), (3, .one (.g (.d (.sl 3 (List.map encApi_Dep v3.1))))), (4, .one (bI .i64 v3.2)), (13, .one (bB y7))], []⟩) (fun y7 => law05_few_k3 l_0 again5 v3 y7 = some r) (fun y7 hF => ?_) (fun J15 => ?_)
  · unfold law05_few_k3 at hF
    refine ifS hF (fun hc8 hF => ?_) (fun hc8 hF => ?_)
    · refine G.cond rfl (fun _ => ?_) (fun hx => by rw [hc8] at hx; cases hx)
      refine G.skip ?_
      refine G.seq ?_
      refine G.block ?_
      refine G.seq ?_
      refine G.region ?_
      refine G.op1 (op_move (Ev.t 0 (.g (.d (.sl 3 (List.map encApi_Dep l_0))))) rfl) rfl ⟨rfl, trivial⟩ trivial ?_
      refine G.op1 (op_move (Ev.t 4 (bI .i64 v3.2)) rfl) rfl ⟨rfl, trivial⟩ trivial ?_
      obtain ⟨x9, hx9, hF⟩ := bindS hF
      refine G.op1 (op_index (cs := [.v (.string x9.Key), .v (.int .i64 x9.Stamp.N), .v (.int .i64 x9.Stamp.Site)]) Try.underlying29 ti26 (idx_ok hx9).1 (idx_get hx9 encApi_Dep) (Ev.t 16 (.g (.d (.sl 3 (List.map encApi_Dep l_0))))) (Ev.t 17 (bI .i64 v3.2)) rfl) rfl ⟨rfl, rfl, trivial⟩ trivial ?_
      refine G.op1 (op_loadAE (ds := [.v (.string x9.Key), .v (.int .i64 x9.Stamp.N), .v (.int .i64 x9.Stamp.Site)]) Try.underlying26 rfl ti26 rfl (Ev.t 18 (.ep [.v (.string x9.Key), .v (.int .i64 x9.Stamp.N), .v (.int .i64 x9.Stamp.Site)])) rfl) rfl ⟨rfl, trivial⟩ trivial ?_
      refine G.op2 (op_alloc (k := 1005) (cs := [bS ByteArray.empty, bI .i64 0, bI .i64 0]) ti26 ⟨.v _ rfl, .v _ rfl, .v _ rfl, trivial⟩ rfl) rfl trivial ⟨rfl, trivial⟩ ?_
      refine G.op3 (op_storeA (cs' := [bS x9.Key, bI .i64 x9.Stamp.N, bI .i64 x9.Stamp.Site]) ti26 rfl rfl (Ev.t 5 (.ptr 1005 0)) (Ev.t 19 (.g (.agg [.v (.string x9.Key), .v (.int .i64 x9.Stamp.N), .v (.int .i64 x9.Stamp.Site)])))) rfl ⟨rfl, rfl, trivial⟩ ⟨rfl, trivial⟩ ?_
      refine G.endOps ?_
      refine G.seq ?_
      refine G.seq ?_
      refine G.region ?_
      refine G.op1 (op_fieldP (off' := 0) Try.underlying26 rfl ti9 (by decide) rfl (Ev.t 5 (.ptr 1005 0)) rfl) rfl ⟨rfl, trivial⟩ trivial ?_
      refine G.op1 (op_load1P (c := bS x9.Key) Try.underlying9 rfl rfl (Ev.t 20 (.ptr 1005 0)) rfl) rfl ⟨rfl, trivial⟩ ⟨rfl, trivial⟩ ?_
      refine G.op1 (op_lenS Try.underlying9 (Ev.t 21 (bS x9.Key)) rfl) rfl ⟨rfl, trivial⟩ trivial ?_
      refine G.op1 (op_gtr (Ev.t 22 (bI .i64 (x9.Key.size : Int))) (Ev.c _ rfl) rfl) rfl ⟨rfl, trivial⟩ trivial ?_
      refine G.endOps ?_
      refine G.joinC (T := ByteArray) (fun y10 => ⟨[(0, .one (.g (.d (.sl 3 (List.map encApi_Dep l_0))))), (3, .one (.g (.d (.sl 3 (List.map encApi_Dep v3.1))))), (4, .one (bI .i64 v3.2)), (5, .one (.ptr 1005 0))], [(1005, some (.blk 26 [bS y10, bI .i64 x9.Stamp.N, bI .i64 x9.Stamp.Site]))]⟩) (fun y10 => law05_few_k4 again5 v3 x9 y10 = some r) (fun y10 hF => ?_) (fun J12 => ?_)
      · unfold law05_few_k4 at hF
        refine G.region ?_
        refine G.op1 (op_move (Ev.t 3 (.g (.d (.sl 3 (List.map encApi_Dep v3.1))))) rfl) rfl ⟨rfl, trivial⟩ trivial ?_
        refine G.op1 (op_loadAP (ds := [.v (.string y10), .v (.int .i64 x9.Stamp.N), .v (.int .i64 x9.Stamp.Site)]) Try.underlying26 rfl ti26 rfl (Ev.t 5 (.ptr 1005 0)) rfl) rfl ⟨rfl, trivial⟩ ⟨rfl, trivial⟩ ?_
        obtain ⟨r11, hr11, hF⟩ := bindS hF
        refine G.op1 (op_call (sv := .one (.g (.d (.sl 3 (List.map encApi_Dep r11))))) cf28 (ct_ref04_Add v3.1 (Api_Dep.mk y10 x9.Stamp) r11 hr11) rfl (EvL.cons (Ev.t 28 (.g (.d (.sl 3 (List.map encApi_Dep v3.1))))) (EvL.cons (Ev.t 29 (.g (.agg [.v (.string y10), .v (.int .i64 x9.Stamp.N), .v (.int .i64 x9.Stamp.Site)]))) EvL.nil)) rfl) rfl ⟨rfl, rfl, trivial⟩ trivial ?_
        refine G.op1 (op_assign (Ev.t 30 (.g (.d (.sl 3 (List.map encApi_Dep r11))))) rfl) rfl ⟨rfl, trivial⟩ trivial ?_
        refine G.endOps ?_
        refine G.endBlock ?_
        refine G.region ?_
        refine G.op1 (op_move (Ev.t 4 (bI .i64 v3.2)) rfl) rfl ⟨rfl, trivial⟩ trivial ?_
        refine G.op1 (op_add (Ev.t 14 (bI .i64 v3.2)) (Ev.c _ rfl) rfl) rfl ⟨rfl, trivial⟩ trivial ?_
        refine G.op1 (op_assign (Ev.t 15 (bI .i64 (IntKind.wrap .i64 (v3.2 + 1)))) rfl) rfl ⟨rfl, trivial⟩ trivial ?_
        refine G.endOps ?_
        exact G.arr (J4 (r11, IntKind.wrap .i64 (v3.2 + 1)) hF) ⟨rfl, rfl, rfl, trivial⟩ trivial rfl
      refine ifS hF (fun hc13 hF => ?_) (fun hc13 hF => ?_)
      · refine G.cond rfl (fun _ => ?_) (fun hx => by rw [hc13] at hx; cases hx)
        refine G.region ?_
        refine G.op1 (op_fieldP (off' := 0) Try.underlying26 rfl ti9 (by decide) rfl (Ev.t 5 (.ptr 1005 0)) rfl) rfl ⟨rfl, trivial⟩ trivial ?_
        refine G.op1 (op_load1P (c := bS x9.Key) Try.underlying9 rfl rfl (Ev.t 24 (.ptr 1005 0)) rfl) rfl ⟨rfl, trivial⟩ ⟨rfl, trivial⟩ ?_
        obtain ⟨s14, hs14, hF⟩ := bindS hF
        refine G.op1 (OpL.cast (op_sliceS (lo := none) (hi := some 12) Try.underlying9 (ssub_ok hs14).1 (ssub_ok hs14).2.1 (ssub_ok hs14).2.2.1 (Ev.t 25 (bS x9.Key)) EvO.none (EvO.some (Ev.c _ rfl)) rfl) (congrArg (fun s => bS s) (ssub_ok hs14).2.2.2)) rfl ⟨rfl, trivial⟩ trivial ?_
        refine G.op1 (op_fieldP (off' := 0) Try.underlying26 rfl ti9 (by decide) rfl (Ev.t 5 (.ptr 1005 0)) rfl) rfl ⟨rfl, trivial⟩ trivial ?_
        refine G.op3 (op_store1 (cs' := [bS s14, bI .i64 x9.Stamp.N, bI .i64 x9.Stamp.Site]) (c := bS s14) trivial ti9 rfl rfl (Ev.t 27 (.ptr 1005 0)) (Ev.t 26 (bS s14))) rfl ⟨rfl, rfl, trivial⟩ ⟨rfl, trivial⟩ ?_
        refine G.endOps ?_
        exact G.arr (J12 s14 hF) ⟨rfl, rfl, rfl, rfl, trivial⟩ ⟨rfl, trivial⟩ rfl
      · refine G.cond rfl (fun hx => by rw [hc13] at hx; cases hx) (fun _ => ?_)
        refine G.skip ?_
        exact G.arr (J12 x9.Key hF) ⟨rfl, rfl, rfl, rfl, trivial⟩ ⟨rfl, trivial⟩ rfl
    · refine G.cond rfl (fun hx => by rw [hc8] at hx; cases hx) (fun _ => ?_)
      refine G.exit ?_
      refine GX.c ?_
      refine GX.q ?_
      refine GX.bYes ?_
      exact G.arr (J2 v3.1 hF) ⟨rfl, trivial⟩ trivial rfl
  refine G.region ?_
  refine G.op1 (op_move (Ev.t 4 (bI .i64 v3.2)) rfl) rfl ⟨rfl, trivial⟩ trivial ?_
  refine G.op1 (op_move (Ev.t 0 (.g (.d (.sl 3 (List.map encApi_Dep l_0))))) rfl) rfl ⟨rfl, trivial⟩ trivial ?_
  refine G.op1 (OpL.cast (op_lenD Try.underlying29 (Ev.t 7 (.g (.d (.sl 3 (List.map encApi_Dep l_0))))) rfl) (by rw [List.length_map])) rfl ⟨rfl, trivial⟩ trivial ?_
  refine G.op1 (op_lss (Ev.t 6 (bI .i64 v3.2)) (Ev.t 8 (bI .i64 (l_0.length : Int))) rfl) rfl ⟨rfl, rfl, trivial⟩ trivial ?_
  refine G.op1 (op_move (Ev.t 9 (bB (decide (v3.2 < (l_0.length : Int))))) rfl) rfl ⟨rfl, trivial⟩ trivial ?_
  refine ifS hF (fun hc16 hF => ?_) (fun hc16 hF => ?_)
  · refine G.known (t := 10) hc16 rfl ?_
    refine G.opG1 (op_move (Ev.t 4 (bI .i64 v3.2)) rfl) rfl rfl rfl ⟨rfl, trivial⟩ trivial ?_
    refine G.opG1 (op_lss (Ev.t 11 (bI .i64 v3.2)) (Ev.c _ rfl) rfl) rfl rfl rfl ⟨rfl, trivial⟩ trivial ?_
    refine G.op1 (op_pickT (Ev.t 10 (bB true)) (Ev.t 12 (bB (decide (v3.2 < 6)))) rfl) rfl ⟨rfl, rfl, trivial⟩ trivial ?_
    refine G.endOps ?_
    exact G.arr (J15 (decide (v3.2 < 6)) hF) ⟨rfl, rfl, rfl, rfl, trivial⟩ trivial rfl
  · refine G.known (t := 10) hc16 rfl ?_
    refine G.opN1 rfl rfl rfl rfl rfl ?_
    refine G.opN1 rfl rfl rfl rfl rfl ?_
    refine G.op1 (op_pickF (Ev.t 10 (bB false)) (Ev.c _ rfl) rfl) rfl ⟨rfl, trivial⟩ trivial ?_
    refine G.endOps ?_
    exact G.arr (J15 false hF) ⟨rfl, rfl, rfl, rfl, trivial⟩ trivial rfl


set_option maxRecDepth 20000 in
set_option maxHeartbeats 2000000 in
theorem ct_law05_all (l_0 : (List Api_Version)) (r : (List Api_Dep)) (hF : law05_all l_0 = some r) : Ct Try.prog 12 [.g (.d (.sl 6 (List.map encApi_Version l_0)))] (.one (.d (.sl 3 (List.map encApi_Dep r)))) := by
  unfold law05_all at hF
  refine Ct.intro Try.func12 rfl Try.ntmps12 rfl rfl fun M w => ?_
  refine G.seq ?_
  refine G.region ?_
  refine G.op1 (op_assign (Ev.n 3) rfl) rfl trivial trivial ?_
  refine G.endOps ?_
  refine G.seq ?_
  refine G.region ?_
  refine G.op1 (op_assign (Ev.n 3) rfl) rfl trivial trivial ?_
  refine G.endOps ?_
  refine G.seq ?_
  refine G.seq ?_
  refine G.region ?_
  refine G.op1 (op_assign (Ev.c _ rfl) rfl) rfl trivial trivial ?_
  refine G.endOps ?_
  refine G.joinC (T := (List Api_Dep)) (fun y1 => ⟨[(3, .one (.g (.d (.sl 3 (List.map encApi_Dep y1)))))], []⟩) (fun y1 => law05_all_k1 y1 = some r) (fun y1 hF => ?_) (fun J2 => ?_)
  · unfold law05_all_k1 at hF
    refine G.seq ?_
    refine G.region ?_
    refine G.op1 (op_move (Ev.t 3 (.g (.d (.sl 3 (List.map encApi_Dep y1))))) rfl) rfl ⟨rfl, trivial⟩ trivial ?_
    refine G.op1 (op_assign (Ev.t 31 (.g (.d (.sl 3 (List.map encApi_Dep y1))))) rfl) rfl ⟨rfl, trivial⟩ trivial ?_
    refine G.endOps ?_
    cases hF
    exact G.ret1 Try.results12 (RVar.tmp 2 _) ⟨rfl, trivial⟩ trivial
  refine G.block ?_
  refine G.keep (sl' := [(0, .one (.g (.d (.sl 6 (List.map encApi_Version l_0))))), (3, .one (.g (.d (.sl 3 (List.map encApi_Dep ([] : (List Api_Dep))))))), (4, .one (bI .i64 0))]) (hp' := []) ⟨rfl, rfl, rfl, trivial⟩ trivial rfl ?_
  refine G.loopF (fun (v3 : (List Api_Dep) × Int) => ⟨[(0, .one (.g (.d (.sl 6 (List.map encApi_Version l_0))))), (3, .one (.g (.d (.sl 3 (List.map encApi_Dep v3.1))))), (4, .one (bI .i64 v3.2))], []⟩) hF rfl (fun K6 again5 v3 J4 hF => ?_)
  unfold law05_all_l2 at hF
  refine G.seq ?_
  refine G.seq ?_
  refine G.region ?_
  refine G.op1 (op_move (Ev.t 4 (bI .i64 v3.2)) rfl) rfl ⟨rfl, trivial⟩ trivial ?_
  refine G.op1 (op_move (Ev.t 0 (.g (.d (.sl 6 (List.map encApi_Version l_0))))) rfl) rfl ⟨rfl, trivial⟩ trivial ?_
  refine G.op1 (OpL.cast (op_lenD Try.underlying31 (Ev.t 6 (.g (.d (.sl 6 (List.map encApi_Version l_0))))) rfl) (by rw [List.length_map])) rfl ⟨rfl, trivial⟩ trivial ?_
  refine G.op1 (op_lss (Ev.t 5 (bI .i64 v3.2)) (Ev.t 7 (bI .i64 (l_0.length : Int))) rfl) rfl ⟨rfl, rfl, trivial⟩ trivial ?_
  refine G.endOps ?_
  refine ifS hF (fun hc7 hF => ?_) (fun hc7 hF => ?_)
  · refine G.cond rfl (fun _ => ?_) (fun hx => by rw [hc7] at hx; cases hx)
    refine G.skip ?_
    refine G.seq ?_
    refine G.block ?_
    obtain ⟨x8, hx8, hF⟩ := bindS hF
    obtain ⟨x9, hx9, hF⟩ := bindS hF
    obtain ⟨x10, hx10, hF⟩ := bindS hF
    obtain ⟨r11, hr11, hF⟩ := bindS hF
    refine G.drawn (effs := (⟨[(3, .one (.g (.d (.sl 3 (List.map encApi_Dep v3.1)))))], [], [(11, .one (.g (.d (.sl 3 (List.map encApi_Dep v3.1)))))], []⟩ :: ⟨[(0, .one (.g (.d (.sl 6 (List.map encApi_Version l_0)))))], [], [(12, .one (.g (.d (.sl 6 (List.map encApi_Version l_0)))))], []⟩ :: ⟨[(4, .one (bI .i64 v3.2))], [], [(13, .one (bI .i64 v3.2))], []⟩ :: ⟨[(12, .one (.g (.d (.sl 6 (List.map encApi_Version l_0))))), (13, .one (bI .i64 v3.2))], [], [(14, .one (.ep [.v (.string x8.Key), .v (.string x8.Value), .v (.bool x8.Gone), .v (.int .i64 x8.Stamp.N), .v (.int .i64 x8.Stamp.Site), .sl 3 (List.map encApi_Dep x8.Past)]))], []⟩ :: ⟨[(14, .one (.ep [.v (.string x8.Key), .v (.string x8.Value), .v (.bool x8.Gone), .v (.int .i64 x8.Stamp.N), .v (.int .i64 x8.Stamp.Site), .sl 3 (List.map encApi_Dep x8.Past)]))], [], [(15, .one (.ep [.sl 3 (List.map encApi_Dep x8.Past)]))], []⟩ :: ⟨[(15, .one (.ep [.sl 3 (List.map encApi_Dep x8.Past)]))], [], [(16, .one (.g (.d (.sl 3 (List.map encApi_Dep x8.Past)))))], []⟩ :: ⟨[(0, .one (.g (.d (.sl 6 (List.map encApi_Version l_0)))))], [], [(17, .one (.g (.d (.sl 6 (List.map encApi_Version l_0)))))], []⟩ :: ⟨[(4, .one (bI .i64 v3.2))], [], [(18, .one (bI .i64 v3.2))], []⟩ :: ⟨[(17, .one (.g (.d (.sl 6 (List.map encApi_Version l_0))))), (18, .one (bI .i64 v3.2))], [], [(19, .one (.ep [.v (.string x9.Key), .v (.string x9.Value), .v (.bool x9.Gone), .v (.int .i64 x9.Stamp.N), .v (.int .i64 x9.Stamp.Site), .sl 3 (List.map encApi_Dep x9.Past)]))], []⟩ :: ⟨[(19, .one (.ep [.v (.string x9.Key), .v (.string x9.Value), .v (.bool x9.Gone), .v (.int .i64 x9.Stamp.N), .v (.int .i64 x9.Stamp.Site), .sl 3 (List.map encApi_Dep x9.Past)]))], [], [(20, .one (.ep [.v (.string x9.Key), .v (.string x9.Value), .v (.bool x9.Gone), .v (.int .i64 x9.Stamp.N), .v (.int .i64 x9.Stamp.Site), .sl 3 (List.map encApi_Dep x9.Past)]))], []⟩ :: ⟨[(20, .one (.ep [.v (.string x9.Key), .v (.string x9.Value), .v (.bool x9.Gone), .v (.int .i64 x9.Stamp.N), .v (.int .i64 x9.Stamp.Site), .sl 3 (List.map encApi_Dep x9.Past)]))], [], [(21, .one (bS x9.Key))], []⟩ :: ⟨[(0, .one (.g (.d (.sl 6 (List.map encApi_Version l_0)))))], [], [(22, .one (.g (.d (.sl 6 (List.map encApi_Version l_0)))))], []⟩ :: ⟨[(4, .one (bI .i64 v3.2))], [], [(23, .one (bI .i64 v3.2))], []⟩ :: ⟨[(22, .one (.g (.d (.sl 6 (List.map encApi_Version l_0))))), (23, .one (bI .i64 v3.2))], [], [(24, .one (.ep [.v (.string x10.Key), .v (.string x10.Value), .v (.bool x10.Gone), .v (.int .i64 x10.Stamp.N), .v (.int .i64 x10.Stamp.Site), .sl 3 (List.map encApi_Dep x10.Past)]))], []⟩ :: ⟨[(24, .one (.ep [.v (.string x10.Key), .v (.string x10.Value), .v (.bool x10.Gone), .v (.int .i64 x10.Stamp.N), .v (.int .i64 x10.Stamp.Site), .sl 3 (List.map encApi_Dep x10.Past)]))], [], [(25, .one (.ep [.v (.int .i64 x10.Stamp.N), .v (.int .i64 x10.Stamp.Site), .sl 3 (List.map encApi_Dep x10.Past)]))], []⟩ :: ⟨[(25, .one (.ep [.v (.int .i64 x10.Stamp.N), .v (.int .i64 x10.Stamp.Site), .sl 3 (List.map encApi_Dep x10.Past)]))], [], [(26, .one (.g (.agg [.v (.int .i64 x10.Stamp.N), .v (.int .i64 x10.Stamp.Site)])))], []⟩ :: ⟨[(21, .one (bS x9.Key)), (26, .one (.g (.agg [.v (.int .i64 x10.Stamp.N), .v (.int .i64 x10.Stamp.Site)])))], [], [(27, .one (.g (.agg [.v (.string x9.Key), .v (.int .i64 x10.Stamp.N), .v (.int .i64 x10.Stamp.Site)])))], []⟩ :: ⟨[(27, .one (.g (.agg [.v (.string x9.Key), .v (.int .i64 x10.Stamp.N), .v (.int .i64 x10.Stamp.Site)])))], [], [(28, .one (.g (.d (.sl 3 (List.map encApi_Dep ([(Api_Dep.mk x9.Key x10.Stamp)]))))))], []⟩ :: ⟨[(11, .one (.g (.d (.sl 3 (List.map encApi_Dep v3.1))))), (16, .one (.g (.d (.sl 3 (List.map encApi_Dep x8.Past))))), (28, .one (.g (.d (.sl 3 (List.map encApi_Dep ([(Api_Dep.mk x9.Key x10.Stamp)]))))))], [], [(29, .one (.g (.d (.sl 1 (List.map encL_encApi_Dep ([v3.1, x8.Past, [(Api_Dep.mk x9.Key x10.Stamp)]]))))))], []⟩ :: ⟨[(29, .one (.g (.d (.sl 1 (List.map encL_encApi_Dep ([v3.1, x8.Past, [(Api_Dep.mk x9.Key x10.Stamp)]]))))))], [], [(30, .one (.g (.d (.sl 3 (List.map encApi_Dep r11)))))], []⟩ :: ⟨[(30, .one (.g (.d (.sl 3 (List.map encApi_Dep r11)))))], [], [(3, .one (.g (.d (.sl 3 (List.map encApi_Dep r11)))))], []⟩ :: [])) (deps := ([] :: [] :: [] :: [1, 2] :: [1, 2, 3] :: [1, 2, 3, 4] :: [] :: [] :: [6, 7] :: [6, 7, 8] :: [6, 7, 8, 9] :: [] :: [] :: [11, 12] :: [11, 12, 13] :: [11, 12, 13, 14] :: [6, 7, 8, 9, 10, 11, 12, 13, 14, 15] :: [6, 7, 8, 9, 10, 11, 12, 13, 14, 15, 16] :: [0, 1, 2, 3, 4, 5, 6, 7, 8, 9, 10, 11, 12, 13, 14, 15, 16, 17] :: [0, 1, 2, 3, 4, 5, 6, 7, 8, 9, 10, 11, 12, 13, 14, 15, 16, 17, 18] :: [0, 1, 2, 3, 4, 5, 6, 7, 8, 9, 10, 11, 12, 13, 14, 15, 16, 17, 18, 19] :: [])) (sl' := [(0, .one (.g (.d (.sl 6 (List.map encApi_Version l_0))))), (3, .one (.g (.d (.sl 3 (List.map encApi_Dep r11))))), (4, .one (bI .i64 v3.2))]) (hp' := []) follows rfl rfl rfl ⟨⟨⟨rfl, rfl⟩, trivial⟩, trivial, ⟨rfl, trivial⟩, trivial, ⟨rfl, trivial⟩, trivial, ⟨rfl, rfl, trivial⟩, trivial, ⟨rfl, trivial⟩, trivial, ⟨rfl, trivial⟩, trivial, ⟨rfl, trivial⟩, trivial, ⟨rfl, trivial⟩, trivial, ⟨rfl, rfl, trivial⟩, trivial, ⟨rfl, trivial⟩, trivial, ⟨rfl, trivial⟩, trivial, ⟨rfl, trivial⟩, trivial, ⟨rfl, trivial⟩, trivial, ⟨rfl, rfl, trivial⟩, trivial, ⟨rfl, trivial⟩, trivial, ⟨rfl, trivial⟩, trivial, ⟨rfl, rfl, trivial⟩, trivial, ⟨rfl, trivial⟩, trivial, ⟨rfl, rfl, rfl, trivial⟩, trivial, ⟨rfl, trivial⟩, trivial, ⟨rfl, trivial⟩, trivial, trivial⟩ ⟨OpW.plain (op_move (Ev.t 3 (.g (.d (.sl 3 (List.map encApi_Dep v3.1))))) rfl) rfl rfl, OpW.plain (op_move (Ev.t 0 (.g (.d (.sl 6 (List.map encApi_Version l_0))))) rfl) rfl rfl, OpW.plain (op_move (Ev.t 4 (bI .i64 v3.2)) rfl) rfl rfl, OpW.plain (op_index (cs := [.v (.string x8.Key), .v (.string x8.Value), .v (.bool x8.Gone), .v (.int .i64 x8.Stamp.N), .v (.int .i64 x8.Stamp.Site), .sl 3 (List.map encApi_Dep x8.Past)]) Try.underlying31 ti34 (idx_ok hx8).1 (idx_get hx8 encApi_Version) (Ev.t 12 (.g (.d (.sl 6 (List.map encApi_Version l_0))))) (Ev.t 13 (bI .i64 v3.2)) rfl) rfl rfl, OpW.plain (op_fieldE (cs' := [.sl 3 (List.map encApi_Dep x8.Past)]) Try.underlying34 rfl ti29 (by decide) rfl (Ev.t 14 (.ep [.v (.string x8.Key), .v (.string x8.Value), .v (.bool x8.Gone), .v (.int .i64 x8.Stamp.N), .v (.int .i64 x8.Stamp.Site), .sl 3 (List.map encApi_Dep x8.Past)])) rfl) rfl rfl, OpW.plain (op_load1E (c := .sl 3 (List.map encApi_Dep x8.Past)) Try.underlying29 rfl rfl (Ev.t 15 (.ep [.sl 3 (List.map encApi_Dep x8.Past)])) rfl) rfl rfl, OpW.plain (op_move (Ev.t 0 (.g (.d (.sl 6 (List.map encApi_Version l_0))))) rfl) rfl rfl, OpW.plain (op_move (Ev.t 4 (bI .i64 v3.2)) rfl) rfl rfl, OpW.plain (op_index (cs := [.v (.string x9.Key), .v (.string x9.Value), .v (.bool x9.Gone), .v (.int .i64 x9.Stamp.N), .v (.int .i64 x9.Stamp.Site), .sl 3 (List.map encApi_Dep x9.Past)]) Try.underlying31 ti34 (idx_ok hx9).1 (idx_get hx9 encApi_Version) (Ev.t 17 (.g (.d (.sl 6 (List.map encApi_Version l_0))))) (Ev.t 18 (bI .i64 v3.2)) rfl) rfl rfl, OpW.plain (op_fieldE (cs' := [.v (.string x9.Key), .v (.string x9.Value), .v (.bool x9.Gone), .v (.int .i64 x9.Stamp.N), .v (.int .i64 x9.Stamp.Site), .sl 3 (List.map encApi_Dep x9.Past)]) Try.underlying34 rfl ti9 (by decide) rfl (Ev.t 19 (.ep [.v (.string x9.Key), .v (.string x9.Value), .v (.bool x9.Gone), .v (.int .i64 x9.Stamp.N), .v (.int .i64 x9.Stamp.Site), .sl 3 (List.map encApi_Dep x9.Past)])) rfl) rfl rfl, OpW.plain (op_load1E (c := .v (.string x9.Key)) Try.underlying9 rfl rfl (Ev.t 20 (.ep [.v (.string x9.Key), .v (.string x9.Value), .v (.bool x9.Gone), .v (.int .i64 x9.Stamp.N), .v (.int .i64 x9.Stamp.Site), .sl 3 (List.map encApi_Dep x9.Past)])) rfl) rfl rfl, OpW.plain (op_move (Ev.t 0 (.g (.d (.sl 6 (List.map encApi_Version l_0))))) rfl) rfl rfl, OpW.plain (op_move (Ev.t 4 (bI .i64 v3.2)) rfl) rfl rfl, OpW.plain (op_index (cs := [.v (.string x10.Key), .v (.string x10.Value), .v (.bool x10.Gone), .v (.int .i64 x10.Stamp.N), .v (.int .i64 x10.Stamp.Site), .sl 3 (List.map encApi_Dep x10.Past)]) Try.underlying31 ti34 (idx_ok hx10).1 (idx_get hx10 encApi_Version) (Ev.t 22 (.g (.d (.sl 6 (List.map encApi_Version l_0))))) (Ev.t 23 (bI .i64 v3.2)) rfl) rfl rfl, OpW.plain (op_fieldE (cs' := [.v (.int .i64 x10.Stamp.N), .v (.int .i64 x10.Stamp.Site), .sl 3 (List.map encApi_Dep x10.Past)]) Try.underlying34 rfl ti24 (by decide) rfl (Ev.t 24 (.ep [.v (.string x10.Key), .v (.string x10.Value), .v (.bool x10.Gone), .v (.int .i64 x10.Stamp.N), .v (.int .i64 x10.Stamp.Site), .sl 3 (List.map encApi_Dep x10.Past)])) rfl) rfl rfl, OpW.plain (op_loadAE (ds := [.v (.int .i64 x10.Stamp.N), .v (.int .i64 x10.Stamp.Site)]) Try.underlying24 rfl ti24 rfl (Ev.t 25 (.ep [.v (.int .i64 x10.Stamp.N), .v (.int .i64 x10.Stamp.Site), .sl 3 (List.map encApi_Dep x10.Past)])) rfl) rfl rfl, OpW.plain (op_build (zs := [.v (.string ByteArray.empty), .v (.int .i64 0), .v (.int .i64 0)]) (ds := [.v (.string x9.Key), .v (.int .i64 x10.Stamp.N), .v (.int .i64 x10.Stamp.Site)]) Try.underlying26 ti26 (pl26 _ Try.underlying26) ⟨.v _ rfl, .v _ rfl, .v _ rfl, trivial⟩ (EvP.cons (Ev.t 21 (bS x9.Key)) (EvP.cons (Ev.t 26 (.g (.agg [.v (.int .i64 x10.Stamp.N), .v (.int .i64 x10.Stamp.Site)]))) EvP.nil)) rfl rfl) rfl rfl, OpW.plain (op_buildSlice (es := List.map encApi_Dep [(Api_Dep.mk x9.Key x10.Stamp)]) Try.underlying29 ti26 rfl rfl (EvP.cons (Ev.t 27 (.g (.agg [.v (.string x9.Key), .v (.int .i64 x10.Stamp.N), .v (.int .i64 x10.Stamp.Site)]))) EvP.nil) rfl rfl (by simp [encApi_Dep]) rfl) rfl rfl, OpW.plain (op_buildSlice (es := List.map encL_encApi_Dep [v3.1, x8.Past, [(Api_Dep.mk x9.Key x10.Stamp)]]) Try.underlying53 ti29 rfl rfl (EvP.cons (Ev.t 11 (.g (.d (.sl 3 (List.map encApi_Dep v3.1))))) (EvP.cons (Ev.t 16 (.g (.d (.sl 3 (List.map encApi_Dep x8.Past))))) (EvP.cons (Ev.t 28 (.g (.d (.sl 3 (List.map encApi_Dep ([(Api_Dep.mk x9.Key x10.Stamp)])))))) EvP.nil))) rfl rfl (by simp [encL_encApi_Dep]) rfl) rfl rfl, OpW.plain (op_call (sv := .one (.g (.d (.sl 3 (List.map encApi_Dep r11))))) cf27 (ct_ref04_Merge ([v3.1, x8.Past, [(Api_Dep.mk x9.Key x10.Stamp)]]) r11 hr11) rfl (EvL.cons (Ev.t 29 (.g (.d (.sl 1 (List.map encL_encApi_Dep ([v3.1, x8.Past, [(Api_Dep.mk x9.Key x10.Stamp)]])))))) EvL.nil) rfl) rfl rfl, OpW.plain (op_assign (Ev.t 30 (.g (.d (.sl 3 (List.map encApi_Dep r11))))) rfl) rfl rfl, trivial⟩ ⟨rfl, rfl, rfl, trivial⟩ trivial rfl ?_
    refine G.endBlock ?_
    refine G.region ?_
    refine G.op1 (op_move (Ev.t 4 (bI .i64 v3.2)) rfl) rfl ⟨rfl, trivial⟩ trivial ?_
    refine G.op1 (op_add (Ev.t 9 (bI .i64 v3.2)) (Ev.c _ rfl) rfl) rfl ⟨rfl, trivial⟩ trivial ?_
    refine G.op1 (op_assign (Ev.t 10 (bI .i64 (IntKind.wrap .i64 (v3.2 + 1)))) rfl) rfl ⟨rfl, trivial⟩ trivial ?_
    refine G.endOps ?_
    exact G.arr (J4 (r11, IntKind.wrap .i64 (v3.2 + 1)) hF) ⟨rfl, rfl, rfl, trivial⟩ trivial rfl
  · refine G.cond rfl (fun hx => by rw [hc7] at hx; cases hx) (fun _ => ?_)
    refine G.exit ?_
    refine GX.c ?_
    refine GX.q ?_
    refine GX.bYes ?_
    exact G.arr (J2 v3.1 hF) ⟨rfl, trivial⟩ trivial rfl


set_option maxRecDepth 20000 in
set_option maxHeartbeats 2000000 in
theorem ct_ref04_Get (p_0 : (List Api_Dep)) (key_1 : ByteArray) (r : Api_Stamp) (hF : ref04_Get p_0 key_1 = some r) : Ct Try.prog 24 [.g (.d (.sl 3 (List.map encApi_Dep p_0))), .g (.d (.v (.string key_1)))] (.one (.agg (encApi_Stamp r))) := by
  unfold ref04_Get at hF
  refine Ct.intro Try.func24 rfl Try.ntmps24 rfl rfl fun M w => ?_
  refine G.seq ?_
  refine G.region ?_
  refine G.op2 (op_alloc (k := 1004) (cs := [bI .i64 0, bI .i64 0]) ti24 ⟨.v _ rfl, .v _ rfl, trivial⟩ rfl) rfl trivial ⟨rfl, trivial⟩ ?_
  refine G.endOps ?_
  refine G.seq ?_
  refine G.seq ?_
  refine G.region ?_
  refine G.op1 (op_assign (Ev.c _ rfl) rfl) rfl trivial trivial ?_
  refine G.endOps ?_
  refine G.joinC (T := Unit) (fun y1 => ⟨[(4, .one (.ptr 1004 0))], [(1004, some (.blk 24 [bI .i64 0, bI .i64 0]))]⟩) (fun y1 => ref04_Get_k1 y1 = some r) (fun y1 hF => ?_) (fun J2 => ?_)
  · unfold ref04_Get_k1 at hF
    refine G.seq ?_
    refine G.region ?_
    refine G.op1 (op_build (zs := [.v (.int .i64 0), .v (.int .i64 0)]) (ds := [.v (.int .i64 0), .v (.int .i64 0)]) Try.underlying24 ti24 (pl24 _ Try.underlying24) ⟨.v _ rfl, .v _ rfl, trivial⟩ EvP.nil rfl rfl) rfl trivial trivial ?_
    refine G.op3 (op_storeA (cs' := [bI .i64 0, bI .i64 0]) ti24 rfl rfl (Ev.t 4 (.ptr 1004 0)) (Ev.t 24 (.g (.agg [.v (.int .i64 0), .v (.int .i64 0)])))) rfl ⟨rfl, rfl, trivial⟩ ⟨rfl, trivial⟩ ?_
    refine G.endOps ?_
    cases hF
    exact G.ret1 Try.results24 (RVar.cellA (ds := [.v (.int .i64 0), .v (.int .i64 0)]) Try.underlying24 rfl ti24 rfl) ⟨rfl, trivial⟩ ⟨rfl, trivial⟩
  refine G.block ?_
  refine G.keep (sl' := [(0, .one (.g (.d (.sl 3 (List.map encApi_Dep p_0))))), (1, .one (bS key_1)), (4, .one (.ptr 1004 0)), (5, .one (bI .i64 0))]) (hp' := [(1004, some (.blk 24 [bI .i64 0, bI .i64 0]))]) ⟨rfl, rfl, rfl, rfl, trivial⟩ ⟨rfl, trivial⟩ rfl ?_
  refine G.loopF (fun (v3 : Int) => ⟨[(0, .one (.g (.d (.sl 3 (List.map encApi_Dep p_0))))), (1, .one (bS key_1)), (4, .one (.ptr 1004 0)), (5, .one (bI .i64 v3))], [(1004, some (.blk 24 [bI .i64 0, bI .i64 0]))]⟩) hF rfl (fun K6 again5 v3 J4 hF => ?_)
  unfold ref04_Get_l2 at hF
  refine G.seq ?_
  refine G.seq ?_
  refine G.region ?_
  refine G.op1 (op_move (Ev.t 5 (bI .i64 v3)) rfl) rfl ⟨rfl, trivial⟩ trivial ?_
  refine G.op1 (op_move (Ev.t 0 (.g (.d (.sl 3 (List.map encApi_Dep p_0))))) rfl) rfl ⟨rfl, trivial⟩ trivial ?_
  refine G.op1 (OpL.cast (op_lenD Try.underlying29 (Ev.t 7 (.g (.d (.sl 3 (List.map encApi_Dep p_0))))) rfl) (by rw [List.length_map])) rfl ⟨rfl, trivial⟩ trivial ?_
  refine G.op1 (op_lss (Ev.t 6 (bI .i64 v3)) (Ev.t 8 (bI .i64 (p_0.length : Int))) rfl) rfl ⟨rfl, rfl, trivial⟩ trivial ?_
  refine G.endOps ?_
  refine ifS hF (fun hc7 hF => ?_) (fun hc7 hF => ?_)
  · refine G.cond rfl (fun _ => ?_) (fun hx => by rw [hc7] at hx; cases hx)
    refine G.skip ?_
    refine G.seq ?_
    refine G.block ?_
    refine G.seq ?_
    refine G.region ?_
    refine G.op1 (op_move (Ev.t 0 (.g (.d (.sl 3 (List.map encApi_Dep p_0))))) rfl) rfl ⟨rfl, trivial⟩ trivial ?_
    refine G.op1 (op_move (Ev.t 5 (bI .i64 v3)) rfl) rfl ⟨rfl, trivial⟩ trivial ?_
    obtain ⟨x8, hx8, hF⟩ := bindS hF
    refine G.op1 (op_index (cs := [.v (.string x8.Key), .v (.int .i64 x8.Stamp.N), .v (.int .i64 x8.Stamp.Site)]) Try.underlying29 ti26 (idx_ok hx8).1 (idx_get hx8 encApi_Dep) (Ev.t 12 (.g (.d (.sl 3 (List.map encApi_Dep p_0))))) (Ev.t 13 (bI .i64 v3)) rfl) rfl ⟨rfl, rfl, trivial⟩ trivial ?_
    refine G.op1 (op_fieldE (cs' := [.v (.string x8.Key), .v (.int .i64 x8.Stamp.N), .v (.int .i64 x8.Stamp.Site)]) Try.underlying26 rfl ti9 (by decide) rfl (Ev.t 14 (.ep [.v (.string x8.Key), .v (.int .i64 x8.Stamp.N), .v (.int .i64 x8.Stamp.Site)])) rfl) rfl ⟨rfl, trivial⟩ trivial ?_
    refine G.op1 (op_load1E (c := .v (.string x8.Key)) Try.underlying9 rfl rfl (Ev.t 15 (.ep [.v (.string x8.Key), .v (.int .i64 x8.Stamp.N), .v (.int .i64 x8.Stamp.Site)])) rfl) rfl ⟨rfl, trivial⟩ trivial ?_
    refine G.op1 (op_move (Ev.t 1 (bS key_1)) rfl) rfl ⟨rfl, trivial⟩ trivial ?_
    refine G.op1 (op_eqS (Ev.t 16 (bS x8.Key)) (Ev.t 17 (bS key_1)) rfl) rfl ⟨rfl, rfl, trivial⟩ trivial ?_
    refine G.endOps ?_
    refine ifS hF (fun hc9 hF => ?_) (fun hc9 hF => ?_)
    · refine G.cond rfl (fun _ => ?_) (fun hx => by rw [hc9] at hx; cases hx)
      refine G.seq ?_
      refine G.region ?_
      refine G.op1 (op_move (Ev.t 0 (.g (.d (.sl 3 (List.map encApi_Dep p_0))))) rfl) rfl ⟨rfl, trivial⟩ trivial ?_
      refine G.op1 (op_move (Ev.t 5 (bI .i64 v3)) rfl) rfl ⟨rfl, trivial⟩ trivial ?_
      obtain ⟨x10, hx10, hF⟩ := bindS hF
      refine G.op1 (op_index (cs := [.v (.string x10.Key), .v (.int .i64 x10.Stamp.N), .v (.int .i64 x10.Stamp.Site)]) Try.underlying29 ti26 (idx_ok hx10).1 (idx_get hx10 encApi_Dep) (Ev.t 19 (.g (.d (.sl 3 (List.map encApi_Dep p_0))))) (Ev.t 20 (bI .i64 v3)) rfl) rfl ⟨rfl, rfl, trivial⟩ trivial ?_
      refine G.op1 (op_fieldE (cs' := [.v (.int .i64 x10.Stamp.N), .v (.int .i64 x10.Stamp.Site)]) Try.underlying26 rfl ti24 (by decide) rfl (Ev.t 21 (.ep [.v (.string x10.Key), .v (.int .i64 x10.Stamp.N), .v (.int .i64 x10.Stamp.Site)])) rfl) rfl ⟨rfl, trivial⟩ trivial ?_
      refine G.op1 (op_loadAE (ds := [.v (.int .i64 x10.Stamp.N), .v (.int .i64 x10.Stamp.Site)]) Try.underlying24 rfl ti24 rfl (Ev.t 22 (.ep [.v (.int .i64 x10.Stamp.N), .v (.int .i64 x10.Stamp.Site)])) rfl) rfl ⟨rfl, trivial⟩ trivial ?_
      refine G.op3 (op_storeA (cs' := [bI .i64 x10.Stamp.N, bI .i64 x10.Stamp.Site]) ti24 rfl rfl (Ev.t 4 (.ptr 1004 0)) (Ev.t 23 (.g (.agg [.v (.int .i64 x10.Stamp.N), .v (.int .i64 x10.Stamp.Site)])))) rfl ⟨rfl, rfl, trivial⟩ ⟨rfl, trivial⟩ ?_
      refine G.endOps ?_
      cases hF
      exact G.ret1 Try.results24 (RVar.cellA (ds := [.v (.int .i64 x10.Stamp.N), .v (.int .i64 x10.Stamp.Site)]) Try.underlying24 rfl ti24 rfl) ⟨rfl, trivial⟩ ⟨rfl, trivial⟩
    · refine G.cond rfl (fun hx => by rw [hc9] at hx; cases hx) (fun _ => ?_)
      refine G.skip ?_
      refine G.endBlock ?_
      refine G.region ?_
      refine G.op1 (op_move (Ev.t 5 (bI .i64 v3)) rfl) rfl ⟨rfl, trivial⟩ trivial ?_
      refine G.op1 (op_add (Ev.t 10 (bI .i64 v3)) (Ev.c _ rfl) rfl) rfl ⟨rfl, trivial⟩ trivial ?_
      refine G.op1 (op_assign (Ev.t 11 (bI .i64 (IntKind.wrap .i64 (v3 + 1)))) rfl) rfl ⟨rfl, trivial⟩ trivial ?_
      refine G.endOps ?_
      exact G.arr (J4 (IntKind.wrap .i64 (v3 + 1)) hF) ⟨rfl, rfl, rfl, rfl, trivial⟩ ⟨rfl, trivial⟩ rfl
  · refine G.cond rfl (fun hx => by rw [hc7] at hx; cases hx) (fun _ => ?_)
    refine G.exit ?_
    refine GX.c ?_
    refine GX.q ?_
    refine GX.bYes ?_
    exact G.arr (J2 () hF) ⟨rfl, trivial⟩ ⟨rfl, trivial⟩ rfl


set_option maxRecDepth 20000 in
set_option maxHeartbeats 2000000 in
theorem ct_ref05_Reduce (p_0 : (List Api_Dep)) (l_1 : (List Api_Version)) (r : (List Api_Dep)) (hF : ref05_Reduce p_0 l_1 = some r) : Ct Try.prog 15 [.g (.d (.sl 3 (List.map encApi_Dep p_0))), .g (.d (.sl 6 (List.map encApi_Version l_1)))] (.one (.d (.sl 3 (List.map encApi_Dep r)))) := by
  unfold ref05_Reduce at hF
  refine Ct.intro Try.func15 rfl Try.ntmps15 rfl rfl fun M w => ?_
  refine G.seq ?_
  refine G.region ?_
  refine G.op1 (op_assign (Ev.n 3) rfl) rfl trivial trivial ?_
  refine G.endOps ?_
  refine G.seq ?_
  refine G.region ?_
  refine G.op2 (op_assignRow (E := 26) (size := 3) (k := 2005) (ex := false) rfl rfl) rfl trivial ⟨rfl, trivial⟩ ?_
  refine G.endOps ?_
  refine G.seq ?_
  refine G.seq ?_
  refine G.region ?_
  refine G.op1 (op_assign (Ev.c _ rfl) rfl) rfl trivial trivial ?_
  refine G.endOps ?_
  refine G.joinC (T := (List Api_Dep)) (fun y1 => ⟨[(5, .one (.own 2005 (List.map encApi_Dep y1)))], [(2005, some (.row 26 3 (List.map encApi_Dep y1) false))]⟩) (fun y1 => ref05_Reduce_k1 y1 = some r) (fun y1 hF => ?_) (fun J2 => ?_)
  · unfold ref05_Reduce_k1 at hF
    refine G.seq ?_
    refine G.region ?_
    refine G.op1 (op_move (Ev.t 5 (.own 2005 (List.map encApi_Dep y1))) rfl) rfl ⟨rfl, trivial⟩ trivial ?_
    refine G.op1 (op_assign (Ev.t 66 (.own 2005 (List.map encApi_Dep y1))) rfl) rfl ⟨rfl, trivial⟩ trivial ?_
    refine G.endOps ?_
    refine G.view (t := 4) rfl rfl ?_
    cases hF
    exact G.ret1 Try.results15 (RVar.tmp 4 _) ⟨rfl, trivial⟩ trivial
  refine G.block ?_
  refine G.keep (sl' := [(0, .one (.g (.d (.sl 3 (List.map encApi_Dep p_0))))), (1, .one (.g (.d (.sl 6 (List.map encApi_Version l_1))))), (5, .one (.own 2005 (List.map encApi_Dep ([] : (List Api_Dep))))), (6, .one (bI .i64 0))]) (hp' := [(2005, some (.row 26 3 (List.map encApi_Dep ([] : (List Api_Dep))) false))]) ⟨rfl, rfl, rfl, rfl, trivial⟩ ⟨rfl, trivial⟩ rfl ?_
  refine G.loopF (fun (v3 : Int × (List Api_Dep)) => ⟨[(0, .one (.g (.d (.sl 3 (List.map encApi_Dep p_0))))), (1, .one (.g (.d (.sl 6 (List.map encApi_Version l_1))))), (5, .one (.own 2005 (List.map encApi_Dep v3.2))), (6, .one (bI .i64 v3.1))], [(2005, some (.row 26 3 (List.map encApi_Dep v3.2) false))]⟩) hF rfl (fun K6 again5 v3 J4 hF => ?_)
  unfold ref05_Reduce_l2 at hF
  refine G.seq ?_
  refine G.seq ?_
  refine G.region ?_
  refine G.op1 (op_move (Ev.t 6 (bI .i64 v3.1)) rfl) rfl ⟨rfl, trivial⟩ trivial ?_
  refine G.op1 (op_move (Ev.t 0 (.g (.d (.sl 3 (List.map encApi_Dep p_0))))) rfl) rfl ⟨rfl, trivial⟩ trivial ?_
  refine G.op1 (OpL.cast (op_lenD Try.underlying29 (Ev.t 13 (.g (.d (.sl 3 (List.map encApi_Dep p_0))))) rfl) (by rw [List.length_map])) rfl ⟨rfl, trivial⟩ trivial ?_
  refine G.op1 (op_lss (Ev.t 12 (bI .i64 v3.1)) (Ev.t 14 (bI .i64 (p_0.length : Int))) rfl) rfl ⟨rfl, rfl, trivial⟩ trivial ?_
  refine G.endOps ?_
  refine ifS hF (fun hc7 hF => ?_) (fun hc7 hF => ?_)
  · refine G.cond rfl (fun _ => ?_) (fun hx => by rw [hc7] at hx; cases hx)
    refine G.skip ?_
    refine G.seq ?_
    refine G.joinC (T := (List Api_Dep)) (fun y8 => ⟨[(0, .one (.g (.d (.sl 3 (List.map encApi_Dep p_0))))), (1, .one (.g (.d (.sl 6 (List.map encApi_Version l_1))))), (5, .one (.own 2005 (List.map encApi_Dep y8))), (6, .one (bI .i64 v3.1))], [(2005, some (.row 26 3 (List.map encApi_Dep y8) false))]⟩) (fun y8 => ref05_Reduce_k3 again5 v3 y8 = some r) (fun y8 hF => ?_) (fun J9 => ?_)
    · unfold ref05_Reduce_k3 at hF
      refine G.region ?_
      refine G.op1 (op_move (Ev.t 6 (bI .i64 v3.1)) rfl) rfl ⟨rfl, trivial⟩ trivial ?_
      refine G.op1 (op_add (Ev.t 16 (bI .i64 v3.1)) (Ev.c _ rfl) rfl) rfl ⟨rfl, trivial⟩ trivial ?_
      refine G.op1 (op_assign (Ev.t 17 (bI .i64 (IntKind.wrap .i64 (v3.1 + 1)))) rfl) rfl ⟨rfl, trivial⟩ trivial ?_
      refine G.endOps ?_
      exact G.arr (J4 (IntKind.wrap .i64 (v3.1 + 1), y8) hF) ⟨rfl, rfl, rfl, rfl, trivial⟩ ⟨rfl, trivial⟩ rfl
    refine G.block ?_
    refine G.seq ?_
    refine G.region ?_
    refine G.op1 (op_assign (Ev.c _ rfl) rfl) rfl trivial trivial ?_
    refine G.endOps ?_
    refine G.seq ?_
    refine G.seq ?_
    refine G.region ?_
    refine G.op1 (op_assign (Ev.c _ rfl) rfl) rfl trivial trivial ?_
    refine G.endOps ?_
    refine G.joinC (T := Bool) (fun y10 => ⟨[(0, .one (.g (.d (.sl 3 (List.map encApi_Dep p_0))))), (1, .one (.g (.d (.sl 6 (List.map encApi_Version l_1))))), (5, .one (.own 2005 (List.map encApi_Dep v3.2))), (6, .one (bI .i64 v3.1)), (7, .one (bB y10))], [(2005, some (.row 26 3 (List.map encApi_Dep v3.2) false))]⟩) (fun y10 => ref05_Reduce_k4 p_0 again5 v3 y10 = some r) (fun y10 hF => ?_) (fun J14 => ?_)
    · unfold ref05_Reduce_k4 at hF
      refine G.seq ?_
      refine G.region ?_
      refine G.op1 (op_move (Ev.t 7 (bB y10)) rfl) rfl ⟨rfl, trivial⟩ trivial ?_
      refine G.op1 (op_not (Ev.t 57 (bB y10)) rfl) rfl ⟨rfl, trivial⟩ trivial ?_
      refine G.endOps ?_
      refine ifS hF (fun hc11 hF => ?_) (fun hc11 hF => ?_)
      · refine G.cond rfl (fun _ => ?_) (fun hx => by rw [hc11] at hx; cases hx)
        refine G.region ?_
        refine G.op1 (op_move (Ev.t 5 (.own 2005 (List.map encApi_Dep v3.2))) rfl) rfl ⟨rfl, trivial⟩ trivial ?_
        refine G.op1 (op_move (Ev.t 0 (.g (.d (.sl 3 (List.map encApi_Dep p_0))))) rfl) rfl ⟨rfl, trivial⟩ trivial ?_
        refine G.op1 (op_move (Ev.t 6 (bI .i64 v3.1)) rfl) rfl ⟨rfl, trivial⟩ trivial ?_
        obtain ⟨x12, hx12, hF⟩ := bindS hF
        refine G.op1 (op_index (cs := [.v (.string x12.Key), .v (.int .i64 x12.Stamp.N), .v (.int .i64 x12.Stamp.Site)]) Try.underlying29 ti26 (idx_ok hx12).1 (idx_get hx12 encApi_Dep) (Ev.t 60 (.g (.d (.sl 3 (List.map encApi_Dep p_0))))) (Ev.t 61 (bI .i64 v3.1)) rfl) rfl ⟨rfl, rfl, trivial⟩ trivial ?_
        refine G.op1 (op_loadAE (ds := [.v (.string x12.Key), .v (.int .i64 x12.Stamp.N), .v (.int .i64 x12.Stamp.Site)]) Try.underlying26 rfl ti26 rfl (Ev.t 62 (.ep [.v (.string x12.Key), .v (.int .i64 x12.Stamp.N), .v (.int .i64 x12.Stamp.Site)])) rfl) rfl ⟨rfl, trivial⟩ trivial ?_
        refine G.op1 (op_buildSlice (es := List.map encApi_Dep [x12]) Try.underlying29 ti26 rfl rfl (EvP.cons (Ev.t 63 (.g (.agg [.v (.string x12.Key), .v (.int .i64 x12.Stamp.N), .v (.int .i64 x12.Stamp.Site)]))) EvP.nil) rfl rfl (by simp [encApi_Dep]) rfl) rfl ⟨rfl, trivial⟩ trivial ?_
        obtain ⟨l13, hl13, hF⟩ := bindS hF
        refine G.op2 (op_appendO Try.underlying29 ti26 rfl (app_map hl13 encApi_Dep) (app_b1 hl13 encApi_Dep) (app_b2 hl13 encApi_Dep) (Ev.t 59 (.own 2005 (List.map encApi_Dep v3.2))) (Ev.t 64 (.g (.d (.sl 3 (List.map encApi_Dep ([x12])))))) rfl) rfl ⟨rfl, rfl, trivial⟩ ⟨rfl, trivial⟩ ?_
        refine G.op1 (op_assign (Ev.t 65 (.own 2005 (List.map encApi_Dep l13))) rfl) rfl ⟨rfl, trivial⟩ trivial ?_
        refine G.endOps ?_
        refine G.endBlock ?_
        exact G.arr (J9 l13 hF) ⟨rfl, rfl, rfl, rfl, trivial⟩ ⟨rfl, trivial⟩ rfl
      · refine G.cond rfl (fun hx => by rw [hc11] at hx; cases hx) (fun _ => ?_)
        refine G.skip ?_
        refine G.endBlock ?_
        exact G.arr (J9 v3.2 hF) ⟨rfl, rfl, rfl, rfl, trivial⟩ ⟨rfl, trivial⟩ rfl
    refine G.block ?_
    refine G.keep (sl' := [(0, .one (.g (.d (.sl 3 (List.map encApi_Dep p_0))))), (1, .one (.g (.d (.sl 6 (List.map encApi_Version l_1))))), (5, .one (.own 2005 (List.map encApi_Dep v3.2))), (6, .one (bI .i64 v3.1)), (7, .one (bB false)), (8, .one (bI .i64 0))]) (hp' := [(2005, some (.row 26 3 (List.map encApi_Dep v3.2) false))]) ⟨rfl, rfl, rfl, rfl, rfl, rfl, trivial⟩ ⟨rfl, trivial⟩ rfl ?_
    refine G.loopF (fun (v15 : Bool × Int) => ⟨[(0, .one (.g (.d (.sl 3 (List.map encApi_Dep p_0))))), (1, .one (.g (.d (.sl 6 (List.map encApi_Version l_1))))), (5, .one (.own 2005 (List.map encApi_Dep v3.2))), (6, .one (bI .i64 v3.1)), (7, .one (bB v15.1)), (8, .one (bI .i64 v15.2))], [(2005, some (.row 26 3 (List.map encApi_Dep v3.2) false))]⟩) hF rfl (fun K18 again17 v15 J16 hF => ?_)
    unfold ref05_Reduce_l5 at hF
    refine G.seq ?_
    refine G.seq ?_
    refine G.region ?_
    refine G.op1 (op_move (Ev.t 8 (bI .i64 v15.2)) rfl) rfl ⟨rfl, trivial⟩ trivial ?_
    refine G.op1 (op_move (Ev.t 0 (.g (.d (.sl 3 (List.map encApi_Dep p_0))))) rfl) rfl ⟨rfl, trivial⟩ trivial ?_
    refine G.op1 (OpL.cast (op_lenD Try.underlying29 (Ev.t 19 (.g (.d (.sl 3 (List.map encApi_Dep p_0))))) rfl) (by rw [List.length_map])) rfl ⟨rfl, trivial⟩ trivial ?_
    refine G.op1 (op_lss (Ev.t 18 (bI .i64 v15.2)) (Ev.t 20 (bI .i64 (p_0.length : Int))) rfl) rfl ⟨rfl, rfl, trivial⟩ trivial ?_
    refine G.endOps ?_
    refine ifS hF (fun hc19 hF => ?_) (fun hc19 hF => ?_)
    · refine G.cond rfl (fun _ => ?_) (fun hx => by rw [hc19] at hx; cases hx)
      refine G.skip ?_
      refine G.seq ?_
      refine G.block ?_
      refine G.seq ?_
      refine G.region ?_
      refine G.op1 (op_move (Ev.t 1 (.g (.d (.sl 6 (List.map encApi_Version l_1))))) rfl) rfl ⟨rfl, trivial⟩ trivial ?_
      refine G.op1 (op_move (Ev.t 0 (.g (.d (.sl 3 (List.map encApi_Dep p_0))))) rfl) rfl ⟨rfl, trivial⟩ trivial ?_
      refine G.op1 (op_move (Ev.t 8 (bI .i64 v15.2)) rfl) rfl ⟨rfl, trivial⟩ trivial ?_
      obtain ⟨x20, hx20, hF⟩ := bindS hF
      refine G.op1 (op_index (cs := [.v (.string x20.Key), .v (.int .i64 x20.Stamp.N), .v (.int .i64 x20.Stamp.Site)]) Try.underlying29 ti26 (idx_ok hx20).1 (idx_get hx20 encApi_Dep) (Ev.t 26 (.g (.d (.sl 3 (List.map encApi_Dep p_0))))) (Ev.t 27 (bI .i64 v15.2)) rfl) rfl ⟨rfl, rfl, trivial⟩ trivial ?_
      refine G.op1 (op_loadAE (ds := [.v (.string x20.Key), .v (.int .i64 x20.Stamp.N), .v (.int .i64 x20.Stamp.Site)]) Try.underlying26 rfl ti26 rfl (Ev.t 28 (.ep [.v (.string x20.Key), .v (.int .i64 x20.Stamp.N), .v (.int .i64 x20.Stamp.Site)])) rfl) rfl ⟨rfl, trivial⟩ trivial ?_
      obtain ⟨r21, hr21, hF⟩ := bindS hF
      refine G.op1 (op_call (sv := .tup [.g (.agg [.v (.string r21.1.Key), .v (.string r21.1.Value), .v (.bool r21.1.Gone), .v (.int .i64 r21.1.Stamp.N), .v (.int .i64 r21.1.Stamp.Site), .sl 3 (List.map encApi_Dep r21.1.Past)]), bB r21.2]) cf19 (ct_ref05_Find l_1 x20 r21 hr21) rfl (EvL.cons (Ev.t 25 (.g (.d (.sl 6 (List.map encApi_Version l_1))))) (EvL.cons (Ev.t 29 (.g (.agg [.v (.string x20.Key), .v (.int .i64 x20.Stamp.N), .v (.int .i64 x20.Stamp.Site)]))) EvL.nil)) rfl) rfl ⟨rfl, rfl, trivial⟩ trivial ?_
      refine G.op1 (op_moveS (t := 30) (sv := .tup [.g (.agg [.v (.string r21.1.Key), .v (.string r21.1.Value), .v (.bool r21.1.Gone), .v (.int .i64 r21.1.Stamp.N), .v (.int .i64 r21.1.Stamp.Site), .sl 3 (List.map encApi_Dep r21.1.Past)]), bB r21.2]) rfl) rfl ⟨rfl, trivial⟩ trivial ?_
      refine G.op1 (op_extract (l := [.g (.agg [.v (.string r21.1.Key), .v (.string r21.1.Value), .v (.bool r21.1.Gone), .v (.int .i64 r21.1.Stamp.N), .v (.int .i64 r21.1.Stamp.Site), .sl 3 (List.map encApi_Dep r21.1.Past)]), bB r21.2]) (c := .g (.agg [.v (.string r21.1.Key), .v (.string r21.1.Value), .v (.bool r21.1.Gone), .v (.int .i64 r21.1.Stamp.N), .v (.int .i64 r21.1.Stamp.Site), .sl 3 (List.map encApi_Dep r21.1.Past)])) rfl rfl) rfl ⟨rfl, trivial⟩ trivial ?_
      refine G.op1 (op_extract (l := [.g (.agg [.v (.string r21.1.Key), .v (.string r21.1.Value), .v (.bool r21.1.Gone), .v (.int .i64 r21.1.Stamp.N), .v (.int .i64 r21.1.Stamp.Site), .sl 3 (List.map encApi_Dep r21.1.Past)]), bB r21.2]) (c := bB r21.2) rfl rfl) rfl ⟨rfl, trivial⟩ trivial ?_
      refine G.op2 (op_alloc (k := 1009) (cs := [bS ByteArray.empty, bS ByteArray.empty, bB false, bI .i64 0, bI .i64 0, .g (.d (.sl 3 (List.map encApi_Dep ([] : (List Api_Dep)))))]) ti34 ⟨.v _ rfl, .v _ rfl, .v _ rfl, .v _ rfl, .v _ rfl, .n 3, trivial⟩ rfl) rfl trivial ⟨rfl, trivial⟩ ?_
      refine G.op3 (op_storeA (cs' := [bS r21.1.Key, bS r21.1.Value, bB r21.1.Gone, bI .i64 r21.1.Stamp.N, bI .i64 r21.1.Stamp.Site, .g (.d (.sl 3 (List.map encApi_Dep r21.1.Past)))]) ti34 rfl rfl (Ev.t 9 (.ptr 1009 0)) (Ev.t 31 (.g (.agg [.v (.string r21.1.Key), .v (.string r21.1.Value), .v (.bool r21.1.Gone), .v (.int .i64 r21.1.Stamp.N), .v (.int .i64 r21.1.Stamp.Site), .sl 3 (List.map encApi_Dep r21.1.Past)])))) rfl ⟨rfl, rfl, trivial⟩ ⟨rfl, trivial⟩ ?_
      refine G.op1 (op_assign (Ev.t 32 (bB r21.2)) rfl) rfl ⟨rfl, trivial⟩ trivial ?_
      refine G.endOps ?_
      refine G.seq ?_
      obtain ⟨x22, hx22, hF⟩ := bindS hF
      obtain ⟨r23, hr23, hF⟩ := bindS hF
      refine G.drawn (effs := [⟨[(9, .one (.ptr 1009 0))], [], [(33, .one (.ptr 1009 5))], []⟩, ⟨[(33, .one (.ptr 1009 5))], [(1009, some (.blk 34 [bS r21.1.Key, bS r21.1.Value, bB r21.1.Gone, bI .i64 r21.1.Stamp.N, bI .i64 r21.1.Stamp.Site, .g (.d (.sl 3 (List.map encApi_Dep r21.1.Past)))]))], [(34, .one (.g (.d (.sl 3 (List.map encApi_Dep r21.1.Past)))))], []⟩, ⟨[(0, .one (.g (.d (.sl 3 (List.map encApi_Dep p_0)))))], [], [(35, .one (.g (.d (.sl 3 (List.map encApi_Dep p_0)))))], []⟩, ⟨[(6, .one (bI .i64 v3.1))], [], [(36, .one (bI .i64 v3.1))], []⟩, ⟨[(35, .one (.g (.d (.sl 3 (List.map encApi_Dep p_0))))), (36, .one (bI .i64 v3.1))], [], [(37, .one (.ep [.v (.string x22.Key), .v (.int .i64 x22.Stamp.N), .v (.int .i64 x22.Stamp.Site)]))], []⟩, ⟨[(37, .one (.ep [.v (.string x22.Key), .v (.int .i64 x22.Stamp.N), .v (.int .i64 x22.Stamp.Site)]))], [], [(38, .one (.ep [.v (.string x22.Key), .v (.int .i64 x22.Stamp.N), .v (.int .i64 x22.Stamp.Site)]))], []⟩, ⟨[(38, .one (.ep [.v (.string x22.Key), .v (.int .i64 x22.Stamp.N), .v (.int .i64 x22.Stamp.Site)]))], [], [(39, .one (bS x22.Key))], []⟩, ⟨[(34, .one (.g (.d (.sl 3 (List.map encApi_Dep r21.1.Past))))), (39, .one (bS x22.Key))], [], [(40, .one (.g (.agg [.v (.int .i64 r23.N), .v (.int .i64 r23.Site)])))], []⟩, ⟨[], [(1011, none)], [(11, .one (.ptr 1011 0))], [(1011, some (.blk 24 [bI .i64 0, bI .i64 0]))]⟩, ⟨[(11, .one (.ptr 1011 0)), (40, .one (.g (.agg [.v (.int .i64 r23.N), .v (.int .i64 r23.Site)])))], [(1011, some (.blk 24 [bI .i64 0, bI .i64 0]))], [], [(1011, some (.blk 24 [bI .i64 r23.N, bI .i64 r23.Site]))]⟩]) (deps := [[], [0], [], [], [2, 3], [2, 3, 4], [2, 3, 4, 5], [0, 1, 2, 3, 4, 5, 6], [], [0, 1, 2, 3, 4, 5, 6, 7, 8]]) (sl' := [(0, .one (.g (.d (.sl 3 (List.map encApi_Dep p_0))))), (1, .one (.g (.d (.sl 6 (List.map encApi_Version l_1))))), (5, .one (.own 2005 (List.map encApi_Dep v3.2))), (6, .one (bI .i64 v3.1)), (7, .one (bB v15.1)), (8, .one (bI .i64 v15.2)), (10, .one (bB r21.2)), (11, .one (.ptr 1011 0))]) (hp' := [(1011, some (.blk 24 [bI .i64 r23.N, bI .i64 r23.Site])), (2005, some (.row 26 3 (List.map encApi_Dep v3.2) false))]) follows rfl rfl rfl ⟨⟨rfl, trivial⟩, trivial, ⟨rfl, trivial⟩, ⟨⟨rfl, rfl⟩, trivial⟩, ⟨rfl, trivial⟩, trivial, ⟨rfl, trivial⟩, trivial, ⟨rfl, rfl, trivial⟩, trivial, ⟨rfl, trivial⟩, trivial, ⟨rfl, trivial⟩, trivial, ⟨rfl, rfl, trivial⟩, trivial, trivial, ⟨⟨rfl, rfl⟩, trivial⟩, ⟨rfl, rfl, trivial⟩, ⟨⟨rfl, rfl⟩, trivial⟩, trivial⟩ ⟨OpW.plain (op_fieldP (off' := 5) Try.underlying34 rfl ti29 (by decide) rfl (Ev.t 9 (.ptr 1009 0)) rfl) rfl rfl, OpW.plain (op_load1P (c := .g (.d (.sl 3 (List.map encApi_Dep r21.1.Past)))) Try.underlying29 rfl rfl (Ev.t 33 (.ptr 1009 5)) rfl) rfl rfl, OpW.plain (op_move (Ev.t 0 (.g (.d (.sl 3 (List.map encApi_Dep p_0))))) rfl) rfl rfl, OpW.plain (op_move (Ev.t 6 (bI .i64 v3.1)) rfl) rfl rfl, OpW.plain (op_index (cs := [.v (.string x22.Key), .v (.int .i64 x22.Stamp.N), .v (.int .i64 x22.Stamp.Site)]) Try.underlying29 ti26 (idx_ok hx22).1 (idx_get hx22 encApi_Dep) (Ev.t 35 (.g (.d (.sl 3 (List.map encApi_Dep p_0))))) (Ev.t 36 (bI .i64 v3.1)) rfl) rfl rfl, OpW.plain (op_fieldE (cs' := [.v (.string x22.Key), .v (.int .i64 x22.Stamp.N), .v (.int .i64 x22.Stamp.Site)]) Try.underlying26 rfl ti9 (by decide) rfl (Ev.t 37 (.ep [.v (.string x22.Key), .v (.int .i64 x22.Stamp.N), .v (.int .i64 x22.Stamp.Site)])) rfl) rfl rfl, OpW.plain (op_load1E (c := .v (.string x22.Key)) Try.underlying9 rfl rfl (Ev.t 38 (.ep [.v (.string x22.Key), .v (.int .i64 x22.Stamp.N), .v (.int .i64 x22.Stamp.Site)])) rfl) rfl rfl, OpW.plain (op_callQ (sv := .one (.g (.agg [.v (.int .i64 r23.N), .v (.int .i64 r23.Site)]))) cf24 (ct_ref04_Get r21.1.Past x22.Key r23 hr23) rfl rfl (EvQL.cons (EvQ.g (Ev.t 34 (.g (.d (.sl 3 (List.map encApi_Dep r21.1.Past)))))) (EvQL.cons (EvQ.g (Ev.t 39 (bS x22.Key))) EvQL.nil)) rfl) rfl rfl, OpW.plain (op_alloc (k := 1011) (cs := [bI .i64 0, bI .i64 0]) ti24 ⟨.v _ rfl, .v _ rfl, trivial⟩ rfl) rfl rfl, OpW.plain (op_storeA (cs' := [bI .i64 r23.N, bI .i64 r23.Site]) ti24 rfl rfl (Ev.t 11 (.ptr 1011 0)) (Ev.t 40 (.g (.agg [.v (.int .i64 r23.N), .v (.int .i64 r23.Site)])))) rfl rfl, trivial⟩ ⟨rfl, rfl, rfl, rfl, rfl, rfl, rfl, rfl, trivial⟩ ⟨rfl, rfl, trivial⟩ rfl ?_
      refine G.seq ?_
      refine ifS hF (fun hc24 hF => ?_) (fun hc24 hF => ?_)
      · refine ifS hF (fun hc25 hF => ?_) (fun hc25 hF => ?_)
        · refine G.known (t := 10) (c := true) hc25 rfl ?_
          obtain ⟨x26, hx26, hF⟩ := bindS hF
          obtain ⟨r27, hr27, hF⟩ := bindS hF
          refine G.drawn (effs := [⟨[(8, .one (bI .i64 v15.2))], [], [(41, .one (bI .i64 v15.2))], []⟩, ⟨[(6, .one (bI .i64 v3.1))], [], [(42, .one (bI .i64 v3.1))], []⟩, ⟨[(41, .one (bI .i64 v15.2)), (42, .one (bI .i64 v3.1))], [], [(43, .one (bB true))], []⟩, ⟨[(43, .one (bB true))], [], [(44, .one (bB true))], []⟩, ⟨[(44, .one (bB true)), (10, .one (bB true))], [], [(45, .one (bB true))], []⟩, ⟨[(44, .one (bB true)), (45, .one (bB true))], [], [(46, .one (bB true))], []⟩, ⟨[(46, .one (bB true))], [], [(47, .one (bB true))], []⟩, ⟨[(47, .one (bB true)), (11, .one (.ptr 1011 0))], [(1011, some (.blk 24 [bI .i64 r23.N, bI .i64 r23.Site]))], [(48, .one (.g (.agg [.v (.int .i64 r23.N), .v (.int .i64 r23.Site)])))], []⟩, ⟨[(47, .one (bB true)), (0, .one (.g (.d (.sl 3 (List.map encApi_Dep p_0)))))], [], [(49, .one (.g (.d (.sl 3 (List.map encApi_Dep p_0)))))], []⟩, ⟨[(47, .one (bB true)), (6, .one (bI .i64 v3.1))], [], [(50, .one (bI .i64 v3.1))], []⟩, ⟨[(47, .one (bB true)), (49, .one (.g (.d (.sl 3 (List.map encApi_Dep p_0))))), (50, .one (bI .i64 v3.1))], [], [(51, .one (.ep [.v (.string x26.Key), .v (.int .i64 x26.Stamp.N), .v (.int .i64 x26.Stamp.Site)]))], []⟩, ⟨[(47, .one (bB true)), (51, .one (.ep [.v (.string x26.Key), .v (.int .i64 x26.Stamp.N), .v (.int .i64 x26.Stamp.Site)]))], [], [(52, .one (.ep [.v (.int .i64 x26.Stamp.N), .v (.int .i64 x26.Stamp.Site)]))], []⟩, ⟨[(47, .one (bB true)), (52, .one (.ep [.v (.int .i64 x26.Stamp.N), .v (.int .i64 x26.Stamp.Site)]))], [], [(53, .one (.g (.agg [.v (.int .i64 x26.Stamp.N), .v (.int .i64 x26.Stamp.Site)])))], []⟩, ⟨[(47, .one (bB true)), (48, .one (.g (.agg [.v (.int .i64 r23.N), .v (.int .i64 r23.Site)]))), (53, .one (.g (.agg [.v (.int .i64 x26.Stamp.N), .v (.int .i64 x26.Stamp.Site)])))], [], [(54, .one (bB r27))], []⟩, ⟨[(47, .one (bB true)), (54, .one (bB r27))], [], [(55, .one (bB (!r27)))], []⟩, ⟨[(47, .one (bB true)), (55, .one (bB (!r27)))], [], [(56, .one (bB (!r27)))], []⟩]) (deps := [[], [], [0, 1], [0, 1, 2], [0, 1, 2, 3], [0, 1, 2, 3, 4], [0, 1, 2, 3, 4, 5], [0, 1, 2, 3, 4, 5, 6], [0, 1, 2, 3, 4, 5, 6], [0, 1, 2, 3, 4, 5, 6], [0, 1, 2, 3, 4, 5, 6, 8, 9], [0, 1, 2, 3, 4, 5, 6, 8, 9, 10], [0, 1, 2, 3, 4, 5, 6, 8, 9, 10, 11], [0, 1, 2, 3, 4, 5, 6, 7, 8, 9, 10, 11, 12], [0, 1, 2, 3, 4, 5, 6, 7, 8, 9, 10, 11, 12, 13], [0, 1, 2, 3, 4, 5, 6, 7, 8, 9, 10, 11, 12, 13, 14]]) (sl' := [(0, .one (.g (.d (.sl 3 (List.map encApi_Dep p_0))))), (1, .one (.g (.d (.sl 6 (List.map encApi_Version l_1))))), (5, .one (.own 2005 (List.map encApi_Dep v3.2))), (6, .one (bI .i64 v3.1)), (7, .one (bB v15.1)), (8, .one (bI .i64 v15.2)), (56, .one (bB (!r27)))]) (hp' := [(2005, some (.row 26 3 (List.map encApi_Dep v3.2) false))]) follows rfl rfl rfl ⟨⟨rfl, trivial⟩, trivial, ⟨rfl, trivial⟩, trivial, ⟨rfl, rfl, trivial⟩, trivial, ⟨rfl, trivial⟩, trivial, ⟨rfl, rfl, trivial⟩, trivial, ⟨rfl, rfl, trivial⟩, trivial, ⟨rfl, trivial⟩, trivial, ⟨rfl, rfl, trivial⟩, ⟨⟨rfl, rfl⟩, trivial⟩, ⟨rfl, rfl, trivial⟩, trivial, ⟨rfl, rfl, trivial⟩, trivial, ⟨rfl, rfl, rfl, trivial⟩, trivial, ⟨rfl, rfl, trivial⟩, trivial, ⟨rfl, rfl, trivial⟩, trivial, ⟨rfl, rfl, rfl, trivial⟩, trivial, ⟨rfl, rfl, trivial⟩, trivial, ⟨rfl, rfl, trivial⟩, trivial, trivial⟩ ⟨OpW.plain (op_move (Ev.t 8 (bI .i64 v15.2)) rfl) rfl rfl, OpW.plain (op_move (Ev.t 6 (bI .i64 v3.1)) rfl) rfl rfl, OpW.plain (OpL.cast (op_neI (Ev.t 41 (bI .i64 v15.2)) (Ev.t 42 (bI .i64 v3.1)) rfl) (congrArg (fun b => bB b) hc24)) rfl rfl, OpW.plain (op_move (Ev.t 43 (bB true)) rfl) rfl rfl, OpW.yes (op_move (Ev.t 10 (bB true)) rfl) rfl rfl rfl, OpW.plain (op_pickT (Ev.t 44 (bB true)) (Ev.t 45 (bB true)) rfl) rfl rfl, OpW.plain (op_move (Ev.t 46 (bB true)) rfl) rfl rfl, OpW.yes (op_loadAP (ds := [.v (.int .i64 r23.N), .v (.int .i64 r23.Site)]) Try.underlying24 rfl ti24 rfl (Ev.t 11 (.ptr 1011 0)) rfl) rfl rfl rfl, OpW.yes (op_move (Ev.t 0 (.g (.d (.sl 3 (List.map encApi_Dep p_0))))) rfl) rfl rfl rfl, OpW.yes (op_move (Ev.t 6 (bI .i64 v3.1)) rfl) rfl rfl rfl, OpW.yes (op_index (cs := [.v (.string x26.Key), .v (.int .i64 x26.Stamp.N), .v (.int .i64 x26.Stamp.Site)]) Try.underlying29 ti26 (idx_ok hx26).1 (idx_get hx26 encApi_Dep) (Ev.t 49 (.g (.d (.sl 3 (List.map encApi_Dep p_0))))) (Ev.t 50 (bI .i64 v3.1)) rfl) rfl rfl rfl, OpW.yes (op_fieldE (cs' := [.v (.int .i64 x26.Stamp.N), .v (.int .i64 x26.Stamp.Site)]) Try.underlying26 rfl ti24 (by decide) rfl (Ev.t 51 (.ep [.v (.string x26.Key), .v (.int .i64 x26.Stamp.N), .v (.int .i64 x26.Stamp.Site)])) rfl) rfl rfl rfl, OpW.yes (op_loadAE (ds := [.v (.int .i64 x26.Stamp.N), .v (.int .i64 x26.Stamp.Site)]) Try.underlying24 rfl ti24 rfl (Ev.t 52 (.ep [.v (.int .i64 x26.Stamp.N), .v (.int .i64 x26.Stamp.Site)])) rfl) rfl rfl rfl, OpW.yes (op_callQ (sv := .one (bB r27)) cf25 (ct_ref03_Less r23 x26.Stamp r27 hr27) rfl rfl (EvQL.cons (EvQ.g (Ev.t 48 (.g (.agg [.v (.int .i64 r23.N), .v (.int .i64 r23.Site)])))) (EvQL.cons (EvQ.g (Ev.t 53 (.g (.agg [.v (.int .i64 x26.Stamp.N), .v (.int .i64 x26.Stamp.Site)])))) EvQL.nil)) rfl) rfl rfl rfl, OpW.yes (op_not (Ev.t 54 (bB r27)) rfl) rfl rfl rfl, OpW.plain (op_pickT (Ev.t 47 (bB true)) (Ev.t 55 (bB (!r27))) rfl) rfl rfl, trivial⟩ ⟨rfl, rfl, rfl, rfl, rfl, rfl, rfl, trivial⟩ ⟨rfl, trivial⟩ rfl ?_
          refine ifS hF (fun hc28 hF => ?_) (fun hc28 hF => ?_)
          · refine G.cond rfl (fun _ => ?_) (fun hx => by rw [hc28] at hx; cases hx)
            refine G.region ?_
            refine G.op1 (op_assign (Ev.c _ rfl) rfl) rfl trivial trivial ?_
            refine G.endOps ?_
            refine G.endBlock ?_
            refine G.region ?_
            refine G.op1 (op_move (Ev.t 8 (bI .i64 v15.2)) rfl) rfl ⟨rfl, trivial⟩ trivial ?_
            refine G.op1 (op_add (Ev.t 22 (bI .i64 v15.2)) (Ev.c _ rfl) rfl) rfl ⟨rfl, trivial⟩ trivial ?_
            refine G.op1 (op_assign (Ev.t 23 (bI .i64 (IntKind.wrap .i64 (v15.2 + 1)))) rfl) rfl ⟨rfl, trivial⟩ trivial ?_
            refine G.endOps ?_
            exact G.arr (J16 (true, IntKind.wrap .i64 (v15.2 + 1)) hF) ⟨rfl, rfl, rfl, rfl, rfl, rfl, trivial⟩ ⟨rfl, trivial⟩ rfl
          · refine G.cond rfl (fun hx => by rw [hc28] at hx; cases hx) (fun _ => ?_)
            refine G.skip ?_
            refine G.endBlock ?_
            refine G.region ?_
            refine G.op1 (op_move (Ev.t 8 (bI .i64 v15.2)) rfl) rfl ⟨rfl, trivial⟩ trivial ?_
            refine G.op1 (op_add (Ev.t 22 (bI .i64 v15.2)) (Ev.c _ rfl) rfl) rfl ⟨rfl, trivial⟩ trivial ?_
            refine G.op1 (op_assign (Ev.t 23 (bI .i64 (IntKind.wrap .i64 (v15.2 + 1)))) rfl) rfl ⟨rfl, trivial⟩ trivial ?_
            refine G.endOps ?_
            exact G.arr (J16 (v15.1, IntKind.wrap .i64 (v15.2 + 1)) hF) ⟨rfl, rfl, rfl, rfl, rfl, rfl, trivial⟩ ⟨rfl, trivial⟩ rfl
        · refine G.known (t := 10) (c := false) hc25 rfl ?_
          refine G.drawn (effs := [⟨[(8, .one (bI .i64 v15.2))], [], [(41, .one (bI .i64 v15.2))], []⟩, ⟨[(6, .one (bI .i64 v3.1))], [], [(42, .one (bI .i64 v3.1))], []⟩, ⟨[(41, .one (bI .i64 v15.2)), (42, .one (bI .i64 v3.1))], [], [(43, .one (bB true))], []⟩, ⟨[(43, .one (bB true))], [], [(44, .one (bB true))], []⟩, ⟨[(44, .one (bB true)), (10, .one (bB false))], [], [(45, .one (bB false))], []⟩, ⟨[(44, .one (bB true)), (45, .one (bB false))], [], [(46, .one (bB false))], []⟩, ⟨[(46, .one (bB false))], [], [(47, .one (bB false))], []⟩, ⟨[(47, .one (bB false))], [], [(48, .one (.x Go.undef))], []⟩, ⟨[(47, .one (bB false))], [], [(49, .one (.x Go.undef))], []⟩, ⟨[(47, .one (bB false))], [], [(50, .one (.x Go.undef))], []⟩, ⟨[(47, .one (bB false))], [], [(51, .one (.x Go.undef))], []⟩, ⟨[(47, .one (bB false))], [], [(52, .one (.x Go.undef))], []⟩, ⟨[(47, .one (bB false))], [], [(53, .one (.x Go.undef))], []⟩, ⟨[(47, .one (bB false))], [], [(54, .one (.x Go.undef))], []⟩, ⟨[(47, .one (bB false))], [], [(55, .one (.x Go.undef))], []⟩, ⟨[(47, .one (bB false))], [], [(56, .one (bB false))], []⟩]) (deps := [[], [], [0, 1], [0, 1, 2], [0, 1, 2, 3], [0, 1, 2, 3, 4], [0, 1, 2, 3, 4, 5], [0, 1, 2, 3, 4, 5, 6], [0, 1, 2, 3, 4, 5, 6], [0, 1, 2, 3, 4, 5, 6], [0, 1, 2, 3, 4, 5, 6, 8, 9], [0, 1, 2, 3, 4, 5, 6, 8, 9, 10], [0, 1, 2, 3, 4, 5, 6, 8, 9, 10, 11], [0, 1, 2, 3, 4, 5, 6, 7, 8, 9, 10, 11, 12], [0, 1, 2, 3, 4, 5, 6, 7, 8, 9, 10, 11, 12, 13], [0, 1, 2, 3, 4, 5, 6, 7, 8, 9, 10, 11, 12, 13, 14]]) (sl' := [(0, .one (.g (.d (.sl 3 (List.map encApi_Dep p_0))))), (1, .one (.g (.d (.sl 6 (List.map encApi_Version l_1))))), (5, .one (.own 2005 (List.map encApi_Dep v3.2))), (6, .one (bI .i64 v3.1)), (7, .one (bB v15.1)), (8, .one (bI .i64 v15.2)), (56, .one (bB false))]) (hp' := [(2005, some (.row 26 3 (List.map encApi_Dep v3.2) false))]) follows rfl rfl rfl ⟨⟨rfl, trivial⟩, trivial, ⟨rfl, trivial⟩, trivial, ⟨rfl, rfl, trivial⟩, trivial, ⟨rfl, trivial⟩, trivial, ⟨rfl, rfl, trivial⟩, trivial, ⟨rfl, rfl, trivial⟩, trivial, ⟨rfl, trivial⟩, trivial, ⟨rfl, trivial⟩, trivial, ⟨rfl, trivial⟩, trivial, ⟨rfl, trivial⟩, trivial, ⟨rfl, trivial⟩, trivial, ⟨rfl, trivial⟩, trivial, ⟨rfl, trivial⟩, trivial, ⟨rfl, trivial⟩, trivial, ⟨rfl, trivial⟩, trivial, ⟨rfl, trivial⟩, trivial, trivial⟩ ⟨OpW.plain (op_move (Ev.t 8 (bI .i64 v15.2)) rfl) rfl rfl, OpW.plain (op_move (Ev.t 6 (bI .i64 v3.1)) rfl) rfl rfl, OpW.plain (OpL.cast (op_neI (Ev.t 41 (bI .i64 v15.2)) (Ev.t 42 (bI .i64 v3.1)) rfl) (congrArg (fun b => bB b) hc24)) rfl rfl, OpW.plain (op_move (Ev.t 43 (bB true)) rfl) rfl rfl, OpW.yes (op_move (Ev.t 10 (bB false)) rfl) rfl rfl rfl, OpW.plain (op_pickT (Ev.t 44 (bB true)) (Ev.t 45 (bB false)) rfl) rfl rfl, OpW.plain (op_move (Ev.t 46 (bB false)) rfl) rfl rfl, OpW.no rfl rfl rfl rfl rfl, OpW.no rfl rfl rfl rfl rfl, OpW.no rfl rfl rfl rfl rfl, OpW.no rfl rfl rfl rfl rfl, OpW.no rfl rfl rfl rfl rfl, OpW.no rfl rfl rfl rfl rfl, OpW.no rfl rfl rfl rfl rfl, OpW.no rfl rfl rfl rfl rfl, OpW.plain (op_pickF (Ev.t 47 (bB false)) (Ev.c _ rfl) rfl) rfl rfl, trivial⟩ ⟨rfl, rfl, rfl, rfl, rfl, rfl, rfl, trivial⟩ ⟨rfl, trivial⟩ rfl ?_
          refine G.condF rfl ?_
          refine G.skip ?_
          refine G.endBlock ?_
          refine G.region ?_
          refine G.op1 (op_move (Ev.t 8 (bI .i64 v15.2)) rfl) rfl ⟨rfl, trivial⟩ trivial ?_
          refine G.op1 (op_add (Ev.t 22 (bI .i64 v15.2)) (Ev.c _ rfl) rfl) rfl ⟨rfl, trivial⟩ trivial ?_
          refine G.op1 (op_assign (Ev.t 23 (bI .i64 (IntKind.wrap .i64 (v15.2 + 1)))) rfl) rfl ⟨rfl, trivial⟩ trivial ?_
          refine G.endOps ?_
          exact G.arr (J16 (v15.1, IntKind.wrap .i64 (v15.2 + 1)) hF) ⟨rfl, rfl, rfl, rfl, rfl, rfl, trivial⟩ ⟨rfl, trivial⟩ rfl
      · refine G.drawn (effs := [⟨[(8, .one (bI .i64 v15.2))], [], [(41, .one (bI .i64 v15.2))], []⟩, ⟨[(6, .one (bI .i64 v3.1))], [], [(42, .one (bI .i64 v3.1))], []⟩, ⟨[(41, .one (bI .i64 v15.2)), (42, .one (bI .i64 v3.1))], [], [(43, .one (bB false))], []⟩, ⟨[(43, .one (bB false))], [], [(44, .one (bB false))], []⟩, ⟨[(44, .one (bB false))], [], [(45, .one (.x Go.undef))], []⟩, ⟨[(44, .one (bB false))], [], [(46, .one (bB false))], []⟩, ⟨[(46, .one (bB false))], [], [(47, .one (bB false))], []⟩, ⟨[(47, .one (bB false))], [], [(48, .one (.x Go.undef))], []⟩, ⟨[(47, .one (bB false))], [], [(49, .one (.x Go.undef))], []⟩, ⟨[(47, .one (bB false))], [], [(50, .one (.x Go.undef))], []⟩, ⟨[(47, .one (bB false))], [], [(51, .one (.x Go.undef))], []⟩, ⟨[(47, .one (bB false))], [], [(52, .one (.x Go.undef))], []⟩, ⟨[(47, .one (bB false))], [], [(53, .one (.x Go.undef))], []⟩, ⟨[(47, .one (bB false))], [], [(54, .one (.x Go.undef))], []⟩, ⟨[(47, .one (bB false))], [], [(55, .one (.x Go.undef))], []⟩, ⟨[(47, .one (bB false))], [], [(56, .one (bB false))], []⟩]) (deps := [[], [], [0, 1], [0, 1, 2], [0, 1, 2, 3], [0, 1, 2, 3, 4], [0, 1, 2, 3, 4, 5], [0, 1, 2, 3, 4, 5, 6], [0, 1, 2, 3, 4, 5, 6], [0, 1, 2, 3, 4, 5, 6], [0, 1, 2, 3, 4, 5, 6, 8, 9], [0, 1, 2, 3, 4, 5, 6, 8, 9, 10], [0, 1, 2, 3, 4, 5, 6, 8, 9, 10, 11], [0, 1, 2, 3, 4, 5, 6, 7, 8, 9, 10, 11, 12], [0, 1, 2, 3, 4, 5, 6, 7, 8, 9, 10, 11, 12, 13], [0, 1, 2, 3, 4, 5, 6, 7, 8, 9, 10, 11, 12, 13, 14]]) (sl' := [(0, .one (.g (.d (.sl 3 (List.map encApi_Dep p_0))))), (1, .one (.g (.d (.sl 6 (List.map encApi_Version l_1))))), (5, .one (.own 2005 (List.map encApi_Dep v3.2))), (6, .one (bI .i64 v3.1)), (7, .one (bB v15.1)), (8, .one (bI .i64 v15.2)), (56, .one (bB false))]) (hp' := [(2005, some (.row 26 3 (List.map encApi_Dep v3.2) false))]) follows rfl rfl rfl ⟨⟨rfl, trivial⟩, trivial, ⟨rfl, trivial⟩, trivial, ⟨rfl, rfl, trivial⟩, trivial, ⟨rfl, trivial⟩, trivial, ⟨rfl, trivial⟩, trivial, ⟨rfl, trivial⟩, trivial, ⟨rfl, trivial⟩, trivial, ⟨rfl, trivial⟩, trivial, ⟨rfl, trivial⟩, trivial, ⟨rfl, trivial⟩, trivial, ⟨rfl, trivial⟩, trivial, ⟨rfl, trivial⟩, trivial, ⟨rfl, trivial⟩, trivial, ⟨rfl, trivial⟩, trivial, ⟨rfl, trivial⟩, trivial, ⟨rfl, trivial⟩, trivial, trivial⟩ ⟨OpW.plain (op_move (Ev.t 8 (bI .i64 v15.2)) rfl) rfl rfl, OpW.plain (op_move (Ev.t 6 (bI .i64 v3.1)) rfl) rfl rfl, OpW.plain (OpL.cast (op_neI (Ev.t 41 (bI .i64 v15.2)) (Ev.t 42 (bI .i64 v3.1)) rfl) (congrArg (fun b => bB b) hc24)) rfl rfl, OpW.plain (op_move (Ev.t 43 (bB false)) rfl) rfl rfl, OpW.no rfl rfl rfl rfl rfl, OpW.plain (op_pickF (Ev.t 44 (bB false)) (Ev.c _ rfl) rfl) rfl rfl, OpW.plain (op_move (Ev.t 46 (bB false)) rfl) rfl rfl, OpW.no rfl rfl rfl rfl rfl, OpW.no rfl rfl rfl rfl rfl, OpW.no rfl rfl rfl rfl rfl, OpW.no rfl rfl rfl rfl rfl, OpW.no rfl rfl rfl rfl rfl, OpW.no rfl rfl rfl rfl rfl, OpW.no rfl rfl rfl rfl rfl, OpW.no rfl rfl rfl rfl rfl, OpW.plain (op_pickF (Ev.t 47 (bB false)) (Ev.c _ rfl) rfl) rfl rfl, trivial⟩ ⟨rfl, rfl, rfl, rfl, rfl, rfl, rfl, trivial⟩ ⟨rfl, trivial⟩ rfl ?_
        refine G.condF rfl ?_
        refine G.skip ?_
        refine G.endBlock ?_
        refine G.region ?_
        refine G.op1 (op_move (Ev.t 8 (bI .i64 v15.2)) rfl) rfl ⟨rfl, trivial⟩ trivial ?_
        refine G.op1 (op_add (Ev.t 22 (bI .i64 v15.2)) (Ev.c _ rfl) rfl) rfl ⟨rfl, trivial⟩ trivial ?_
        refine G.op1 (op_assign (Ev.t 23 (bI .i64 (IntKind.wrap .i64 (v15.2 + 1)))) rfl) rfl ⟨rfl, trivial⟩ trivial ?_
        refine G.endOps ?_
        exact G.arr (J16 (v15.1, IntKind.wrap .i64 (v15.2 + 1)) hF) ⟨rfl, rfl, rfl, rfl, rfl, rfl, trivial⟩ ⟨rfl, trivial⟩ rfl
    · refine G.cond rfl (fun hx => by rw [hc19] at hx; cases hx) (fun _ => ?_)
      refine G.exit ?_
      refine GX.c ?_
      refine GX.q ?_
      refine GX.bYes ?_
      exact G.arr (J14 v15.1 hF) ⟨rfl, rfl, rfl, rfl, rfl, trivial⟩ ⟨rfl, trivial⟩ rfl
  · refine G.cond rfl (fun hx => by rw [hc7] at hx; cases hx) (fun _ => ?_)
    refine G.exit ?_
    refine GX.c ?_
    refine GX.q ?_
    refine GX.bYes ?_
    exact G.arr (J2 v3.2 hF) ⟨rfl, trivial⟩ ⟨rfl, trivial⟩ rfl


set_option maxRecDepth 20000 in
set_option maxHeartbeats 2000000 in
theorem ct_ref05_Expand (p_0 : (List Api_Dep)) (l_1 : (List Api_Version)) (r : (List Api_Dep)) (hF : ref05_Expand p_0 l_1 = some r) : Ct Try.prog 17 [.g (.d (.sl 3 (List.map encApi_Dep p_0))), .g (.d (.sl 6 (List.map encApi_Version l_1)))] (.one (.d (.sl 3 (List.map encApi_Dep r)))) := by
  unfold ref05_Expand at hF
  refine Ct.intro Try.func17 rfl Try.ntmps17 rfl rfl fun M w => ?_
  refine G.seq ?_
  refine G.region ?_
  refine G.op1 (op_assign (Ev.n 3) rfl) rfl trivial trivial ?_
  refine G.endOps ?_
  refine G.seq ?_
  refine G.region ?_
  refine G.op1 (op_move (Ev.t 0 (.g (.d (.sl 3 (List.map encApi_Dep p_0))))) rfl) rfl ⟨rfl, trivial⟩ trivial ?_
  refine G.op2 (op_buildRowN (kk := 2010) (ex := false) (es := List.map encL_encApi_Dep [p_0]) Try.underlying53 ti29 rfl rfl rfl (EvP.cons (Ev.t 9 (.g (.d (.sl 3 (List.map encApi_Dep p_0))))) EvP.nil) rfl rfl (by simp [encL_encApi_Dep]) rfl) rfl ⟨rfl, trivial⟩ ⟨rfl, trivial⟩ ?_
  refine G.op1 (op_assign (Ev.t 10 (.own 2010 (List.map encL_encApi_Dep ([p_0])))) rfl) rfl ⟨rfl, trivial⟩ trivial ?_
  refine G.endOps ?_
  refine G.seq ?_
  refine G.seq ?_
  refine G.region ?_
  refine G.op1 (op_assign (Ev.c _ rfl) rfl) rfl trivial trivial ?_
  refine G.endOps ?_
  refine G.joinC (T := (List (List Api_Dep))) (fun y1 => ⟨[(5, .one (.own 2010 (List.map encL_encApi_Dep y1)))], [(2010, some (.row 29 1 (List.map encL_encApi_Dep y1) false))]⟩) (fun y1 => ref05_Expand_k1 y1 = some r) (fun y1 hF => ?_) (fun J3 => ?_)
  · unfold ref05_Expand_k1 at hF
    refine G.seq ?_
    refine G.region ?_
    refine G.op1 (op_move (Ev.t 5 (.own 2010 (List.map encL_encApi_Dep y1))) rfl) rfl ⟨rfl, trivial⟩ trivial ?_
    refine G.view (t := 32) rfl rfl ?_
    obtain ⟨r2, hr2, hF⟩ := bindS hF
    refine G.op1 (op_call (sv := .one (.g (.d (.sl 3 (List.map encApi_Dep r2))))) cf27 (ct_ref04_Merge y1 r2 hr2) rfl (EvL.cons (Ev.t 32 (.g (.d (.sl 1 (List.map encL_encApi_Dep y1))))) EvL.nil) rfl) rfl ⟨rfl, trivial⟩ trivial ?_
    refine G.op1 (op_assign (Ev.t 33 (.g (.d (.sl 3 (List.map encApi_Dep r2))))) rfl) rfl ⟨rfl, trivial⟩ trivial ?_
    refine G.endOps ?_
    cases hF
    exact G.ret1 Try.results17 (RVar.tmp 4 _) ⟨rfl, trivial⟩ trivial
  refine G.block ?_
  refine G.keep (sl' := [(0, .one (.g (.d (.sl 3 (List.map encApi_Dep p_0))))), (1, .one (.g (.d (.sl 6 (List.map encApi_Version l_1))))), (5, .one (.own 2010 (List.map encL_encApi_Dep ([p_0])))), (6, .one (bI .i64 0))]) (hp' := [(2010, some (.row 29 1 (List.map encL_encApi_Dep ([p_0])) false))]) ⟨rfl, rfl, rfl, rfl, trivial⟩ ⟨rfl, trivial⟩ rfl ?_
  refine G.loopF (fun (v4 : Int × (List (List Api_Dep))) => ⟨[(0, .one (.g (.d (.sl 3 (List.map encApi_Dep p_0))))), (1, .one (.g (.d (.sl 6 (List.map encApi_Version l_1))))), (5, .one (.own 2010 (List.map encL_encApi_Dep v4.2))), (6, .one (bI .i64 v4.1))], [(2010, some (.row 29 1 (List.map encL_encApi_Dep v4.2) false))]⟩) hF rfl (fun K7 again6 v4 J5 hF => ?_)
  unfold ref05_Expand_l2 at hF
  refine G.seq ?_
  refine G.seq ?_
  refine G.region ?_
  refine G.op1 (op_move (Ev.t 6 (bI .i64 v4.1)) rfl) rfl ⟨rfl, trivial⟩ trivial ?_
  refine G.op1 (op_move (Ev.t 0 (.g (.d (.sl 3 (List.map encApi_Dep p_0))))) rfl) rfl ⟨rfl, trivial⟩ trivial ?_
  refine G.op1 (OpL.cast (op_lenD Try.underlying29 (Ev.t 12 (.g (.d (.sl 3 (List.map encApi_Dep p_0))))) rfl) (by rw [List.length_map])) rfl ⟨rfl, trivial⟩ trivial ?_
  refine G.op1 (op_lss (Ev.t 11 (bI .i64 v4.1)) (Ev.t 13 (bI .i64 (p_0.length : Int))) rfl) rfl ⟨rfl, rfl, trivial⟩ trivial ?_
  refine G.endOps ?_
  refine ifS hF (fun hc8 hF => ?_) (fun hc8 hF => ?_)
  · refine G.cond rfl (fun _ => ?_) (fun hx => by rw [hc8] at hx; cases hx)
    refine G.skip ?_
    refine G.seq ?_
    refine G.block ?_
    refine G.seq ?_
    refine G.region ?_
    refine G.op1 (op_move (Ev.t 1 (.g (.d (.sl 6 (List.map encApi_Version l_1))))) rfl) rfl ⟨rfl, trivial⟩ trivial ?_
    refine G.op1 (op_move (Ev.t 0 (.g (.d (.sl 3 (List.map encApi_Dep p_0))))) rfl) rfl ⟨rfl, trivial⟩ trivial ?_
    refine G.op1 (op_move (Ev.t 6 (bI .i64 v4.1)) rfl) rfl ⟨rfl, trivial⟩ trivial ?_
    obtain ⟨x9, hx9, hF⟩ := bindS hF
    refine G.op1 (op_index (cs := [.v (.string x9.Key), .v (.int .i64 x9.Stamp.N), .v (.int .i64 x9.Stamp.Site)]) Try.underlying29 ti26 (idx_ok hx9).1 (idx_get hx9 encApi_Dep) (Ev.t 19 (.g (.d (.sl 3 (List.map encApi_Dep p_0))))) (Ev.t 20 (bI .i64 v4.1)) rfl) rfl ⟨rfl, rfl, trivial⟩ trivial ?_
    refine G.op1 (op_loadAE (ds := [.v (.string x9.Key), .v (.int .i64 x9.Stamp.N), .v (.int .i64 x9.Stamp.Site)]) Try.underlying26 rfl ti26 rfl (Ev.t 21 (.ep [.v (.string x9.Key), .v (.int .i64 x9.Stamp.N), .v (.int .i64 x9.Stamp.Site)])) rfl) rfl ⟨rfl, trivial⟩ trivial ?_
    obtain ⟨r10, hr10, hF⟩ := bindS hF
    refine G.op1 (op_call (sv := .tup [.g (.agg [.v (.string r10.1.Key), .v (.string r10.1.Value), .v (.bool r10.1.Gone), .v (.int .i64 r10.1.Stamp.N), .v (.int .i64 r10.1.Stamp.Site), .sl 3 (List.map encApi_Dep r10.1.Past)]), bB r10.2]) cf19 (ct_ref05_Find l_1 x9 r10 hr10) rfl (EvL.cons (Ev.t 18 (.g (.d (.sl 6 (List.map encApi_Version l_1))))) (EvL.cons (Ev.t 22 (.g (.agg [.v (.string x9.Key), .v (.int .i64 x9.Stamp.N), .v (.int .i64 x9.Stamp.Site)]))) EvL.nil)) rfl) rfl ⟨rfl, rfl, trivial⟩ trivial ?_
    refine G.op1 (op_moveS (t := 23) (sv := .tup [.g (.agg [.v (.string r10.1.Key), .v (.string r10.1.Value), .v (.bool r10.1.Gone), .v (.int .i64 r10.1.Stamp.N), .v (.int .i64 r10.1.Stamp.Site), .sl 3 (List.map encApi_Dep r10.1.Past)]), bB r10.2]) rfl) rfl ⟨rfl, trivial⟩ trivial ?_
    refine G.op1 (op_extract (l := [.g (.agg [.v (.string r10.1.Key), .v (.string r10.1.Value), .v (.bool r10.1.Gone), .v (.int .i64 r10.1.Stamp.N), .v (.int .i64 r10.1.Stamp.Site), .sl 3 (List.map encApi_Dep r10.1.Past)]), bB r10.2]) (c := .g (.agg [.v (.string r10.1.Key), .v (.string r10.1.Value), .v (.bool r10.1.Gone), .v (.int .i64 r10.1.Stamp.N), .v (.int .i64 r10.1.Stamp.Site), .sl 3 (List.map encApi_Dep r10.1.Past)])) rfl rfl) rfl ⟨rfl, trivial⟩ trivial ?_
    refine G.op1 (op_extract (l := [.g (.agg [.v (.string r10.1.Key), .v (.string r10.1.Value), .v (.bool r10.1.Gone), .v (.int .i64 r10.1.Stamp.N), .v (.int .i64 r10.1.Stamp.Site), .sl 3 (List.map encApi_Dep r10.1.Past)]), bB r10.2]) (c := bB r10.2) rfl rfl) rfl ⟨rfl, trivial⟩ trivial ?_
    refine G.op2 (op_alloc (k := 1007) (cs := [bS ByteArray.empty, bS ByteArray.empty, bB false, bI .i64 0, bI .i64 0, .g (.d (.sl 3 (List.map encApi_Dep ([] : (List Api_Dep)))))]) ti34 ⟨.v _ rfl, .v _ rfl, .v _ rfl, .v _ rfl, .v _ rfl, .n 3, trivial⟩ rfl) rfl trivial ⟨rfl, trivial⟩ ?_
    refine G.op3 (op_storeA (cs' := [bS r10.1.Key, bS r10.1.Value, bB r10.1.Gone, bI .i64 r10.1.Stamp.N, bI .i64 r10.1.Stamp.Site, .g (.d (.sl 3 (List.map encApi_Dep r10.1.Past)))]) ti34 rfl rfl (Ev.t 7 (.ptr 1007 0)) (Ev.t 24 (.g (.agg [.v (.string r10.1.Key), .v (.string r10.1.Value), .v (.bool r10.1.Gone), .v (.int .i64 r10.1.Stamp.N), .v (.int .i64 r10.1.Stamp.Site), .sl 3 (List.map encApi_Dep r10.1.Past)])))) rfl ⟨rfl, rfl, trivial⟩ ⟨rfl, trivial⟩ ?_
    refine G.op1 (op_assign (Ev.t 25 (bB r10.2)) rfl) rfl ⟨rfl, trivial⟩ trivial ?_
    refine G.endOps ?_
    refine G.seq ?_
    refine G.region ?_
    refine G.op1 (op_move (Ev.t 8 (bB r10.2)) rfl) rfl ⟨rfl, trivial⟩ trivial ?_
    refine G.endOps ?_
    refine ifS hF (fun hc11 hF => ?_) (fun hc11 hF => ?_)
    · refine G.cond rfl (fun _ => ?_) (fun hx => by rw [hc11] at hx; cases hx)
      refine G.region ?_
      refine G.op1 (op_move (Ev.t 5 (.own 2010 (List.map encL_encApi_Dep v4.2))) rfl) rfl ⟨rfl, trivial⟩ trivial ?_
      refine G.op1 (op_fieldP (off' := 5) Try.underlying34 rfl ti29 (by decide) rfl (Ev.t 7 (.ptr 1007 0)) rfl) rfl ⟨rfl, trivial⟩ trivial ?_
      refine G.op1 (op_load1P (c := .g (.d (.sl 3 (List.map encApi_Dep r10.1.Past)))) Try.underlying29 rfl rfl (Ev.t 28 (.ptr 1007 5)) rfl) rfl ⟨rfl, trivial⟩ ⟨rfl, trivial⟩ ?_
      refine G.op1 (op_buildSlice (es := List.map encL_encApi_Dep [r10.1.Past]) Try.underlying53 ti29 rfl rfl (EvP.cons (Ev.t 29 (.g (.d (.sl 3 (List.map encApi_Dep r10.1.Past))))) EvP.nil) rfl rfl (by simp [encL_encApi_Dep]) rfl) rfl ⟨rfl, trivial⟩ trivial ?_
      obtain ⟨l12, hl12, hF⟩ := bindS hF
      refine G.op2 (op_appendO Try.underlying53 ti29 rfl (app_map hl12 encL_encApi_Dep) (app_b1 hl12 encL_encApi_Dep) (app_b2 hl12 encL_encApi_Dep) (Ev.t 27 (.own 2010 (List.map encL_encApi_Dep v4.2))) (Ev.t 30 (.g (.d (.sl 1 (List.map encL_encApi_Dep ([r10.1.Past])))))) rfl) rfl ⟨rfl, rfl, trivial⟩ ⟨rfl, trivial⟩ ?_
      refine G.op1 (op_assign (Ev.t 31 (.own 2010 (List.map encL_encApi_Dep l12))) rfl) rfl ⟨rfl, trivial⟩ trivial ?_
      refine G.endOps ?_
      refine G.endBlock ?_
      refine G.region ?_
      refine G.op1 (op_move (Ev.t 6 (bI .i64 v4.1)) rfl) rfl ⟨rfl, trivial⟩ trivial ?_
      refine G.op1 (op_add (Ev.t 15 (bI .i64 v4.1)) (Ev.c _ rfl) rfl) rfl ⟨rfl, trivial⟩ trivial ?_
      refine G.op1 (op_assign (Ev.t 16 (bI .i64 (IntKind.wrap .i64 (v4.1 + 1)))) rfl) rfl ⟨rfl, trivial⟩ trivial ?_
      refine G.endOps ?_
      exact G.arr (J5 (IntKind.wrap .i64 (v4.1 + 1), l12) hF) ⟨rfl, rfl, rfl, rfl, trivial⟩ ⟨rfl, trivial⟩ rfl
    · refine G.cond rfl (fun hx => by rw [hc11] at hx; cases hx) (fun _ => ?_)
      refine G.skip ?_
      refine G.endBlock ?_
      refine G.region ?_
      refine G.op1 (op_move (Ev.t 6 (bI .i64 v4.1)) rfl) rfl ⟨rfl, trivial⟩ trivial ?_
      refine G.op1 (op_add (Ev.t 15 (bI .i64 v4.1)) (Ev.c _ rfl) rfl) rfl ⟨rfl, trivial⟩ trivial ?_
      refine G.op1 (op_assign (Ev.t 16 (bI .i64 (IntKind.wrap .i64 (v4.1 + 1)))) rfl) rfl ⟨rfl, trivial⟩ trivial ?_
      refine G.endOps ?_
      exact G.arr (J5 (IntKind.wrap .i64 (v4.1 + 1), v4.2) hF) ⟨rfl, rfl, rfl, rfl, trivial⟩ ⟨rfl, trivial⟩ rfl
  · refine G.cond rfl (fun hx => by rw [hc8] at hx; cases hx) (fun _ => ?_)
    refine G.exit ?_
    refine GX.c ?_
    refine GX.q ?_
    refine GX.bYes ?_
    exact G.arr (J3 v4.2 hF) ⟨rfl, trivial⟩ ⟨rfl, trivial⟩ rfl

end Go.Ark
