/- Walks, printed by a program of mine: each function of the program computes the typed function of its name. Conditions: none. -/
import Derived.Test.YtfhlilpkgodilaaDoorWWordsRows2
namespace Go.Ark
open Go Go.Ab Go.RowKit Go.Lib Go.Proofs Go.Shelf

set_option maxRecDepth 20000 in
set_option maxHeartbeats 2000000 in
theorem ct_script_Bytes (l_0 : (List Api_Op)) (r : ByteArray) (hF : script_Bytes l_0 = some r) : Ct Tryd.prog 40 [.g (.d (.sl 12 (List.map encApi_Op l_0)))] (.one (.d (.v (.string r)))) := by
  unfold script_Bytes at hF
  refine Ct.intro Tryd.func40 rfl Tryd.ntmps40 rfl rfl fun M w => ?_
  refine G.seq ?_
  refine G.region ?_
  refine G.op1 (op_assign (Ev.c _ rfl) rfl) rfl trivial trivial ?_
  refine G.endOps ?_
  refine G.seq ?_
  refine G.region ?_
  refine G.opM (op_allocB (T := 54) (E := 5) (k := 1003) (kk := 3003) ti54 rfl rfl rfl) rfl trivial ⟨rfl, rfl, trivial⟩ ?_
  refine G.endOps ?_
  refine G.seq ?_
  refine G.region ?_
  refine G.op1 (op_move (Ev.t 0 (.g (.d (.sl 12 (List.map encApi_Op l_0))))) rfl) rfl ⟨rfl, trivial⟩ trivial ?_
  refine G.op1 (OpL.cast (op_lenD Tryd.underlying22 (Ev.t 11 (.g (.d (.sl 12 (List.map encApi_Op l_0))))) rfl) (by rw [List.length_map])) rfl ⟨rfl, trivial⟩ trivial ?_
  refine G.op1 (op_convI Tryd.underlying3 Tryd.underlying97 (Ev.t 12 (bI .i64 (l_0.length : Int))) rfl) rfl ⟨rfl, trivial⟩ trivial ?_
  obtain ⟨r1, hr1, hF⟩ := bindS hF
  refine G.op1 (op_callQ (sv := .one (bS r1)) cf59 (ct_vary_Number (IntKind.wrap .u64 (l_0.length : Int)) r1 hr1) rfl rfl (EvQL.cons (EvQ.g (Ev.t 13 (bI .u64 (IntKind.wrap .u64 (l_0.length : Int))))) EvQL.nil) rfl) rfl ⟨rfl, trivial⟩ trivial ?_
  obtain ⟨r2, hr2, hF⟩ := bindS hF
  refine G.opM (op_callM (k := 1003) (h := .bld 54 5 ByteArray.empty) (h' := .bld 54 5 r2) 3003 (sv := .tup [bI .i64 (r1.size : Int), .g (.d (.v .nilIface))]) cf19 (ct_bld_WriteString ByteArray.empty r1 r2 hr2) rfl rfl (EvM.pt (Ev.t 3 (.ptr 1003 0)) (EvM.g (Ev.t 14 (bS r1)) EvM.nil)) rfl) rfl ⟨rfl, rfl, trivial⟩ ⟨rfl, rfl, trivial⟩ ?_
  refine G.endOps ?_
  refine G.seq ?_
  refine G.seq ?_
  refine G.region ?_
  refine G.op1 (op_move (Ev.t 0 (.g (.d (.sl 12 (List.map encApi_Op l_0))))) rfl) rfl ⟨rfl, trivial⟩ trivial ?_
  refine G.op1 (OpL.cast (op_lenD Tryd.underlying22 (Ev.t 16 (.g (.d (.sl 12 (List.map encApi_Op l_0))))) rfl) (by rw [List.length_map])) rfl ⟨rfl, trivial⟩ trivial ?_
  refine G.op1 (op_move (Ev.c _ rfl) rfl) rfl trivial trivial ?_
  refine G.endOps ?_
  refine G.joinC (T := ByteArray) (fun y3 => ⟨[(3, .one (.ptr 1003 0))], [(1003, some (.bld 54 5 3003 y3)), (3003, some (.hid true 1003))]⟩) (fun y3 => script_Bytes_k1 y3 = some r) (fun y3 hF => ?_) (fun J5 => ?_)
  · unfold script_Bytes_k1 at hF
    refine G.seq ?_
    refine G.region ?_
    obtain ⟨r4, hr4, hF⟩ := bindS hF
    refine G.opM (op_callM (k := 1003) (h := .bld 54 5 y3) (h' := .gone) 3003 (sv := .one (bS r4)) cf20 (ct_bld_String y3 r4 hr4) rfl rfl (EvM.pt (Ev.t 3 (.ptr 1003 0)) EvM.nil) rfl) rfl ⟨rfl, trivial⟩ ⟨rfl, rfl, trivial⟩ ?_
    refine G.op1 (op_assign (Ev.t 73 (bS r4)) rfl) rfl ⟨rfl, trivial⟩ trivial ?_
    refine G.endOps ?_
    cases hF
    exact G.ret1 Tryd.results40 (RVar.tmp 2 _) ⟨rfl, trivial⟩ trivial
  refine G.block ?_
  refine G.keep (sl' := [(3, .one (.ptr 1003 0)), (16, .one (.g (.d (.sl 12 (List.map encApi_Op l_0))))), (17, .one (bI .i64 (l_0.length : Int))), (18, .one (bI .i64 0))]) (hp' := [(1003, some (.bld 54 5 3003 r2)), (3003, some (.hid true 1003))]) ⟨rfl, rfl, rfl, rfl, trivial⟩ ⟨rfl, rfl, trivial⟩ rfl ?_
  refine G.loopF (fun (v6 : Int × ByteArray) => ⟨[(3, .one (.ptr 1003 0)), (16, .one (.g (.d (.sl 12 (List.map encApi_Op l_0))))), (17, .one (bI .i64 (l_0.length : Int))), (18, .one (bI .i64 v6.1))], [(1003, some (.bld 54 5 3003 v6.2)), (3003, some (.hid true 1003))]⟩) hF rfl (fun K9 again8 v6 J7 hF => ?_)
  unfold script_Bytes_l2 at hF
  refine G.seq ?_
  refine G.region ?_
  refine G.op1 (op_lss (Ev.t 18 (bI .i64 v6.1)) (Ev.t 17 (bI .i64 (l_0.length : Int))) rfl) rfl ⟨rfl, rfl, trivial⟩ trivial ?_
  refine G.endOps ?_
  refine G.seq ?_
  refine ifS hF (fun hc10 hF => ?_) (fun hc10 hF => ?_)
  · refine G.cond rfl (fun _ => ?_) (fun hx => Bool.noConfusion (hc10.symm.trans hx))
    refine G.skip ?_
    refine G.seq ?_
    refine G.joinC (T := ByteArray) (fun y11 => ⟨[(3, .one (.ptr 1003 0)), (16, .one (.g (.d (.sl 12 (List.map encApi_Op l_0))))), (17, .one (bI .i64 (l_0.length : Int))), (18, .one (bI .i64 v6.1))], [(1003, some (.bld 54 5 3003 y11)), (3003, some (.hid true 1003))]⟩) (fun y11 => script_Bytes_k3 again8 v6 y11 = some r) (fun y11 hF => ?_) (fun J12 => ?_)
    · unfold script_Bytes_k3 at hF
      refine G.region ?_
      refine G.op1 (op_add (Ev.t 18 (bI .i64 v6.1)) (Ev.c _ rfl) rfl) rfl ⟨rfl, trivial⟩ trivial ?_
      refine G.op1 (op_move (Ev.t 72 (bI .i64 (IntKind.wrap .i64 (v6.1 + 1)))) rfl) rfl ⟨rfl, trivial⟩ trivial ?_
      refine G.endOps ?_
      exact G.arr (J7 (IntKind.wrap .i64 (v6.1 + 1), y11) hF) ⟨rfl, rfl, rfl, rfl, trivial⟩ ⟨rfl, rfl, trivial⟩ rfl
    refine G.block ?_
    refine G.seq ?_
    refine G.region ?_
    obtain ⟨x13, hx13, hF⟩ := bindS hF
    refine G.op1 (op_index (cs := [.v (.int .i64 x13.Kind), .v (.int .i64 x13.Client), .v (.int .i64 x13.Site), .v (.int .i64 x13.To), .v (.int .i64 x13.At), .v (.int .i64 x13.How), .v (.string x13.Key), .v (.string x13.Value), .sl 1 (List.map encS x13.Keys), .sl 2 (List.map encApi_Range x13.Row.Ranges), .sl 1 (List.map encI_i64 x13.Row.Owners), .sl 1 (List.map encI_i64 x13.Row.Parents)]) Tryd.underlying22 ti30 (idx_ok hx13).1 (idx_get hx13 encApi_Op) (Ev.t 16 (.g (.d (.sl 12 (List.map encApi_Op l_0))))) (Ev.t 18 (bI .i64 v6.1)) rfl) rfl ⟨rfl, rfl, trivial⟩ trivial ?_
    refine G.op1 (op_loadAE (ds := [.v (.int .i64 x13.Kind), .v (.int .i64 x13.Client), .v (.int .i64 x13.Site), .v (.int .i64 x13.To), .v (.int .i64 x13.At), .v (.int .i64 x13.How), .v (.string x13.Key), .v (.string x13.Value), .sl 1 (List.map encS x13.Keys), .sl 2 (List.map encApi_Range x13.Row.Ranges), .sl 1 (List.map encI_i64 x13.Row.Owners), .sl 1 (List.map encI_i64 x13.Row.Parents)]) Tryd.underlying30 rfl ti30 rfl (Ev.t 20 (.ep [.v (.int .i64 x13.Kind), .v (.int .i64 x13.Client), .v (.int .i64 x13.Site), .v (.int .i64 x13.To), .v (.int .i64 x13.At), .v (.int .i64 x13.How), .v (.string x13.Key), .v (.string x13.Value), .sl 1 (List.map encS x13.Keys), .sl 2 (List.map encApi_Range x13.Row.Ranges), .sl 1 (List.map encI_i64 x13.Row.Owners), .sl 1 (List.map encI_i64 x13.Row.Parents)])) rfl) rfl ⟨rfl, trivial⟩ trivial ?_
    refine G.op2 (op_alloc (k := 1005) (cs := [bI .i64 0, bI .i64 0, bI .i64 0, bI .i64 0, bI .i64 0, bI .i64 0, bS ByteArray.empty, bS ByteArray.empty, .g (.d (.sl 1 (List.map encS ([] : (List ByteArray))))), .g (.d (.sl 2 (List.map encApi_Range ([] : (List Api_Range))))), .g (.d (.sl 1 (List.map encI_i64 ([] : (List Int))))), .g (.d (.sl 1 (List.map encI_i64 ([] : (List Int)))))]) ti30 ⟨.v _ rfl, .v _ rfl, .v _ rfl, .v _ rfl, .v _ rfl, .v _ rfl, .v _ rfl, .v _ rfl, .n 1, .n 2, .n 1, .n 1, trivial⟩ rfl) rfl trivial ⟨rfl, trivial⟩ ?_
    refine G.op3 (op_storeA (cs' := [bI .i64 x13.Kind, bI .i64 x13.Client, bI .i64 x13.Site, bI .i64 x13.To, bI .i64 x13.At, bI .i64 x13.How, bS x13.Key, bS x13.Value, .g (.d (.sl 1 (List.map encS x13.Keys))), .g (.d (.sl 2 (List.map encApi_Range x13.Row.Ranges))), .g (.d (.sl 1 (List.map encI_i64 x13.Row.Owners))), .g (.d (.sl 1 (List.map encI_i64 x13.Row.Parents)))]) ti30 rfl rfl (Ev.t 5 (.ptr 1005 0)) (Ev.t 21 (.g (.agg [.v (.int .i64 x13.Kind), .v (.int .i64 x13.Client), .v (.int .i64 x13.Site), .v (.int .i64 x13.To), .v (.int .i64 x13.At), .v (.int .i64 x13.How), .v (.string x13.Key), .v (.string x13.Value), .sl 1 (List.map encS x13.Keys), .sl 2 (List.map encApi_Range x13.Row.Ranges), .sl 1 (List.map encI_i64 x13.Row.Owners), .sl 1 (List.map encI_i64 x13.Row.Parents)])))) rfl ⟨rfl, rfl, trivial⟩ ⟨rfl, trivial⟩ ?_
    refine G.endOps ?_
    refine G.seq ?_
    refine G.seq ?_
    refine G.region ?_
    refine G.op1 (op_loadAP (ds := [.v (.int .i64 x13.Kind), .v (.int .i64 x13.Client), .v (.int .i64 x13.Site), .v (.int .i64 x13.To), .v (.int .i64 x13.At), .v (.int .i64 x13.How), .v (.string x13.Key), .v (.string x13.Value), .sl 1 (List.map encS x13.Keys), .sl 2 (List.map encApi_Range x13.Row.Ranges), .sl 1 (List.map encI_i64 x13.Row.Owners), .sl 1 (List.map encI_i64 x13.Row.Parents)]) Tryd.underlying30 rfl ti30 rfl (Ev.t 5 (.ptr 1005 0)) rfl) rfl ⟨rfl, trivial⟩ ⟨rfl, trivial⟩ ?_
    obtain ⟨r14, hr14, hF⟩ := bindS hF
    refine G.op1 (op_callQ (sv := .one (bB r14)) cf16 (ct_script_Check x13 r14 hr14) rfl rfl (EvQL.cons (EvQ.g (Ev.t 22 (.g (.agg [.v (.int .i64 x13.Kind), .v (.int .i64 x13.Client), .v (.int .i64 x13.Site), .v (.int .i64 x13.To), .v (.int .i64 x13.At), .v (.int .i64 x13.How), .v (.string x13.Key), .v (.string x13.Value), .sl 1 (List.map encS x13.Keys), .sl 2 (List.map encApi_Range x13.Row.Ranges), .sl 1 (List.map encI_i64 x13.Row.Owners), .sl 1 (List.map encI_i64 x13.Row.Parents)])))) EvQL.nil) rfl) rfl ⟨rfl, trivial⟩ trivial ?_
    refine G.op1 (op_not (Ev.t 23 (bB r14)) rfl) rfl ⟨rfl, trivial⟩ trivial ?_
    refine G.endOps ?_
    refine ifS hF (fun hc15 hF => ?_) (fun hc15 hF => ?_)
    · refine G.cond rfl (fun _ => ?_) (fun hx => Bool.noConfusion (hc15.symm.trans hx))
      refine G.seq ?_
      refine G.region ?_
      refine G.op1 (op_assign (Ev.c _ rfl) rfl) rfl trivial trivial ?_
      refine G.endOps ?_
      cases hF
      exact G.ret1 Tryd.results40 (RVar.tmp 2 _) ⟨rfl, trivial⟩ trivial
    · refine G.cond rfl (fun hx => Bool.noConfusion (hc15.symm.trans hx)) (fun _ => ?_)
      refine G.skip ?_
      refine G.seq ?_
      refine G.seq ?_
      refine G.region ?_
      refine G.op1 (op_loadAP (ds := [.v (.int .i64 x13.Kind), .v (.int .i64 x13.Client), .v (.int .i64 x13.Site), .v (.int .i64 x13.To), .v (.int .i64 x13.At), .v (.int .i64 x13.How), .v (.string x13.Key), .v (.string x13.Value), .sl 1 (List.map encS x13.Keys), .sl 2 (List.map encApi_Range x13.Row.Ranges), .sl 1 (List.map encI_i64 x13.Row.Owners), .sl 1 (List.map encI_i64 x13.Row.Parents)]) Tryd.underlying30 rfl ti30 rfl (Ev.t 5 (.ptr 1005 0)) rfl) rfl ⟨rfl, trivial⟩ ⟨rfl, trivial⟩ ?_
      obtain ⟨r16, hr16, hF⟩ := bindS hF
      refine G.op1 (op_call (sv := .one (.g (.d (.sl 1 (List.map encI_i64 r16))))) cf32 (ct_script_numbers x13 r16 hr16) rfl (EvL.cons (Ev.t 25 (.g (.agg [.v (.int .i64 x13.Kind), .v (.int .i64 x13.Client), .v (.int .i64 x13.Site), .v (.int .i64 x13.To), .v (.int .i64 x13.At), .v (.int .i64 x13.How), .v (.string x13.Key), .v (.string x13.Value), .sl 1 (List.map encS x13.Keys), .sl 2 (List.map encApi_Range x13.Row.Ranges), .sl 1 (List.map encI_i64 x13.Row.Owners), .sl 1 (List.map encI_i64 x13.Row.Parents)]))) EvL.nil) rfl) rfl ⟨rfl, trivial⟩ trivial ?_
      refine G.op1 (OpL.cast (op_lenD Tryd.underlying26 (Ev.t 26 (.g (.d (.sl 1 (List.map encI_i64 r16))))) rfl) (by rw [List.length_map])) rfl ⟨rfl, trivial⟩ trivial ?_
      refine G.op1 (op_move (Ev.c _ rfl) rfl) rfl trivial trivial ?_
      refine G.endOps ?_
      refine G.joinC (T := ByteArray) (fun y17 => ⟨[(3, .one (.ptr 1003 0)), (5, .one (.ptr 1005 0)), (16, .one (.g (.d (.sl 12 (List.map encApi_Op l_0))))), (17, .one (bI .i64 (l_0.length : Int))), (18, .one (bI .i64 v6.1))], [(1003, some (.bld 54 5 3003 y17)), (1005, some (.blk 30 [bI .i64 x13.Kind, bI .i64 x13.Client, bI .i64 x13.Site, bI .i64 x13.To, bI .i64 x13.At, bI .i64 x13.How, bS x13.Key, bS x13.Value, .g (.d (.sl 1 (List.map encS x13.Keys))), .g (.d (.sl 2 (List.map encApi_Range x13.Row.Ranges))), .g (.d (.sl 1 (List.map encI_i64 x13.Row.Owners))), .g (.d (.sl 1 (List.map encI_i64 x13.Row.Parents)))])), (3003, some (.hid true 1003))]⟩) (fun y17 => script_Bytes_k4 again8 v6 x13 y17 = some r) (fun y17 hF => ?_) (fun J41 => ?_)
      · unfold script_Bytes_k4 at hF
        refine G.seq ?_
        obtain ⟨r18, hr18, hF⟩ := bindS hF
        obtain ⟨r19, hr19, hF⟩ := bindS hF
        obtain ⟨s20, hs20, hF⟩ := bindS hF
        obtain ⟨r21, hr21, hF⟩ := bindS hF
        obtain ⟨s22, hs22, hF⟩ := bindS hF
        obtain ⟨r23, hr23, hF⟩ := bindS hF
        refine G.drawnI (deps := [[], [0], [0, 1], [], [3], [0, 1, 2, 3, 4], [0, 1, 2, 3, 4, 5], [], [7], [7, 8], [7, 8, 9], [0, 1, 2, 3, 4, 5, 7, 8, 9, 10], [0, 1, 2, 3, 4, 5, 6, 7, 8, 9, 10, 11], [0, 1, 2, 3, 4, 5, 6, 7, 8, 9, 10, 11, 12]]) (sl' := [(3, .one (.ptr 1003 0)), (5, .one (.ptr 1005 0)), (16, .one (.g (.d (.sl 12 (List.map encApi_Op l_0))))), (17, .one (bI .i64 (l_0.length : Int))), (18, .one (bI .i64 v6.1))]) (hp' := [(1003, some (.bld 54 5 3003 r23)), (1005, some (.blk 30 [bI .i64 x13.Kind, bI .i64 x13.Client, bI .i64 x13.Site, bI .i64 x13.To, bI .i64 x13.At, bI .i64 x13.How, bS x13.Key, bS x13.Value, .g (.d (.sl 1 (List.map encS x13.Keys))), .g (.d (.sl 2 (List.map encApi_Range x13.Row.Ranges))), .g (.d (.sl 1 (List.map encI_i64 x13.Row.Owners))), .g (.d (.sl 1 (List.map encI_i64 x13.Row.Parents)))])), (3003, some (.hid true 1003))]) (.c (oP rfl rfl (op_fieldP (off' := 6) Tryd.underlying30 rfl ti9 (by decide) rfl (Ev.t 5 (.ptr 1005 0)) rfl)) (.c (oP rfl rfl (op_load1P (c := bS x13.Key) Tryd.underlying9 rfl rfl (Ev.t 37 (.ptr 1005 6)) rfl)) (.c (oP rfl rfl (op_callQ (sv := .one (bS r18)) cf60 (ct_vary_Text x13.Key r18 hr18) rfl rfl (EvQL.cons (EvQ.g (Ev.t 38 (bS x13.Key))) EvQL.nil) rfl)) (.c (oP rfl rfl (op_fieldP (off' := 7) Tryd.underlying30 rfl ti9 (by decide) rfl (Ev.t 5 (.ptr 1005 0)) rfl)) (.c (oP rfl rfl (op_load1P (c := bS x13.Value) Tryd.underlying9 rfl rfl (Ev.t 40 (.ptr 1005 7)) rfl)) (.c (oP rfl rfl (op_callQ (sv := .one (bS r19)) cf60 (ct_vary_Text x13.Value r19 hr19) rfl rfl (EvQL.cons (EvQ.g (Ev.t 41 (bS x13.Value))) EvQL.nil) rfl)) (.c (oP rfl rfl (OpL.cast (op_cat (scat_ok hs20).1 (Ev.t 39 (bS r18)) (Ev.t 42 (bS r19)) rfl) (by rw [(scat_ok hs20).2]))) (.c (oP rfl rfl (op_fieldP (off' := 8) Tryd.underlying30 rfl ti24 (by decide) rfl (Ev.t 5 (.ptr 1005 0)) rfl)) (.c (oP rfl rfl (op_load1P (c := .g (.d (.sl 1 (List.map encS x13.Keys)))) Tryd.underlying24 rfl rfl (Ev.t 44 (.ptr 1005 8)) rfl)) (.c (oP rfl rfl (OpL.cast (op_lenD Tryd.underlying24 (Ev.t 45 (.g (.d (.sl 1 (List.map encS x13.Keys))))) rfl) (by rw [List.length_map]))) (.c (oP rfl rfl (op_convI Tryd.underlying3 Tryd.underlying97 (Ev.t 46 (bI .i64 (x13.Keys.length : Int))) rfl)) (.c (oP rfl rfl (op_callQ (sv := .one (bS r21)) cf59 (ct_vary_Number (IntKind.wrap .u64 (x13.Keys.length : Int)) r21 hr21) rfl rfl (EvQL.cons (EvQ.g (Ev.t 47 (bI .u64 (IntKind.wrap .u64 (x13.Keys.length : Int))))) EvQL.nil) rfl)) (.c (oP rfl rfl (OpL.cast (op_cat (scat_ok hs22).1 (Ev.t 43 (bS s20)) (Ev.t 48 (bS r21)) rfl) (by rw [(scat_ok hs22).2]))) (.c (oP rfl rfl (op_callM (k := 1003) (h := .bld 54 5 y17) (h' := .bld 54 5 r23) 3003 (sv := .tup [bI .i64 (s22.size : Int), .g (.d (.v .nilIface))]) cf19 (ct_bld_WriteString y17 s22 r23 hr23) rfl rfl (EvM.pt (Ev.t 3 (.ptr 1003 0)) (EvM.g (Ev.t 49 (bS s22)) EvM.nil)) rfl)) .nil)))))))))))))) follows rfl rfl rfl ⟨⟨rfl, trivial⟩, trivial, ⟨rfl, trivial⟩, ⟨⟨rfl, rfl⟩, trivial⟩, ⟨rfl, trivial⟩, trivial, ⟨rfl, trivial⟩, trivial, ⟨rfl, trivial⟩, ⟨⟨rfl, rfl⟩, trivial⟩, ⟨rfl, trivial⟩, trivial, ⟨rfl, rfl, trivial⟩, trivial, ⟨rfl, trivial⟩, trivial, ⟨rfl, trivial⟩, ⟨⟨rfl, rfl⟩, trivial⟩, ⟨rfl, trivial⟩, trivial, ⟨rfl, trivial⟩, trivial, ⟨rfl, trivial⟩, trivial, ⟨rfl, rfl, trivial⟩, trivial, ⟨rfl, rfl, trivial⟩, ⟨⟨rfl, rfl⟩, ⟨rfl, rfl⟩, trivial⟩, trivial⟩ ⟨rfl, rfl, rfl, rfl, rfl, trivial⟩ ⟨rfl, rfl, rfl, trivial⟩ rfl ?_
        refine G.seq ?_
        refine G.seq ?_
        refine G.region ?_
        refine G.op1 (op_fieldP (off' := 8) Tryd.underlying30 rfl ti24 (by decide) rfl (Ev.t 5 (.ptr 1005 0)) rfl) rfl ⟨rfl, trivial⟩ trivial ?_
        refine G.op1 (op_load1P (c := .g (.d (.sl 1 (List.map encS x13.Keys)))) Tryd.underlying24 rfl rfl (Ev.t 51 (.ptr 1005 8)) rfl) rfl ⟨rfl, trivial⟩ ⟨rfl, trivial⟩ ?_
        refine G.op1 (OpL.cast (op_lenD Tryd.underlying24 (Ev.t 52 (.g (.d (.sl 1 (List.map encS x13.Keys))))) rfl) (by rw [List.length_map])) rfl ⟨rfl, trivial⟩ trivial ?_
        refine G.op1 (op_move (Ev.c _ rfl) rfl) rfl trivial trivial ?_
        refine G.endOps ?_
        refine G.joinC (T := ByteArray) (fun y24 => ⟨[(3, .one (.ptr 1003 0)), (5, .one (.ptr 1005 0)), (16, .one (.g (.d (.sl 12 (List.map encApi_Op l_0))))), (17, .one (bI .i64 (l_0.length : Int))), (18, .one (bI .i64 v6.1))], [(1003, some (.bld 54 5 3003 y24)), (1005, some (.blk 30 [bI .i64 x13.Kind, bI .i64 x13.Client, bI .i64 x13.Site, bI .i64 x13.To, bI .i64 x13.At, bI .i64 x13.How, bS x13.Key, bS x13.Value, .g (.d (.sl 1 (List.map encS x13.Keys))), .g (.d (.sl 2 (List.map encApi_Range x13.Row.Ranges))), .g (.d (.sl 1 (List.map encI_i64 x13.Row.Owners))), .g (.d (.sl 1 (List.map encI_i64 x13.Row.Parents)))])), (3003, some (.hid true 1003))]⟩) (fun y24 => script_Bytes_k5 again8 v6 x13 y24 = some r) (fun y24 hF => ?_) (fun J32 => ?_)
        · unfold script_Bytes_k5 at hF
          refine G.seq ?_
          refine G.region ?_
          refine G.op1 (op_assign (Ev.c _ rfl) rfl) rfl trivial trivial ?_
          refine G.endOps ?_
          refine G.seq ?_
          refine G.seq ?_
          refine G.region ?_
          refine G.op1 (op_fieldP (off' := 9) Tryd.underlying30 rfl ti28 (by decide) rfl (Ev.t 5 (.ptr 1005 0)) rfl) rfl ⟨rfl, trivial⟩ trivial ?_
          refine G.op1 (op_loadAP (ds := [.sl 2 (List.map encApi_Range x13.Row.Ranges), .sl 1 (List.map encI_i64 x13.Row.Owners), .sl 1 (List.map encI_i64 x13.Row.Parents)]) Tryd.underlying28 rfl ti28 rfl (Ev.t 62 (.ptr 1005 9)) rfl) rfl ⟨rfl, trivial⟩ ⟨rfl, trivial⟩ ?_
          obtain ⟨r25, hr25, hF⟩ := bindS hF
          refine G.op1 (op_callQ (sv := .one (bB r25)) cf34 (ct_script_empty x13.Row r25 hr25) rfl rfl (EvQL.cons (EvQ.g (Ev.t 63 (.g (.agg [.sl 2 (List.map encApi_Range x13.Row.Ranges), .sl 1 (List.map encI_i64 x13.Row.Owners), .sl 1 (List.map encI_i64 x13.Row.Parents)])))) EvQL.nil) rfl) rfl ⟨rfl, trivial⟩ trivial ?_
          refine G.op1 (op_not (Ev.t 64 (bB r25)) rfl) rfl ⟨rfl, trivial⟩ trivial ?_
          refine G.endOps ?_
          refine ifS hF (fun hc26 hF => ?_) (fun hc26 hF => ?_)
          · refine G.cond rfl (fun _ => ?_) (fun hx => Bool.noConfusion (hc26.symm.trans hx))
            refine G.region ?_
            refine G.op1 (op_fieldP (off' := 9) Tryd.underlying30 rfl ti28 (by decide) rfl (Ev.t 5 (.ptr 1005 0)) rfl) rfl ⟨rfl, trivial⟩ trivial ?_
            refine G.op1 (op_loadAP (ds := [.sl 2 (List.map encApi_Range x13.Row.Ranges), .sl 1 (List.map encI_i64 x13.Row.Owners), .sl 1 (List.map encI_i64 x13.Row.Parents)]) Tryd.underlying28 rfl ti28 rfl (Ev.t 66 (.ptr 1005 9)) rfl) rfl ⟨rfl, trivial⟩ ⟨rfl, trivial⟩ ?_
            obtain ⟨r27, hr27, hF⟩ := bindS hF
            refine G.op1 (op_callQ (sv := .one (bS r27)) cf35 (ct_wire_RowBytes x13.Row r27 hr27) rfl rfl (EvQL.cons (EvQ.g (Ev.t 67 (.g (.agg [.sl 2 (List.map encApi_Range x13.Row.Ranges), .sl 1 (List.map encI_i64 x13.Row.Owners), .sl 1 (List.map encI_i64 x13.Row.Parents)])))) EvQL.nil) rfl) rfl ⟨rfl, trivial⟩ trivial ?_
            refine G.op1 (op_assign (Ev.t 68 (bS r27)) rfl) rfl ⟨rfl, trivial⟩ trivial ?_
            refine G.endOps ?_
            refine G.region ?_
            refine G.op1 (op_move (Ev.t 10 (bS r27)) rfl) rfl ⟨rfl, trivial⟩ trivial ?_
            obtain ⟨r28, hr28, hF⟩ := bindS hF
            refine G.op1 (op_callQ (sv := .one (bS r28)) cf60 (ct_vary_Text r27 r28 hr28) rfl rfl (EvQL.cons (EvQ.g (Ev.t 69 (bS r27))) EvQL.nil) rfl) rfl ⟨rfl, trivial⟩ trivial ?_
            obtain ⟨r29, hr29, hF⟩ := bindS hF
            refine G.opM (op_callM (k := 1003) (h := .bld 54 5 y24) (h' := .bld 54 5 r29) 3003 (sv := .tup [bI .i64 (r28.size : Int), .g (.d (.v .nilIface))]) cf19 (ct_bld_WriteString y24 r28 r29 hr29) rfl rfl (EvM.pt (Ev.t 3 (.ptr 1003 0)) (EvM.g (Ev.t 70 (bS r28)) EvM.nil)) rfl) rfl ⟨rfl, rfl, trivial⟩ ⟨rfl, rfl, trivial⟩ ?_
            refine G.endOps ?_
            refine G.endBlock ?_
            exact G.arr (J12 r29 hF) ⟨rfl, rfl, rfl, rfl, trivial⟩ ⟨rfl, rfl, trivial⟩ rfl
          · refine G.cond rfl (fun hx => Bool.noConfusion (hc26.symm.trans hx)) (fun _ => ?_)
            refine G.skip ?_
            refine G.region ?_
            refine G.op1 (op_move (Ev.t 10 (bS ByteArray.empty)) rfl) rfl ⟨rfl, trivial⟩ trivial ?_
            obtain ⟨r30, hr30, hF⟩ := bindS hF
            refine G.op1 (op_callQ (sv := .one (bS r30)) cf60 (ct_vary_Text ByteArray.empty r30 hr30) rfl rfl (EvQL.cons (EvQ.g (Ev.t 69 (bS ByteArray.empty))) EvQL.nil) rfl) rfl ⟨rfl, trivial⟩ trivial ?_
            obtain ⟨r31, hr31, hF⟩ := bindS hF
            refine G.opM (op_callM (k := 1003) (h := .bld 54 5 y24) (h' := .bld 54 5 r31) 3003 (sv := .tup [bI .i64 (r30.size : Int), .g (.d (.v .nilIface))]) cf19 (ct_bld_WriteString y24 r30 r31 hr31) rfl rfl (EvM.pt (Ev.t 3 (.ptr 1003 0)) (EvM.g (Ev.t 70 (bS r30)) EvM.nil)) rfl) rfl ⟨rfl, rfl, trivial⟩ ⟨rfl, rfl, trivial⟩ ?_
            refine G.endOps ?_
            refine G.endBlock ?_
            exact G.arr (J12 r31 hF) ⟨rfl, rfl, rfl, rfl, trivial⟩ ⟨rfl, rfl, trivial⟩ rfl
        refine G.block ?_
        refine G.keep (sl' := [(3, .one (.ptr 1003 0)), (5, .one (.ptr 1005 0)), (16, .one (.g (.d (.sl 12 (List.map encApi_Op l_0))))), (17, .one (bI .i64 (l_0.length : Int))), (18, .one (bI .i64 v6.1)), (52, .one (.g (.d (.sl 1 (List.map encS x13.Keys))))), (53, .one (bI .i64 (x13.Keys.length : Int))), (54, .one (bI .i64 0))]) (hp' := [(1003, some (.bld 54 5 3003 r23)), (1005, some (.blk 30 [bI .i64 x13.Kind, bI .i64 x13.Client, bI .i64 x13.Site, bI .i64 x13.To, bI .i64 x13.At, bI .i64 x13.How, bS x13.Key, bS x13.Value, .g (.d (.sl 1 (List.map encS x13.Keys))), .g (.d (.sl 2 (List.map encApi_Range x13.Row.Ranges))), .g (.d (.sl 1 (List.map encI_i64 x13.Row.Owners))), .g (.d (.sl 1 (List.map encI_i64 x13.Row.Parents)))])), (3003, some (.hid true 1003))]) ⟨rfl, rfl, rfl, rfl, rfl, rfl, rfl, rfl, trivial⟩ ⟨rfl, rfl, rfl, trivial⟩ rfl ?_
        refine G.loopF (fun (v33 : Int × ByteArray) => ⟨[(3, .one (.ptr 1003 0)), (5, .one (.ptr 1005 0)), (16, .one (.g (.d (.sl 12 (List.map encApi_Op l_0))))), (17, .one (bI .i64 (l_0.length : Int))), (18, .one (bI .i64 v6.1)), (52, .one (.g (.d (.sl 1 (List.map encS x13.Keys))))), (53, .one (bI .i64 (x13.Keys.length : Int))), (54, .one (bI .i64 v33.1))], [(1003, some (.bld 54 5 3003 v33.2)), (1005, some (.blk 30 [bI .i64 x13.Kind, bI .i64 x13.Client, bI .i64 x13.Site, bI .i64 x13.To, bI .i64 x13.At, bI .i64 x13.How, bS x13.Key, bS x13.Value, .g (.d (.sl 1 (List.map encS x13.Keys))), .g (.d (.sl 2 (List.map encApi_Range x13.Row.Ranges))), .g (.d (.sl 1 (List.map encI_i64 x13.Row.Owners))), .g (.d (.sl 1 (List.map encI_i64 x13.Row.Parents)))])), (3003, some (.hid true 1003))]⟩) hF rfl (fun K36 again35 v33 J34 hF => ?_)
        unfold script_Bytes_l6 at hF
        refine G.seq ?_
        refine G.region ?_
        refine G.op1 (op_lss (Ev.t 54 (bI .i64 v33.1)) (Ev.t 53 (bI .i64 (x13.Keys.length : Int))) rfl) rfl ⟨rfl, rfl, trivial⟩ trivial ?_
        refine G.endOps ?_
        refine G.seq ?_
        refine ifS hF (fun hc37 hF => ?_) (fun hc37 hF => ?_)
        · refine G.cond rfl (fun _ => ?_) (fun hx => Bool.noConfusion (hc37.symm.trans hx))
          refine G.skip ?_
          refine G.seq ?_
          refine G.block ?_
          refine G.seq ?_
          refine G.region ?_
          obtain ⟨x38, hx38, hF⟩ := bindS hF
          refine G.op1 (op_index (cs := [.v (.string x38)]) Tryd.underlying24 ti9 (idx_ok hx38).1 (idx_get hx38 encS) (Ev.t 52 (.g (.d (.sl 1 (List.map encS x13.Keys))))) (Ev.t 54 (bI .i64 v33.1)) rfl) rfl ⟨rfl, rfl, trivial⟩ trivial ?_
          refine G.op1 (op_load1E (c := .v (.string x38)) Tryd.underlying9 rfl rfl (Ev.t 56 (.ep [.v (.string x38)])) rfl) rfl ⟨rfl, trivial⟩ trivial ?_
          refine G.op1 (op_assign (Ev.t 57 (bS x38)) rfl) rfl ⟨rfl, trivial⟩ trivial ?_
          refine G.endOps ?_
          refine G.region ?_
          refine G.op1 (op_move (Ev.t 9 (bS x38)) rfl) rfl ⟨rfl, trivial⟩ trivial ?_
          obtain ⟨r39, hr39, hF⟩ := bindS hF
          refine G.op1 (op_callQ (sv := .one (bS r39)) cf60 (ct_vary_Text x38 r39 hr39) rfl rfl (EvQL.cons (EvQ.g (Ev.t 58 (bS x38))) EvQL.nil) rfl) rfl ⟨rfl, trivial⟩ trivial ?_
          obtain ⟨r40, hr40, hF⟩ := bindS hF
          refine G.opM (op_callM (k := 1003) (h := .bld 54 5 v33.2) (h' := .bld 54 5 r40) 3003 (sv := .tup [bI .i64 (r39.size : Int), .g (.d (.v .nilIface))]) cf19 (ct_bld_WriteString v33.2 r39 r40 hr40) rfl rfl (EvM.pt (Ev.t 3 (.ptr 1003 0)) (EvM.g (Ev.t 59 (bS r39)) EvM.nil)) rfl) rfl ⟨rfl, rfl, trivial⟩ ⟨rfl, rfl, trivial⟩ ?_
          refine G.endOps ?_
          refine G.endBlock ?_
          refine G.region ?_
          refine G.op1 (op_add (Ev.t 54 (bI .i64 v33.1)) (Ev.c _ rfl) rfl) rfl ⟨rfl, trivial⟩ trivial ?_
          refine G.op1 (op_move (Ev.t 61 (bI .i64 (IntKind.wrap .i64 (v33.1 + 1)))) rfl) rfl ⟨rfl, trivial⟩ trivial ?_
          refine G.endOps ?_
          exact G.arr (J34 (IntKind.wrap .i64 (v33.1 + 1), r40) hF) ⟨rfl, rfl, rfl, rfl, rfl, rfl, rfl, rfl, trivial⟩ ⟨rfl, rfl, rfl, trivial⟩ rfl
        · refine G.cond rfl (fun hx => Bool.noConfusion (hc37.symm.trans hx)) (fun _ => ?_)
          refine G.exit ?_
          refine GX.c ?_
          refine GX.q ?_
          refine GX.bYes ?_
          exact G.arr (J32 v33.2 hF) ⟨rfl, rfl, rfl, rfl, rfl, trivial⟩ ⟨rfl, rfl, rfl, trivial⟩ rfl
      refine G.block ?_
      refine G.keep (sl' := [(3, .one (.ptr 1003 0)), (5, .one (.ptr 1005 0)), (16, .one (.g (.d (.sl 12 (List.map encApi_Op l_0))))), (17, .one (bI .i64 (l_0.length : Int))), (18, .one (bI .i64 v6.1)), (26, .one (.g (.d (.sl 1 (List.map encI_i64 r16))))), (27, .one (bI .i64 (r16.length : Int))), (28, .one (bI .i64 0))]) (hp' := [(1003, some (.bld 54 5 3003 v6.2)), (1005, some (.blk 30 [bI .i64 x13.Kind, bI .i64 x13.Client, bI .i64 x13.Site, bI .i64 x13.To, bI .i64 x13.At, bI .i64 x13.How, bS x13.Key, bS x13.Value, .g (.d (.sl 1 (List.map encS x13.Keys))), .g (.d (.sl 2 (List.map encApi_Range x13.Row.Ranges))), .g (.d (.sl 1 (List.map encI_i64 x13.Row.Owners))), .g (.d (.sl 1 (List.map encI_i64 x13.Row.Parents)))])), (3003, some (.hid true 1003))]) ⟨rfl, rfl, rfl, rfl, rfl, rfl, rfl, rfl, trivial⟩ ⟨rfl, rfl, rfl, trivial⟩ rfl ?_
      refine G.loopF (fun (v42 : Int × ByteArray) => ⟨[(3, .one (.ptr 1003 0)), (5, .one (.ptr 1005 0)), (16, .one (.g (.d (.sl 12 (List.map encApi_Op l_0))))), (17, .one (bI .i64 (l_0.length : Int))), (18, .one (bI .i64 v6.1)), (26, .one (.g (.d (.sl 1 (List.map encI_i64 r16))))), (27, .one (bI .i64 (r16.length : Int))), (28, .one (bI .i64 v42.1))], [(1003, some (.bld 54 5 3003 v42.2)), (1005, some (.blk 30 [bI .i64 x13.Kind, bI .i64 x13.Client, bI .i64 x13.Site, bI .i64 x13.To, bI .i64 x13.At, bI .i64 x13.How, bS x13.Key, bS x13.Value, .g (.d (.sl 1 (List.map encS x13.Keys))), .g (.d (.sl 2 (List.map encApi_Range x13.Row.Ranges))), .g (.d (.sl 1 (List.map encI_i64 x13.Row.Owners))), .g (.d (.sl 1 (List.map encI_i64 x13.Row.Parents)))])), (3003, some (.hid true 1003))]⟩) hF rfl (fun K45 again44 v42 J43 hF => ?_)
      unfold script_Bytes_l7 at hF
      refine G.seq ?_
      refine G.region ?_
      refine G.op1 (op_lss (Ev.t 28 (bI .i64 v42.1)) (Ev.t 27 (bI .i64 (r16.length : Int))) rfl) rfl ⟨rfl, rfl, trivial⟩ trivial ?_
      refine G.endOps ?_
      refine G.seq ?_
      refine ifS hF (fun hc46 hF => ?_) (fun hc46 hF => ?_)
      · refine G.cond rfl (fun _ => ?_) (fun hx => Bool.noConfusion (hc46.symm.trans hx))
        refine G.skip ?_
        refine G.seq ?_
        refine G.block ?_
        refine G.seq ?_
        refine G.region ?_
        obtain ⟨x47, hx47, hF⟩ := bindS hF
        refine G.op1 (op_index (cs := [.v (.int .i64 x47)]) Tryd.underlying26 ti3 (idx_ok hx47).1 (idx_get hx47 encI_i64) (Ev.t 26 (.g (.d (.sl 1 (List.map encI_i64 r16))))) (Ev.t 28 (bI .i64 v42.1)) rfl) rfl ⟨rfl, rfl, trivial⟩ trivial ?_
        refine G.op1 (op_load1E (c := .v (.int .i64 x47)) Tryd.underlying3 rfl rfl (Ev.t 30 (.ep [.v (.int .i64 x47)])) rfl) rfl ⟨rfl, trivial⟩ trivial ?_
        refine G.op1 (op_assign (Ev.t 31 (bI .i64 x47)) rfl) rfl ⟨rfl, trivial⟩ trivial ?_
        refine G.endOps ?_
        refine G.region ?_
        refine G.op1 (op_move (Ev.t 7 (bI .i64 x47)) rfl) rfl ⟨rfl, trivial⟩ trivial ?_
        refine G.op1 (op_convI Tryd.underlying3 Tryd.underlying97 (Ev.t 32 (bI .i64 x47)) rfl) rfl ⟨rfl, trivial⟩ trivial ?_
        obtain ⟨r48, hr48, hF⟩ := bindS hF
        refine G.op1 (op_callQ (sv := .one (bS r48)) cf59 (ct_vary_Number (IntKind.wrap .u64 x47) r48 hr48) rfl rfl (EvQL.cons (EvQ.g (Ev.t 33 (bI .u64 (IntKind.wrap .u64 x47)))) EvQL.nil) rfl) rfl ⟨rfl, trivial⟩ trivial ?_
        obtain ⟨r49, hr49, hF⟩ := bindS hF
        refine G.opM (op_callM (k := 1003) (h := .bld 54 5 v42.2) (h' := .bld 54 5 r49) 3003 (sv := .tup [bI .i64 (r48.size : Int), .g (.d (.v .nilIface))]) cf19 (ct_bld_WriteString v42.2 r48 r49 hr49) rfl rfl (EvM.pt (Ev.t 3 (.ptr 1003 0)) (EvM.g (Ev.t 34 (bS r48)) EvM.nil)) rfl) rfl ⟨rfl, rfl, trivial⟩ ⟨rfl, rfl, trivial⟩ ?_
        refine G.endOps ?_
        refine G.endBlock ?_
        refine G.region ?_
        refine G.op1 (op_add (Ev.t 28 (bI .i64 v42.1)) (Ev.c _ rfl) rfl) rfl ⟨rfl, trivial⟩ trivial ?_
        refine G.op1 (op_move (Ev.t 36 (bI .i64 (IntKind.wrap .i64 (v42.1 + 1)))) rfl) rfl ⟨rfl, trivial⟩ trivial ?_
        refine G.endOps ?_
        exact G.arr (J43 (IntKind.wrap .i64 (v42.1 + 1), r49) hF) ⟨rfl, rfl, rfl, rfl, rfl, rfl, rfl, rfl, trivial⟩ ⟨rfl, rfl, rfl, trivial⟩ rfl
      · refine G.cond rfl (fun hx => Bool.noConfusion (hc46.symm.trans hx)) (fun _ => ?_)
        refine G.exit ?_
        refine GX.c ?_
        refine GX.q ?_
        refine GX.bYes ?_
        exact G.arr (J41 v42.2 hF) ⟨rfl, rfl, rfl, rfl, rfl, trivial⟩ ⟨rfl, rfl, rfl, trivial⟩ rfl
  · refine G.cond rfl (fun hx => Bool.noConfusion (hc10.symm.trans hx)) (fun _ => ?_)
    refine G.exit ?_
    refine GX.c ?_
    refine GX.q ?_
    refine GX.bYes ?_
    exact G.arr (J5 v6.2 hF) ⟨rfl, trivial⟩ ⟨rfl, rfl, trivial⟩ rfl


set_option maxRecDepth 20000 in
set_option maxHeartbeats 2000000 in
theorem ct_slices_Equal_string (s1_0 : (List ByteArray)) (s2_1 : (List ByteArray)) (r : Bool) (hF : slices_Equal_string s1_0 s2_1 = some r) : Ct Tryd.prog 41 [.g (.d (.sl 1 (List.map encS s1_0))), .g (.d (.sl 1 (List.map encS s2_1)))] (.one (.d (.v (.bool r)))) := by
  unfold slices_Equal_string at hF
  refine Ct.intro Tryd.func41 rfl Tryd.ntmps41 rfl rfl fun M w => ?_
  refine G.seq ?_
  refine G.region ?_
  refine G.op1 (op_assign (Ev.c _ rfl) rfl) rfl trivial trivial ?_
  refine G.endOps ?_
  refine G.seq ?_
  refine G.seq ?_
  refine G.region ?_
  refine G.op1 (op_move (Ev.t 0 (.g (.d (.sl 1 (List.map encS s1_0))))) rfl) rfl ⟨rfl, trivial⟩ trivial ?_
  refine G.op1 (OpL.cast (op_lenD Tryd.underlying24 (Ev.t 6 (.g (.d (.sl 1 (List.map encS s1_0))))) rfl) (by rw [List.length_map])) rfl ⟨rfl, trivial⟩ trivial ?_
  refine G.op1 (op_move (Ev.t 1 (.g (.d (.sl 1 (List.map encS s2_1))))) rfl) rfl ⟨rfl, trivial⟩ trivial ?_
  refine G.op1 (OpL.cast (op_lenD Tryd.underlying24 (Ev.t 8 (.g (.d (.sl 1 (List.map encS s2_1))))) rfl) (by rw [List.length_map])) rfl ⟨rfl, trivial⟩ trivial ?_
  refine G.op1 (op_neI (Ev.t 7 (bI .i64 (s1_0.length : Int))) (Ev.t 9 (bI .i64 (s2_1.length : Int))) rfl) rfl ⟨rfl, rfl, trivial⟩ trivial ?_
  refine G.endOps ?_
  refine ifS hF (fun hc1 hF => ?_) (fun hc1 hF => ?_)
  · refine G.cond rfl (fun _ => ?_) (fun hx => Bool.noConfusion (hc1.symm.trans hx))
    refine G.seq ?_
    refine G.region ?_
    refine G.op1 (op_assign (Ev.c _ rfl) rfl) rfl trivial trivial ?_
    refine G.endOps ?_
    cases hF
    exact G.ret1 Tryd.results41 (RVar.tmp 4 _) ⟨rfl, trivial⟩ trivial
  · refine G.cond rfl (fun hx => Bool.noConfusion (hc1.symm.trans hx)) (fun _ => ?_)
    refine G.skip ?_
    refine G.seq ?_
    refine G.seq ?_
    refine G.region ?_
    refine G.op1 (op_move (Ev.t 0 (.g (.d (.sl 1 (List.map encS s1_0))))) rfl) rfl ⟨rfl, trivial⟩ trivial ?_
    refine G.op1 (OpL.cast (op_lenD Tryd.underlying24 (Ev.t 11 (.g (.d (.sl 1 (List.map encS s1_0))))) rfl) (by rw [List.length_map])) rfl ⟨rfl, trivial⟩ trivial ?_
    refine G.op1 (op_move (Ev.c _ rfl) rfl) rfl trivial trivial ?_
    refine G.endOps ?_
    refine G.joinC (T := Unit) (fun y2 => ⟨[], []⟩) (fun y2 => slices_Equal_string_k1 y2 = some r) (fun y2 hF => ?_) (fun J3 => ?_)
    · unfold slices_Equal_string_k1 at hF
      refine G.seq ?_
      refine G.region ?_
      refine G.op1 (op_assign (Ev.c _ rfl) rfl) rfl trivial trivial ?_
      refine G.endOps ?_
      cases hF
      exact G.ret1 Tryd.results41 (RVar.tmp 4 _) ⟨rfl, trivial⟩ trivial
    refine G.block ?_
    refine G.keep (sl' := [(0, .one (.g (.d (.sl 1 (List.map encS s1_0))))), (1, .one (.g (.d (.sl 1 (List.map encS s2_1))))), (12, .one (bI .i64 (s1_0.length : Int))), (13, .one (bI .i64 0))]) (hp' := []) ⟨rfl, rfl, rfl, rfl, trivial⟩ trivial rfl ?_
    refine G.loopF (fun (v4 : Int) => ⟨[(0, .one (.g (.d (.sl 1 (List.map encS s1_0))))), (1, .one (.g (.d (.sl 1 (List.map encS s2_1))))), (12, .one (bI .i64 (s1_0.length : Int))), (13, .one (bI .i64 v4))], []⟩) hF rfl (fun K7 again6 v4 J5 hF => ?_)
    unfold slices_Equal_string_l2 at hF
    refine G.seq ?_
    refine G.region ?_
    refine G.op1 (op_lss (Ev.t 13 (bI .i64 v4)) (Ev.t 12 (bI .i64 (s1_0.length : Int))) rfl) rfl ⟨rfl, rfl, trivial⟩ trivial ?_
    refine G.endOps ?_
    refine G.seq ?_
    refine ifS hF (fun hc8 hF => ?_) (fun hc8 hF => ?_)
    · refine G.cond rfl (fun _ => ?_) (fun hx => Bool.noConfusion (hc8.symm.trans hx))
      refine G.skip ?_
      refine G.seq ?_
      refine G.block ?_
      refine G.seq ?_
      refine G.region ?_
      refine G.op1 (op_move (Ev.t 13 (bI .i64 v4)) rfl) rfl ⟨rfl, trivial⟩ trivial ?_
      refine G.op1 (op_assign (Ev.t 15 (bI .i64 v4)) rfl) rfl ⟨rfl, trivial⟩ trivial ?_
      refine G.endOps ?_
      refine G.seq ?_
      obtain ⟨x9, hx9, hF⟩ := bindS hF
      obtain ⟨x10, hx10, hF⟩ := bindS hF
      refine G.drawnI (deps := [[], [], [0, 1], [0, 1, 2], [], [], [4, 5], [4, 5, 6], [0, 1, 2, 3, 4, 5, 6, 7]]) (sl' := [(0, .one (.g (.d (.sl 1 (List.map encS s1_0))))), (1, .one (.g (.d (.sl 1 (List.map encS s2_1))))), (12, .one (bI .i64 (s1_0.length : Int))), (13, .one (bI .i64 v4)), (24, .one (bB (!seq x9 x10)))]) (hp' := []) (.c (oP rfl rfl (op_move (Ev.t 0 (.g (.d (.sl 1 (List.map encS s1_0))))) rfl)) (.c (oP rfl rfl (op_move (Ev.t 5 (bI .i64 v4)) rfl)) (.c (oP rfl rfl (op_index (cs := [.v (.string x9)]) Tryd.underlying24 ti9 (idx_ok hx9).1 (idx_get hx9 encS) (Ev.t 16 (.g (.d (.sl 1 (List.map encS s1_0))))) (Ev.t 17 (bI .i64 v4)) rfl)) (.c (oP rfl rfl (op_load1E (c := .v (.string x9)) Tryd.underlying9 rfl rfl (Ev.t 18 (.ep [.v (.string x9)])) rfl)) (.c (oP rfl rfl (op_move (Ev.t 1 (.g (.d (.sl 1 (List.map encS s2_1))))) rfl)) (.c (oP rfl rfl (op_move (Ev.t 5 (bI .i64 v4)) rfl)) (.c (oP rfl rfl (op_index (cs := [.v (.string x10)]) Tryd.underlying24 ti9 (idx_ok hx10).1 (idx_get hx10 encS) (Ev.t 20 (.g (.d (.sl 1 (List.map encS s2_1))))) (Ev.t 21 (bI .i64 v4)) rfl)) (.c (oP rfl rfl (op_load1E (c := .v (.string x10)) Tryd.underlying9 rfl rfl (Ev.t 22 (.ep [.v (.string x10)])) rfl)) (.c (oP rfl rfl (op_neS (Ev.t 19 (bS x9)) (Ev.t 23 (bS x10)) rfl)) .nil))))))))) follows rfl rfl rfl ⟨⟨rfl, trivial⟩, trivial, ⟨rfl, trivial⟩, trivial, ⟨rfl, rfl, trivial⟩, trivial, ⟨rfl, trivial⟩, trivial, ⟨rfl, trivial⟩, trivial, ⟨rfl, trivial⟩, trivial, ⟨rfl, rfl, trivial⟩, trivial, ⟨rfl, trivial⟩, trivial, ⟨rfl, rfl, trivial⟩, trivial, trivial⟩ ⟨rfl, rfl, rfl, rfl, rfl, trivial⟩ trivial rfl ?_
      refine ifS hF (fun hc11 hF => ?_) (fun hc11 hF => ?_)
      · refine G.cond rfl (fun _ => ?_) (fun hx => Bool.noConfusion (hc11.symm.trans hx))
        refine G.seq ?_
        refine G.region ?_
        refine G.op1 (op_assign (Ev.c _ rfl) rfl) rfl trivial trivial ?_
        refine G.endOps ?_
        cases hF
        exact G.ret1 Tryd.results41 (RVar.tmp 4 _) ⟨rfl, trivial⟩ trivial
      · refine G.cond rfl (fun hx => Bool.noConfusion (hc11.symm.trans hx)) (fun _ => ?_)
        refine G.skip ?_
        refine G.endBlock ?_
        refine G.region ?_
        refine G.op1 (op_add (Ev.t 13 (bI .i64 v4)) (Ev.c _ rfl) rfl) rfl ⟨rfl, trivial⟩ trivial ?_
        refine G.op1 (op_move (Ev.t 25 (bI .i64 (IntKind.wrap .i64 (v4 + 1)))) rfl) rfl ⟨rfl, trivial⟩ trivial ?_
        refine G.endOps ?_
        exact G.arr (J5 (IntKind.wrap .i64 (v4 + 1)) hF) ⟨rfl, rfl, rfl, rfl, trivial⟩ trivial rfl
    · refine G.cond rfl (fun hx => Bool.noConfusion (hc8.symm.trans hx)) (fun _ => ?_)
      refine G.exit ?_
      refine GX.c ?_
      refine GX.q ?_
      refine GX.bYes ?_
      exact G.arr (J3 () hF) trivial trivial rfl


set_option maxRecDepth 20000 in
set_option maxHeartbeats 2000000 in
theorem ct_words_same (a_0 : Api_Op) (b_1 : Api_Op) (r : Bool) (hF : words_same a_0 b_1 = some r) : Ct Tryd.prog 18 [.g (.agg (encApi_Op a_0)), .g (.agg (encApi_Op b_1))] (.one (.d (.v (.bool r)))) := by
  unfold words_same at hF
  refine Ct.intro Tryd.func18 rfl Tryd.ntmps18 rfl rfl fun M w => ?_
  refine G.seq ?_
  refine G.region ?_
  refine G.op2 (op_boxA (k := 1002) (Ev.t 0 (.g (.agg [.v (.int .i64 a_0.Kind), .v (.int .i64 a_0.Client), .v (.int .i64 a_0.Site), .v (.int .i64 a_0.To), .v (.int .i64 a_0.At), .v (.int .i64 a_0.How), .v (.string a_0.Key), .v (.string a_0.Value), .sl 1 (List.map encS a_0.Keys), .sl 2 (List.map encApi_Range a_0.Row.Ranges), .sl 1 (List.map encI_i64 a_0.Row.Owners), .sl 1 (List.map encI_i64 a_0.Row.Parents)]))) rfl) rfl ⟨rfl, trivial⟩ ⟨rfl, trivial⟩ ?_
  refine G.op2 (op_boxA (k := 1003) (Ev.t 1 (.g (.agg [.v (.int .i64 b_1.Kind), .v (.int .i64 b_1.Client), .v (.int .i64 b_1.Site), .v (.int .i64 b_1.To), .v (.int .i64 b_1.At), .v (.int .i64 b_1.How), .v (.string b_1.Key), .v (.string b_1.Value), .sl 1 (List.map encS b_1.Keys), .sl 2 (List.map encApi_Range b_1.Row.Ranges), .sl 1 (List.map encI_i64 b_1.Row.Owners), .sl 1 (List.map encI_i64 b_1.Row.Parents)]))) rfl) rfl ⟨rfl, trivial⟩ ⟨rfl, trivial⟩ ?_
  refine G.op1 (op_assign (Ev.c _ rfl) rfl) rfl trivial trivial ?_
  refine G.endOps ?_
  refine G.seq ?_
  obtain ⟨r1, hr1, hF⟩ := bindS hF
  obtain ⟨r2, hr2, hF⟩ := bindS hF
  refine ifS hF (fun hc3 hF => ?_) (fun hc3 hF => ?_)
  · obtain ⟨r4, hr4, hF⟩ := bindS hF
    refine G.drawnI (deps := [[], [0], [0, 1], [], [3], [0, 1, 2, 3, 4], [0, 1, 2, 3, 4, 5], [0, 1, 2, 3, 4, 5, 6], [0, 1, 2, 3, 4, 5, 6, 7], [0, 1, 2, 3, 4, 5, 6, 7, 8], [0, 1, 2, 3, 4, 5, 6, 7], [0, 1, 2, 3, 4, 5, 6, 7, 10], [0, 1, 2, 3, 4, 5, 6, 7, 8, 9, 10, 11], [0, 1, 2, 3, 4, 5, 6, 7, 8, 9, 10, 11, 12], [0, 1, 2, 3, 4, 5, 6, 7, 8, 9, 10, 11, 12, 13]]) (sl' := [(4, .one (bB r4))]) (hp' := []) (.c (oP rfl rfl (op_loadAP (ds := [.v (.int .i64 a_0.Kind), .v (.int .i64 a_0.Client), .v (.int .i64 a_0.Site), .v (.int .i64 a_0.To), .v (.int .i64 a_0.At), .v (.int .i64 a_0.How), .v (.string a_0.Key), .v (.string a_0.Value), .sl 1 (List.map encS a_0.Keys), .sl 2 (List.map encApi_Range a_0.Row.Ranges), .sl 1 (List.map encI_i64 a_0.Row.Owners), .sl 1 (List.map encI_i64 a_0.Row.Parents)]) Tryd.underlying30 rfl ti30 rfl (Ev.t 2 (.ptr 1002 0)) rfl)) (.c (oP rfl rfl (op_buildSlice (es := List.map encApi_Op [a_0]) Tryd.underlying22 ti30 rfl rfl (EvP.cons (Ev.t 5 (.g (.agg [.v (.int .i64 a_0.Kind), .v (.int .i64 a_0.Client), .v (.int .i64 a_0.Site), .v (.int .i64 a_0.To), .v (.int .i64 a_0.At), .v (.int .i64 a_0.How), .v (.string a_0.Key), .v (.string a_0.Value), .sl 1 (List.map encS a_0.Keys), .sl 2 (List.map encApi_Range a_0.Row.Ranges), .sl 1 (List.map encI_i64 a_0.Row.Owners), .sl 1 (List.map encI_i64 a_0.Row.Parents)]))) EvP.nil) rfl rfl (by simp [encApi_Op]) rfl)) (.c (oP rfl rfl (op_callQ (sv := .one (bS r1)) cf40 (ct_script_Bytes ([a_0]) r1 hr1) rfl rfl (EvQL.cons (EvQ.g (Ev.t 6 (.g (.d (.sl 12 (List.map encApi_Op ([a_0]))))))) EvQL.nil) rfl)) (.c (oP rfl rfl (op_loadAP (ds := [.v (.int .i64 b_1.Kind), .v (.int .i64 b_1.Client), .v (.int .i64 b_1.Site), .v (.int .i64 b_1.To), .v (.int .i64 b_1.At), .v (.int .i64 b_1.How), .v (.string b_1.Key), .v (.string b_1.Value), .sl 1 (List.map encS b_1.Keys), .sl 2 (List.map encApi_Range b_1.Row.Ranges), .sl 1 (List.map encI_i64 b_1.Row.Owners), .sl 1 (List.map encI_i64 b_1.Row.Parents)]) Tryd.underlying30 rfl ti30 rfl (Ev.t 3 (.ptr 1003 0)) rfl)) (.c (oP rfl rfl (op_buildSlice (es := List.map encApi_Op [b_1]) Tryd.underlying22 ti30 rfl rfl (EvP.cons (Ev.t 8 (.g (.agg [.v (.int .i64 b_1.Kind), .v (.int .i64 b_1.Client), .v (.int .i64 b_1.Site), .v (.int .i64 b_1.To), .v (.int .i64 b_1.At), .v (.int .i64 b_1.How), .v (.string b_1.Key), .v (.string b_1.Value), .sl 1 (List.map encS b_1.Keys), .sl 2 (List.map encApi_Range b_1.Row.Ranges), .sl 1 (List.map encI_i64 b_1.Row.Owners), .sl 1 (List.map encI_i64 b_1.Row.Parents)]))) EvP.nil) rfl rfl (by simp [encApi_Op]) rfl)) (.c (oP rfl rfl (op_callQ (sv := .one (bS r2)) cf40 (ct_script_Bytes ([b_1]) r2 hr2) rfl rfl (EvQL.cons (EvQ.g (Ev.t 9 (.g (.d (.sl 12 (List.map encApi_Op ([b_1]))))))) EvQL.nil) rfl)) (.c (oP rfl rfl (OpL.cast (op_eqS (Ev.t 7 (bS r1)) (Ev.t 10 (bS r2)) rfl) (congrArg (fun b => bB b) hc3))) (.c (oP rfl rfl (op_move (Ev.t 11 (bB true)) rfl)) (.c (oY rfl rfl rfl (op_fieldP (off' := 8) Tryd.underlying30 rfl ti24 (by decide) rfl (Ev.t 2 (.ptr 1002 0)) rfl)) (.c (oY rfl rfl rfl (op_load1P (c := .g (.d (.sl 1 (List.map encS a_0.Keys)))) Tryd.underlying24 rfl rfl (Ev.t 13 (.ptr 1002 8)) rfl)) (.c (oY rfl rfl rfl (op_fieldP (off' := 8) Tryd.underlying30 rfl ti24 (by decide) rfl (Ev.t 3 (.ptr 1003 0)) rfl)) (.c (oY rfl rfl rfl (op_load1P (c := .g (.d (.sl 1 (List.map encS b_1.Keys)))) Tryd.underlying24 rfl rfl (Ev.t 15 (.ptr 1003 8)) rfl)) (.c (oY rfl rfl rfl (op_callQ (sv := .one (bB r4)) cf41 (ct_slices_Equal_string a_0.Keys b_1.Keys r4 hr4) rfl rfl (EvQL.cons (EvQ.g (Ev.t 14 (.g (.d (.sl 1 (List.map encS a_0.Keys)))))) (EvQL.cons (EvQ.g (Ev.t 16 (.g (.d (.sl 1 (List.map encS b_1.Keys)))))) EvQL.nil)) rfl)) (.c (oP rfl rfl (op_pickT (Ev.t 12 (bB true)) (Ev.t 17 (bB r4)) rfl)) (.c (oP rfl rfl (op_assign (Ev.t 18 (bB r4)) rfl)) .nil))))))))))))))) follows rfl rfl rfl ⟨⟨rfl, trivial⟩, ⟨⟨rfl, rfl⟩, trivial⟩, ⟨rfl, trivial⟩, trivial, ⟨rfl, trivial⟩, trivial, ⟨rfl, trivial⟩, ⟨⟨rfl, rfl⟩, trivial⟩, ⟨rfl, trivial⟩, trivial, ⟨rfl, trivial⟩, trivial, ⟨rfl, rfl, trivial⟩, trivial, ⟨rfl, trivial⟩, trivial, ⟨rfl, rfl, trivial⟩, trivial, ⟨rfl, rfl, trivial⟩, ⟨⟨rfl, rfl⟩, trivial⟩, ⟨rfl, rfl, trivial⟩, trivial, ⟨rfl, rfl, trivial⟩, ⟨⟨rfl, rfl⟩, trivial⟩, ⟨rfl, rfl, rfl, trivial⟩, trivial, ⟨rfl, rfl, trivial⟩, trivial, ⟨rfl, trivial⟩, trivial, trivial⟩ ⟨rfl, trivial⟩ trivial rfl ?_
    cases hF
    exact G.ret1 Tryd.results18 (RVar.tmp 4 _) ⟨rfl, trivial⟩ trivial
  · refine G.drawnI (deps := [[], [0], [0, 1], [], [3], [0, 1, 2, 3, 4], [0, 1, 2, 3, 4, 5], [0, 1, 2, 3, 4, 5, 6], [0, 1, 2, 3, 4, 5, 6, 7], [0, 1, 2, 3, 4, 5, 6, 7, 8], [0, 1, 2, 3, 4, 5, 6, 7], [0, 1, 2, 3, 4, 5, 6, 7, 10], [0, 1, 2, 3, 4, 5, 6, 7, 8, 9, 10, 11], [0, 1, 2, 3, 4, 5, 6, 7, 8, 9, 10, 11, 12], [0, 1, 2, 3, 4, 5, 6, 7, 8, 9, 10, 11, 12, 13]]) (sl' := [(4, .one (bB false))]) (hp' := []) (.c (oP rfl rfl (op_loadAP (ds := [.v (.int .i64 a_0.Kind), .v (.int .i64 a_0.Client), .v (.int .i64 a_0.Site), .v (.int .i64 a_0.To), .v (.int .i64 a_0.At), .v (.int .i64 a_0.How), .v (.string a_0.Key), .v (.string a_0.Value), .sl 1 (List.map encS a_0.Keys), .sl 2 (List.map encApi_Range a_0.Row.Ranges), .sl 1 (List.map encI_i64 a_0.Row.Owners), .sl 1 (List.map encI_i64 a_0.Row.Parents)]) Tryd.underlying30 rfl ti30 rfl (Ev.t 2 (.ptr 1002 0)) rfl)) (.c (oP rfl rfl (op_buildSlice (es := List.map encApi_Op [a_0]) Tryd.underlying22 ti30 rfl rfl (EvP.cons (Ev.t 5 (.g (.agg [.v (.int .i64 a_0.Kind), .v (.int .i64 a_0.Client), .v (.int .i64 a_0.Site), .v (.int .i64 a_0.To), .v (.int .i64 a_0.At), .v (.int .i64 a_0.How), .v (.string a_0.Key), .v (.string a_0.Value), .sl 1 (List.map encS a_0.Keys), .sl 2 (List.map encApi_Range a_0.Row.Ranges), .sl 1 (List.map encI_i64 a_0.Row.Owners), .sl 1 (List.map encI_i64 a_0.Row.Parents)]))) EvP.nil) rfl rfl (by simp [encApi_Op]) rfl)) (.c (oP rfl rfl (op_callQ (sv := .one (bS r1)) cf40 (ct_script_Bytes ([a_0]) r1 hr1) rfl rfl (EvQL.cons (EvQ.g (Ev.t 6 (.g (.d (.sl 12 (List.map encApi_Op ([a_0]))))))) EvQL.nil) rfl)) (.c (oP rfl rfl (op_loadAP (ds := [.v (.int .i64 b_1.Kind), .v (.int .i64 b_1.Client), .v (.int .i64 b_1.Site), .v (.int .i64 b_1.To), .v (.int .i64 b_1.At), .v (.int .i64 b_1.How), .v (.string b_1.Key), .v (.string b_1.Value), .sl 1 (List.map encS b_1.Keys), .sl 2 (List.map encApi_Range b_1.Row.Ranges), .sl 1 (List.map encI_i64 b_1.Row.Owners), .sl 1 (List.map encI_i64 b_1.Row.Parents)]) Tryd.underlying30 rfl ti30 rfl (Ev.t 3 (.ptr 1003 0)) rfl)) (.c (oP rfl rfl (op_buildSlice (es := List.map encApi_Op [b_1]) Tryd.underlying22 ti30 rfl rfl (EvP.cons (Ev.t 8 (.g (.agg [.v (.int .i64 b_1.Kind), .v (.int .i64 b_1.Client), .v (.int .i64 b_1.Site), .v (.int .i64 b_1.To), .v (.int .i64 b_1.At), .v (.int .i64 b_1.How), .v (.string b_1.Key), .v (.string b_1.Value), .sl 1 (List.map encS b_1.Keys), .sl 2 (List.map encApi_Range b_1.Row.Ranges), .sl 1 (List.map encI_i64 b_1.Row.Owners), .sl 1 (List.map encI_i64 b_1.Row.Parents)]))) EvP.nil) rfl rfl (by simp [encApi_Op]) rfl)) (.c (oP rfl rfl (op_callQ (sv := .one (bS r2)) cf40 (ct_script_Bytes ([b_1]) r2 hr2) rfl rfl (EvQL.cons (EvQ.g (Ev.t 9 (.g (.d (.sl 12 (List.map encApi_Op ([b_1]))))))) EvQL.nil) rfl)) (.c (oP rfl rfl (OpL.cast (op_eqS (Ev.t 7 (bS r1)) (Ev.t 10 (bS r2)) rfl) (congrArg (fun b => bB b) hc3))) (.c (oP rfl rfl (op_move (Ev.t 11 (bB false)) rfl)) (.c (OpW.no rfl rfl rfl rfl rfl) (.c (OpW.no rfl rfl rfl rfl rfl) (.c (OpW.no rfl rfl rfl rfl rfl) (.c (OpW.no rfl rfl rfl rfl rfl) (.c (OpW.no rfl rfl rfl rfl rfl) (.c (oP rfl rfl (op_pickF (Ev.t 12 (bB false)) (Ev.c _ rfl) rfl)) (.c (oP rfl rfl (op_assign (Ev.t 18 (bB false)) rfl)) .nil))))))))))))))) follows rfl rfl rfl ⟨⟨rfl, trivial⟩, ⟨⟨rfl, rfl⟩, trivial⟩, ⟨rfl, trivial⟩, trivial, ⟨rfl, trivial⟩, trivial, ⟨rfl, trivial⟩, ⟨⟨rfl, rfl⟩, trivial⟩, ⟨rfl, trivial⟩, trivial, ⟨rfl, trivial⟩, trivial, ⟨rfl, rfl, trivial⟩, trivial, ⟨rfl, trivial⟩, trivial, ⟨rfl, trivial⟩, trivial, ⟨rfl, trivial⟩, trivial, ⟨rfl, trivial⟩, trivial, ⟨rfl, trivial⟩, trivial, ⟨rfl, trivial⟩, trivial, ⟨rfl, trivial⟩, trivial, ⟨rfl, trivial⟩, trivial, trivial⟩ ⟨rfl, trivial⟩ trivial rfl ?_
    cases hF
    exact G.ret1 Tryd.results18 (RVar.tmp 4 _) ⟨rfl, trivial⟩ trivial


set_option maxRecDepth 20000 in
set_option maxHeartbeats 2000000 in
theorem ct_words_Check (o_0 : Api_Op) (r : Bool) (hF : words_Check o_0 = some r) : CtG Tryd.prog Γ0 9 [.g (.agg (encApi_Op o_0))] (.one (.d (.v (.bool r)))) := by
  unfold words_Check at hF
  refine CtG.intro (GL.ok _ _ _) Tryd.func9 rfl Tryd.ntmps9 rfl rfl fun M w hG => ?_
  refine G.seq ?_
  refine G.region ?_
  refine G.op2 (op_boxA (k := 1001) (Ev.t 0 (.g (.agg [.v (.int .i64 o_0.Kind), .v (.int .i64 o_0.Client), .v (.int .i64 o_0.Site), .v (.int .i64 o_0.To), .v (.int .i64 o_0.At), .v (.int .i64 o_0.How), .v (.string o_0.Key), .v (.string o_0.Value), .sl 1 (List.map encS o_0.Keys), .sl 2 (List.map encApi_Range o_0.Row.Ranges), .sl 1 (List.map encI_i64 o_0.Row.Owners), .sl 1 (List.map encI_i64 o_0.Row.Parents)]))) rfl) rfl ⟨rfl, trivial⟩ ⟨rfl, trivial⟩ ?_
  refine G.op1 (op_assign (Ev.c _ rfl) rfl) rfl trivial trivial ?_
  refine G.endOps ?_
  refine G.seq ?_
  refine G.region ?_
  refine G.op1 (op_fieldP (off' := 9) Tryd.underlying30 rfl ti28 (by decide) rfl (Ev.t 1 (.ptr 1001 0)) rfl) rfl ⟨rfl, trivial⟩ trivial ?_
  refine G.op1 (op_fieldP (off' := 9) Tryd.underlying28 rfl ti25 (by decide) rfl (Ev.t 6 (.ptr 1001 9)) rfl) rfl ⟨rfl, trivial⟩ trivial ?_
  refine G.op1 (op_load1P (c := .g (.d (.sl 2 (List.map encApi_Range o_0.Row.Ranges)))) Tryd.underlying25 rfl rfl (Ev.t 7 (.ptr 1001 9)) rfl) rfl ⟨rfl, trivial⟩ ⟨rfl, trivial⟩ ?_
  refine G.op1 (OpL.cast (op_lenD Tryd.underlying25 (Ev.t 8 (.g (.d (.sl 2 (List.map encApi_Range o_0.Row.Ranges))))) rfl) (by rw [List.length_map])) rfl ⟨rfl, trivial⟩ trivial ?_
  refine G.op1 (op_eqI (Ev.t 9 (bI .i64 (o_0.Row.Ranges.length : Int))) (Ev.c _ rfl) rfl) rfl ⟨rfl, trivial⟩ trivial ?_
  refine G.op1 (op_assign (Ev.t 10 (bB (decide ((o_0.Row.Ranges.length : Int) = 0)))) rfl) rfl ⟨rfl, trivial⟩ trivial ?_
  refine G.endOps ?_
  refine G.seq ?_
  refine G.seq ?_
  refine G.joinC (T := Bool) (fun y1 => ⟨[(1, .one (.ptr 1001 0)), (20, .one (bB y1))], [(1001, some (.blk 30 [bI .i64 o_0.Kind, bI .i64 o_0.Client, bI .i64 o_0.Site, bI .i64 o_0.To, bI .i64 o_0.At, bI .i64 o_0.How, bS o_0.Key, bS o_0.Value, .g (.d (.sl 1 (List.map encS o_0.Keys))), .g (.d (.sl 2 (List.map encApi_Range o_0.Row.Ranges))), .g (.d (.sl 1 (List.map encI_i64 o_0.Row.Owners))), .g (.d (.sl 1 (List.map encI_i64 o_0.Row.Parents)))]))]⟩) (fun y1 => words_Check_k1 o_0 y1 = some r) (fun y1 hF => ?_) (fun J9 => ?_)
  · unfold words_Check_k1 at hF
    refine ifS hF (fun hc2 hF => ?_) (fun hc2 hF => ?_)
    · refine G.cond rfl (fun _ => ?_) (fun hx => Bool.noConfusion (hc2.symm.trans hx))
      refine G.seq ?_
      refine G.region ?_
      refine G.op1 (op_assign (Ev.c _ rfl) rfl) rfl trivial trivial ?_
      refine G.endOps ?_
      cases hF
      exact G.ret1 Tryd.results9 (RVar.tmp 2 _) ⟨rfl, trivial⟩ trivial
    · refine G.cond rfl (fun hx => Bool.noConfusion (hc2.symm.trans hx)) (fun _ => ?_)
      refine G.skip ?_
      refine G.seq ?_
      refine G.region ?_
      refine G.op1 (op_loadAP (ds := [.v (.int .i64 o_0.Kind), .v (.int .i64 o_0.Client), .v (.int .i64 o_0.Site), .v (.int .i64 o_0.To), .v (.int .i64 o_0.At), .v (.int .i64 o_0.How), .v (.string o_0.Key), .v (.string o_0.Value), .sl 1 (List.map encS o_0.Keys), .sl 2 (List.map encApi_Range o_0.Row.Ranges), .sl 1 (List.map encI_i64 o_0.Row.Owners), .sl 1 (List.map encI_i64 o_0.Row.Parents)]) Tryd.underlying30 rfl ti30 rfl (Ev.t 1 (.ptr 1001 0)) rfl) rfl ⟨rfl, trivial⟩ ⟨rfl, trivial⟩ ?_
      obtain ⟨r3, hr3, hF⟩ := bindS hF
      refine G.op1 (op_callQ (sv := .one (bS r3)) cf17 (ct_words_line o_0 r3 hr3) rfl rfl (EvQL.cons (EvQ.g (Ev.t 22 (.g (.agg [.v (.int .i64 o_0.Kind), .v (.int .i64 o_0.Client), .v (.int .i64 o_0.Site), .v (.int .i64 o_0.To), .v (.int .i64 o_0.At), .v (.int .i64 o_0.How), .v (.string o_0.Key), .v (.string o_0.Value), .sl 1 (List.map encS o_0.Keys), .sl 2 (List.map encApi_Range o_0.Row.Ranges), .sl 1 (List.map encI_i64 o_0.Row.Owners), .sl 1 (List.map encI_i64 o_0.Row.Parents)])))) EvQL.nil) rfl) rfl ⟨rfl, trivial⟩ trivial ?_
      obtain ⟨r4, hr4, hF⟩ := bindS hF
      refine G.op1 (op_callG (sv := .tup [.g (.d (.sl 12 (List.map encApi_Op r4.1))), bI .i64 r4.2]) hG cf11 (ct_words_Parse r3 r4 hr4) rfl (EvL.cons (Ev.t 23 (bS r3)) EvL.nil) rfl) rfl ⟨rfl, trivial⟩ trivial ?_
      refine G.op1 (op_moveS (t := 24) (sv := .tup [.g (.d (.sl 12 (List.map encApi_Op r4.1))), bI .i64 r4.2]) rfl) rfl ⟨rfl, trivial⟩ trivial ?_
      refine G.op1 (op_extract (l := [.g (.d (.sl 12 (List.map encApi_Op r4.1))), bI .i64 r4.2]) (c := .g (.d (.sl 12 (List.map encApi_Op r4.1)))) rfl rfl) rfl ⟨rfl, trivial⟩ trivial ?_
      refine G.op1 (op_extract (l := [.g (.d (.sl 12 (List.map encApi_Op r4.1))), bI .i64 r4.2]) (c := bI .i64 r4.2) rfl rfl) rfl ⟨rfl, trivial⟩ trivial ?_
      refine G.op1 (op_assign (Ev.t 25 (.g (.d (.sl 12 (List.map encApi_Op r4.1))))) rfl) rfl ⟨rfl, trivial⟩ trivial ?_
      refine G.op1 (op_assign (Ev.t 26 (bI .i64 r4.2)) rfl) rfl ⟨rfl, trivial⟩ trivial ?_
      refine G.endOps ?_
      refine G.seq ?_
      refine ifS hF (fun hc5 hF => ?_) (fun hc5 hF => ?_)
      · refine ifS hF (fun hc6 hF => ?_) (fun hc6 hF => ?_)
        · obtain ⟨x7, hx7, hF⟩ := bindS hF
          obtain ⟨r8, hr8, hF⟩ := bindS hF
          refine G.drawnI (deps := [[], [0], [0, 1], [0, 1, 2], [0, 1, 2, 3], [0, 1, 2, 3, 4], [0, 1, 2, 3, 4, 5], [0, 1, 2, 3, 4, 5, 6], [0, 1, 2, 3, 4, 5, 6, 7], [0, 1, 2, 3, 4, 5, 6, 7, 8], [0, 1, 2, 3, 4, 5, 6, 7, 8, 9], [0, 1, 2, 3, 4, 5, 6, 7], [0, 1, 2, 3, 4, 5, 6, 7, 8, 9, 10, 11], [0, 1, 2, 3, 4, 5, 6, 7, 8, 9, 10, 11, 12], [0, 1, 2, 3, 4, 5, 6, 7, 8, 9, 10, 11, 12, 13]]) (sl' := [(2, .one (bB r8))]) (hp' := []) (.c (oP rfl rfl (op_move (Ev.t 5 (bI .i64 r4.2)) rfl)) (.c (oP rfl rfl (OpL.cast (op_eqI (Ev.t 27 (bI .i64 r4.2)) (Ev.c _ rfl) rfl) (congrArg (fun b => bB b) hc5))) (.c (oP rfl rfl (op_move (Ev.t 28 (bB true)) rfl)) (.c (oY rfl rfl rfl (op_move (Ev.t 4 (.g (.d (.sl 12 (List.map encApi_Op r4.1))))) rfl)) (.c (oY rfl rfl rfl (OpL.cast (op_lenD Tryd.underlying22 (Ev.t 30 (.g (.d (.sl 12 (List.map encApi_Op r4.1))))) rfl) (by rw [List.length_map]))) (.c (oY rfl rfl rfl (OpL.cast (op_eqI (Ev.t 31 (bI .i64 (r4.1.length : Int))) (Ev.c _ rfl) rfl) (congrArg (fun b => bB b) hc6))) (.c (oP rfl rfl (op_pickT (Ev.t 29 (bB true)) (Ev.t 32 (bB true)) rfl)) (.c (oP rfl rfl (op_move (Ev.t 33 (bB true)) rfl)) (.c (oY rfl rfl rfl (op_move (Ev.t 4 (.g (.d (.sl 12 (List.map encApi_Op r4.1))))) rfl)) (.c (oY rfl rfl rfl (op_index (cs := [.v (.int .i64 x7.Kind), .v (.int .i64 x7.Client), .v (.int .i64 x7.Site), .v (.int .i64 x7.To), .v (.int .i64 x7.At), .v (.int .i64 x7.How), .v (.string x7.Key), .v (.string x7.Value), .sl 1 (List.map encS x7.Keys), .sl 2 (List.map encApi_Range x7.Row.Ranges), .sl 1 (List.map encI_i64 x7.Row.Owners), .sl 1 (List.map encI_i64 x7.Row.Parents)]) Tryd.underlying22 ti30 (idx_ok hx7).1 (idx_get hx7 encApi_Op) (Ev.t 35 (.g (.d (.sl 12 (List.map encApi_Op r4.1))))) (Ev.c _ rfl) rfl)) (.c (oY rfl rfl rfl (op_loadAE (ds := [.v (.int .i64 x7.Kind), .v (.int .i64 x7.Client), .v (.int .i64 x7.Site), .v (.int .i64 x7.To), .v (.int .i64 x7.At), .v (.int .i64 x7.How), .v (.string x7.Key), .v (.string x7.Value), .sl 1 (List.map encS x7.Keys), .sl 2 (List.map encApi_Range x7.Row.Ranges), .sl 1 (List.map encI_i64 x7.Row.Owners), .sl 1 (List.map encI_i64 x7.Row.Parents)]) Tryd.underlying30 rfl ti30 rfl (Ev.t 36 (.ep [.v (.int .i64 x7.Kind), .v (.int .i64 x7.Client), .v (.int .i64 x7.Site), .v (.int .i64 x7.To), .v (.int .i64 x7.At), .v (.int .i64 x7.How), .v (.string x7.Key), .v (.string x7.Value), .sl 1 (List.map encS x7.Keys), .sl 2 (List.map encApi_Range x7.Row.Ranges), .sl 1 (List.map encI_i64 x7.Row.Owners), .sl 1 (List.map encI_i64 x7.Row.Parents)])) rfl)) (.c (oY rfl rfl rfl (op_loadAP (ds := [.v (.int .i64 o_0.Kind), .v (.int .i64 o_0.Client), .v (.int .i64 o_0.Site), .v (.int .i64 o_0.To), .v (.int .i64 o_0.At), .v (.int .i64 o_0.How), .v (.string o_0.Key), .v (.string o_0.Value), .sl 1 (List.map encS o_0.Keys), .sl 2 (List.map encApi_Range o_0.Row.Ranges), .sl 1 (List.map encI_i64 o_0.Row.Owners), .sl 1 (List.map encI_i64 o_0.Row.Parents)]) Tryd.underlying30 rfl ti30 rfl (Ev.t 1 (.ptr 1001 0)) rfl)) (.c (oY rfl rfl rfl (op_callQ (sv := .one (bB r8)) cf18 (ct_words_same x7 o_0 r8 hr8) rfl rfl (EvQL.cons (EvQ.g (Ev.t 37 (.g (.agg [.v (.int .i64 x7.Kind), .v (.int .i64 x7.Client), .v (.int .i64 x7.Site), .v (.int .i64 x7.To), .v (.int .i64 x7.At), .v (.int .i64 x7.How), .v (.string x7.Key), .v (.string x7.Value), .sl 1 (List.map encS x7.Keys), .sl 2 (List.map encApi_Range x7.Row.Ranges), .sl 1 (List.map encI_i64 x7.Row.Owners), .sl 1 (List.map encI_i64 x7.Row.Parents)])))) (EvQL.cons (EvQ.g (Ev.t 38 (.g (.agg [.v (.int .i64 o_0.Kind), .v (.int .i64 o_0.Client), .v (.int .i64 o_0.Site), .v (.int .i64 o_0.To), .v (.int .i64 o_0.At), .v (.int .i64 o_0.How), .v (.string o_0.Key), .v (.string o_0.Value), .sl 1 (List.map encS o_0.Keys), .sl 2 (List.map encApi_Range o_0.Row.Ranges), .sl 1 (List.map encI_i64 o_0.Row.Owners), .sl 1 (List.map encI_i64 o_0.Row.Parents)])))) EvQL.nil)) rfl)) (.c (oP rfl rfl (op_pickT (Ev.t 34 (bB true)) (Ev.t 39 (bB r8)) rfl)) (.c (oP rfl rfl (op_assign (Ev.t 40 (bB r8)) rfl)) .nil))))))))))))))) follows rfl rfl rfl ⟨⟨rfl, trivial⟩, trivial, ⟨rfl, trivial⟩, trivial, ⟨rfl, trivial⟩, trivial, ⟨rfl, rfl, trivial⟩, trivial, ⟨rfl, rfl, trivial⟩, trivial, ⟨rfl, rfl, trivial⟩, trivial, ⟨rfl, rfl, trivial⟩, trivial, ⟨rfl, trivial⟩, trivial, ⟨rfl, rfl, trivial⟩, trivial, ⟨rfl, rfl, trivial⟩, trivial, ⟨rfl, rfl, trivial⟩, trivial, ⟨rfl, rfl, trivial⟩, ⟨⟨rfl, rfl⟩, trivial⟩, ⟨rfl, rfl, rfl, trivial⟩, trivial, ⟨rfl, rfl, trivial⟩, trivial, ⟨rfl, trivial⟩, trivial, trivial⟩ ⟨rfl, trivial⟩ trivial rfl ?_
          cases hF
          exact G.ret1 Tryd.results9 (RVar.tmp 2 _) ⟨rfl, trivial⟩ trivial
        · refine G.drawnI (deps := [[], [0], [0, 1], [0, 1, 2], [0, 1, 2, 3], [0, 1, 2, 3, 4], [0, 1, 2, 3, 4, 5], [0, 1, 2, 3, 4, 5, 6], [0, 1, 2, 3, 4, 5, 6, 7], [0, 1, 2, 3, 4, 5, 6, 7, 8], [0, 1, 2, 3, 4, 5, 6, 7, 8, 9], [0, 1, 2, 3, 4, 5, 6, 7], [0, 1, 2, 3, 4, 5, 6, 7, 8, 9, 10, 11], [0, 1, 2, 3, 4, 5, 6, 7, 8, 9, 10, 11, 12], [0, 1, 2, 3, 4, 5, 6, 7, 8, 9, 10, 11, 12, 13]]) (sl' := [(2, .one (bB false))]) (hp' := []) (.c (oP rfl rfl (op_move (Ev.t 5 (bI .i64 r4.2)) rfl)) (.c (oP rfl rfl (OpL.cast (op_eqI (Ev.t 27 (bI .i64 r4.2)) (Ev.c _ rfl) rfl) (congrArg (fun b => bB b) hc5))) (.c (oP rfl rfl (op_move (Ev.t 28 (bB true)) rfl)) (.c (oY rfl rfl rfl (op_move (Ev.t 4 (.g (.d (.sl 12 (List.map encApi_Op r4.1))))) rfl)) (.c (oY rfl rfl rfl (OpL.cast (op_lenD Tryd.underlying22 (Ev.t 30 (.g (.d (.sl 12 (List.map encApi_Op r4.1))))) rfl) (by rw [List.length_map]))) (.c (oY rfl rfl rfl (OpL.cast (op_eqI (Ev.t 31 (bI .i64 (r4.1.length : Int))) (Ev.c _ rfl) rfl) (congrArg (fun b => bB b) hc6))) (.c (oP rfl rfl (op_pickT (Ev.t 29 (bB true)) (Ev.t 32 (bB false)) rfl)) (.c (oP rfl rfl (op_move (Ev.t 33 (bB false)) rfl)) (.c (OpW.no rfl rfl rfl rfl rfl) (.c (OpW.no rfl rfl rfl rfl rfl) (.c (OpW.no rfl rfl rfl rfl rfl) (.c (OpW.no rfl rfl rfl rfl rfl) (.c (OpW.no rfl rfl rfl rfl rfl) (.c (oP rfl rfl (op_pickF (Ev.t 34 (bB false)) (Ev.c _ rfl) rfl)) (.c (oP rfl rfl (op_assign (Ev.t 40 (bB false)) rfl)) .nil))))))))))))))) follows rfl rfl rfl ⟨⟨rfl, trivial⟩, trivial, ⟨rfl, trivial⟩, trivial, ⟨rfl, trivial⟩, trivial, ⟨rfl, rfl, trivial⟩, trivial, ⟨rfl, rfl, trivial⟩, trivial, ⟨rfl, rfl, trivial⟩, trivial, ⟨rfl, rfl, trivial⟩, trivial, ⟨rfl, trivial⟩, trivial, ⟨rfl, trivial⟩, trivial, ⟨rfl, trivial⟩, trivial, ⟨rfl, trivial⟩, trivial, ⟨rfl, trivial⟩, trivial, ⟨rfl, trivial⟩, trivial, ⟨rfl, trivial⟩, trivial, ⟨rfl, trivial⟩, trivial, trivial⟩ ⟨rfl, trivial⟩ trivial rfl ?_
          cases hF
          exact G.ret1 Tryd.results9 (RVar.tmp 2 _) ⟨rfl, trivial⟩ trivial
      · refine G.drawnI (deps := [[], [0], [0, 1], [0, 1, 2], [0, 1, 2, 3], [0, 1, 2, 3, 4], [0, 1, 2, 3, 4, 5], [0, 1, 2, 3, 4, 5, 6], [0, 1, 2, 3, 4, 5, 6, 7], [0, 1, 2, 3, 4, 5, 6, 7, 8], [0, 1, 2, 3, 4, 5, 6, 7, 8, 9], [0, 1, 2, 3, 4, 5, 6, 7], [0, 1, 2, 3, 4, 5, 6, 7, 8, 9, 10, 11], [0, 1, 2, 3, 4, 5, 6, 7, 8, 9, 10, 11, 12], [0, 1, 2, 3, 4, 5, 6, 7, 8, 9, 10, 11, 12, 13]]) (sl' := [(2, .one (bB false))]) (hp' := []) (.c (oP rfl rfl (op_move (Ev.t 5 (bI .i64 r4.2)) rfl)) (.c (oP rfl rfl (OpL.cast (op_eqI (Ev.t 27 (bI .i64 r4.2)) (Ev.c _ rfl) rfl) (congrArg (fun b => bB b) hc5))) (.c (oP rfl rfl (op_move (Ev.t 28 (bB false)) rfl)) (.c (OpW.no rfl rfl rfl rfl rfl) (.c (OpW.no rfl rfl rfl rfl rfl) (.c (OpW.no rfl rfl rfl rfl rfl) (.c (oP rfl rfl (op_pickF (Ev.t 29 (bB false)) (Ev.c _ rfl) rfl)) (.c (oP rfl rfl (op_move (Ev.t 33 (bB false)) rfl)) (.c (OpW.no rfl rfl rfl rfl rfl) (.c (OpW.no rfl rfl rfl rfl rfl) (.c (OpW.no rfl rfl rfl rfl rfl) (.c (OpW.no rfl rfl rfl rfl rfl) (.c (OpW.no rfl rfl rfl rfl rfl) (.c (oP rfl rfl (op_pickF (Ev.t 34 (bB false)) (Ev.c _ rfl) rfl)) (.c (oP rfl rfl (op_assign (Ev.t 40 (bB false)) rfl)) .nil))))))))))))))) follows rfl rfl rfl ⟨⟨rfl, trivial⟩, trivial, ⟨rfl, trivial⟩, trivial, ⟨rfl, trivial⟩, trivial, ⟨rfl, trivial⟩, trivial, ⟨rfl, trivial⟩, trivial, ⟨rfl, trivial⟩, trivial, ⟨rfl, trivial⟩, trivial, ⟨rfl, trivial⟩, trivial, ⟨rfl, trivial⟩, trivial, ⟨rfl, trivial⟩, trivial, ⟨rfl, trivial⟩, trivial, ⟨rfl, trivial⟩, trivial, ⟨rfl, trivial⟩, trivial, ⟨rfl, trivial⟩, trivial, ⟨rfl, trivial⟩, trivial, trivial⟩ ⟨rfl, trivial⟩ trivial rfl ?_
        cases hF
        exact G.ret1 Tryd.results9 (RVar.tmp 2 _) ⟨rfl, trivial⟩ trivial
  refine G.region ?_
  refine G.op1 (op_loadAP (ds := [.v (.int .i64 o_0.Kind), .v (.int .i64 o_0.Client), .v (.int .i64 o_0.Site), .v (.int .i64 o_0.To), .v (.int .i64 o_0.At), .v (.int .i64 o_0.How), .v (.string o_0.Key), .v (.string o_0.Value), .sl 1 (List.map encS o_0.Keys), .sl 2 (List.map encApi_Range o_0.Row.Ranges), .sl 1 (List.map encI_i64 o_0.Row.Owners), .sl 1 (List.map encI_i64 o_0.Row.Parents)]) Tryd.underlying30 rfl ti30 rfl (Ev.t 1 (.ptr 1001 0)) rfl) rfl ⟨rfl, trivial⟩ ⟨rfl, trivial⟩ ?_
  obtain ⟨r10, hr10, hF⟩ := bindS hF
  refine G.op1 (op_callQ (sv := .one (bB r10)) cf16 (ct_script_Check o_0 r10 hr10) rfl rfl (EvQL.cons (EvQ.g (Ev.t 11 (.g (.agg [.v (.int .i64 o_0.Kind), .v (.int .i64 o_0.Client), .v (.int .i64 o_0.Site), .v (.int .i64 o_0.To), .v (.int .i64 o_0.At), .v (.int .i64 o_0.How), .v (.string o_0.Key), .v (.string o_0.Value), .sl 1 (List.map encS o_0.Keys), .sl 2 (List.map encApi_Range o_0.Row.Ranges), .sl 1 (List.map encI_i64 o_0.Row.Owners), .sl 1 (List.map encI_i64 o_0.Row.Parents)])))) EvQL.nil) rfl) rfl ⟨rfl, trivial⟩ trivial ?_
  refine G.op1 (op_not (Ev.t 12 (bB r10)) rfl) rfl ⟨rfl, trivial⟩ trivial ?_
  refine G.op1 (op_move (Ev.t 13 (bB (!r10))) rfl) rfl ⟨rfl, trivial⟩ trivial ?_
  refine ifS hF (fun hc11 hF => ?_) (fun hc11 hF => ?_)
  · refine G.known (t := 14) hc11 rfl ?_
    refine G.opN1 rfl rfl rfl rfl rfl ?_
    refine G.opN1 rfl rfl rfl rfl rfl ?_
    refine G.opN1 rfl rfl rfl rfl rfl ?_
    refine G.opN1 rfl rfl rfl rfl rfl ?_
    refine G.opN1 rfl rfl rfl rfl rfl ?_
    refine G.op1 (op_pickT (Ev.t 14 (bB true)) (Ev.c _ rfl) rfl) rfl ⟨rfl, trivial⟩ trivial ?_
    refine G.endOps ?_
    exact G.arr (J9 true hF) ⟨rfl, rfl, trivial⟩ ⟨rfl, trivial⟩ rfl
  · refine G.known (t := 14) hc11 rfl ?_
    refine G.opG1 (op_move (Ev.t 3 (bB (decide ((o_0.Row.Ranges.length : Int) = 0)))) rfl) rfl rfl rfl ⟨rfl, trivial⟩ trivial ?_
    refine G.opG1 (op_fieldP (off' := 0) Tryd.underlying30 rfl ti3 (by decide) rfl (Ev.t 1 (.ptr 1001 0)) rfl) rfl rfl rfl ⟨rfl, trivial⟩ trivial ?_
    refine G.opG1 (op_load1P (c := bI .i64 o_0.Kind) Tryd.underlying3 rfl rfl (Ev.t 16 (.ptr 1001 0)) rfl) rfl rfl rfl ⟨rfl, trivial⟩ ⟨rfl, trivial⟩ ?_
    refine G.opG1 (op_eqI (Ev.t 17 (bI .i64 o_0.Kind)) (Ev.c _ rfl) rfl) rfl rfl rfl ⟨rfl, trivial⟩ trivial ?_
    refine G.opG1 (op_eqB Tryd.underlying4 (Ev.t 15 (bB (decide ((o_0.Row.Ranges.length : Int) = 0)))) (Ev.t 18 (bB (decide (o_0.Kind = 12)))) rfl) rfl rfl rfl ⟨rfl, rfl, trivial⟩ trivial ?_
    refine G.op1 (op_pickF (Ev.t 14 (bB false)) (Ev.t 19 (bB ((decide ((o_0.Row.Ranges.length : Int) = 0)) == (decide (o_0.Kind = 12))))) rfl) rfl ⟨rfl, rfl, trivial⟩ trivial ?_
    refine G.endOps ?_
    exact G.arr (J9 ((decide ((o_0.Row.Ranges.length : Int) = 0)) == (decide (o_0.Kind = 12))) hF) ⟨rfl, rfl, trivial⟩ ⟨rfl, trivial⟩ rfl


set_option maxRecDepth 20000 in
set_option maxHeartbeats 2000000 in
theorem ct_words_Text (l_0 : (List Api_Op)) (r : ByteArray) (hF : words_Text l_0 = some r) : CtG Tryd.prog Γ0 10 [.g (.d (.sl 12 (List.map encApi_Op l_0)))] (.one (.d (.v (.string r)))) := by
  unfold words_Text at hF
  refine CtG.intro (GL.ok _ _ _) Tryd.func10 rfl Tryd.ntmps10 rfl rfl fun M w hG => ?_
  refine G.seq ?_
  refine G.region ?_
  refine G.op1 (op_assign (Ev.c _ rfl) rfl) rfl trivial trivial ?_
  refine G.endOps ?_
  refine G.seq ?_
  refine G.region ?_
  refine G.opM (op_allocB (T := 54) (E := 5) (k := 1003) (kk := 3003) ti54 rfl rfl rfl) rfl trivial ⟨rfl, rfl, trivial⟩ ?_
  refine G.endOps ?_
  refine G.seq ?_
  refine G.seq ?_
  refine G.region ?_
  refine G.op1 (op_move (Ev.t 0 (.g (.d (.sl 12 (List.map encApi_Op l_0))))) rfl) rfl ⟨rfl, trivial⟩ trivial ?_
  refine G.op1 (OpL.cast (op_lenD Tryd.underlying22 (Ev.t 6 (.g (.d (.sl 12 (List.map encApi_Op l_0))))) rfl) (by rw [List.length_map])) rfl ⟨rfl, trivial⟩ trivial ?_
  refine G.op1 (op_move (Ev.c _ rfl) rfl) rfl trivial trivial ?_
  refine G.endOps ?_
  refine G.joinC (T := ByteArray) (fun y1 => ⟨[(3, .one (.ptr 1003 0))], [(1003, some (.bld 54 5 3003 y1)), (3003, some (.hid true 1003))]⟩) (fun y1 => words_Text_k1 y1 = some r) (fun y1 hF => ?_) (fun J3 => ?_)
  · unfold words_Text_k1 at hF
    refine G.seq ?_
    refine G.region ?_
    obtain ⟨r2, hr2, hF⟩ := bindS hF
    refine G.opM (op_callM (k := 1003) (h := .bld 54 5 y1) (h' := .gone) 3003 (sv := .one (bS r2)) cf20 (ct_bld_String y1 r2 hr2) rfl rfl (EvM.pt (Ev.t 3 (.ptr 1003 0)) EvM.nil) rfl) rfl ⟨rfl, trivial⟩ ⟨rfl, rfl, trivial⟩ ?_
    refine G.op1 (op_assign (Ev.t 19 (bS r2)) rfl) rfl ⟨rfl, trivial⟩ trivial ?_
    refine G.endOps ?_
    cases hF
    exact G.ret1 Tryd.results10 (RVar.tmp 2 _) ⟨rfl, trivial⟩ trivial
  refine G.block ?_
  refine G.keep (sl' := [(3, .one (.ptr 1003 0)), (6, .one (.g (.d (.sl 12 (List.map encApi_Op l_0))))), (7, .one (bI .i64 (l_0.length : Int))), (8, .one (bI .i64 0))]) (hp' := [(1003, some (.bld 54 5 3003 ByteArray.empty)), (3003, some (.hid true 1003))]) ⟨rfl, rfl, rfl, rfl, trivial⟩ ⟨rfl, rfl, trivial⟩ rfl ?_
  refine G.loopF (fun (v4 : Int × ByteArray) => ⟨[(3, .one (.ptr 1003 0)), (6, .one (.g (.d (.sl 12 (List.map encApi_Op l_0))))), (7, .one (bI .i64 (l_0.length : Int))), (8, .one (bI .i64 v4.1))], [(1003, some (.bld 54 5 3003 v4.2)), (3003, some (.hid true 1003))]⟩) hF rfl (fun K7 again6 v4 J5 hF => ?_)
  unfold words_Text_l2 at hF
  refine G.seq ?_
  refine G.region ?_
  refine G.op1 (op_lss (Ev.t 8 (bI .i64 v4.1)) (Ev.t 7 (bI .i64 (l_0.length : Int))) rfl) rfl ⟨rfl, rfl, trivial⟩ trivial ?_
  refine G.endOps ?_
  refine G.seq ?_
  refine ifS hF (fun hc8 hF => ?_) (fun hc8 hF => ?_)
  · refine G.cond rfl (fun _ => ?_) (fun hx => Bool.noConfusion (hc8.symm.trans hx))
    refine G.skip ?_
    refine G.seq ?_
    refine G.block ?_
    refine G.seq ?_
    refine G.region ?_
    obtain ⟨x9, hx9, hF⟩ := bindS hF
    refine G.op1 (op_index (cs := [.v (.int .i64 x9.Kind), .v (.int .i64 x9.Client), .v (.int .i64 x9.Site), .v (.int .i64 x9.To), .v (.int .i64 x9.At), .v (.int .i64 x9.How), .v (.string x9.Key), .v (.string x9.Value), .sl 1 (List.map encS x9.Keys), .sl 2 (List.map encApi_Range x9.Row.Ranges), .sl 1 (List.map encI_i64 x9.Row.Owners), .sl 1 (List.map encI_i64 x9.Row.Parents)]) Tryd.underlying22 ti30 (idx_ok hx9).1 (idx_get hx9 encApi_Op) (Ev.t 6 (.g (.d (.sl 12 (List.map encApi_Op l_0))))) (Ev.t 8 (bI .i64 v4.1)) rfl) rfl ⟨rfl, rfl, trivial⟩ trivial ?_
    refine G.op1 (op_loadAE (ds := [.v (.int .i64 x9.Kind), .v (.int .i64 x9.Client), .v (.int .i64 x9.Site), .v (.int .i64 x9.To), .v (.int .i64 x9.At), .v (.int .i64 x9.How), .v (.string x9.Key), .v (.string x9.Value), .sl 1 (List.map encS x9.Keys), .sl 2 (List.map encApi_Range x9.Row.Ranges), .sl 1 (List.map encI_i64 x9.Row.Owners), .sl 1 (List.map encI_i64 x9.Row.Parents)]) Tryd.underlying30 rfl ti30 rfl (Ev.t 10 (.ep [.v (.int .i64 x9.Kind), .v (.int .i64 x9.Client), .v (.int .i64 x9.Site), .v (.int .i64 x9.To), .v (.int .i64 x9.At), .v (.int .i64 x9.How), .v (.string x9.Key), .v (.string x9.Value), .sl 1 (List.map encS x9.Keys), .sl 2 (List.map encApi_Range x9.Row.Ranges), .sl 1 (List.map encI_i64 x9.Row.Owners), .sl 1 (List.map encI_i64 x9.Row.Parents)])) rfl) rfl ⟨rfl, trivial⟩ trivial ?_
    refine G.op2 (op_alloc (k := 1005) (cs := [bI .i64 0, bI .i64 0, bI .i64 0, bI .i64 0, bI .i64 0, bI .i64 0, bS ByteArray.empty, bS ByteArray.empty, .g (.d (.sl 1 (List.map encS ([] : (List ByteArray))))), .g (.d (.sl 2 (List.map encApi_Range ([] : (List Api_Range))))), .g (.d (.sl 1 (List.map encI_i64 ([] : (List Int))))), .g (.d (.sl 1 (List.map encI_i64 ([] : (List Int)))))]) ti30 ⟨.v _ rfl, .v _ rfl, .v _ rfl, .v _ rfl, .v _ rfl, .v _ rfl, .v _ rfl, .v _ rfl, .n 1, .n 2, .n 1, .n 1, trivial⟩ rfl) rfl trivial ⟨rfl, trivial⟩ ?_
    refine G.op3 (op_storeA (cs' := [bI .i64 x9.Kind, bI .i64 x9.Client, bI .i64 x9.Site, bI .i64 x9.To, bI .i64 x9.At, bI .i64 x9.How, bS x9.Key, bS x9.Value, .g (.d (.sl 1 (List.map encS x9.Keys))), .g (.d (.sl 2 (List.map encApi_Range x9.Row.Ranges))), .g (.d (.sl 1 (List.map encI_i64 x9.Row.Owners))), .g (.d (.sl 1 (List.map encI_i64 x9.Row.Parents)))]) ti30 rfl rfl (Ev.t 5 (.ptr 1005 0)) (Ev.t 11 (.g (.agg [.v (.int .i64 x9.Kind), .v (.int .i64 x9.Client), .v (.int .i64 x9.Site), .v (.int .i64 x9.To), .v (.int .i64 x9.At), .v (.int .i64 x9.How), .v (.string x9.Key), .v (.string x9.Value), .sl 1 (List.map encS x9.Keys), .sl 2 (List.map encApi_Range x9.Row.Ranges), .sl 1 (List.map encI_i64 x9.Row.Owners), .sl 1 (List.map encI_i64 x9.Row.Parents)])))) rfl ⟨rfl, rfl, trivial⟩ ⟨rfl, trivial⟩ ?_
    refine G.endOps ?_
    refine G.seq ?_
    refine G.seq ?_
    refine G.region ?_
    refine G.op1 (op_loadAP (ds := [.v (.int .i64 x9.Kind), .v (.int .i64 x9.Client), .v (.int .i64 x9.Site), .v (.int .i64 x9.To), .v (.int .i64 x9.At), .v (.int .i64 x9.How), .v (.string x9.Key), .v (.string x9.Value), .sl 1 (List.map encS x9.Keys), .sl 2 (List.map encApi_Range x9.Row.Ranges), .sl 1 (List.map encI_i64 x9.Row.Owners), .sl 1 (List.map encI_i64 x9.Row.Parents)]) Tryd.underlying30 rfl ti30 rfl (Ev.t 5 (.ptr 1005 0)) rfl) rfl ⟨rfl, trivial⟩ ⟨rfl, trivial⟩ ?_
    obtain ⟨r10, hr10, hF⟩ := bindS hF
    refine G.op1 (op_callQG (sv := .one (bB r10)) hG cf9 (ct_words_Check x9 r10 hr10) rfl rfl (EvQL.cons (EvQ.g (Ev.t 12 (.g (.agg [.v (.int .i64 x9.Kind), .v (.int .i64 x9.Client), .v (.int .i64 x9.Site), .v (.int .i64 x9.To), .v (.int .i64 x9.At), .v (.int .i64 x9.How), .v (.string x9.Key), .v (.string x9.Value), .sl 1 (List.map encS x9.Keys), .sl 2 (List.map encApi_Range x9.Row.Ranges), .sl 1 (List.map encI_i64 x9.Row.Owners), .sl 1 (List.map encI_i64 x9.Row.Parents)])))) EvQL.nil) rfl) rfl ⟨rfl, trivial⟩ trivial ?_
    refine G.op1 (op_not (Ev.t 13 (bB r10)) rfl) rfl ⟨rfl, trivial⟩ trivial ?_
    refine G.endOps ?_
    refine ifS hF (fun hc11 hF => ?_) (fun hc11 hF => ?_)
    · refine G.cond rfl (fun _ => ?_) (fun hx => Bool.noConfusion (hc11.symm.trans hx))
      refine G.seq ?_
      refine G.region ?_
      refine G.op1 (op_assign (Ev.c _ rfl) rfl) rfl trivial trivial ?_
      refine G.endOps ?_
      cases hF
      exact G.ret1 Tryd.results10 (RVar.tmp 2 _) ⟨rfl, trivial⟩ trivial
    · refine G.cond rfl (fun hx => Bool.noConfusion (hc11.symm.trans hx)) (fun _ => ?_)
      refine G.skip ?_
      refine G.region ?_
      refine G.op1 (op_loadAP (ds := [.v (.int .i64 x9.Kind), .v (.int .i64 x9.Client), .v (.int .i64 x9.Site), .v (.int .i64 x9.To), .v (.int .i64 x9.At), .v (.int .i64 x9.How), .v (.string x9.Key), .v (.string x9.Value), .sl 1 (List.map encS x9.Keys), .sl 2 (List.map encApi_Range x9.Row.Ranges), .sl 1 (List.map encI_i64 x9.Row.Owners), .sl 1 (List.map encI_i64 x9.Row.Parents)]) Tryd.underlying30 rfl ti30 rfl (Ev.t 5 (.ptr 1005 0)) rfl) rfl ⟨rfl, trivial⟩ ⟨rfl, trivial⟩ ?_
      obtain ⟨r12, hr12, hF⟩ := bindS hF
      refine G.op1 (op_callQ (sv := .one (bS r12)) cf17 (ct_words_line x9 r12 hr12) rfl rfl (EvQL.cons (EvQ.g (Ev.t 15 (.g (.agg [.v (.int .i64 x9.Kind), .v (.int .i64 x9.Client), .v (.int .i64 x9.Site), .v (.int .i64 x9.To), .v (.int .i64 x9.At), .v (.int .i64 x9.How), .v (.string x9.Key), .v (.string x9.Value), .sl 1 (List.map encS x9.Keys), .sl 2 (List.map encApi_Range x9.Row.Ranges), .sl 1 (List.map encI_i64 x9.Row.Owners), .sl 1 (List.map encI_i64 x9.Row.Parents)])))) EvQL.nil) rfl) rfl ⟨rfl, trivial⟩ trivial ?_
      obtain ⟨r13, hr13, hF⟩ := bindS hF
      refine G.opM (op_callM (k := 1003) (h := .bld 54 5 v4.2) (h' := .bld 54 5 r13) 3003 (sv := .tup [bI .i64 (r12.size : Int), .g (.d (.v .nilIface))]) cf19 (ct_bld_WriteString v4.2 r12 r13 hr13) rfl rfl (EvM.pt (Ev.t 3 (.ptr 1003 0)) (EvM.g (Ev.t 16 (bS r12)) EvM.nil)) rfl) rfl ⟨rfl, rfl, trivial⟩ ⟨rfl, rfl, trivial⟩ ?_
      refine G.endOps ?_
      refine G.endBlock ?_
      refine G.region ?_
      refine G.op1 (op_add (Ev.t 8 (bI .i64 v4.1)) (Ev.c _ rfl) rfl) rfl ⟨rfl, trivial⟩ trivial ?_
      refine G.op1 (op_move (Ev.t 18 (bI .i64 (IntKind.wrap .i64 (v4.1 + 1)))) rfl) rfl ⟨rfl, trivial⟩ trivial ?_
      refine G.endOps ?_
      exact G.arr (J5 (IntKind.wrap .i64 (v4.1 + 1), r13) hF) ⟨rfl, rfl, rfl, rfl, trivial⟩ ⟨rfl, rfl, trivial⟩ rfl
  · refine G.cond rfl (fun hx => Bool.noConfusion (hc8.symm.trans hx)) (fun _ => ?_)
    refine G.exit ?_
    refine GX.c ?_
    refine GX.q ?_
    refine GX.bYes ?_
    exact G.arr (J3 v4.2 hF) ⟨rfl, trivial⟩ ⟨rfl, rfl, trivial⟩ rfl


set_option maxRecDepth 20000 in
set_option maxHeartbeats 2000000 in
theorem ct_law24_awake (r : Bool) (hF : law24_awake = some r) : CtG Tryd.prog Γ0 7 [] (.one (.d (.v (.bool r)))) := by
  unfold law24_awake at hF
  refine CtG.intro (GL.ok _ _ _) Tryd.func7 rfl Tryd.ntmps7 rfl rfl fun M w hG => ?_
  refine G.seq ?_
  refine G.region ?_
  refine G.op1 (op_assign (Ev.c _ rfl) rfl) rfl trivial trivial ?_
  refine G.endOps ?_
  refine G.seq ?_
  refine G.region ?_
  obtain ⟨r1, hr1, hF⟩ := bindS hF
  refine G.op1 (op_callG (sv := .tup [.g (.d (.sl 12 (List.map encApi_Op r1.1))), bI .i64 r1.2]) hG cf11 (ct_words_Parse (ByteArray.mk #[112, 117, 116, 32, 48, 32, 97, 32, 34, 120, 92, 48, 97, 34, 10, 35, 32, 110, 111, 32, 115, 116, 101, 112, 10]) r1 hr1) rfl (EvL.cons (Ev.c _ rfl) EvL.nil) rfl) rfl trivial trivial ?_
  refine G.op1 (op_moveS (t := 4) (sv := .tup [.g (.d (.sl 12 (List.map encApi_Op r1.1))), bI .i64 r1.2]) rfl) rfl ⟨rfl, trivial⟩ trivial ?_
  refine G.op1 (op_extract (l := [.g (.d (.sl 12 (List.map encApi_Op r1.1))), bI .i64 r1.2]) (c := .g (.d (.sl 12 (List.map encApi_Op r1.1)))) rfl rfl) rfl ⟨rfl, trivial⟩ trivial ?_
  refine G.op1 (op_extract (l := [.g (.d (.sl 12 (List.map encApi_Op r1.1))), bI .i64 r1.2]) (c := bI .i64 r1.2) rfl rfl) rfl ⟨rfl, trivial⟩ trivial ?_
  refine G.op1 (op_assign (Ev.t 5 (.g (.d (.sl 12 (List.map encApi_Op r1.1))))) rfl) rfl ⟨rfl, trivial⟩ trivial ?_
  refine G.op1 (op_assign (Ev.t 6 (bI .i64 r1.2)) rfl) rfl ⟨rfl, trivial⟩ trivial ?_
  refine G.endOps ?_
  refine G.seq ?_
  refine G.region ?_
  refine G.op1 (op_move (Ev.t 2 (bI .i64 r1.2)) rfl) rfl ⟨rfl, trivial⟩ trivial ?_
  refine G.op1 (op_eqI (Ev.t 7 (bI .i64 r1.2)) (Ev.c _ rfl) rfl) rfl ⟨rfl, trivial⟩ trivial ?_
  refine G.op1 (op_move (Ev.t 8 (bB (decide (r1.2 = 0)))) rfl) rfl ⟨rfl, trivial⟩ trivial ?_
  refine G.joinL (T := Bool) 4 (fun y2 => ⟨[(1, .one (.g (.d (.sl 12 (List.map encApi_Op r1.1))))), (13, .one (bB y2))], []⟩) (fun y2 => law24_awake_k1 r1 y2 = some r) (fun y2 hF => ?_) (fun J18 => ?_)
  · unfold law24_awake_k1 at hF
    refine G.op1 (op_move (Ev.t 13 (bB y2)) rfl) rfl ⟨rfl, trivial⟩ trivial ?_
    refine G.joinL (T := Bool) 6 (fun y3 => ⟨[(1, .one (.g (.d (.sl 12 (List.map encApi_Op r1.1))))), (20, .one (bB y3))], []⟩) (fun y3 => law24_awake_k2 r1 y3 = some r) (fun y3 hF => ?_) (fun J15 => ?_)
    · unfold law24_awake_k2 at hF
      refine G.op1 (op_move (Ev.t 20 (bB y3)) rfl) rfl ⟨rfl, trivial⟩ trivial ?_
      refine G.joinL (T := Bool) 6 (fun y4 => ⟨[(1, .one (.g (.d (.sl 12 (List.map encApi_Op r1.1))))), (27, .one (bB y4))], []⟩) (fun y4 => law24_awake_k3 r1 y4 = some r) (fun y4 hF => ?_) (fun J12 => ?_)
      · unfold law24_awake_k3 at hF
        refine G.op1 (op_move (Ev.t 27 (bB y4)) rfl) rfl ⟨rfl, trivial⟩ trivial ?_
        refine G.joinL (T := Bool) 5 (fun y5 => ⟨[(1, .one (.g (.d (.sl 12 (List.map encApi_Op r1.1))))), (33, .one (bB y5))], []⟩) (fun y5 => law24_awake_k4 r1 y5 = some r) (fun y5 hF => ?_) (fun J8 => ?_)
        · unfold law24_awake_k4 at hF
          refine G.op1 (op_move (Ev.t 33 (bB y5)) rfl) rfl ⟨rfl, trivial⟩ trivial ?_
          refine ifS hF (fun hc6 hF => ?_) (fun hc6 hF => ?_)
          · refine G.known (t := 34) hc6 rfl ?_
            refine G.opG1 (op_move (Ev.t 1 (.g (.d (.sl 12 (List.map encApi_Op r1.1))))) rfl) rfl rfl rfl ⟨rfl, trivial⟩ trivial ?_
            obtain ⟨r7, hr7, hF⟩ := bindS hF
            refine G.opG1 (op_callQG (sv := .one (bS r7)) hG cf10 (ct_words_Text r1.1 r7 hr7) rfl rfl (EvQL.cons (EvQ.g (Ev.t 35 (.g (.d (.sl 12 (List.map encApi_Op r1.1)))))) EvQL.nil) rfl) rfl rfl rfl ⟨rfl, trivial⟩ trivial ?_
            refine G.opG1 (op_eqS (Ev.t 36 (bS r7)) (Ev.c _ rfl) rfl) rfl rfl rfl ⟨rfl, trivial⟩ trivial ?_
            refine G.op1 (op_pickT (Ev.t 34 (bB true)) (Ev.t 37 (bB (seq r7 (ByteArray.mk #[112, 117, 116, 32, 48, 32, 34, 97, 34, 32, 34, 120, 92, 48, 97, 34, 10])))) rfl) rfl ⟨rfl, rfl, trivial⟩ trivial ?_
            refine G.op1 (op_assign (Ev.t 38 (bB (seq r7 (ByteArray.mk #[112, 117, 116, 32, 48, 32, 34, 97, 34, 32, 34, 120, 92, 48, 97, 34, 10])))) rfl) rfl ⟨rfl, trivial⟩ trivial ?_
            refine G.endOps ?_
            cases hF
            exact G.ret1 Tryd.results7 (RVar.tmp 0 _) ⟨rfl, trivial⟩ trivial
          · refine G.known (t := 34) hc6 rfl ?_
            refine G.opN1 rfl rfl rfl rfl rfl ?_
            refine G.opN1 rfl rfl rfl rfl rfl ?_
            refine G.opN1 rfl rfl rfl rfl rfl ?_
            refine G.op1 (op_pickF (Ev.t 34 (bB false)) (Ev.c _ rfl) rfl) rfl ⟨rfl, trivial⟩ trivial ?_
            refine G.op1 (op_assign (Ev.t 38 (bB false)) rfl) rfl ⟨rfl, trivial⟩ trivial ?_
            refine G.endOps ?_
            cases hF
            exact G.ret1 Tryd.results7 (RVar.tmp 0 _) ⟨rfl, trivial⟩ trivial
        refine ifS hF (fun hc9 hF => ?_) (fun hc9 hF => ?_)
        · refine G.known (t := 28) hc9 rfl ?_
          refine G.opG1 (op_move (Ev.t 1 (.g (.d (.sl 12 (List.map encApi_Op r1.1))))) rfl) rfl rfl rfl ⟨rfl, trivial⟩ trivial ?_
          obtain ⟨x10, hx10, hF⟩ := bindS hF
          refine G.opG1 (op_index (cs := [.v (.int .i64 x10.Kind), .v (.int .i64 x10.Client), .v (.int .i64 x10.Site), .v (.int .i64 x10.To), .v (.int .i64 x10.At), .v (.int .i64 x10.How), .v (.string x10.Key), .v (.string x10.Value), .sl 1 (List.map encS x10.Keys), .sl 2 (List.map encApi_Range x10.Row.Ranges), .sl 1 (List.map encI_i64 x10.Row.Owners), .sl 1 (List.map encI_i64 x10.Row.Parents)]) Tryd.underlying22 ti30 (idx_ok hx10).1 (idx_get hx10 encApi_Op) (Ev.t 29 (.g (.d (.sl 12 (List.map encApi_Op r1.1))))) (Ev.c _ rfl) rfl) rfl rfl rfl ⟨rfl, trivial⟩ trivial ?_
          refine G.opG1 (op_loadAE (ds := [.v (.int .i64 x10.Kind), .v (.int .i64 x10.Client), .v (.int .i64 x10.Site), .v (.int .i64 x10.To), .v (.int .i64 x10.At), .v (.int .i64 x10.How), .v (.string x10.Key), .v (.string x10.Value), .sl 1 (List.map encS x10.Keys), .sl 2 (List.map encApi_Range x10.Row.Ranges), .sl 1 (List.map encI_i64 x10.Row.Owners), .sl 1 (List.map encI_i64 x10.Row.Parents)]) Tryd.underlying30 rfl ti30 rfl (Ev.t 30 (.ep [.v (.int .i64 x10.Kind), .v (.int .i64 x10.Client), .v (.int .i64 x10.Site), .v (.int .i64 x10.To), .v (.int .i64 x10.At), .v (.int .i64 x10.How), .v (.string x10.Key), .v (.string x10.Value), .sl 1 (List.map encS x10.Keys), .sl 2 (List.map encApi_Range x10.Row.Ranges), .sl 1 (List.map encI_i64 x10.Row.Owners), .sl 1 (List.map encI_i64 x10.Row.Parents)])) rfl) rfl rfl rfl ⟨rfl, trivial⟩ trivial ?_
          obtain ⟨r11, hr11, hF⟩ := bindS hF
          refine G.opG1 (op_callQG (sv := .one (bB r11)) hG cf9 (ct_words_Check x10 r11 hr11) rfl rfl (EvQL.cons (EvQ.g (Ev.t 31 (.g (.agg [.v (.int .i64 x10.Kind), .v (.int .i64 x10.Client), .v (.int .i64 x10.Site), .v (.int .i64 x10.To), .v (.int .i64 x10.At), .v (.int .i64 x10.How), .v (.string x10.Key), .v (.string x10.Value), .sl 1 (List.map encS x10.Keys), .sl 2 (List.map encApi_Range x10.Row.Ranges), .sl 1 (List.map encI_i64 x10.Row.Owners), .sl 1 (List.map encI_i64 x10.Row.Parents)])))) EvQL.nil) rfl) rfl rfl rfl ⟨rfl, trivial⟩ trivial ?_
          refine G.op1 (op_pickT (Ev.t 28 (bB true)) (Ev.t 32 (bB r11)) rfl) rfl ⟨rfl, rfl, trivial⟩ trivial ?_
          exact G.arr (J8 r11 hF) ⟨rfl, rfl, trivial⟩ trivial rfl
        · refine G.known (t := 28) hc9 rfl ?_
          refine G.opN1 rfl rfl rfl rfl rfl ?_
          refine G.opN1 rfl rfl rfl rfl rfl ?_
          refine G.opN1 rfl rfl rfl rfl rfl ?_
          refine G.opN1 rfl rfl rfl rfl rfl ?_
          refine G.op1 (op_pickF (Ev.t 28 (bB false)) (Ev.c _ rfl) rfl) rfl ⟨rfl, trivial⟩ trivial ?_
          exact G.arr (J8 false hF) ⟨rfl, rfl, trivial⟩ trivial rfl
      refine ifS hF (fun hc13 hF => ?_) (fun hc13 hF => ?_)
      · refine G.known (t := 21) hc13 rfl ?_
        refine G.opG1 (op_move (Ev.t 1 (.g (.d (.sl 12 (List.map encApi_Op r1.1))))) rfl) rfl rfl rfl ⟨rfl, trivial⟩ trivial ?_
        obtain ⟨x14, hx14, hF⟩ := bindS hF
        refine G.opG1 (op_index (cs := [.v (.int .i64 x14.Kind), .v (.int .i64 x14.Client), .v (.int .i64 x14.Site), .v (.int .i64 x14.To), .v (.int .i64 x14.At), .v (.int .i64 x14.How), .v (.string x14.Key), .v (.string x14.Value), .sl 1 (List.map encS x14.Keys), .sl 2 (List.map encApi_Range x14.Row.Ranges), .sl 1 (List.map encI_i64 x14.Row.Owners), .sl 1 (List.map encI_i64 x14.Row.Parents)]) Tryd.underlying22 ti30 (idx_ok hx14).1 (idx_get hx14 encApi_Op) (Ev.t 22 (.g (.d (.sl 12 (List.map encApi_Op r1.1))))) (Ev.c _ rfl) rfl) rfl rfl rfl ⟨rfl, trivial⟩ trivial ?_
        refine G.opG1 (op_fieldE (cs' := [.v (.string x14.Value), .sl 1 (List.map encS x14.Keys), .sl 2 (List.map encApi_Range x14.Row.Ranges), .sl 1 (List.map encI_i64 x14.Row.Owners), .sl 1 (List.map encI_i64 x14.Row.Parents)]) Tryd.underlying30 rfl ti9 (by decide) rfl (Ev.t 23 (.ep [.v (.int .i64 x14.Kind), .v (.int .i64 x14.Client), .v (.int .i64 x14.Site), .v (.int .i64 x14.To), .v (.int .i64 x14.At), .v (.int .i64 x14.How), .v (.string x14.Key), .v (.string x14.Value), .sl 1 (List.map encS x14.Keys), .sl 2 (List.map encApi_Range x14.Row.Ranges), .sl 1 (List.map encI_i64 x14.Row.Owners), .sl 1 (List.map encI_i64 x14.Row.Parents)])) rfl) rfl rfl rfl ⟨rfl, trivial⟩ trivial ?_
        refine G.opG1 (op_load1E (c := .v (.string x14.Value)) Tryd.underlying9 rfl rfl (Ev.t 24 (.ep [.v (.string x14.Value), .sl 1 (List.map encS x14.Keys), .sl 2 (List.map encApi_Range x14.Row.Ranges), .sl 1 (List.map encI_i64 x14.Row.Owners), .sl 1 (List.map encI_i64 x14.Row.Parents)])) rfl) rfl rfl rfl ⟨rfl, trivial⟩ trivial ?_
        refine G.opG1 (op_eqS (Ev.t 25 (bS x14.Value)) (Ev.c _ rfl) rfl) rfl rfl rfl ⟨rfl, trivial⟩ trivial ?_
        refine G.op1 (op_pickT (Ev.t 21 (bB true)) (Ev.t 26 (bB (seq x14.Value (ByteArray.mk #[120, 10])))) rfl) rfl ⟨rfl, rfl, trivial⟩ trivial ?_
        exact G.arr (J12 (seq x14.Value (ByteArray.mk #[120, 10])) hF) ⟨rfl, rfl, trivial⟩ trivial rfl
      · refine G.known (t := 21) hc13 rfl ?_
        refine G.opN1 rfl rfl rfl rfl rfl ?_
        refine G.opN1 rfl rfl rfl rfl rfl ?_
        refine G.opN1 rfl rfl rfl rfl rfl ?_
        refine G.opN1 rfl rfl rfl rfl rfl ?_
        refine G.opN1 rfl rfl rfl rfl rfl ?_
        refine G.op1 (op_pickF (Ev.t 21 (bB false)) (Ev.c _ rfl) rfl) rfl ⟨rfl, trivial⟩ trivial ?_
        exact G.arr (J12 false hF) ⟨rfl, rfl, trivial⟩ trivial rfl
    refine ifS hF (fun hc16 hF => ?_) (fun hc16 hF => ?_)
    · refine G.known (t := 14) hc16 rfl ?_
      refine G.opG1 (op_move (Ev.t 1 (.g (.d (.sl 12 (List.map encApi_Op r1.1))))) rfl) rfl rfl rfl ⟨rfl, trivial⟩ trivial ?_
      obtain ⟨x17, hx17, hF⟩ := bindS hF
      refine G.opG1 (op_index (cs := [.v (.int .i64 x17.Kind), .v (.int .i64 x17.Client), .v (.int .i64 x17.Site), .v (.int .i64 x17.To), .v (.int .i64 x17.At), .v (.int .i64 x17.How), .v (.string x17.Key), .v (.string x17.Value), .sl 1 (List.map encS x17.Keys), .sl 2 (List.map encApi_Range x17.Row.Ranges), .sl 1 (List.map encI_i64 x17.Row.Owners), .sl 1 (List.map encI_i64 x17.Row.Parents)]) Tryd.underlying22 ti30 (idx_ok hx17).1 (idx_get hx17 encApi_Op) (Ev.t 15 (.g (.d (.sl 12 (List.map encApi_Op r1.1))))) (Ev.c _ rfl) rfl) rfl rfl rfl ⟨rfl, trivial⟩ trivial ?_
      refine G.opG1 (op_fieldE (cs' := [.v (.string x17.Key), .v (.string x17.Value), .sl 1 (List.map encS x17.Keys), .sl 2 (List.map encApi_Range x17.Row.Ranges), .sl 1 (List.map encI_i64 x17.Row.Owners), .sl 1 (List.map encI_i64 x17.Row.Parents)]) Tryd.underlying30 rfl ti9 (by decide) rfl (Ev.t 16 (.ep [.v (.int .i64 x17.Kind), .v (.int .i64 x17.Client), .v (.int .i64 x17.Site), .v (.int .i64 x17.To), .v (.int .i64 x17.At), .v (.int .i64 x17.How), .v (.string x17.Key), .v (.string x17.Value), .sl 1 (List.map encS x17.Keys), .sl 2 (List.map encApi_Range x17.Row.Ranges), .sl 1 (List.map encI_i64 x17.Row.Owners), .sl 1 (List.map encI_i64 x17.Row.Parents)])) rfl) rfl rfl rfl ⟨rfl, trivial⟩ trivial ?_
      refine G.opG1 (op_load1E (c := .v (.string x17.Key)) Tryd.underlying9 rfl rfl (Ev.t 17 (.ep [.v (.string x17.Key), .v (.string x17.Value), .sl 1 (List.map encS x17.Keys), .sl 2 (List.map encApi_Range x17.Row.Ranges), .sl 1 (List.map encI_i64 x17.Row.Owners), .sl 1 (List.map encI_i64 x17.Row.Parents)])) rfl) rfl rfl rfl ⟨rfl, trivial⟩ trivial ?_
      refine G.opG1 (op_eqS (Ev.t 18 (bS x17.Key)) (Ev.c _ rfl) rfl) rfl rfl rfl ⟨rfl, trivial⟩ trivial ?_
      refine G.op1 (op_pickT (Ev.t 14 (bB true)) (Ev.t 19 (bB (seq x17.Key (ByteArray.mk #[97])))) rfl) rfl ⟨rfl, rfl, trivial⟩ trivial ?_
      exact G.arr (J15 (seq x17.Key (ByteArray.mk #[97])) hF) ⟨rfl, rfl, trivial⟩ trivial rfl
    · refine G.known (t := 14) hc16 rfl ?_
      refine G.opN1 rfl rfl rfl rfl rfl ?_
      refine G.opN1 rfl rfl rfl rfl rfl ?_
      refine G.opN1 rfl rfl rfl rfl rfl ?_
      refine G.opN1 rfl rfl rfl rfl rfl ?_
      refine G.opN1 rfl rfl rfl rfl rfl ?_
      refine G.op1 (op_pickF (Ev.t 14 (bB false)) (Ev.c _ rfl) rfl) rfl ⟨rfl, trivial⟩ trivial ?_
      exact G.arr (J15 false hF) ⟨rfl, rfl, trivial⟩ trivial rfl
  refine ifS hF (fun hc19 hF => ?_) (fun hc19 hF => ?_)
  · refine G.known (t := 9) hc19 rfl ?_
    refine G.opG1 (op_move (Ev.t 1 (.g (.d (.sl 12 (List.map encApi_Op r1.1))))) rfl) rfl rfl rfl ⟨rfl, trivial⟩ trivial ?_
    refine G.opG1 (OpL.cast (op_lenD Tryd.underlying22 (Ev.t 10 (.g (.d (.sl 12 (List.map encApi_Op r1.1))))) rfl) (by rw [List.length_map])) rfl rfl rfl ⟨rfl, trivial⟩ trivial ?_
    refine G.opG1 (op_eqI (Ev.t 11 (bI .i64 (r1.1.length : Int))) (Ev.c _ rfl) rfl) rfl rfl rfl ⟨rfl, trivial⟩ trivial ?_
    refine G.op1 (op_pickT (Ev.t 9 (bB true)) (Ev.t 12 (bB (decide ((r1.1.length : Int) = 1)))) rfl) rfl ⟨rfl, rfl, trivial⟩ trivial ?_
    exact G.arr (J18 (decide ((r1.1.length : Int) = 1)) hF) ⟨rfl, rfl, trivial⟩ trivial rfl
  · refine G.known (t := 9) hc19 rfl ?_
    refine G.opN1 rfl rfl rfl rfl rfl ?_
    refine G.opN1 rfl rfl rfl rfl rfl ?_
    refine G.opN1 rfl rfl rfl rfl rfl ?_
    refine G.op1 (op_pickF (Ev.t 9 (bB false)) (Ev.c _ rfl) rfl) rfl ⟨rfl, trivial⟩ trivial ?_
    exact G.arr (J18 false hF) ⟨rfl, rfl, trivial⟩ trivial rfl


set_option maxRecDepth 20000 in
set_option maxHeartbeats 2000000 in
theorem ct_ref01_Number_b (again0 : Int → Option ByteArray) (ih : ∀ (n_0 : Int) (r : ByteArray), again0 n_0 = some r → Ct Tryd.prog 70 [.g (.d (.v (.int .u64 n_0)))] (.one (.d (.v (.string r))))) (n_0 : Int) (r : ByteArray) (hF : ref01_Number_b again0 n_0 = some r) : Ct Tryd.prog 70 [.g (.d (.v (.int .u64 n_0)))] (.one (.d (.v (.string r)))) := by
  unfold ref01_Number_b at hF
  refine Ct.intro Tryd.func70 rfl Tryd.ntmps70 rfl rfl fun M w => ?_
  refine G.seq ?_
  refine G.region ?_
  refine G.op1 (op_assign (Ev.c _ rfl) rfl) rfl trivial trivial ?_
  refine G.endOps ?_
  refine G.seq ?_
  refine G.seq ?_
  refine G.region ?_
  refine G.op1 (op_move (Ev.t 0 (bI .u64 n_0)) rfl) rfl ⟨rfl, trivial⟩ trivial ?_
  refine G.op1 (op_lss (Ev.t 3 (bI .u64 n_0)) (Ev.c _ rfl) rfl) rfl ⟨rfl, trivial⟩ trivial ?_
  refine G.endOps ?_
  refine ifS hF (fun hc1 hF => ?_) (fun hc1 hF => ?_)
  · refine G.cond rfl (fun _ => ?_) (fun hx => Bool.noConfusion (hc1.symm.trans hx))
    refine G.seq ?_
    refine G.region ?_
    refine G.op1 (op_move (Ev.t 0 (bI .u64 n_0)) rfl) rfl ⟨rfl, trivial⟩ trivial ?_
    refine G.op1 (op_convI Tryd.underlying97 Tryd.underlying5 (Ev.t 5 (bI .u64 n_0)) rfl) rfl ⟨rfl, trivial⟩ trivial ?_
    refine G.op1 (op_buildSlice (es := List.map encI_u8 [IntKind.wrap .u8 n_0]) Tryd.underlying46 ti5 rfl rfl (EvP.cons (Ev.t 6 (bI .u8 (IntKind.wrap .u8 n_0))) EvP.nil) rfl rfl (by simp [encI_u8]) rfl) rfl ⟨rfl, trivial⟩ trivial ?_
    refine G.op1 (op_toText (ns := [IntKind.wrap .u8 n_0]) Tryd.underlying46 Tryd.underlying5 Tryd.underlying9 rfl (Ev.t 7 (.g (.d (.sl 1 (List.map encI_u8 ([IntKind.wrap .u8 n_0])))))) rfl) rfl ⟨rfl, trivial⟩ trivial ?_
    refine G.op1 (op_assign (Ev.t 8 (bS (bytesOf ([IntKind.wrap .u8 n_0])))) rfl) rfl ⟨rfl, trivial⟩ trivial ?_
    refine G.endOps ?_
    cases hF
    exact G.ret1 Tryd.results70 (RVar.tmp 2 _) ⟨rfl, trivial⟩ trivial
  · refine G.cond rfl (fun hx => Bool.noConfusion (hc1.symm.trans hx)) (fun _ => ?_)
    refine G.skip ?_
    refine G.seq ?_
    obtain ⟨r2, hr2, hF⟩ := bindS hF
    obtain ⟨s3, hs3, hF⟩ := bindS hF
    refine G.drawnI (deps := [[], [0], [0, 1], [0, 1, 2], [0, 1, 2, 3], [0, 1, 2, 3, 4], [], [6], [6, 7], [0, 1, 2, 3, 4, 5, 6, 7, 8], [0, 1, 2, 3, 4, 5, 6, 7, 8, 9]]) (sl' := [(2, .one (bS s3))]) (hp' := []) (.c (oP rfl rfl (op_move (Ev.t 0 (bI .u64 n_0)) rfl)) (.c (oP rfl rfl (op_rem (by decide) (Ev.t 9 (bI .u64 n_0)) (Ev.c _ rfl) rfl)) (.c (oP rfl rfl (op_add (Ev.c _ rfl) (Ev.t 10 (bI .u64 (Int.tmod n_0 128))) rfl)) (.c (oP rfl rfl (op_convI Tryd.underlying97 Tryd.underlying5 (Ev.t 11 (bI .u64 (IntKind.wrap .u64 (128 + (Int.tmod n_0 128))))) rfl)) (.c (oP rfl rfl (op_buildSlice (es := List.map encI_u8 [IntKind.wrap .u8 (IntKind.wrap .u64 (128 + (Int.tmod n_0 128)))]) Tryd.underlying46 ti5 rfl rfl (EvP.cons (Ev.t 12 (bI .u8 (IntKind.wrap .u8 (IntKind.wrap .u64 (128 + (Int.tmod n_0 128)))))) EvP.nil) rfl rfl (by simp [encI_u8]) rfl)) (.c (oP rfl rfl (op_toText (ns := [IntKind.wrap .u8 (IntKind.wrap .u64 (128 + (Int.tmod n_0 128)))]) Tryd.underlying46 Tryd.underlying5 Tryd.underlying9 rfl (Ev.t 13 (.g (.d (.sl 1 (List.map encI_u8 ([IntKind.wrap .u8 (IntKind.wrap .u64 (128 + (Int.tmod n_0 128)))])))))) rfl)) (.c (oP rfl rfl (op_move (Ev.t 0 (bI .u64 n_0)) rfl)) (.c (oP rfl rfl (op_quo (by decide) (Ev.t 15 (bI .u64 n_0)) (Ev.c _ rfl) rfl)) (.c (oP rfl rfl (op_call (sv := .one (bS r2)) cf70 (ih (IntKind.wrap .u64 (Int.tdiv n_0 128)) r2 hr2) rfl (EvL.cons (Ev.t 16 (bI .u64 (IntKind.wrap .u64 (Int.tdiv n_0 128)))) EvL.nil) rfl)) (.c (oP rfl rfl (OpL.cast (op_cat (scat_ok hs3).1 (Ev.t 14 (bS (bytesOf ([IntKind.wrap .u8 (IntKind.wrap .u64 (128 + (Int.tmod n_0 128)))])))) (Ev.t 17 (bS r2)) rfl) (by rw [(scat_ok hs3).2]))) (.c (oP rfl rfl (op_assign (Ev.t 18 (bS s3)) rfl)) .nil))))))))))) follows rfl rfl rfl ⟨⟨rfl, trivial⟩, trivial, ⟨rfl, trivial⟩, trivial, ⟨rfl, trivial⟩, trivial, ⟨rfl, trivial⟩, trivial, ⟨rfl, trivial⟩, trivial, ⟨rfl, trivial⟩, trivial, ⟨rfl, trivial⟩, trivial, ⟨rfl, trivial⟩, trivial, ⟨rfl, trivial⟩, trivial, ⟨rfl, rfl, trivial⟩, trivial, ⟨rfl, trivial⟩, trivial, trivial⟩ ⟨rfl, trivial⟩ trivial rfl ?_
    cases hF
    exact G.ret1 Tryd.results70 (RVar.tmp 2 _) ⟨rfl, trivial⟩ trivial
theorem ct_ref01_Number_n : ∀ (n : Nat) (n_0 : Int) (r : ByteArray), loopF (fun again0 v0 => ref01_Number_b again0 v0) n n_0 = some r → Ct Tryd.prog 70 [.g (.d (.v (.int .u64 n_0)))] (.one (.d (.v (.string r))))
  | 0, _,  _, h => (by cases h)
  | n + 1, n_0,  r, h => ct_ref01_Number_b _ (fun n_0 r h => ct_ref01_Number_n n n_0 r h) n_0 r h
theorem ct_ref01_Number (n_0 : Int) (r : ByteArray) (hF : ref01_Number n_0 = some r) : Ct Tryd.prog 70 [.g (.d (.v (.int .u64 n_0)))] (.one (.d (.v (.string r)))) := ct_ref01_Number_n FU n_0 r hF


set_option maxRecDepth 20000 in
set_option maxHeartbeats 2000000 in
theorem ct_ref01_Text (s_0 : ByteArray) (r : ByteArray) (hF : ref01_Text s_0 = some r) : Ct Tryd.prog 71 [.g (.d (.v (.string s_0)))] (.one (.d (.v (.string r)))) := by
  unfold ref01_Text at hF
  refine Ct.intro Tryd.func71 rfl Tryd.ntmps71 rfl rfl fun M w => ?_
  refine G.seq ?_
  refine G.region ?_
  refine G.op1 (op_assign (Ev.c _ rfl) rfl) rfl trivial trivial ?_
  refine G.endOps ?_
  refine G.seq ?_
  refine G.region ?_
  refine G.op1 (op_move (Ev.t 0 (bS s_0)) rfl) rfl ⟨rfl, trivial⟩ trivial ?_
  refine G.op1 (op_lenS Tryd.underlying9 (Ev.t 3 (bS s_0)) rfl) rfl ⟨rfl, trivial⟩ trivial ?_
  refine G.op1 (op_convI Tryd.underlying3 Tryd.underlying97 (Ev.t 4 (bI .i64 (s_0.size : Int))) rfl) rfl ⟨rfl, trivial⟩ trivial ?_
  obtain ⟨r1, hr1, hF⟩ := bindS hF
  refine G.op1 (op_callQ (sv := .one (bS r1)) cf70 (ct_ref01_Number (IntKind.wrap .u64 (s_0.size : Int)) r1 hr1) rfl rfl (EvQL.cons (EvQ.g (Ev.t 5 (bI .u64 (IntKind.wrap .u64 (s_0.size : Int))))) EvQL.nil) rfl) rfl ⟨rfl, trivial⟩ trivial ?_
  refine G.op1 (op_move (Ev.t 0 (bS s_0)) rfl) rfl ⟨rfl, trivial⟩ trivial ?_
  obtain ⟨s2, hs2, hF⟩ := bindS hF
  refine G.op1 (OpL.cast (op_cat (scat_ok hs2).1 (Ev.t 6 (bS r1)) (Ev.t 7 (bS s_0)) rfl) (by rw [(scat_ok hs2).2])) rfl ⟨rfl, rfl, trivial⟩ trivial ?_
  refine G.op1 (op_assign (Ev.t 8 (bS s2)) rfl) rfl ⟨rfl, trivial⟩ trivial ?_
  refine G.endOps ?_
  cases hF
  exact G.ret1 Tryd.results71 (RVar.tmp 2 _) ⟨rfl, trivial⟩ trivial


set_option maxRecDepth 20000 in
set_option maxHeartbeats 2000000 in
theorem ct_ref06_RowBytes (c_0 : Api_Row) (r : ByteArray) (hF : ref06_RowBytes c_0 = some r) : Ct Tryd.prog 72 [.g (.agg (encApi_Row c_0))] (.one (.d (.v (.string r)))) := by
  unfold ref06_RowBytes at hF
  refine Ct.intro Tryd.func72 rfl Tryd.ntmps72 rfl rfl fun M w => ?_
  refine G.seq ?_
  refine G.region ?_
  refine G.op2 (op_boxA (k := 1001) (Ev.t 0 (.g (.agg [.sl 2 (List.map encApi_Range c_0.Ranges), .sl 1 (List.map encI_i64 c_0.Owners), .sl 1 (List.map encI_i64 c_0.Parents)]))) rfl) rfl ⟨rfl, trivial⟩ ⟨rfl, trivial⟩ ?_
  refine G.op1 (op_assign (Ev.c _ rfl) rfl) rfl trivial trivial ?_
  refine G.endOps ?_
  refine G.seq ?_
  refine G.region ?_
  refine G.op1 (op_fieldP (off' := 0) Tryd.underlying28 rfl ti25 (by decide) rfl (Ev.t 1 (.ptr 1001 0)) rfl) rfl ⟨rfl, trivial⟩ trivial ?_
  refine G.op1 (op_load1P (c := .g (.d (.sl 2 (List.map encApi_Range c_0.Ranges)))) Tryd.underlying25 rfl rfl (Ev.t 8 (.ptr 1001 0)) rfl) rfl ⟨rfl, trivial⟩ ⟨rfl, trivial⟩ ?_
  refine G.op1 (OpL.cast (op_lenD Tryd.underlying25 (Ev.t 9 (.g (.d (.sl 2 (List.map encApi_Range c_0.Ranges))))) rfl) (by rw [List.length_map])) rfl ⟨rfl, trivial⟩ trivial ?_
  refine G.op1 (op_assign (Ev.t 10 (bI .i64 (c_0.Ranges.length : Int))) rfl) rfl ⟨rfl, trivial⟩ trivial ?_
  refine G.endOps ?_
  refine G.seq ?_
  refine G.region ?_
  refine G.op1 (op_move (Ev.t 3 (bI .i64 (c_0.Ranges.length : Int))) rfl) rfl ⟨rfl, trivial⟩ trivial ?_
  refine G.op1 (op_convI Tryd.underlying3 Tryd.underlying97 (Ev.t 11 (bI .i64 (c_0.Ranges.length : Int))) rfl) rfl ⟨rfl, trivial⟩ trivial ?_
  obtain ⟨r1, hr1, hF⟩ := bindS hF
  refine G.op1 (op_callQ (sv := .one (bS r1)) cf70 (ct_ref01_Number (IntKind.wrap .u64 (c_0.Ranges.length : Int)) r1 hr1) rfl rfl (EvQL.cons (EvQ.g (Ev.t 12 (bI .u64 (IntKind.wrap .u64 (c_0.Ranges.length : Int))))) EvQL.nil) rfl) rfl ⟨rfl, trivial⟩ trivial ?_
  refine G.op1 (op_assign (Ev.t 13 (bS r1)) rfl) rfl ⟨rfl, trivial⟩ trivial ?_
  refine G.endOps ?_
  refine G.seq ?_
  refine G.seq ?_
  refine G.region ?_
  refine G.op1 (op_assign (Ev.c _ rfl) rfl) rfl trivial trivial ?_
  refine G.endOps ?_
  refine G.joinC (T := ByteArray) (fun y2 => ⟨[(1, .one (.ptr 1001 0)), (3, .one (bI .i64 (c_0.Ranges.length : Int))), (4, .one (bS y2))], [(1001, some (.blk 28 [.g (.d (.sl 2 (List.map encApi_Range c_0.Ranges))), .g (.d (.sl 1 (List.map encI_i64 c_0.Owners))), .g (.d (.sl 1 (List.map encI_i64 c_0.Parents)))]))]⟩) (fun y2 => ref06_RowBytes_k1 c_0 y2 = some r) (fun y2 hF => ?_) (fun J25 => ?_)
  · unfold ref06_RowBytes_k1 at hF
    refine G.seq ?_
    refine G.seq ?_
    refine G.region ?_
    refine G.op1 (op_assign (Ev.c _ rfl) rfl) rfl trivial trivial ?_
    refine G.endOps ?_
    refine G.joinC (T := ByteArray) (fun y3 => ⟨[(1, .one (.ptr 1001 0)), (4, .one (bS y3))], [(1001, some (.blk 28 [.g (.d (.sl 2 (List.map encApi_Range c_0.Ranges))), .g (.d (.sl 1 (List.map encI_i64 c_0.Owners))), .g (.d (.sl 1 (List.map encI_i64 c_0.Parents)))]))]⟩) (fun y3 => ref06_RowBytes_k2 c_0 y3 = some r) (fun y3 hF => ?_) (fun J16 => ?_)
    · unfold ref06_RowBytes_k2 at hF
      refine G.seq ?_
      refine G.region ?_
      refine G.op1 (op_move (Ev.t 4 (bS y3)) rfl) rfl ⟨rfl, trivial⟩ trivial ?_
      refine G.op1 (op_fieldP (off' := 2) Tryd.underlying28 rfl ti26 (by decide) rfl (Ev.t 1 (.ptr 1001 0)) rfl) rfl ⟨rfl, trivial⟩ trivial ?_
      refine G.op1 (op_load1P (c := .g (.d (.sl 1 (List.map encI_i64 c_0.Parents)))) Tryd.underlying26 rfl rfl (Ev.t 44 (.ptr 1001 2)) rfl) rfl ⟨rfl, trivial⟩ ⟨rfl, trivial⟩ ?_
      refine G.op1 (OpL.cast (op_lenD Tryd.underlying26 (Ev.t 45 (.g (.d (.sl 1 (List.map encI_i64 c_0.Parents))))) rfl) (by rw [List.length_map])) rfl ⟨rfl, trivial⟩ trivial ?_
      refine G.op1 (op_convI Tryd.underlying3 Tryd.underlying97 (Ev.t 46 (bI .i64 (c_0.Parents.length : Int))) rfl) rfl ⟨rfl, trivial⟩ trivial ?_
      obtain ⟨r4, hr4, hF⟩ := bindS hF
      refine G.op1 (op_callQ (sv := .one (bS r4)) cf70 (ct_ref01_Number (IntKind.wrap .u64 (c_0.Parents.length : Int)) r4 hr4) rfl rfl (EvQL.cons (EvQ.g (Ev.t 47 (bI .u64 (IntKind.wrap .u64 (c_0.Parents.length : Int))))) EvQL.nil) rfl) rfl ⟨rfl, trivial⟩ trivial ?_
      obtain ⟨s5, hs5, hF⟩ := bindS hF
      refine G.op1 (OpL.cast (op_cat (scat_ok hs5).1 (Ev.t 43 (bS y3)) (Ev.t 48 (bS r4)) rfl) (by rw [(scat_ok hs5).2])) rfl ⟨rfl, rfl, trivial⟩ trivial ?_
      refine G.op1 (op_assign (Ev.t 49 (bS s5)) rfl) rfl ⟨rfl, trivial⟩ trivial ?_
      refine G.endOps ?_
      refine G.seq ?_
      refine G.seq ?_
      refine G.region ?_
      refine G.op1 (op_assign (Ev.c _ rfl) rfl) rfl trivial trivial ?_
      refine G.endOps ?_
      refine G.joinC (T := ByteArray) (fun y6 => ⟨[(4, .one (bS y6))], []⟩) (fun y6 => ref06_RowBytes_k3 y6 = some r) (fun y6 hF => ?_) (fun J7 => ?_)
      · unfold ref06_RowBytes_k3 at hF
        refine G.seq ?_
        refine G.region ?_
        refine G.op1 (op_move (Ev.t 4 (bS y6)) rfl) rfl ⟨rfl, trivial⟩ trivial ?_
        refine G.op1 (op_assign (Ev.t 67 (bS y6)) rfl) rfl ⟨rfl, trivial⟩ trivial ?_
        refine G.endOps ?_
        cases hF
        exact G.ret1 Tryd.results72 (RVar.tmp 2 _) ⟨rfl, trivial⟩ trivial
      refine G.block ?_
      refine G.keep (sl' := [(1, .one (.ptr 1001 0)), (4, .one (bS s5)), (7, .one (bI .i64 0))]) (hp' := [(1001, some (.blk 28 [.g (.d (.sl 2 (List.map encApi_Range c_0.Ranges))), .g (.d (.sl 1 (List.map encI_i64 c_0.Owners))), .g (.d (.sl 1 (List.map encI_i64 c_0.Parents)))]))]) ⟨rfl, rfl, rfl, trivial⟩ ⟨rfl, trivial⟩ rfl ?_
      refine G.loopF (fun (v8 : ByteArray × Int) => ⟨[(1, .one (.ptr 1001 0)), (4, .one (bS v8.1)), (7, .one (bI .i64 v8.2))], [(1001, some (.blk 28 [.g (.d (.sl 2 (List.map encApi_Range c_0.Ranges))), .g (.d (.sl 1 (List.map encI_i64 c_0.Owners))), .g (.d (.sl 1 (List.map encI_i64 c_0.Parents)))]))]⟩) hF rfl (fun K11 again10 v8 J9 hF => ?_)
      unfold ref06_RowBytes_l4 at hF
      refine G.seq ?_
      refine G.seq ?_
      refine G.region ?_
      refine G.op1 (op_move (Ev.t 7 (bI .i64 v8.2)) rfl) rfl ⟨rfl, trivial⟩ trivial ?_
      refine G.op1 (op_fieldP (off' := 2) Tryd.underlying28 rfl ti26 (by decide) rfl (Ev.t 1 (.ptr 1001 0)) rfl) rfl ⟨rfl, trivial⟩ trivial ?_
      refine G.op1 (op_load1P (c := .g (.d (.sl 1 (List.map encI_i64 c_0.Parents)))) Tryd.underlying26 rfl rfl (Ev.t 51 (.ptr 1001 2)) rfl) rfl ⟨rfl, trivial⟩ ⟨rfl, trivial⟩ ?_
      refine G.op1 (OpL.cast (op_lenD Tryd.underlying26 (Ev.t 52 (.g (.d (.sl 1 (List.map encI_i64 c_0.Parents))))) rfl) (by rw [List.length_map])) rfl ⟨rfl, trivial⟩ trivial ?_
      refine G.op1 (op_lss (Ev.t 50 (bI .i64 v8.2)) (Ev.t 53 (bI .i64 (c_0.Parents.length : Int))) rfl) rfl ⟨rfl, rfl, trivial⟩ trivial ?_
      refine G.endOps ?_
      refine ifS hF (fun hc12 hF => ?_) (fun hc12 hF => ?_)
      · refine G.cond rfl (fun _ => ?_) (fun hx => Bool.noConfusion (hc12.symm.trans hx))
        refine G.skip ?_
        refine G.seq ?_
        refine G.block ?_
        refine G.region ?_
        refine G.op1 (op_move (Ev.t 4 (bS v8.1)) rfl) rfl ⟨rfl, trivial⟩ trivial ?_
        refine G.op1 (op_fieldP (off' := 2) Tryd.underlying28 rfl ti26 (by decide) rfl (Ev.t 1 (.ptr 1001 0)) rfl) rfl ⟨rfl, trivial⟩ trivial ?_
        refine G.op1 (op_load1P (c := .g (.d (.sl 1 (List.map encI_i64 c_0.Parents)))) Tryd.underlying26 rfl rfl (Ev.t 58 (.ptr 1001 2)) rfl) rfl ⟨rfl, trivial⟩ ⟨rfl, trivial⟩ ?_
        refine G.op1 (op_move (Ev.t 7 (bI .i64 v8.2)) rfl) rfl ⟨rfl, trivial⟩ trivial ?_
        obtain ⟨x13, hx13, hF⟩ := bindS hF
        refine G.op1 (op_index (cs := [.v (.int .i64 x13)]) Tryd.underlying26 ti3 (idx_ok hx13).1 (idx_get hx13 encI_i64) (Ev.t 59 (.g (.d (.sl 1 (List.map encI_i64 c_0.Parents))))) (Ev.t 60 (bI .i64 v8.2)) rfl) rfl ⟨rfl, rfl, trivial⟩ trivial ?_
        refine G.op1 (op_load1E (c := .v (.int .i64 x13)) Tryd.underlying3 rfl rfl (Ev.t 61 (.ep [.v (.int .i64 x13)])) rfl) rfl ⟨rfl, trivial⟩ trivial ?_
        refine G.op1 (op_add (Ev.t 62 (bI .i64 x13)) (Ev.c _ rfl) rfl) rfl ⟨rfl, trivial⟩ trivial ?_
        refine G.op1 (op_convI Tryd.underlying3 Tryd.underlying97 (Ev.t 63 (bI .i64 (IntKind.wrap .i64 (x13 + 1)))) rfl) rfl ⟨rfl, trivial⟩ trivial ?_
        obtain ⟨r14, hr14, hF⟩ := bindS hF
        refine G.op1 (op_callQ (sv := .one (bS r14)) cf70 (ct_ref01_Number (IntKind.wrap .u64 (IntKind.wrap .i64 (x13 + 1))) r14 hr14) rfl rfl (EvQL.cons (EvQ.g (Ev.t 64 (bI .u64 (IntKind.wrap .u64 (IntKind.wrap .i64 (x13 + 1)))))) EvQL.nil) rfl) rfl ⟨rfl, trivial⟩ trivial ?_
        obtain ⟨s15, hs15, hF⟩ := bindS hF
        refine G.op1 (OpL.cast (op_cat (scat_ok hs15).1 (Ev.t 57 (bS v8.1)) (Ev.t 65 (bS r14)) rfl) (by rw [(scat_ok hs15).2])) rfl ⟨rfl, rfl, trivial⟩ trivial ?_
        refine G.op1 (op_assign (Ev.t 66 (bS s15)) rfl) rfl ⟨rfl, trivial⟩ trivial ?_
        refine G.endOps ?_
        refine G.endBlock ?_
        refine G.region ?_
        refine G.op1 (op_move (Ev.t 7 (bI .i64 v8.2)) rfl) rfl ⟨rfl, trivial⟩ trivial ?_
        refine G.op1 (op_add (Ev.t 55 (bI .i64 v8.2)) (Ev.c _ rfl) rfl) rfl ⟨rfl, trivial⟩ trivial ?_
        refine G.op1 (op_assign (Ev.t 56 (bI .i64 (IntKind.wrap .i64 (v8.2 + 1)))) rfl) rfl ⟨rfl, trivial⟩ trivial ?_
        refine G.endOps ?_
        exact G.arr (J9 (s15, IntKind.wrap .i64 (v8.2 + 1)) hF) ⟨rfl, rfl, rfl, trivial⟩ ⟨rfl, trivial⟩ rfl
      · refine G.cond rfl (fun hx => Bool.noConfusion (hc12.symm.trans hx)) (fun _ => ?_)
        refine G.exit ?_
        refine GX.c ?_
        refine GX.q ?_
        refine GX.bYes ?_
        exact G.arr (J7 v8.1 hF) ⟨rfl, trivial⟩ trivial rfl
    refine G.block ?_
    refine G.keep (sl' := [(1, .one (.ptr 1001 0)), (3, .one (bI .i64 (c_0.Ranges.length : Int))), (4, .one (bS y2)), (6, .one (bI .i64 0))]) (hp' := [(1001, some (.blk 28 [.g (.d (.sl 2 (List.map encApi_Range c_0.Ranges))), .g (.d (.sl 1 (List.map encI_i64 c_0.Owners))), .g (.d (.sl 1 (List.map encI_i64 c_0.Parents)))]))]) ⟨rfl, rfl, rfl, rfl, trivial⟩ ⟨rfl, trivial⟩ rfl ?_
    refine G.loopF (fun (v17 : ByteArray × Int) => ⟨[(1, .one (.ptr 1001 0)), (3, .one (bI .i64 (c_0.Ranges.length : Int))), (4, .one (bS v17.1)), (6, .one (bI .i64 v17.2))], [(1001, some (.blk 28 [.g (.d (.sl 2 (List.map encApi_Range c_0.Ranges))), .g (.d (.sl 1 (List.map encI_i64 c_0.Owners))), .g (.d (.sl 1 (List.map encI_i64 c_0.Parents)))]))]⟩) hF rfl (fun K20 again19 v17 J18 hF => ?_)
    unfold ref06_RowBytes_l5 at hF
    refine G.seq ?_
    refine G.seq ?_
    refine G.region ?_
    refine G.op1 (op_move (Ev.t 6 (bI .i64 v17.2)) rfl) rfl ⟨rfl, trivial⟩ trivial ?_
    refine G.op1 (op_move (Ev.t 3 (bI .i64 (c_0.Ranges.length : Int))) rfl) rfl ⟨rfl, trivial⟩ trivial ?_
    refine G.op1 (op_lss (Ev.t 29 (bI .i64 v17.2)) (Ev.t 30 (bI .i64 (c_0.Ranges.length : Int))) rfl) rfl ⟨rfl, rfl, trivial⟩ trivial ?_
    refine G.endOps ?_
    refine ifS hF (fun hc21 hF => ?_) (fun hc21 hF => ?_)
    · refine G.cond rfl (fun _ => ?_) (fun hx => Bool.noConfusion (hc21.symm.trans hx))
      refine G.skip ?_
      refine G.seq ?_
      refine G.block ?_
      refine G.region ?_
      refine G.op1 (op_move (Ev.t 4 (bS v17.1)) rfl) rfl ⟨rfl, trivial⟩ trivial ?_
      refine G.op1 (op_fieldP (off' := 1) Tryd.underlying28 rfl ti26 (by decide) rfl (Ev.t 1 (.ptr 1001 0)) rfl) rfl ⟨rfl, trivial⟩ trivial ?_
      refine G.op1 (op_load1P (c := .g (.d (.sl 1 (List.map encI_i64 c_0.Owners)))) Tryd.underlying26 rfl rfl (Ev.t 35 (.ptr 1001 1)) rfl) rfl ⟨rfl, trivial⟩ ⟨rfl, trivial⟩ ?_
      refine G.op1 (op_move (Ev.t 6 (bI .i64 v17.2)) rfl) rfl ⟨rfl, trivial⟩ trivial ?_
      obtain ⟨x22, hx22, hF⟩ := bindS hF
      refine G.op1 (op_index (cs := [.v (.int .i64 x22)]) Tryd.underlying26 ti3 (idx_ok hx22).1 (idx_get hx22 encI_i64) (Ev.t 36 (.g (.d (.sl 1 (List.map encI_i64 c_0.Owners))))) (Ev.t 37 (bI .i64 v17.2)) rfl) rfl ⟨rfl, rfl, trivial⟩ trivial ?_
      refine G.op1 (op_load1E (c := .v (.int .i64 x22)) Tryd.underlying3 rfl rfl (Ev.t 38 (.ep [.v (.int .i64 x22)])) rfl) rfl ⟨rfl, trivial⟩ trivial ?_
      refine G.op1 (op_convI Tryd.underlying3 Tryd.underlying97 (Ev.t 39 (bI .i64 x22)) rfl) rfl ⟨rfl, trivial⟩ trivial ?_
      obtain ⟨r23, hr23, hF⟩ := bindS hF
      refine G.op1 (op_callQ (sv := .one (bS r23)) cf70 (ct_ref01_Number (IntKind.wrap .u64 x22) r23 hr23) rfl rfl (EvQL.cons (EvQ.g (Ev.t 40 (bI .u64 (IntKind.wrap .u64 x22)))) EvQL.nil) rfl) rfl ⟨rfl, trivial⟩ trivial ?_
      obtain ⟨s24, hs24, hF⟩ := bindS hF
      refine G.op1 (OpL.cast (op_cat (scat_ok hs24).1 (Ev.t 34 (bS v17.1)) (Ev.t 41 (bS r23)) rfl) (by rw [(scat_ok hs24).2])) rfl ⟨rfl, rfl, trivial⟩ trivial ?_
      refine G.op1 (op_assign (Ev.t 42 (bS s24)) rfl) rfl ⟨rfl, trivial⟩ trivial ?_
      refine G.endOps ?_
      refine G.endBlock ?_
      refine G.region ?_
      refine G.op1 (op_move (Ev.t 6 (bI .i64 v17.2)) rfl) rfl ⟨rfl, trivial⟩ trivial ?_
      refine G.op1 (op_add (Ev.t 32 (bI .i64 v17.2)) (Ev.c _ rfl) rfl) rfl ⟨rfl, trivial⟩ trivial ?_
      refine G.op1 (op_assign (Ev.t 33 (bI .i64 (IntKind.wrap .i64 (v17.2 + 1)))) rfl) rfl ⟨rfl, trivial⟩ trivial ?_
      refine G.endOps ?_
      exact G.arr (J18 (s24, IntKind.wrap .i64 (v17.2 + 1)) hF) ⟨rfl, rfl, rfl, rfl, trivial⟩ ⟨rfl, trivial⟩ rfl
    · refine G.cond rfl (fun hx => Bool.noConfusion (hc21.symm.trans hx)) (fun _ => ?_)
      refine G.exit ?_
      refine GX.c ?_
      refine GX.q ?_
      refine GX.bYes ?_
      exact G.arr (J16 v17.1 hF) ⟨rfl, rfl, trivial⟩ ⟨rfl, trivial⟩ rfl
  refine G.block ?_
  refine G.keep (sl' := [(1, .one (.ptr 1001 0)), (3, .one (bI .i64 (c_0.Ranges.length : Int))), (4, .one (bS r1)), (5, .one (bI .i64 0))]) (hp' := [(1001, some (.blk 28 [.g (.d (.sl 2 (List.map encApi_Range c_0.Ranges))), .g (.d (.sl 1 (List.map encI_i64 c_0.Owners))), .g (.d (.sl 1 (List.map encI_i64 c_0.Parents)))]))]) ⟨rfl, rfl, rfl, rfl, trivial⟩ ⟨rfl, trivial⟩ rfl ?_
  refine G.loopF (fun (v26 : ByteArray × Int) => ⟨[(1, .one (.ptr 1001 0)), (3, .one (bI .i64 (c_0.Ranges.length : Int))), (4, .one (bS v26.1)), (5, .one (bI .i64 v26.2))], [(1001, some (.blk 28 [.g (.d (.sl 2 (List.map encApi_Range c_0.Ranges))), .g (.d (.sl 1 (List.map encI_i64 c_0.Owners))), .g (.d (.sl 1 (List.map encI_i64 c_0.Parents)))]))]⟩) hF rfl (fun K29 again28 v26 J27 hF => ?_)
  unfold ref06_RowBytes_l6 at hF
  refine G.seq ?_
  refine G.seq ?_
  refine G.region ?_
  refine G.op1 (op_move (Ev.t 5 (bI .i64 v26.2)) rfl) rfl ⟨rfl, trivial⟩ trivial ?_
  refine G.op1 (op_add (Ev.t 14 (bI .i64 v26.2)) (Ev.c _ rfl) rfl) rfl ⟨rfl, trivial⟩ trivial ?_
  refine G.op1 (op_move (Ev.t 3 (bI .i64 (c_0.Ranges.length : Int))) rfl) rfl ⟨rfl, trivial⟩ trivial ?_
  refine G.op1 (op_lss (Ev.t 15 (bI .i64 (IntKind.wrap .i64 (v26.2 + 1)))) (Ev.t 16 (bI .i64 (c_0.Ranges.length : Int))) rfl) rfl ⟨rfl, rfl, trivial⟩ trivial ?_
  refine G.endOps ?_
  refine ifS hF (fun hc30 hF => ?_) (fun hc30 hF => ?_)
  · refine G.cond rfl (fun _ => ?_) (fun hx => Bool.noConfusion (hc30.symm.trans hx))
    refine G.skip ?_
    refine G.seq ?_
    refine G.block ?_
    refine G.region ?_
    refine G.op1 (op_move (Ev.t 4 (bS v26.1)) rfl) rfl ⟨rfl, trivial⟩ trivial ?_
    refine G.op1 (op_fieldP (off' := 0) Tryd.underlying28 rfl ti25 (by decide) rfl (Ev.t 1 (.ptr 1001 0)) rfl) rfl ⟨rfl, trivial⟩ trivial ?_
    refine G.op1 (op_load1P (c := .g (.d (.sl 2 (List.map encApi_Range c_0.Ranges)))) Tryd.underlying25 rfl rfl (Ev.t 21 (.ptr 1001 0)) rfl) rfl ⟨rfl, trivial⟩ ⟨rfl, trivial⟩ ?_
    refine G.op1 (op_move (Ev.t 5 (bI .i64 v26.2)) rfl) rfl ⟨rfl, trivial⟩ trivial ?_
    obtain ⟨x31, hx31, hF⟩ := bindS hF
    refine G.op1 (op_index (cs := [.v (.string x31.From), .v (.string x31.To)]) Tryd.underlying25 ti48 (idx_ok hx31).1 (idx_get hx31 encApi_Range) (Ev.t 22 (.g (.d (.sl 2 (List.map encApi_Range c_0.Ranges))))) (Ev.t 23 (bI .i64 v26.2)) rfl) rfl ⟨rfl, rfl, trivial⟩ trivial ?_
    refine G.op1 (op_fieldE (cs' := [.v (.string x31.To)]) Tryd.underlying48 rfl ti9 (by decide) rfl (Ev.t 24 (.ep [.v (.string x31.From), .v (.string x31.To)])) rfl) rfl ⟨rfl, trivial⟩ trivial ?_
    refine G.op1 (op_load1E (c := .v (.string x31.To)) Tryd.underlying9 rfl rfl (Ev.t 25 (.ep [.v (.string x31.To)])) rfl) rfl ⟨rfl, trivial⟩ trivial ?_
    obtain ⟨r32, hr32, hF⟩ := bindS hF
    refine G.op1 (op_callQ (sv := .one (bS r32)) cf71 (ct_ref01_Text x31.To r32 hr32) rfl rfl (EvQL.cons (EvQ.g (Ev.t 26 (bS x31.To))) EvQL.nil) rfl) rfl ⟨rfl, trivial⟩ trivial ?_
    obtain ⟨s33, hs33, hF⟩ := bindS hF
    refine G.op1 (OpL.cast (op_cat (scat_ok hs33).1 (Ev.t 20 (bS v26.1)) (Ev.t 27 (bS r32)) rfl) (by rw [(scat_ok hs33).2])) rfl ⟨rfl, rfl, trivial⟩ trivial ?_
    refine G.op1 (op_assign (Ev.t 28 (bS s33)) rfl) rfl ⟨rfl, trivial⟩ trivial ?_
    refine G.endOps ?_
    refine G.endBlock ?_
    refine G.region ?_
    refine G.op1 (op_move (Ev.t 5 (bI .i64 v26.2)) rfl) rfl ⟨rfl, trivial⟩ trivial ?_
    refine G.op1 (op_add (Ev.t 18 (bI .i64 v26.2)) (Ev.c _ rfl) rfl) rfl ⟨rfl, trivial⟩ trivial ?_
    refine G.op1 (op_assign (Ev.t 19 (bI .i64 (IntKind.wrap .i64 (v26.2 + 1)))) rfl) rfl ⟨rfl, trivial⟩ trivial ?_
    refine G.endOps ?_
    exact G.arr (J27 (s33, IntKind.wrap .i64 (v26.2 + 1)) hF) ⟨rfl, rfl, rfl, rfl, trivial⟩ ⟨rfl, trivial⟩ rfl
  · refine G.cond rfl (fun hx => Bool.noConfusion (hc30.symm.trans hx)) (fun _ => ?_)
    refine G.exit ?_
    refine GX.c ?_
    refine GX.q ?_
    refine GX.bYes ?_
    exact G.arr (J25 v26.1 hF) ⟨rfl, rfl, rfl, trivial⟩ ⟨rfl, trivial⟩ rfl


set_option maxRecDepth 20000 in
set_option maxHeartbeats 2000000 in
theorem ct_ref22_one (o_0 : Api_Op) (r : ByteArray) (hF : ref22_one o_0 = some r) : Ct Tryd.prog 49 [.g (.agg (encApi_Op o_0))] (.one (.d (.v (.string r)))) := by
  unfold ref22_one at hF
  refine Ct.intro Tryd.func49 rfl Tryd.ntmps49 rfl rfl fun M w => ?_
  refine G.seq ?_
  refine G.region ?_
  refine G.op2 (op_boxA (k := 1001) (Ev.t 0 (.g (.agg [.v (.int .i64 o_0.Kind), .v (.int .i64 o_0.Client), .v (.int .i64 o_0.Site), .v (.int .i64 o_0.To), .v (.int .i64 o_0.At), .v (.int .i64 o_0.How), .v (.string o_0.Key), .v (.string o_0.Value), .sl 1 (List.map encS o_0.Keys), .sl 2 (List.map encApi_Range o_0.Row.Ranges), .sl 1 (List.map encI_i64 o_0.Row.Owners), .sl 1 (List.map encI_i64 o_0.Row.Parents)]))) rfl) rfl ⟨rfl, trivial⟩ ⟨rfl, trivial⟩ ?_
  refine G.op1 (op_assign (Ev.c _ rfl) rfl) rfl trivial trivial ?_
  refine G.endOps ?_
  refine G.seq ?_
  refine G.region ?_
  refine G.op1 (op_fieldP (off' := 0) Tryd.underlying30 rfl ti3 (by decide) rfl (Ev.t 1 (.ptr 1001 0)) rfl) rfl ⟨rfl, trivial⟩ trivial ?_
  refine G.op1 (op_load1P (c := bI .i64 o_0.Kind) Tryd.underlying3 rfl rfl (Ev.t 7 (.ptr 1001 0)) rfl) rfl ⟨rfl, trivial⟩ ⟨rfl, trivial⟩ ?_
  refine G.op1 (op_fieldP (off' := 1) Tryd.underlying30 rfl ti3 (by decide) rfl (Ev.t 1 (.ptr 1001 0)) rfl) rfl ⟨rfl, trivial⟩ trivial ?_
  refine G.op1 (op_load1P (c := bI .i64 o_0.Client) Tryd.underlying3 rfl rfl (Ev.t 9 (.ptr 1001 1)) rfl) rfl ⟨rfl, trivial⟩ ⟨rfl, trivial⟩ ?_
  refine G.op1 (op_fieldP (off' := 2) Tryd.underlying30 rfl ti3 (by decide) rfl (Ev.t 1 (.ptr 1001 0)) rfl) rfl ⟨rfl, trivial⟩ trivial ?_
  refine G.op1 (op_load1P (c := bI .i64 o_0.Site) Tryd.underlying3 rfl rfl (Ev.t 11 (.ptr 1001 2)) rfl) rfl ⟨rfl, trivial⟩ ⟨rfl, trivial⟩ ?_
  refine G.op1 (op_fieldP (off' := 3) Tryd.underlying30 rfl ti3 (by decide) rfl (Ev.t 1 (.ptr 1001 0)) rfl) rfl ⟨rfl, trivial⟩ trivial ?_
  refine G.op1 (op_load1P (c := bI .i64 o_0.To) Tryd.underlying3 rfl rfl (Ev.t 13 (.ptr 1001 3)) rfl) rfl ⟨rfl, trivial⟩ ⟨rfl, trivial⟩ ?_
  refine G.op1 (op_fieldP (off' := 4) Tryd.underlying30 rfl ti3 (by decide) rfl (Ev.t 1 (.ptr 1001 0)) rfl) rfl ⟨rfl, trivial⟩ trivial ?_
  refine G.op1 (op_load1P (c := bI .i64 o_0.At) Tryd.underlying3 rfl rfl (Ev.t 15 (.ptr 1001 4)) rfl) rfl ⟨rfl, trivial⟩ ⟨rfl, trivial⟩ ?_
  refine G.op1 (op_fieldP (off' := 5) Tryd.underlying30 rfl ti3 (by decide) rfl (Ev.t 1 (.ptr 1001 0)) rfl) rfl ⟨rfl, trivial⟩ trivial ?_
  refine G.op1 (op_load1P (c := bI .i64 o_0.How) Tryd.underlying3 rfl rfl (Ev.t 17 (.ptr 1001 5)) rfl) rfl ⟨rfl, trivial⟩ ⟨rfl, trivial⟩ ?_
  refine G.op1 (op_buildA (zs := [.v (.int .i64 0), .v (.int .i64 0), .v (.int .i64 0), .v (.int .i64 0), .v (.int .i64 0), .v (.int .i64 0)]) (ds := List.flatMap encI_i64 [o_0.Kind, o_0.Client, o_0.Site, o_0.To, o_0.At, o_0.How]) Tryd.underlying107 ti107 ti3 ⟨.v _ rfl, .v _ rfl, .v _ rfl, .v _ rfl, .v _ rfl, .v _ rfl, trivial⟩ (EvP.cons (Ev.t 8 (bI .i64 o_0.Kind)) (EvP.cons (Ev.t 10 (bI .i64 o_0.Client)) (EvP.cons (Ev.t 12 (bI .i64 o_0.Site)) (EvP.cons (Ev.t 14 (bI .i64 o_0.To)) (EvP.cons (Ev.t 16 (bI .i64 o_0.At)) (EvP.cons (Ev.t 18 (bI .i64 o_0.How)) EvP.nil)))))) rfl rfl) rfl ⟨rfl, rfl, rfl, rfl, rfl, rfl, trivial⟩ trivial ?_
  refine G.op2 (op_alloc (k := 1003) (cs := dat (List.flatMap encI_i64 (List.replicate 6 0))) ti107 ⟨.v _ rfl, .v _ rfl, .v _ rfl, .v _ rfl, .v _ rfl, .v _ rfl, trivial⟩ rfl) rfl trivial ⟨rfl, trivial⟩ ?_
  refine G.op3 (op_storeA (ds := List.flatMap encI_i64 ([o_0.Kind, o_0.Client, o_0.Site, o_0.To, o_0.At, o_0.How])) (cs' := dat (List.flatMap encI_i64 ([o_0.Kind, o_0.Client, o_0.Site, o_0.To, o_0.At, o_0.How]))) ti107 rfl rfl (Ev.t 3 (.ptr 1003 0)) (Ev.t 19 (.g (.agg (List.flatMap encI_i64 ([o_0.Kind, o_0.Client, o_0.Site, o_0.To, o_0.At, o_0.How])))))) rfl ⟨rfl, rfl, trivial⟩ ⟨rfl, trivial⟩ ?_
  refine G.endOps ?_
  refine G.seq ?_
  refine G.region ?_
  refine G.op1 (op_assign (Ev.c _ rfl) rfl) rfl trivial trivial ?_
  refine G.endOps ?_
  refine G.seq ?_
  refine G.seq ?_
  refine G.region ?_
  refine G.op1 (op_assign (Ev.c _ rfl) rfl) rfl trivial trivial ?_
  refine G.endOps ?_
  refine G.joinC (T := ByteArray) (fun y1 => ⟨[(1, .one (.ptr 1001 0)), (4, .one (bS y1))], [(1001, some (.blk 30 [bI .i64 o_0.Kind, bI .i64 o_0.Client, bI .i64 o_0.Site, bI .i64 o_0.To, bI .i64 o_0.At, bI .i64 o_0.How, bS o_0.Key, bS o_0.Value, .g (.d (.sl 1 (List.map encS o_0.Keys))), .g (.d (.sl 2 (List.map encApi_Range o_0.Row.Ranges))), .g (.d (.sl 1 (List.map encI_i64 o_0.Row.Owners))), .g (.d (.sl 1 (List.map encI_i64 o_0.Row.Parents)))]))]⟩) (fun y1 => ref22_one_k1 o_0 y1 = some r) (fun y1 hF => ?_) (fun J24 => ?_)
  · unfold ref22_one_k1 at hF
    refine G.seq ?_
    obtain ⟨r2, hr2, hF⟩ := bindS hF
    obtain ⟨s3, hs3, hF⟩ := bindS hF
    obtain ⟨r4, hr4, hF⟩ := bindS hF
    obtain ⟨s5, hs5, hF⟩ := bindS hF
    obtain ⟨r6, hr6, hF⟩ := bindS hF
    obtain ⟨s7, hs7, hF⟩ := bindS hF
    refine G.drawnI (deps := [[], [], [1], [1, 2], [0, 1, 2, 3], [], [5], [1, 2, 3, 5, 6], [0, 1, 2, 3, 4, 5, 6, 7], [], [9], [9, 10], [9, 10, 11], [1, 2, 3, 5, 6, 7, 9, 10, 11, 12], [0, 1, 2, 3, 4, 5, 6, 7, 8, 9, 10, 11, 12, 13], [0, 1, 2, 3, 4, 5, 6, 7, 8, 9, 10, 11, 12, 13, 14]]) (sl' := [(1, .one (.ptr 1001 0)), (4, .one (bS s7))]) (hp' := [(1001, some (.blk 30 [bI .i64 o_0.Kind, bI .i64 o_0.Client, bI .i64 o_0.Site, bI .i64 o_0.To, bI .i64 o_0.At, bI .i64 o_0.How, bS o_0.Key, bS o_0.Value, .g (.d (.sl 1 (List.map encS o_0.Keys))), .g (.d (.sl 2 (List.map encApi_Range o_0.Row.Ranges))), .g (.d (.sl 1 (List.map encI_i64 o_0.Row.Owners))), .g (.d (.sl 1 (List.map encI_i64 o_0.Row.Parents)))]))]) (.c (oP rfl rfl (op_move (Ev.t 4 (bS y1)) rfl)) (.c (oP rfl rfl (op_fieldP (off' := 6) Tryd.underlying30 rfl ti9 (by decide) rfl (Ev.t 1 (.ptr 1001 0)) rfl)) (.c (oP rfl rfl (op_load1P (c := bS o_0.Key) Tryd.underlying9 rfl rfl (Ev.t 32 (.ptr 1001 6)) rfl)) (.c (oP rfl rfl (op_callQ (sv := .one (bS r2)) cf71 (ct_ref01_Text o_0.Key r2 hr2) rfl rfl (EvQL.cons (EvQ.g (Ev.t 33 (bS o_0.Key))) EvQL.nil) rfl)) (.c (oP rfl rfl (OpL.cast (op_cat (scat_ok hs3).1 (Ev.t 31 (bS y1)) (Ev.t 34 (bS r2)) rfl) (by rw [(scat_ok hs3).2]))) (.c (oP rfl rfl (op_fieldP (off' := 7) Tryd.underlying30 rfl ti9 (by decide) rfl (Ev.t 1 (.ptr 1001 0)) rfl)) (.c (oP rfl rfl (op_load1P (c := bS o_0.Value) Tryd.underlying9 rfl rfl (Ev.t 36 (.ptr 1001 7)) rfl)) (.c (oP rfl rfl (op_callQ (sv := .one (bS r4)) cf71 (ct_ref01_Text o_0.Value r4 hr4) rfl rfl (EvQL.cons (EvQ.g (Ev.t 37 (bS o_0.Value))) EvQL.nil) rfl)) (.c (oP rfl rfl (OpL.cast (op_cat (scat_ok hs5).1 (Ev.t 35 (bS s3)) (Ev.t 38 (bS r4)) rfl) (by rw [(scat_ok hs5).2]))) (.c (oP rfl rfl (op_fieldP (off' := 8) Tryd.underlying30 rfl ti24 (by decide) rfl (Ev.t 1 (.ptr 1001 0)) rfl)) (.c (oP rfl rfl (op_load1P (c := .g (.d (.sl 1 (List.map encS o_0.Keys)))) Tryd.underlying24 rfl rfl (Ev.t 40 (.ptr 1001 8)) rfl)) (.c (oP rfl rfl (OpL.cast (op_lenD Tryd.underlying24 (Ev.t 41 (.g (.d (.sl 1 (List.map encS o_0.Keys))))) rfl) (by rw [List.length_map]))) (.c (oP rfl rfl (op_convI Tryd.underlying3 Tryd.underlying97 (Ev.t 42 (bI .i64 (o_0.Keys.length : Int))) rfl)) (.c (oP rfl rfl (op_callQ (sv := .one (bS r6)) cf70 (ct_ref01_Number (IntKind.wrap .u64 (o_0.Keys.length : Int)) r6 hr6) rfl rfl (EvQL.cons (EvQ.g (Ev.t 43 (bI .u64 (IntKind.wrap .u64 (o_0.Keys.length : Int))))) EvQL.nil) rfl)) (.c (oP rfl rfl (OpL.cast (op_cat (scat_ok hs7).1 (Ev.t 39 (bS s5)) (Ev.t 44 (bS r6)) rfl) (by rw [(scat_ok hs7).2]))) (.c (oP rfl rfl (op_assign (Ev.t 45 (bS s7)) rfl)) .nil)))))))))))))))) follows rfl rfl rfl ⟨⟨⟨rfl, rfl⟩, trivial⟩, trivial, ⟨rfl, trivial⟩, trivial, ⟨rfl, trivial⟩, ⟨⟨rfl, rfl⟩, trivial⟩, ⟨rfl, trivial⟩, trivial, ⟨rfl, rfl, trivial⟩, trivial, ⟨rfl, trivial⟩, trivial, ⟨rfl, trivial⟩, ⟨⟨rfl, rfl⟩, trivial⟩, ⟨rfl, trivial⟩, trivial, ⟨rfl, rfl, trivial⟩, trivial, ⟨rfl, trivial⟩, trivial, ⟨rfl, trivial⟩, ⟨⟨rfl, rfl⟩, trivial⟩, ⟨rfl, trivial⟩, trivial, ⟨rfl, trivial⟩, trivial, ⟨rfl, trivial⟩, trivial, ⟨rfl, rfl, trivial⟩, trivial, ⟨rfl, trivial⟩, trivial, trivial⟩ ⟨rfl, rfl, trivial⟩ ⟨rfl, trivial⟩ rfl ?_
    refine G.seq ?_
    refine G.seq ?_
    refine G.region ?_
    refine G.op1 (op_assign (Ev.c _ rfl) rfl) rfl trivial trivial ?_
    refine G.endOps ?_
    refine G.joinC (T := ByteArray) (fun y8 => ⟨[(1, .one (.ptr 1001 0)), (4, .one (bS y8))], [(1001, some (.blk 30 [bI .i64 o_0.Kind, bI .i64 o_0.Client, bI .i64 o_0.Site, bI .i64 o_0.To, bI .i64 o_0.At, bI .i64 o_0.How, bS o_0.Key, bS o_0.Value, .g (.d (.sl 1 (List.map encS o_0.Keys))), .g (.d (.sl 2 (List.map encApi_Range o_0.Row.Ranges))), .g (.d (.sl 1 (List.map encI_i64 o_0.Row.Owners))), .g (.d (.sl 1 (List.map encI_i64 o_0.Row.Parents)))]))]⟩) (fun y8 => ref22_one_k2 o_0 y8 = some r) (fun y8 hF => ?_) (fun J15 => ?_)
    · unfold ref22_one_k2 at hF
      refine G.seq ?_
      refine G.seq ?_
      refine G.region ?_
      refine G.op1 (op_fieldP (off' := 9) Tryd.underlying30 rfl ti28 (by decide) rfl (Ev.t 1 (.ptr 1001 0)) rfl) rfl ⟨rfl, trivial⟩ trivial ?_
      refine G.op1 (op_fieldP (off' := 9) Tryd.underlying28 rfl ti25 (by decide) rfl (Ev.t 61 (.ptr 1001 9)) rfl) rfl ⟨rfl, trivial⟩ trivial ?_
      refine G.op1 (op_load1P (c := .g (.d (.sl 2 (List.map encApi_Range o_0.Row.Ranges)))) Tryd.underlying25 rfl rfl (Ev.t 62 (.ptr 1001 9)) rfl) rfl ⟨rfl, trivial⟩ ⟨rfl, trivial⟩ ?_
      refine G.op1 (OpL.cast (op_lenD Tryd.underlying25 (Ev.t 63 (.g (.d (.sl 2 (List.map encApi_Range o_0.Row.Ranges))))) rfl) (by rw [List.length_map])) rfl ⟨rfl, trivial⟩ trivial ?_
      refine G.op1 (op_eqI (Ev.t 64 (bI .i64 (o_0.Row.Ranges.length : Int))) (Ev.c _ rfl) rfl) rfl ⟨rfl, trivial⟩ trivial ?_
      refine G.endOps ?_
      refine ifS hF (fun hc9 hF => ?_) (fun hc9 hF => ?_)
      · refine G.cond rfl (fun _ => ?_) (fun hx => Bool.noConfusion (hc9.symm.trans hx))
        refine G.seq ?_
        refine G.region ?_
        refine G.op1 (op_move (Ev.t 4 (bS y8)) rfl) rfl ⟨rfl, trivial⟩ trivial ?_
        obtain ⟨r10, hr10, hF⟩ := bindS hF
        refine G.op1 (op_callQ (sv := .one (bS r10)) cf71 (ct_ref01_Text ByteArray.empty r10 hr10) rfl rfl (EvQL.cons (EvQ.g (Ev.c _ rfl)) EvQL.nil) rfl) rfl trivial trivial ?_
        obtain ⟨s11, hs11, hF⟩ := bindS hF
        refine G.op1 (OpL.cast (op_cat (scat_ok hs11).1 (Ev.t 66 (bS y8)) (Ev.t 67 (bS r10)) rfl) (by rw [(scat_ok hs11).2])) rfl ⟨rfl, rfl, trivial⟩ trivial ?_
        refine G.op1 (op_assign (Ev.t 68 (bS s11)) rfl) rfl ⟨rfl, trivial⟩ trivial ?_
        refine G.endOps ?_
        cases hF
        exact G.ret1 Tryd.results49 (RVar.tmp 2 _) ⟨rfl, trivial⟩ trivial
      · refine G.cond rfl (fun hx => Bool.noConfusion (hc9.symm.trans hx)) (fun _ => ?_)
        refine G.skip ?_
        refine G.seq ?_
        refine G.region ?_
        refine G.op1 (op_move (Ev.t 4 (bS y8)) rfl) rfl ⟨rfl, trivial⟩ trivial ?_
        refine G.op1 (op_fieldP (off' := 9) Tryd.underlying30 rfl ti28 (by decide) rfl (Ev.t 1 (.ptr 1001 0)) rfl) rfl ⟨rfl, trivial⟩ trivial ?_
        refine G.op1 (op_loadAP (ds := [.sl 2 (List.map encApi_Range o_0.Row.Ranges), .sl 1 (List.map encI_i64 o_0.Row.Owners), .sl 1 (List.map encI_i64 o_0.Row.Parents)]) Tryd.underlying28 rfl ti28 rfl (Ev.t 70 (.ptr 1001 9)) rfl) rfl ⟨rfl, trivial⟩ ⟨rfl, trivial⟩ ?_
        obtain ⟨r12, hr12, hF⟩ := bindS hF
        refine G.op1 (op_callQ (sv := .one (bS r12)) cf72 (ct_ref06_RowBytes o_0.Row r12 hr12) rfl rfl (EvQL.cons (EvQ.g (Ev.t 71 (.g (.agg [.sl 2 (List.map encApi_Range o_0.Row.Ranges), .sl 1 (List.map encI_i64 o_0.Row.Owners), .sl 1 (List.map encI_i64 o_0.Row.Parents)])))) EvQL.nil) rfl) rfl ⟨rfl, trivial⟩ trivial ?_
        obtain ⟨r13, hr13, hF⟩ := bindS hF
        refine G.op1 (op_callQ (sv := .one (bS r13)) cf71 (ct_ref01_Text r12 r13 hr13) rfl rfl (EvQL.cons (EvQ.g (Ev.t 72 (bS r12))) EvQL.nil) rfl) rfl ⟨rfl, trivial⟩ trivial ?_
        obtain ⟨s14, hs14, hF⟩ := bindS hF
        refine G.op1 (OpL.cast (op_cat (scat_ok hs14).1 (Ev.t 69 (bS y8)) (Ev.t 73 (bS r13)) rfl) (by rw [(scat_ok hs14).2])) rfl ⟨rfl, rfl, trivial⟩ trivial ?_
        refine G.op1 (op_assign (Ev.t 74 (bS s14)) rfl) rfl ⟨rfl, trivial⟩ trivial ?_
        refine G.endOps ?_
        cases hF
        exact G.ret1 Tryd.results49 (RVar.tmp 2 _) ⟨rfl, trivial⟩ trivial
    refine G.block ?_
    refine G.keep (sl' := [(1, .one (.ptr 1001 0)), (4, .one (bS s7)), (6, .one (bI .i64 0))]) (hp' := [(1001, some (.blk 30 [bI .i64 o_0.Kind, bI .i64 o_0.Client, bI .i64 o_0.Site, bI .i64 o_0.To, bI .i64 o_0.At, bI .i64 o_0.How, bS o_0.Key, bS o_0.Value, .g (.d (.sl 1 (List.map encS o_0.Keys))), .g (.d (.sl 2 (List.map encApi_Range o_0.Row.Ranges))), .g (.d (.sl 1 (List.map encI_i64 o_0.Row.Owners))), .g (.d (.sl 1 (List.map encI_i64 o_0.Row.Parents)))]))]) ⟨rfl, rfl, rfl, trivial⟩ ⟨rfl, trivial⟩ rfl ?_
    refine G.loopF (fun (v16 : ByteArray × Int) => ⟨[(1, .one (.ptr 1001 0)), (4, .one (bS v16.1)), (6, .one (bI .i64 v16.2))], [(1001, some (.blk 30 [bI .i64 o_0.Kind, bI .i64 o_0.Client, bI .i64 o_0.Site, bI .i64 o_0.To, bI .i64 o_0.At, bI .i64 o_0.How, bS o_0.Key, bS o_0.Value, .g (.d (.sl 1 (List.map encS o_0.Keys))), .g (.d (.sl 2 (List.map encApi_Range o_0.Row.Ranges))), .g (.d (.sl 1 (List.map encI_i64 o_0.Row.Owners))), .g (.d (.sl 1 (List.map encI_i64 o_0.Row.Parents)))]))]⟩) hF rfl (fun K19 again18 v16 J17 hF => ?_)
    unfold ref22_one_l3 at hF
    refine G.seq ?_
    refine G.seq ?_
    refine G.region ?_
    refine G.op1 (op_move (Ev.t 6 (bI .i64 v16.2)) rfl) rfl ⟨rfl, trivial⟩ trivial ?_
    refine G.op1 (op_fieldP (off' := 8) Tryd.underlying30 rfl ti24 (by decide) rfl (Ev.t 1 (.ptr 1001 0)) rfl) rfl ⟨rfl, trivial⟩ trivial ?_
    refine G.op1 (op_load1P (c := .g (.d (.sl 1 (List.map encS o_0.Keys)))) Tryd.underlying24 rfl rfl (Ev.t 47 (.ptr 1001 8)) rfl) rfl ⟨rfl, trivial⟩ ⟨rfl, trivial⟩ ?_
    refine G.op1 (OpL.cast (op_lenD Tryd.underlying24 (Ev.t 48 (.g (.d (.sl 1 (List.map encS o_0.Keys))))) rfl) (by rw [List.length_map])) rfl ⟨rfl, trivial⟩ trivial ?_
    refine G.op1 (op_lss (Ev.t 46 (bI .i64 v16.2)) (Ev.t 49 (bI .i64 (o_0.Keys.length : Int))) rfl) rfl ⟨rfl, rfl, trivial⟩ trivial ?_
    refine G.endOps ?_
    refine ifS hF (fun hc20 hF => ?_) (fun hc20 hF => ?_)
    · refine G.cond rfl (fun _ => ?_) (fun hx => Bool.noConfusion (hc20.symm.trans hx))
      refine G.skip ?_
      refine G.seq ?_
      refine G.block ?_
      refine G.region ?_
      refine G.op1 (op_move (Ev.t 4 (bS v16.1)) rfl) rfl ⟨rfl, trivial⟩ trivial ?_
      refine G.op1 (op_fieldP (off' := 8) Tryd.underlying30 rfl ti24 (by decide) rfl (Ev.t 1 (.ptr 1001 0)) rfl) rfl ⟨rfl, trivial⟩ trivial ?_
      refine G.op1 (op_load1P (c := .g (.d (.sl 1 (List.map encS o_0.Keys)))) Tryd.underlying24 rfl rfl (Ev.t 54 (.ptr 1001 8)) rfl) rfl ⟨rfl, trivial⟩ ⟨rfl, trivial⟩ ?_
      refine G.op1 (op_move (Ev.t 6 (bI .i64 v16.2)) rfl) rfl ⟨rfl, trivial⟩ trivial ?_
      obtain ⟨x21, hx21, hF⟩ := bindS hF
      refine G.op1 (op_index (cs := [.v (.string x21)]) Tryd.underlying24 ti9 (idx_ok hx21).1 (idx_get hx21 encS) (Ev.t 55 (.g (.d (.sl 1 (List.map encS o_0.Keys))))) (Ev.t 56 (bI .i64 v16.2)) rfl) rfl ⟨rfl, rfl, trivial⟩ trivial ?_
      refine G.op1 (op_load1E (c := .v (.string x21)) Tryd.underlying9 rfl rfl (Ev.t 57 (.ep [.v (.string x21)])) rfl) rfl ⟨rfl, trivial⟩ trivial ?_
      obtain ⟨r22, hr22, hF⟩ := bindS hF
      refine G.op1 (op_callQ (sv := .one (bS r22)) cf71 (ct_ref01_Text x21 r22 hr22) rfl rfl (EvQL.cons (EvQ.g (Ev.t 58 (bS x21))) EvQL.nil) rfl) rfl ⟨rfl, trivial⟩ trivial ?_
      obtain ⟨s23, hs23, hF⟩ := bindS hF
      refine G.op1 (OpL.cast (op_cat (scat_ok hs23).1 (Ev.t 53 (bS v16.1)) (Ev.t 59 (bS r22)) rfl) (by rw [(scat_ok hs23).2])) rfl ⟨rfl, rfl, trivial⟩ trivial ?_
      refine G.op1 (op_assign (Ev.t 60 (bS s23)) rfl) rfl ⟨rfl, trivial⟩ trivial ?_
      refine G.endOps ?_
      refine G.endBlock ?_
      refine G.region ?_
      refine G.op1 (op_move (Ev.t 6 (bI .i64 v16.2)) rfl) rfl ⟨rfl, trivial⟩ trivial ?_
      refine G.op1 (op_add (Ev.t 51 (bI .i64 v16.2)) (Ev.c _ rfl) rfl) rfl ⟨rfl, trivial⟩ trivial ?_
      refine G.op1 (op_assign (Ev.t 52 (bI .i64 (IntKind.wrap .i64 (v16.2 + 1)))) rfl) rfl ⟨rfl, trivial⟩ trivial ?_
      refine G.endOps ?_
      exact G.arr (J17 (s23, IntKind.wrap .i64 (v16.2 + 1)) hF) ⟨rfl, rfl, rfl, trivial⟩ ⟨rfl, trivial⟩ rfl
    · refine G.cond rfl (fun hx => Bool.noConfusion (hc20.symm.trans hx)) (fun _ => ?_)
      refine G.exit ?_
      refine GX.c ?_
      refine GX.q ?_
      refine GX.bYes ?_
      exact G.arr (J15 v16.1 hF) ⟨rfl, rfl, trivial⟩ ⟨rfl, trivial⟩ rfl
  refine G.block ?_
  refine G.keep (sl' := [(1, .one (.ptr 1001 0)), (3, .one (.ptr 1003 0)), (4, .one (bS ByteArray.empty)), (5, .one (bI .i64 0))]) (hp' := [(1001, some (.blk 30 [bI .i64 o_0.Kind, bI .i64 o_0.Client, bI .i64 o_0.Site, bI .i64 o_0.To, bI .i64 o_0.At, bI .i64 o_0.How, bS o_0.Key, bS o_0.Value, .g (.d (.sl 1 (List.map encS o_0.Keys))), .g (.d (.sl 2 (List.map encApi_Range o_0.Row.Ranges))), .g (.d (.sl 1 (List.map encI_i64 o_0.Row.Owners))), .g (.d (.sl 1 (List.map encI_i64 o_0.Row.Parents)))])), (1003, some (.blk 107 (dat (List.flatMap encI_i64 ([o_0.Kind, o_0.Client, o_0.Site, o_0.To, o_0.At, o_0.How])))))]) ⟨rfl, rfl, rfl, rfl, trivial⟩ ⟨rfl, rfl, trivial⟩ (by simp only [wellId, List.all_cons, List.all_nil, HE.ids, ids_dat]; rfl) ?_
  refine G.loopF (fun (v25 : ByteArray × Int) => ⟨[(1, .one (.ptr 1001 0)), (3, .one (.ptr 1003 0)), (4, .one (bS v25.1)), (5, .one (bI .i64 v25.2))], [(1001, some (.blk 30 [bI .i64 o_0.Kind, bI .i64 o_0.Client, bI .i64 o_0.Site, bI .i64 o_0.To, bI .i64 o_0.At, bI .i64 o_0.How, bS o_0.Key, bS o_0.Value, .g (.d (.sl 1 (List.map encS o_0.Keys))), .g (.d (.sl 2 (List.map encApi_Range o_0.Row.Ranges))), .g (.d (.sl 1 (List.map encI_i64 o_0.Row.Owners))), .g (.d (.sl 1 (List.map encI_i64 o_0.Row.Parents)))])), (1003, some (.blk 107 (dat (List.flatMap encI_i64 ([o_0.Kind, o_0.Client, o_0.Site, o_0.To, o_0.At, o_0.How])))))]⟩) hF rfl (fun K28 again27 v25 J26 hF => ?_)
  unfold ref22_one_l4 at hF
  refine G.seq ?_
  refine G.seq ?_
  refine G.region ?_
  refine G.op1 (op_move (Ev.t 5 (bI .i64 v25.2)) rfl) rfl ⟨rfl, trivial⟩ trivial ?_
  refine G.op1 (op_lss (Ev.t 20 (bI .i64 v25.2)) (Ev.c _ rfl) rfl) rfl ⟨rfl, trivial⟩ trivial ?_
  refine G.endOps ?_
  refine ifS hF (fun hc29 hF => ?_) (fun hc29 hF => ?_)
  · refine G.cond rfl (fun _ => ?_) (fun hx => Bool.noConfusion (hc29.symm.trans hx))
    refine G.skip ?_
    refine G.seq ?_
    refine G.block ?_
    refine G.region ?_
    refine G.op1 (op_move (Ev.t 4 (bS v25.1)) rfl) rfl ⟨rfl, trivial⟩ trivial ?_
    refine G.op1 (op_move (Ev.t 5 (bI .i64 v25.2)) rfl) rfl ⟨rfl, trivial⟩ trivial ?_
    obtain ⟨x30, hx30, hF⟩ := bindS hF
    refine G.op1 (op_indexA Tryd.underlying107 ti3 (aidx_ok hx30).1 (aidx_ok hx30).2.1 (Ev.t 3 (.ptr 1003 0)) (Ev.t 25 (bI .i64 v25.2)) rfl) rfl ⟨rfl, rfl, trivial⟩ trivial ?_
    refine G.op1 (op_load1P (c := bI .i64 x30) Tryd.underlying3 rfl (arr_at1 hx30 (fun _ => rfl) rfl) (Ev.t 26 (.ptr 1003 (Int.toNat v25.2 * 1))) rfl) rfl ⟨rfl, trivial⟩ ⟨rfl, trivial⟩ ?_
    refine G.op1 (op_convI Tryd.underlying3 Tryd.underlying97 (Ev.t 27 (bI .i64 x30)) rfl) rfl ⟨rfl, trivial⟩ trivial ?_
    obtain ⟨r31, hr31, hF⟩ := bindS hF
    refine G.op1 (op_callQ (sv := .one (bS r31)) cf70 (ct_ref01_Number (IntKind.wrap .u64 x30) r31 hr31) rfl rfl (EvQL.cons (EvQ.g (Ev.t 28 (bI .u64 (IntKind.wrap .u64 x30)))) EvQL.nil) rfl) rfl ⟨rfl, trivial⟩ trivial ?_
    obtain ⟨s32, hs32, hF⟩ := bindS hF
    refine G.op1 (OpL.cast (op_cat (scat_ok hs32).1 (Ev.t 24 (bS v25.1)) (Ev.t 29 (bS r31)) rfl) (by rw [(scat_ok hs32).2])) rfl ⟨rfl, rfl, trivial⟩ trivial ?_
    refine G.op1 (op_assign (Ev.t 30 (bS s32)) rfl) rfl ⟨rfl, trivial⟩ trivial ?_
    refine G.endOps ?_
    refine G.endBlock ?_
    refine G.region ?_
    refine G.op1 (op_move (Ev.t 5 (bI .i64 v25.2)) rfl) rfl ⟨rfl, trivial⟩ trivial ?_
    refine G.op1 (op_add (Ev.t 22 (bI .i64 v25.2)) (Ev.c _ rfl) rfl) rfl ⟨rfl, trivial⟩ trivial ?_
    refine G.op1 (op_assign (Ev.t 23 (bI .i64 (IntKind.wrap .i64 (v25.2 + 1)))) rfl) rfl ⟨rfl, trivial⟩ trivial ?_
    refine G.endOps ?_
    exact G.arr (J26 (s32, IntKind.wrap .i64 (v25.2 + 1)) hF) ⟨rfl, rfl, rfl, rfl, trivial⟩ ⟨rfl, rfl, trivial⟩ (by simp only [wellId, List.all_cons, List.all_nil, HE.ids, ids_dat]; rfl)
  · refine G.cond rfl (fun hx => Bool.noConfusion (hc29.symm.trans hx)) (fun _ => ?_)
    refine G.exit ?_
    refine GX.c ?_
    refine GX.q ?_
    refine GX.bYes ?_
    exact G.arr (J24 v25.1 hF) ⟨rfl, rfl, trivial⟩ ⟨rfl, trivial⟩ rfl


set_option maxRecDepth 20000 in
set_option maxHeartbeats 2000000 in
theorem ct_ref22_SameOp (a_0 : Api_Op) (b_1 : Api_Op) (r : Bool) (hF : ref22_SameOp a_0 b_1 = some r) : Ct Tryd.prog 24 [.g (.agg (encApi_Op a_0)), .g (.agg (encApi_Op b_1))] (.one (.d (.v (.bool r)))) := by
  unfold ref22_SameOp at hF
  refine Ct.intro Tryd.func24 rfl Tryd.ntmps24 rfl rfl fun M w => ?_
  refine G.seq ?_
  refine G.region ?_
  refine G.op2 (op_boxA (k := 1002) (Ev.t 0 (.g (.agg [.v (.int .i64 a_0.Kind), .v (.int .i64 a_0.Client), .v (.int .i64 a_0.Site), .v (.int .i64 a_0.To), .v (.int .i64 a_0.At), .v (.int .i64 a_0.How), .v (.string a_0.Key), .v (.string a_0.Value), .sl 1 (List.map encS a_0.Keys), .sl 2 (List.map encApi_Range a_0.Row.Ranges), .sl 1 (List.map encI_i64 a_0.Row.Owners), .sl 1 (List.map encI_i64 a_0.Row.Parents)]))) rfl) rfl ⟨rfl, trivial⟩ ⟨rfl, trivial⟩ ?_
  refine G.op2 (op_boxA (k := 1003) (Ev.t 1 (.g (.agg [.v (.int .i64 b_1.Kind), .v (.int .i64 b_1.Client), .v (.int .i64 b_1.Site), .v (.int .i64 b_1.To), .v (.int .i64 b_1.At), .v (.int .i64 b_1.How), .v (.string b_1.Key), .v (.string b_1.Value), .sl 1 (List.map encS b_1.Keys), .sl 2 (List.map encApi_Range b_1.Row.Ranges), .sl 1 (List.map encI_i64 b_1.Row.Owners), .sl 1 (List.map encI_i64 b_1.Row.Parents)]))) rfl) rfl ⟨rfl, trivial⟩ ⟨rfl, trivial⟩ ?_
  refine G.op1 (op_assign (Ev.c _ rfl) rfl) rfl trivial trivial ?_
  refine G.endOps ?_
  refine G.seq ?_
  refine G.region ?_
  refine G.op1 (op_loadAP (ds := [.v (.int .i64 a_0.Kind), .v (.int .i64 a_0.Client), .v (.int .i64 a_0.Site), .v (.int .i64 a_0.To), .v (.int .i64 a_0.At), .v (.int .i64 a_0.How), .v (.string a_0.Key), .v (.string a_0.Value), .sl 1 (List.map encS a_0.Keys), .sl 2 (List.map encApi_Range a_0.Row.Ranges), .sl 1 (List.map encI_i64 a_0.Row.Owners), .sl 1 (List.map encI_i64 a_0.Row.Parents)]) Tryd.underlying30 rfl ti30 rfl (Ev.t 2 (.ptr 1002 0)) rfl) rfl ⟨rfl, trivial⟩ ⟨rfl, trivial⟩ ?_
  obtain ⟨r1, hr1, hF⟩ := bindS hF
  refine G.op1 (op_callQ (sv := .one (bS r1)) cf49 (ct_ref22_one a_0 r1 hr1) rfl rfl (EvQL.cons (EvQ.g (Ev.t 7 (.g (.agg [.v (.int .i64 a_0.Kind), .v (.int .i64 a_0.Client), .v (.int .i64 a_0.Site), .v (.int .i64 a_0.To), .v (.int .i64 a_0.At), .v (.int .i64 a_0.How), .v (.string a_0.Key), .v (.string a_0.Value), .sl 1 (List.map encS a_0.Keys), .sl 2 (List.map encApi_Range a_0.Row.Ranges), .sl 1 (List.map encI_i64 a_0.Row.Owners), .sl 1 (List.map encI_i64 a_0.Row.Parents)])))) EvQL.nil) rfl) rfl ⟨rfl, trivial⟩ trivial ?_
  refine G.op1 (op_assign (Ev.t 8 (bS r1)) rfl) rfl ⟨rfl, trivial⟩ trivial ?_
  refine G.endOps ?_
  refine G.seq ?_
  refine G.region ?_
  refine G.op1 (op_loadAP (ds := [.v (.int .i64 b_1.Kind), .v (.int .i64 b_1.Client), .v (.int .i64 b_1.Site), .v (.int .i64 b_1.To), .v (.int .i64 b_1.At), .v (.int .i64 b_1.How), .v (.string b_1.Key), .v (.string b_1.Value), .sl 1 (List.map encS b_1.Keys), .sl 2 (List.map encApi_Range b_1.Row.Ranges), .sl 1 (List.map encI_i64 b_1.Row.Owners), .sl 1 (List.map encI_i64 b_1.Row.Parents)]) Tryd.underlying30 rfl ti30 rfl (Ev.t 3 (.ptr 1003 0)) rfl) rfl ⟨rfl, trivial⟩ ⟨rfl, trivial⟩ ?_
  obtain ⟨r2, hr2, hF⟩ := bindS hF
  refine G.op1 (op_callQ (sv := .one (bS r2)) cf49 (ct_ref22_one b_1 r2 hr2) rfl rfl (EvQL.cons (EvQ.g (Ev.t 9 (.g (.agg [.v (.int .i64 b_1.Kind), .v (.int .i64 b_1.Client), .v (.int .i64 b_1.Site), .v (.int .i64 b_1.To), .v (.int .i64 b_1.At), .v (.int .i64 b_1.How), .v (.string b_1.Key), .v (.string b_1.Value), .sl 1 (List.map encS b_1.Keys), .sl 2 (List.map encApi_Range b_1.Row.Ranges), .sl 1 (List.map encI_i64 b_1.Row.Owners), .sl 1 (List.map encI_i64 b_1.Row.Parents)])))) EvQL.nil) rfl) rfl ⟨rfl, trivial⟩ trivial ?_
  refine G.op1 (op_assign (Ev.t 10 (bS r2)) rfl) rfl ⟨rfl, trivial⟩ trivial ?_
  refine G.endOps ?_
  refine G.seq ?_
  refine G.region ?_
  refine G.op1 (op_move (Ev.t 5 (bS r1)) rfl) rfl ⟨rfl, trivial⟩ trivial ?_
  refine G.op1 (op_move (Ev.t 6 (bS r2)) rfl) rfl ⟨rfl, trivial⟩ trivial ?_
  refine G.op1 (op_eqS (Ev.t 11 (bS r1)) (Ev.t 12 (bS r2)) rfl) rfl ⟨rfl, rfl, trivial⟩ trivial ?_
  refine G.op1 (op_assign (Ev.t 13 (bB (seq r1 r2))) rfl) rfl ⟨rfl, trivial⟩ trivial ?_
  refine G.endOps ?_
  cases hF
  exact G.ret1 Tryd.results24 (RVar.tmp 4 _) ⟨rfl, trivial⟩ trivial


set_option maxRecDepth 20000 in
set_option maxHeartbeats 2000000 in
theorem ct_law24_same (a_0 : (List Api_Op)) (b_1 : (List Api_Op)) (r : Bool) (hF : law24_same a_0 b_1 = some r) : Ct Tryd.prog 12 [.g (.d (.sl 12 (List.map encApi_Op a_0))), .g (.d (.sl 12 (List.map encApi_Op b_1)))] (.one (.d (.v (.bool r)))) := by
  unfold law24_same at hF
  refine Ct.intro Tryd.func12 rfl Tryd.ntmps12 rfl rfl fun M w => ?_
  refine G.seq ?_
  refine G.region ?_
  refine G.op1 (op_assign (Ev.c _ rfl) rfl) rfl trivial trivial ?_
  refine G.endOps ?_
  refine G.seq ?_
  refine G.seq ?_
  refine G.region ?_
  refine G.op1 (op_move (Ev.t 0 (.g (.d (.sl 12 (List.map encApi_Op a_0))))) rfl) rfl ⟨rfl, trivial⟩ trivial ?_
  refine G.op1 (OpL.cast (op_lenD Tryd.underlying22 (Ev.t 7 (.g (.d (.sl 12 (List.map encApi_Op a_0))))) rfl) (by rw [List.length_map])) rfl ⟨rfl, trivial⟩ trivial ?_
  refine G.op1 (op_move (Ev.t 1 (.g (.d (.sl 12 (List.map encApi_Op b_1))))) rfl) rfl ⟨rfl, trivial⟩ trivial ?_
  refine G.op1 (OpL.cast (op_lenD Tryd.underlying22 (Ev.t 9 (.g (.d (.sl 12 (List.map encApi_Op b_1))))) rfl) (by rw [List.length_map])) rfl ⟨rfl, trivial⟩ trivial ?_
  refine G.op1 (op_neI (Ev.t 8 (bI .i64 (a_0.length : Int))) (Ev.t 10 (bI .i64 (b_1.length : Int))) rfl) rfl ⟨rfl, rfl, trivial⟩ trivial ?_
  refine G.endOps ?_
  refine ifS hF (fun hc1 hF => ?_) (fun hc1 hF => ?_)
  · refine G.cond rfl (fun _ => ?_) (fun hx => Bool.noConfusion (hc1.symm.trans hx))
    refine G.seq ?_
    refine G.region ?_
    refine G.op1 (op_assign (Ev.c _ rfl) rfl) rfl trivial trivial ?_
    refine G.endOps ?_
    cases hF
    exact G.ret1 Tryd.results12 (RVar.tmp 4 _) ⟨rfl, trivial⟩ trivial
  · refine G.cond rfl (fun hx => Bool.noConfusion (hc1.symm.trans hx)) (fun _ => ?_)
    refine G.skip ?_
    refine G.seq ?_
    refine G.seq ?_
    refine G.region ?_
    refine G.op1 (op_assign (Ev.c _ rfl) rfl) rfl trivial trivial ?_
    refine G.endOps ?_
    refine G.joinC (T := Unit) (fun y2 => ⟨[], []⟩) (fun y2 => law24_same_k1 y2 = some r) (fun y2 hF => ?_) (fun J3 => ?_)
    · unfold law24_same_k1 at hF
      refine G.seq ?_
      refine G.region ?_
      refine G.op1 (op_assign (Ev.c _ rfl) rfl) rfl trivial trivial ?_
      refine G.endOps ?_
      cases hF
      exact G.ret1 Tryd.results12 (RVar.tmp 4 _) ⟨rfl, trivial⟩ trivial
    refine G.block ?_
    refine G.keep (sl' := [(0, .one (.g (.d (.sl 12 (List.map encApi_Op a_0))))), (1, .one (.g (.d (.sl 12 (List.map encApi_Op b_1))))), (5, .one (bI .i64 0))]) (hp' := []) ⟨rfl, rfl, rfl, trivial⟩ trivial rfl ?_
    refine G.loopF (fun (v4 : Int) => ⟨[(0, .one (.g (.d (.sl 12 (List.map encApi_Op a_0))))), (1, .one (.g (.d (.sl 12 (List.map encApi_Op b_1))))), (5, .one (bI .i64 v4))], []⟩) hF rfl (fun K7 again6 v4 J5 hF => ?_)
    unfold law24_same_l2 at hF
    refine G.seq ?_
    refine G.seq ?_
    refine G.region ?_
    refine G.op1 (op_move (Ev.t 5 (bI .i64 v4)) rfl) rfl ⟨rfl, trivial⟩ trivial ?_
    refine G.op1 (op_move (Ev.t 0 (.g (.d (.sl 12 (List.map encApi_Op a_0))))) rfl) rfl ⟨rfl, trivial⟩ trivial ?_
    refine G.op1 (OpL.cast (op_lenD Tryd.underlying22 (Ev.t 13 (.g (.d (.sl 12 (List.map encApi_Op a_0))))) rfl) (by rw [List.length_map])) rfl ⟨rfl, trivial⟩ trivial ?_
    refine G.op1 (op_lss (Ev.t 12 (bI .i64 v4)) (Ev.t 14 (bI .i64 (a_0.length : Int))) rfl) rfl ⟨rfl, rfl, trivial⟩ trivial ?_
    refine G.endOps ?_
    refine ifS hF (fun hc8 hF => ?_) (fun hc8 hF => ?_)
    · refine G.cond rfl (fun _ => ?_) (fun hx => Bool.noConfusion (hc8.symm.trans hx))
      refine G.skip ?_
      refine G.seq ?_
      refine G.block ?_
      refine G.seq ?_
      obtain ⟨x9, hx9, hF⟩ := bindS hF
      obtain ⟨x10, hx10, hF⟩ := bindS hF
      obtain ⟨r11, hr11, hF⟩ := bindS hF
      refine G.drawnI (deps := [[], [], [0, 1], [0, 1, 2], [], [], [4, 5], [4, 5, 6], [0, 1, 2, 3, 4, 5, 6, 7], [0, 1, 2, 3, 4, 5, 6, 7, 8]]) (sl' := [(0, .one (.g (.d (.sl 12 (List.map encApi_Op a_0))))), (1, .one (.g (.d (.sl 12 (List.map encApi_Op b_1))))), (5, .one (bI .i64 v4)), (6, .one (bB r11))]) (hp' := []) (.c (oP rfl rfl (op_move (Ev.t 0 (.g (.d (.sl 12 (List.map encApi_Op a_0))))) rfl)) (.c (oP rfl rfl (op_move (Ev.t 5 (bI .i64 v4)) rfl)) (.c (oP rfl rfl (op_index (cs := [.v (.int .i64 x9.Kind), .v (.int .i64 x9.Client), .v (.int .i64 x9.Site), .v (.int .i64 x9.To), .v (.int .i64 x9.At), .v (.int .i64 x9.How), .v (.string x9.Key), .v (.string x9.Value), .sl 1 (List.map encS x9.Keys), .sl 2 (List.map encApi_Range x9.Row.Ranges), .sl 1 (List.map encI_i64 x9.Row.Owners), .sl 1 (List.map encI_i64 x9.Row.Parents)]) Tryd.underlying22 ti30 (idx_ok hx9).1 (idx_get hx9 encApi_Op) (Ev.t 18 (.g (.d (.sl 12 (List.map encApi_Op a_0))))) (Ev.t 19 (bI .i64 v4)) rfl)) (.c (oP rfl rfl (op_loadAE (ds := [.v (.int .i64 x9.Kind), .v (.int .i64 x9.Client), .v (.int .i64 x9.Site), .v (.int .i64 x9.To), .v (.int .i64 x9.At), .v (.int .i64 x9.How), .v (.string x9.Key), .v (.string x9.Value), .sl 1 (List.map encS x9.Keys), .sl 2 (List.map encApi_Range x9.Row.Ranges), .sl 1 (List.map encI_i64 x9.Row.Owners), .sl 1 (List.map encI_i64 x9.Row.Parents)]) Tryd.underlying30 rfl ti30 rfl (Ev.t 20 (.ep [.v (.int .i64 x9.Kind), .v (.int .i64 x9.Client), .v (.int .i64 x9.Site), .v (.int .i64 x9.To), .v (.int .i64 x9.At), .v (.int .i64 x9.How), .v (.string x9.Key), .v (.string x9.Value), .sl 1 (List.map encS x9.Keys), .sl 2 (List.map encApi_Range x9.Row.Ranges), .sl 1 (List.map encI_i64 x9.Row.Owners), .sl 1 (List.map encI_i64 x9.Row.Parents)])) rfl)) (.c (oP rfl rfl (op_move (Ev.t 1 (.g (.d (.sl 12 (List.map encApi_Op b_1))))) rfl)) (.c (oP rfl rfl (op_move (Ev.t 5 (bI .i64 v4)) rfl)) (.c (oP rfl rfl (op_index (cs := [.v (.int .i64 x10.Kind), .v (.int .i64 x10.Client), .v (.int .i64 x10.Site), .v (.int .i64 x10.To), .v (.int .i64 x10.At), .v (.int .i64 x10.How), .v (.string x10.Key), .v (.string x10.Value), .sl 1 (List.map encS x10.Keys), .sl 2 (List.map encApi_Range x10.Row.Ranges), .sl 1 (List.map encI_i64 x10.Row.Owners), .sl 1 (List.map encI_i64 x10.Row.Parents)]) Tryd.underlying22 ti30 (idx_ok hx10).1 (idx_get hx10 encApi_Op) (Ev.t 22 (.g (.d (.sl 12 (List.map encApi_Op b_1))))) (Ev.t 23 (bI .i64 v4)) rfl)) (.c (oP rfl rfl (op_loadAE (ds := [.v (.int .i64 x10.Kind), .v (.int .i64 x10.Client), .v (.int .i64 x10.Site), .v (.int .i64 x10.To), .v (.int .i64 x10.At), .v (.int .i64 x10.How), .v (.string x10.Key), .v (.string x10.Value), .sl 1 (List.map encS x10.Keys), .sl 2 (List.map encApi_Range x10.Row.Ranges), .sl 1 (List.map encI_i64 x10.Row.Owners), .sl 1 (List.map encI_i64 x10.Row.Parents)]) Tryd.underlying30 rfl ti30 rfl (Ev.t 24 (.ep [.v (.int .i64 x10.Kind), .v (.int .i64 x10.Client), .v (.int .i64 x10.Site), .v (.int .i64 x10.To), .v (.int .i64 x10.At), .v (.int .i64 x10.How), .v (.string x10.Key), .v (.string x10.Value), .sl 1 (List.map encS x10.Keys), .sl 2 (List.map encApi_Range x10.Row.Ranges), .sl 1 (List.map encI_i64 x10.Row.Owners), .sl 1 (List.map encI_i64 x10.Row.Parents)])) rfl)) (.c (oP rfl rfl (op_callQ (sv := .one (bB r11)) cf24 (ct_ref22_SameOp x9 x10 r11 hr11) rfl rfl (EvQL.cons (EvQ.g (Ev.t 21 (.g (.agg [.v (.int .i64 x9.Kind), .v (.int .i64 x9.Client), .v (.int .i64 x9.Site), .v (.int .i64 x9.To), .v (.int .i64 x9.At), .v (.int .i64 x9.How), .v (.string x9.Key), .v (.string x9.Value), .sl 1 (List.map encS x9.Keys), .sl 2 (List.map encApi_Range x9.Row.Ranges), .sl 1 (List.map encI_i64 x9.Row.Owners), .sl 1 (List.map encI_i64 x9.Row.Parents)])))) (EvQL.cons (EvQ.g (Ev.t 25 (.g (.agg [.v (.int .i64 x10.Kind), .v (.int .i64 x10.Client), .v (.int .i64 x10.Site), .v (.int .i64 x10.To), .v (.int .i64 x10.At), .v (.int .i64 x10.How), .v (.string x10.Key), .v (.string x10.Value), .sl 1 (List.map encS x10.Keys), .sl 2 (List.map encApi_Range x10.Row.Ranges), .sl 1 (List.map encI_i64 x10.Row.Owners), .sl 1 (List.map encI_i64 x10.Row.Parents)])))) EvQL.nil)) rfl)) (.c (oP rfl rfl (op_assign (Ev.t 26 (bB r11)) rfl)) .nil)))))))))) follows rfl rfl rfl ⟨⟨rfl, trivial⟩, trivial, ⟨rfl, trivial⟩, trivial, ⟨rfl, rfl, trivial⟩, trivial, ⟨rfl, trivial⟩, trivial, ⟨rfl, trivial⟩, trivial, ⟨rfl, trivial⟩, trivial, ⟨rfl, rfl, trivial⟩, trivial, ⟨rfl, trivial⟩, trivial, ⟨rfl, rfl, trivial⟩, trivial, ⟨rfl, trivial⟩, trivial, trivial⟩ ⟨rfl, rfl, rfl, rfl, trivial⟩ trivial rfl ?_
      refine G.seq ?_
      refine G.region ?_
      refine G.op1 (op_move (Ev.t 6 (bB r11)) rfl) rfl ⟨rfl, trivial⟩ trivial ?_
      refine G.op1 (op_not (Ev.t 27 (bB r11)) rfl) rfl ⟨rfl, trivial⟩ trivial ?_
      refine G.endOps ?_
      refine ifS hF (fun hc12 hF => ?_) (fun hc12 hF => ?_)
      · refine G.cond rfl (fun _ => ?_) (fun hx => Bool.noConfusion (hc12.symm.trans hx))
        refine G.seq ?_
        refine G.region ?_
        refine G.op1 (op_assign (Ev.c _ rfl) rfl) rfl trivial trivial ?_
        refine G.endOps ?_
        cases hF
        exact G.ret1 Tryd.results12 (RVar.tmp 4 _) ⟨rfl, trivial⟩ trivial
      · refine G.cond rfl (fun hx => Bool.noConfusion (hc12.symm.trans hx)) (fun _ => ?_)
        refine G.skip ?_
        refine G.endBlock ?_
        refine G.region ?_
        refine G.op1 (op_move (Ev.t 5 (bI .i64 v4)) rfl) rfl ⟨rfl, trivial⟩ trivial ?_
        refine G.op1 (op_add (Ev.t 16 (bI .i64 v4)) (Ev.c _ rfl) rfl) rfl ⟨rfl, trivial⟩ trivial ?_
        refine G.op1 (op_assign (Ev.t 17 (bI .i64 (IntKind.wrap .i64 (v4 + 1)))) rfl) rfl ⟨rfl, trivial⟩ trivial ?_
        refine G.endOps ?_
        exact G.arr (J5 (IntKind.wrap .i64 (v4 + 1)) hF) ⟨rfl, rfl, rfl, trivial⟩ trivial rfl
    · refine G.cond rfl (fun hx => Bool.noConfusion (hc8.symm.trans hx)) (fun _ => ?_)
      refine G.exit ?_
      refine GX.c ?_
      refine GX.q ?_
      refine GX.bYes ?_
      exact G.arr (J3 () hF) trivial trivial rfl


set_option maxRecDepth 20000 in
set_option maxHeartbeats 2000000 in
theorem ct_law24_WordsRows (ends_0 : (List Int)) (owners_1 : (List Int)) (sites_2 : Int) (r : Bool) (hF : law24_WordsRows ends_0 owners_1 sites_2 = some r) : CtG Tryd.prog Γ0 6 [.g (.d (.sl 1 (List.map encI_i64 ends_0))), .g (.d (.sl 1 (List.map encI_i64 owners_1))), .g (.d (.v (.int .i64 sites_2)))] (.one (.d (.v (.bool r)))) := by
  unfold law24_WordsRows at hF
  refine CtG.intro (GL.ok _ _ _) Tryd.func6 rfl Tryd.ntmps6 rfl rfl fun M w hG => ?_
  refine G.seq ?_
  refine G.region ?_
  refine G.op1 (op_assign (Ev.c _ rfl) rfl) rfl trivial trivial ?_
  refine G.endOps ?_
  refine G.seq ?_
  refine G.region ?_
  obtain ⟨r1, hr1, hF⟩ := bindS hF
  refine G.op1 (op_callQG (sv := .one (bB r1)) hG cf7 (ct_law24_awake r1 hr1) rfl rfl EvQL.nil rfl) rfl trivial trivial ?_
  refine G.op1 (op_assign (Ev.t 21 (bB r1)) rfl) rfl ⟨rfl, trivial⟩ trivial ?_
  refine G.endOps ?_
  refine G.seq ?_
  refine G.region ?_
  refine G.op1 (op_build (zs := [.v (.slice none 0 0), .v (.slice none 0 0), .v (.slice none 0 0)]) (ds := [.v (.slice none 0 0), .v (.slice none 0 0), .v (.slice none 0 0)]) Tryd.underlying28 ti28 (pl28 _ Tryd.underlying28) ⟨.v _ rfl, .v _ rfl, .v _ rfl, trivial⟩ EvP.nil rfl rfl) rfl trivial trivial ?_
  refine G.op2 (op_alloc (k := 1008) (cs := [.g (.d (.v (.slice none 0 0))), .g (.d (.v (.slice none 0 0))), .g (.d (.v (.slice none 0 0)))]) ti28 ⟨.v _ rfl, .v _ rfl, .v _ rfl, trivial⟩ rfl) rfl trivial ⟨rfl, trivial⟩ ?_
  refine G.op3 (op_storeA (cs' := [.g (.d (.v (.slice none 0 0))), .g (.d (.v (.slice none 0 0))), .g (.d (.v (.slice none 0 0)))]) ti28 rfl rfl (Ev.t 8 (.ptr 1008 0)) (Ev.t 22 (.g (.agg [.v (.slice none 0 0), .v (.slice none 0 0), .v (.slice none 0 0)])))) rfl ⟨rfl, rfl, trivial⟩ ⟨rfl, trivial⟩ ?_
  refine G.rowCell (kb := 1008) (kk := 5128) (E := 48) (size := 2) (j := 0) (cs' := [.own 5128 (List.map encApi_Range ([] : List Api_Range)), .g (.d (.v (.slice none 0 0))), .g (.d (.v (.slice none 0 0)))]) rfl rfl rfl rfl rfl rfl ?_
  refine G.rowCell (kb := 1008) (kk := 5129) (E := 3) (size := 1) (j := 1) (cs' := [.own 5128 (List.map encApi_Range ([] : List Api_Range)), .own 5129 (List.map encI_i64 ([] : List Int)), .g (.d (.v (.slice none 0 0)))]) rfl rfl rfl rfl rfl rfl ?_
  refine G.rowCell (kb := 1008) (kk := 5130) (E := 3) (size := 1) (j := 2) (cs' := [.own 5128 (List.map encApi_Range ([] : List Api_Range)), .own 5129 (List.map encI_i64 ([] : List Int)), .own 5130 (List.map encI_i64 ([] : List Int))]) rfl rfl rfl rfl rfl rfl ?_
  refine G.endOps ?_
  refine G.seq ?_
  refine G.region ?_
  refine G.op1 (op_move (Ev.t 2 (bI .i64 sites_2)) rfl) rfl ⟨rfl, trivial⟩ trivial ?_
  refine G.op1 (op_rem (by decide) (Ev.t 23 (bI .i64 sites_2)) (Ev.c _ rfl) rfl) rfl ⟨rfl, trivial⟩ trivial ?_
  refine G.op1 (op_add (Ev.t 24 (bI .i64 (Int.tmod sites_2 6))) (Ev.c _ rfl) rfl) rfl ⟨rfl, trivial⟩ trivial ?_
  refine G.op1 (op_rem (by decide) (Ev.t 25 (bI .i64 (IntKind.wrap .i64 ((Int.tmod sites_2 6) + 6)))) (Ev.c _ rfl) rfl) rfl ⟨rfl, trivial⟩ trivial ?_
  refine G.op1 (op_add (Ev.c _ rfl) (Ev.t 26 (bI .i64 (Int.tmod (IntKind.wrap .i64 ((Int.tmod sites_2 6) + 6)) 6))) rfl) rfl ⟨rfl, trivial⟩ trivial ?_
  refine G.op1 (op_assign (Ev.t 27 (bI .i64 (IntKind.wrap .i64 (1 + (Int.tmod (IntKind.wrap .i64 ((Int.tmod sites_2 6) + 6)) 6))))) rfl) rfl ⟨rfl, trivial⟩ trivial ?_
  refine G.endOps ?_
  refine G.seq ?_
  refine G.region ?_
  refine G.op1 (op_assign (Ev.c _ rfl) rfl) rfl trivial trivial ?_
  refine G.endOps ?_
  refine G.seq ?_
  refine G.seq ?_
  refine G.region ?_
  refine G.op1 (op_assign (Ev.c _ rfl) rfl) rfl trivial trivial ?_
  refine G.endOps ?_
  refine G.joinC (T := Int × (List Int)) (fun y2 => ⟨[(0, .one (.g (.d (.sl 1 (List.map encI_i64 ends_0))))), (1, .one (.g (.d (.sl 1 (List.map encI_i64 owners_1))))), (7, .one (bB r1)), (8, .one (.ptr 1008 0)), (10, .one (bI .i64 y2.1))], [(1008, some (.blk 28 [.own 5128 (List.map encApi_Range ([] : List Api_Range)), .own 5129 (List.map encI_i64 ([] : List Int)), .own 5130 (List.map encI_i64 y2.2)])), (5128, some (.row 48 2 (List.map encApi_Range ([] : List Api_Range)) false)), (5129, some (.row 3 1 (List.map encI_i64 ([] : List Int)) false)), (5130, some (.row 3 1 (List.map encI_i64 y2.2) false))]⟩) (fun y2 => law24_WordsRows_k1 ends_0 owners_1 r1 y2 = some r) (fun y2 hF => ?_) (fun J40 => ?_)
  · unfold law24_WordsRows_k1 at hF
    refine G.seq ?_
    refine G.region ?_
    refine G.op1 (op_assign (Ev.c _ rfl) rfl) rfl trivial trivial ?_
    refine G.endOps ?_
    refine G.seq ?_
    refine G.seq ?_
    refine G.region ?_
    refine G.op1 (op_assign (Ev.c _ rfl) rfl) rfl trivial trivial ?_
    refine G.endOps ?_
    refine G.joinC (T := ByteArray × (List Api_Range)) (fun y3 => ⟨[(1, .one (.g (.d (.sl 1 (List.map encI_i64 owners_1))))), (7, .one (bB r1)), (8, .one (.ptr 1008 0)), (10, .one (bI .i64 y2.1)), (12, .one (bS y3.1))], [(1008, some (.blk 28 [.own 5128 (List.map encApi_Range y3.2), .own 5129 (List.map encI_i64 ([] : List Int)), .own 5130 (List.map encI_i64 y2.2)])), (5128, some (.row 48 2 (List.map encApi_Range y3.2) false)), (5129, some (.row 3 1 (List.map encI_i64 ([] : List Int)) false)), (5130, some (.row 3 1 (List.map encI_i64 y2.2) false))]⟩) (fun y3 => law24_WordsRows_k2 owners_1 r1 y2 y3 = some r) (fun y3 hF => ?_) (fun J28 => ?_)
    · unfold law24_WordsRows_k2 at hF
      refine G.seq ?_
      refine G.region ?_
      refine G.op1 (op_fieldP (off' := 0) Tryd.underlying28 rfl ti25 (by decide) rfl (Ev.t 8 (.ptr 1008 0)) rfl) rfl ⟨rfl, trivial⟩ trivial ?_
      refine G.op1 (op_load1P (c := .own 5128 (List.map encApi_Range y3.2)) Tryd.underlying25 rfl rfl (Ev.t 75 (.ptr 1008 0)) rfl) rfl ⟨rfl, trivial⟩ ⟨rfl, trivial⟩ ?_
      refine G.op1 (op_move (Ev.t 12 (bS y3.1)) rfl) rfl ⟨rfl, trivial⟩ trivial ?_
      refine G.op1 (op_build (zs := [.v (.string ByteArray.empty), .v (.string ByteArray.empty)]) (ds := [.v (.string y3.1), .v (.string ByteArray.empty)]) Tryd.underlying48 ti48 (pl48 _ Tryd.underlying48) ⟨.v _ rfl, .v _ rfl, trivial⟩ (EvP.cons (Ev.t 77 (bS y3.1)) EvP.nil) rfl rfl) rfl ⟨rfl, trivial⟩ trivial ?_
      refine G.op1 (op_buildSlice (es := List.map encApi_Range [(Api_Range.mk y3.1 ByteArray.empty)]) Tryd.underlying25 ti48 rfl rfl (EvP.cons (Ev.t 78 (.g (.agg [.v (.string y3.1), .v (.string ByteArray.empty)]))) EvP.nil) rfl rfl (by simp [encApi_Range]) rfl) rfl ⟨rfl, trivial⟩ trivial ?_
      obtain ⟨l4, hl4, hF⟩ := bindS hF
      refine G.op2 (op_appendO Tryd.underlying25 ti48 rfl (app_map hl4 encApi_Range) (app_b1 hl4 encApi_Range) (app_b2 hl4 encApi_Range) (Ev.t 76 (.own 5128 (List.map encApi_Range y3.2))) (Ev.t 79 (.g (.d (.sl 2 (List.map encApi_Range ([(Api_Range.mk y3.1 ByteArray.empty)])))))) rfl) rfl ⟨rfl, rfl, trivial⟩ ⟨rfl, trivial⟩ ?_
      refine G.op1 (op_fieldP (off' := 0) Tryd.underlying28 rfl ti25 (by decide) rfl (Ev.t 8 (.ptr 1008 0)) rfl) rfl ⟨rfl, trivial⟩ trivial ?_
      refine G.op3 (op_storeO (cs' := [.own 5128 (List.map encApi_Range l4), .own 5129 (List.map encI_i64 ([] : List Int)), .own 5130 (List.map encI_i64 y2.2)]) ti25 rfl rfl rfl (Ev.t 81 (.ptr 1008 0)) (Ev.t 80 (.own 5128 (List.map encApi_Range l4)))) rfl ⟨rfl, rfl, trivial⟩ ⟨rfl, rfl, trivial⟩ ?_
      refine G.endOps ?_
      refine G.seq ?_
      refine G.seq ?_
      refine G.region ?_
      refine G.op1 (op_assign (Ev.c _ rfl) rfl) rfl trivial trivial ?_
      refine G.endOps ?_
      refine G.joinC (T := (List Int)) (fun y5 => ⟨[(7, .one (bB r1)), (8, .one (.ptr 1008 0))], [(1008, some (.blk 28 [.own 5128 (List.map encApi_Range l4), .own 5129 (List.map encI_i64 y5), .own 5130 (List.map encI_i64 y2.2)])), (5128, some (.row 48 2 (List.map encApi_Range l4) false)), (5129, some (.row 3 1 (List.map encI_i64 y5) false)), (5130, some (.row 3 1 (List.map encI_i64 y2.2) false))]⟩) (fun y5 => law24_WordsRows_k3 r1 y2 l4 y5 = some r) (fun y5 hF => ?_) (fun J15 => ?_)
      · unfold law24_WordsRows_k3 at hF
        refine G.seq ?_
        refine G.region ?_
        refine G.viewCell (kb := 1008) (j := 0) (cs' := [.g (.d (.sl 2 (List.map encApi_Range l4))), .own 5129 (List.map encI_i64 y5), .own 5130 (List.map encI_i64 y2.2)]) rfl rfl rfl rfl ?_
        refine G.viewCell (kb := 1008) (j := 1) (cs' := [.g (.d (.sl 2 (List.map encApi_Range l4))), .g (.d (.sl 1 (List.map encI_i64 y5))), .own 5130 (List.map encI_i64 y2.2)]) rfl rfl rfl rfl ?_
        refine G.viewCell (kb := 1008) (j := 2) (cs' := [.g (.d (.sl 2 (List.map encApi_Range l4))), .g (.d (.sl 1 (List.map encI_i64 y5))), .g (.d (.sl 1 (List.map encI_i64 y2.2)))]) rfl rfl rfl rfl ?_
        refine G.op1 (op_loadAP (ds := [.sl 2 (List.map encApi_Range l4), .sl 1 (List.map encI_i64 y5), .sl 1 (List.map encI_i64 y2.2)]) Tryd.underlying28 rfl ti28 rfl (Ev.t 8 (.ptr 1008 0)) rfl) rfl ⟨rfl, trivial⟩ ⟨rfl, trivial⟩ ?_
        refine G.op1 (op_build (zs := [.v (.int .i64 0), .v (.int .i64 0), .v (.int .i64 0), .v (.int .i64 0), .v (.int .i64 0), .v (.int .i64 0), .v (.string ByteArray.empty), .v (.string ByteArray.empty), .sl 1 (List.map encS ([] : (List ByteArray))), .sl 2 (List.map encApi_Range ([] : (List Api_Range))), .sl 1 (List.map encI_i64 ([] : (List Int))), .sl 1 (List.map encI_i64 ([] : (List Int)))]) (ds := [.v (.int .i64 12), .v (.int .i64 0), .v (.int .i64 0), .v (.int .i64 0), .v (.int .i64 0), .v (.int .i64 0), .v (.string ByteArray.empty), .v (.string ByteArray.empty), .sl 1 (List.map encS ([] : (List ByteArray))), .sl 2 (List.map encApi_Range l4), .sl 1 (List.map encI_i64 y5), .sl 1 (List.map encI_i64 y2.2)]) Tryd.underlying30 ti30 (pl30 _ Tryd.underlying30) ⟨.v _ rfl, .v _ rfl, .v _ rfl, .v _ rfl, .v _ rfl, .v _ rfl, .v _ rfl, .v _ rfl, .n 1, .n 2, .n 1, .n 1, trivial⟩ (EvP.cons (Ev.c _ rfl) (EvP.cons (Ev.t 113 (.g (.agg [.sl 2 (List.map encApi_Range l4), .sl 1 (List.map encI_i64 y5), .sl 1 (List.map encI_i64 y2.2)]))) EvP.nil)) rfl rfl) rfl ⟨rfl, trivial⟩ trivial ?_
        refine G.op2 (op_alloc (k := 1017) (cs := [bI .i64 0, bI .i64 0, bI .i64 0, bI .i64 0, bI .i64 0, bI .i64 0, bS ByteArray.empty, bS ByteArray.empty, .g (.d (.sl 1 (List.map encS ([] : (List ByteArray))))), .g (.d (.sl 2 (List.map encApi_Range ([] : (List Api_Range))))), .g (.d (.sl 1 (List.map encI_i64 ([] : (List Int))))), .g (.d (.sl 1 (List.map encI_i64 ([] : (List Int)))))]) ti30 ⟨.v _ rfl, .v _ rfl, .v _ rfl, .v _ rfl, .v _ rfl, .v _ rfl, .v _ rfl, .v _ rfl, .n 1, .n 2, .n 1, .n 1, trivial⟩ rfl) rfl trivial ⟨rfl, trivial⟩ ?_
        refine G.op3 (op_storeA (cs' := [bI .i64 12, bI .i64 0, bI .i64 0, bI .i64 0, bI .i64 0, bI .i64 0, bS ByteArray.empty, bS ByteArray.empty, .g (.d (.sl 1 (List.map encS ([] : (List ByteArray))))), .g (.d (.sl 2 (List.map encApi_Range l4))), .g (.d (.sl 1 (List.map encI_i64 y5))), .g (.d (.sl 1 (List.map encI_i64 y2.2)))]) ti30 rfl rfl (Ev.t 17 (.ptr 1017 0)) (Ev.t 114 (.g (.agg [.v (.int .i64 12), .v (.int .i64 0), .v (.int .i64 0), .v (.int .i64 0), .v (.int .i64 0), .v (.int .i64 0), .v (.string ByteArray.empty), .v (.string ByteArray.empty), .sl 1 (List.map encS ([] : (List ByteArray))), .sl 2 (List.map encApi_Range l4), .sl 1 (List.map encI_i64 y5), .sl 1 (List.map encI_i64 y2.2)])))) rfl ⟨rfl, rfl, trivial⟩ ⟨rfl, trivial⟩ ?_
        refine G.endOps ?_
        refine G.seq ?_
        refine G.region ?_
        refine G.op1 (op_loadAP (ds := [.v (.int .i64 12), .v (.int .i64 0), .v (.int .i64 0), .v (.int .i64 0), .v (.int .i64 0), .v (.int .i64 0), .v (.string ByteArray.empty), .v (.string ByteArray.empty), .sl 1 (List.map encS ([] : (List ByteArray))), .sl 2 (List.map encApi_Range l4), .sl 1 (List.map encI_i64 y5), .sl 1 (List.map encI_i64 y2.2)]) Tryd.underlying30 rfl ti30 rfl (Ev.t 17 (.ptr 1017 0)) rfl) rfl ⟨rfl, trivial⟩ ⟨rfl, trivial⟩ ?_
        refine G.op1 (op_buildSlice (es := List.map encApi_Op [(Api_Op.mk 12 0 0 0 0 0 ByteArray.empty ByteArray.empty ([] : (List ByteArray)) (Api_Row.mk l4 y5 y2.2))]) Tryd.underlying22 ti30 rfl rfl (EvP.cons (Ev.t 116 (.g (.agg [.v (.int .i64 12), .v (.int .i64 0), .v (.int .i64 0), .v (.int .i64 0), .v (.int .i64 0), .v (.int .i64 0), .v (.string ByteArray.empty), .v (.string ByteArray.empty), .sl 1 (List.map encS ([] : (List ByteArray))), .sl 2 (List.map encApi_Range l4), .sl 1 (List.map encI_i64 y5), .sl 1 (List.map encI_i64 y2.2)]))) EvP.nil) rfl rfl (by simp [encApi_Op]) rfl) rfl ⟨rfl, trivial⟩ trivial ?_
        obtain ⟨r6, hr6, hF⟩ := bindS hF
        refine G.op1 (op_callQG (sv := .one (bS r6)) hG cf10 (ct_words_Text ([(Api_Op.mk 12 0 0 0 0 0 ByteArray.empty ByteArray.empty ([] : (List ByteArray)) (Api_Row.mk l4 y5 y2.2))]) r6 hr6) rfl rfl (EvQL.cons (EvQ.g (Ev.t 117 (.g (.d (.sl 12 (List.map encApi_Op ([(Api_Op.mk 12 0 0 0 0 0 ByteArray.empty ByteArray.empty ([] : (List ByteArray)) (Api_Row.mk l4 y5 y2.2))]))))))) EvQL.nil) rfl) rfl ⟨rfl, trivial⟩ trivial ?_
        obtain ⟨r7, hr7, hF⟩ := bindS hF
        refine G.op1 (op_callG (sv := .tup [.g (.d (.sl 12 (List.map encApi_Op r7.1))), bI .i64 r7.2]) hG cf11 (ct_words_Parse r6 r7 hr7) rfl (EvL.cons (Ev.t 118 (bS r6)) EvL.nil) rfl) rfl ⟨rfl, trivial⟩ trivial ?_
        refine G.op1 (op_moveS (t := 119) (sv := .tup [.g (.d (.sl 12 (List.map encApi_Op r7.1))), bI .i64 r7.2]) rfl) rfl ⟨rfl, trivial⟩ trivial ?_
        refine G.op1 (op_extract (l := [.g (.d (.sl 12 (List.map encApi_Op r7.1))), bI .i64 r7.2]) (c := .g (.d (.sl 12 (List.map encApi_Op r7.1)))) rfl rfl) rfl ⟨rfl, trivial⟩ trivial ?_
        refine G.op1 (op_extract (l := [.g (.d (.sl 12 (List.map encApi_Op r7.1))), bI .i64 r7.2]) (c := bI .i64 r7.2) rfl rfl) rfl ⟨rfl, trivial⟩ trivial ?_
        refine G.op1 (op_assign (Ev.t 120 (.g (.d (.sl 12 (List.map encApi_Op r7.1))))) rfl) rfl ⟨rfl, trivial⟩ trivial ?_
        refine G.op1 (op_assign (Ev.t 121 (bI .i64 r7.2)) rfl) rfl ⟨rfl, trivial⟩ trivial ?_
        refine G.endOps ?_
        refine G.seq ?_
        refine G.region ?_
        refine G.op1 (op_move (Ev.t 18 (.g (.d (.sl 12 (List.map encApi_Op r7.1))))) rfl) rfl ⟨rfl, trivial⟩ trivial ?_
        refine G.op1 (op_loadAP (ds := [.v (.int .i64 12), .v (.int .i64 0), .v (.int .i64 0), .v (.int .i64 0), .v (.int .i64 0), .v (.int .i64 0), .v (.string ByteArray.empty), .v (.string ByteArray.empty), .sl 1 (List.map encS ([] : (List ByteArray))), .sl 2 (List.map encApi_Range l4), .sl 1 (List.map encI_i64 y5), .sl 1 (List.map encI_i64 y2.2)]) Tryd.underlying30 rfl ti30 rfl (Ev.t 17 (.ptr 1017 0)) rfl) rfl ⟨rfl, trivial⟩ ⟨rfl, trivial⟩ ?_
        refine G.op1 (op_buildSlice (es := List.map encApi_Op [(Api_Op.mk 12 0 0 0 0 0 ByteArray.empty ByteArray.empty ([] : (List ByteArray)) (Api_Row.mk l4 y5 y2.2))]) Tryd.underlying22 ti30 rfl rfl (EvP.cons (Ev.t 123 (.g (.agg [.v (.int .i64 12), .v (.int .i64 0), .v (.int .i64 0), .v (.int .i64 0), .v (.int .i64 0), .v (.int .i64 0), .v (.string ByteArray.empty), .v (.string ByteArray.empty), .sl 1 (List.map encS ([] : (List ByteArray))), .sl 2 (List.map encApi_Range l4), .sl 1 (List.map encI_i64 y5), .sl 1 (List.map encI_i64 y2.2)]))) EvP.nil) rfl rfl (by simp [encApi_Op]) rfl) rfl ⟨rfl, trivial⟩ trivial ?_
        obtain ⟨r8, hr8, hF⟩ := bindS hF
        refine G.op1 (op_callQ (sv := .one (bB r8)) cf12 (ct_law24_same r7.1 ([(Api_Op.mk 12 0 0 0 0 0 ByteArray.empty ByteArray.empty ([] : (List ByteArray)) (Api_Row.mk l4 y5 y2.2))]) r8 hr8) rfl rfl (EvQL.cons (EvQ.g (Ev.t 122 (.g (.d (.sl 12 (List.map encApi_Op r7.1)))))) (EvQL.cons (EvQ.g (Ev.t 124 (.g (.d (.sl 12 (List.map encApi_Op ([(Api_Op.mk 12 0 0 0 0 0 ByteArray.empty ByteArray.empty ([] : (List ByteArray)) (Api_Row.mk l4 y5 y2.2))]))))))) EvQL.nil)) rfl) rfl ⟨rfl, rfl, trivial⟩ trivial ?_
        refine G.op1 (op_assign (Ev.t 125 (bB r8)) rfl) rfl ⟨rfl, trivial⟩ trivial ?_
        refine G.endOps ?_
        refine G.seq ?_
        refine G.region ?_
        refine G.op1 (op_move (Ev.t 7 (bB r1)) rfl) rfl ⟨rfl, trivial⟩ trivial ?_
        refine G.op1 (op_move (Ev.t 126 (bB r1)) rfl) rfl ⟨rfl, trivial⟩ trivial ?_
        refine G.joinL (T := Bool) 3 (fun y9 => ⟨[(19, .one (bI .i64 r7.2)), (20, .one (bB r8)), (130, .one (bB y9))], []⟩) (fun y9 => law24_WordsRows_k4 r7 r8 y9 = some r) (fun y9 hF => ?_) (fun J12 => ?_)
        · unfold law24_WordsRows_k4 at hF
          refine G.op1 (op_move (Ev.t 130 (bB y9)) rfl) rfl ⟨rfl, trivial⟩ trivial ?_
          refine ifS hF (fun hc10 hF => ?_) (fun hc10 hF => ?_)
          · refine G.known (t := 131) hc10 rfl ?_
            refine G.opG1 (op_move (Ev.t 19 (bI .i64 r7.2)) rfl) rfl rfl rfl ⟨rfl, trivial⟩ trivial ?_
            refine G.opG1 (op_eqI (Ev.t 132 (bI .i64 r7.2)) (Ev.c _ rfl) rfl) rfl rfl rfl ⟨rfl, trivial⟩ trivial ?_
            refine G.op1 (op_pickT (Ev.t 131 (bB true)) (Ev.t 133 (bB (decide (r7.2 = 0)))) rfl) rfl ⟨rfl, rfl, trivial⟩ trivial ?_
            refine G.op1 (op_move (Ev.t 134 (bB (decide (r7.2 = 0)))) rfl) rfl ⟨rfl, trivial⟩ trivial ?_
            refine ifS hF (fun hc11 hF => ?_) (fun hc11 hF => ?_)
            · refine G.known (t := 135) hc11 rfl ?_
              refine G.opG1 (op_move (Ev.t 20 (bB r8)) rfl) rfl rfl rfl ⟨rfl, trivial⟩ trivial ?_
              refine G.op1 (op_pickT (Ev.t 135 (bB true)) (Ev.t 136 (bB r8)) rfl) rfl ⟨rfl, rfl, trivial⟩ trivial ?_
              refine G.op1 (op_assign (Ev.t 137 (bB r8)) rfl) rfl ⟨rfl, trivial⟩ trivial ?_
              refine G.endOps ?_
              cases hF
              exact G.ret1 Tryd.results6 (RVar.tmp 6 _) ⟨rfl, trivial⟩ trivial
            · refine G.known (t := 135) hc11 rfl ?_
              refine G.opN1 rfl rfl rfl rfl rfl ?_
              refine G.op1 (op_pickF (Ev.t 135 (bB false)) (Ev.c _ rfl) rfl) rfl ⟨rfl, trivial⟩ trivial ?_
              refine G.op1 (op_assign (Ev.t 137 (bB false)) rfl) rfl ⟨rfl, trivial⟩ trivial ?_
              refine G.endOps ?_
              cases hF
              exact G.ret1 Tryd.results6 (RVar.tmp 6 _) ⟨rfl, trivial⟩ trivial
          · refine G.known (t := 131) hc10 rfl ?_
            refine G.opN1 rfl rfl rfl rfl rfl ?_
            refine G.opN1 rfl rfl rfl rfl rfl ?_
            refine G.op1 (op_pickF (Ev.t 131 (bB false)) (Ev.c _ rfl) rfl) rfl ⟨rfl, trivial⟩ trivial ?_
            refine G.op1 (op_move (Ev.t 134 (bB false)) rfl) rfl ⟨rfl, trivial⟩ trivial ?_
            refine G.opN1 rfl rfl rfl rfl rfl ?_
            refine G.op1 (op_pickF (Ev.t 135 (bB false)) (Ev.c _ rfl) rfl) rfl ⟨rfl, trivial⟩ trivial ?_
            refine G.op1 (op_assign (Ev.t 137 (bB false)) rfl) rfl ⟨rfl, trivial⟩ trivial ?_
            refine G.endOps ?_
            cases hF
            exact G.ret1 Tryd.results6 (RVar.tmp 6 _) ⟨rfl, trivial⟩ trivial
        refine ifS hF (fun hc13 hF => ?_) (fun hc13 hF => ?_)
        · refine G.known (t := 127) hc13 rfl ?_
          refine G.opG1 (op_loadAP (ds := [.v (.int .i64 12), .v (.int .i64 0), .v (.int .i64 0), .v (.int .i64 0), .v (.int .i64 0), .v (.int .i64 0), .v (.string ByteArray.empty), .v (.string ByteArray.empty), .sl 1 (List.map encS ([] : (List ByteArray))), .sl 2 (List.map encApi_Range l4), .sl 1 (List.map encI_i64 y5), .sl 1 (List.map encI_i64 y2.2)]) Tryd.underlying30 rfl ti30 rfl (Ev.t 17 (.ptr 1017 0)) rfl) rfl rfl rfl ⟨rfl, trivial⟩ ⟨rfl, trivial⟩ ?_
          obtain ⟨r14, hr14, hF⟩ := bindS hF
          refine G.opG1 (op_callQG (sv := .one (bB r14)) hG cf9 (ct_words_Check (Api_Op.mk 12 0 0 0 0 0 ByteArray.empty ByteArray.empty ([] : (List ByteArray)) (Api_Row.mk l4 y5 y2.2)) r14 hr14) rfl rfl (EvQL.cons (EvQ.g (Ev.t 128 (.g (.agg [.v (.int .i64 12), .v (.int .i64 0), .v (.int .i64 0), .v (.int .i64 0), .v (.int .i64 0), .v (.int .i64 0), .v (.string ByteArray.empty), .v (.string ByteArray.empty), .sl 1 (List.map encS ([] : (List ByteArray))), .sl 2 (List.map encApi_Range l4), .sl 1 (List.map encI_i64 y5), .sl 1 (List.map encI_i64 y2.2)])))) EvQL.nil) rfl) rfl rfl rfl ⟨rfl, trivial⟩ trivial ?_
          refine G.op1 (op_pickT (Ev.t 127 (bB true)) (Ev.t 129 (bB r14)) rfl) rfl ⟨rfl, rfl, trivial⟩ trivial ?_
          exact G.arr (J12 r14 hF) ⟨rfl, rfl, rfl, trivial⟩ trivial rfl
        · refine G.known (t := 127) hc13 rfl ?_
          refine G.opN1 rfl rfl rfl rfl rfl ?_
          refine G.opN1 rfl rfl rfl rfl rfl ?_
          refine G.op1 (op_pickF (Ev.t 127 (bB false)) (Ev.c _ rfl) rfl) rfl ⟨rfl, trivial⟩ trivial ?_
          exact G.arr (J12 false hF) ⟨rfl, rfl, rfl, trivial⟩ trivial rfl
      refine G.block ?_
      refine G.keep (sl' := [(1, .one (.g (.d (.sl 1 (List.map encI_i64 owners_1))))), (7, .one (bB r1)), (8, .one (.ptr 1008 0)), (10, .one (bI .i64 y2.1)), (15, .one (bI .i64 0))]) (hp' := [(1008, some (.blk 28 [.own 5128 (List.map encApi_Range l4), .own 5129 (List.map encI_i64 ([] : List Int)), .own 5130 (List.map encI_i64 y2.2)])), (5128, some (.row 48 2 (List.map encApi_Range l4) false)), (5129, some (.row 3 1 (List.map encI_i64 ([] : List Int)) false)), (5130, some (.row 3 1 (List.map encI_i64 y2.2) false))]) ⟨rfl, rfl, rfl, rfl, rfl, trivial⟩ ⟨rfl, rfl, rfl, rfl, trivial⟩ rfl ?_
      refine G.loopF (fun (v16 : Int × (List Int)) => ⟨[(1, .one (.g (.d (.sl 1 (List.map encI_i64 owners_1))))), (7, .one (bB r1)), (8, .one (.ptr 1008 0)), (10, .one (bI .i64 y2.1)), (15, .one (bI .i64 v16.1))], [(1008, some (.blk 28 [.own 5128 (List.map encApi_Range l4), .own 5129 (List.map encI_i64 v16.2), .own 5130 (List.map encI_i64 y2.2)])), (5128, some (.row 48 2 (List.map encApi_Range l4) false)), (5129, some (.row 3 1 (List.map encI_i64 v16.2) false)), (5130, some (.row 3 1 (List.map encI_i64 y2.2) false))]⟩) hF rfl (fun K19 again18 v16 J17 hF => ?_)
      unfold law24_WordsRows_l5 at hF
      refine G.seq ?_
      refine G.seq ?_
      refine G.region ?_
      refine G.op1 (op_move (Ev.t 15 (bI .i64 v16.1)) rfl) rfl ⟨rfl, trivial⟩ trivial ?_
      refine G.op1 (op_fieldP (off' := 0) Tryd.underlying28 rfl ti25 (by decide) rfl (Ev.t 8 (.ptr 1008 0)) rfl) rfl ⟨rfl, trivial⟩ trivial ?_
      refine G.op1 (op_load1P (c := .own 5128 (List.map encApi_Range l4)) Tryd.underlying25 rfl rfl (Ev.t 83 (.ptr 1008 0)) rfl) rfl ⟨rfl, trivial⟩ ⟨rfl, trivial⟩ ?_
      refine G.op1 (OpL.cast (op_lenO Tryd.underlying25 (Ev.t 84 (.own 5128 (List.map encApi_Range l4))) rfl) (by rw [List.length_map])) rfl ⟨rfl, trivial⟩ ⟨rfl, trivial⟩ ?_
      refine G.op1 (op_lss (Ev.t 82 (bI .i64 v16.1)) (Ev.t 85 (bI .i64 (l4.length : Int))) rfl) rfl ⟨rfl, rfl, trivial⟩ trivial ?_
      refine G.endOps ?_
      refine ifS hF (fun hc20 hF => ?_) (fun hc20 hF => ?_)
      · refine G.cond rfl (fun _ => ?_) (fun hx => Bool.noConfusion (hc20.symm.trans hx))
        refine G.skip ?_
        refine G.seq ?_
        refine G.block ?_
        refine G.seq ?_
        refine G.region ?_
        refine G.op1 (op_assign (Ev.c _ rfl) rfl) rfl trivial trivial ?_
        refine G.endOps ?_
        refine G.seq ?_
        refine G.seq ?_
        refine G.region ?_
        refine G.op1 (op_move (Ev.t 15 (bI .i64 v16.1)) rfl) rfl ⟨rfl, trivial⟩ trivial ?_
        refine G.op1 (op_move (Ev.t 1 (.g (.d (.sl 1 (List.map encI_i64 owners_1))))) rfl) rfl ⟨rfl, trivial⟩ trivial ?_
        refine G.op1 (OpL.cast (op_lenD Tryd.underlying26 (Ev.t 90 (.g (.d (.sl 1 (List.map encI_i64 owners_1))))) rfl) (by rw [List.length_map])) rfl ⟨rfl, trivial⟩ trivial ?_
        refine G.op1 (op_lss (Ev.t 89 (bI .i64 v16.1)) (Ev.t 91 (bI .i64 (owners_1.length : Int))) rfl) rfl ⟨rfl, rfl, trivial⟩ trivial ?_
        refine G.endOps ?_
        refine G.joinC (T := Int) (fun y21 => ⟨[(1, .one (.g (.d (.sl 1 (List.map encI_i64 owners_1))))), (7, .one (bB r1)), (8, .one (.ptr 1008 0)), (10, .one (bI .i64 y2.1)), (15, .one (bI .i64 v16.1)), (16, .one (bI .i64 y21))], [(1008, some (.blk 28 [.own 5128 (List.map encApi_Range l4), .own 5129 (List.map encI_i64 v16.2), .own 5130 (List.map encI_i64 y2.2)])), (5128, some (.row 48 2 (List.map encApi_Range l4) false)), (5129, some (.row 3 1 (List.map encI_i64 v16.2) false)), (5130, some (.row 3 1 (List.map encI_i64 y2.2) false))]⟩) (fun y21 => law24_WordsRows_k6 again18 v16 y21 = some r) (fun y21 hF => ?_) (fun J23 => ?_)
        · unfold law24_WordsRows_k6 at hF
          refine G.region ?_
          refine G.op1 (op_fieldP (off' := 1) Tryd.underlying28 rfl ti26 (by decide) rfl (Ev.t 8 (.ptr 1008 0)) rfl) rfl ⟨rfl, trivial⟩ trivial ?_
          refine G.op1 (op_load1P (c := .own 5129 (List.map encI_i64 v16.2)) Tryd.underlying26 rfl rfl (Ev.t 106 (.ptr 1008 1)) rfl) rfl ⟨rfl, trivial⟩ ⟨rfl, trivial⟩ ?_
          refine G.op1 (op_move (Ev.t 16 (bI .i64 y21)) rfl) rfl ⟨rfl, trivial⟩ trivial ?_
          refine G.op1 (op_add (Ev.c _ rfl) (Ev.t 108 (bI .i64 y21)) rfl) rfl ⟨rfl, trivial⟩ trivial ?_
          refine G.op1 (op_buildSlice (es := List.map encI_i64 [IntKind.wrap .i64 (1 + y21)]) Tryd.underlying26 ti3 rfl rfl (EvP.cons (Ev.t 109 (bI .i64 (IntKind.wrap .i64 (1 + y21)))) EvP.nil) rfl rfl (by simp [encI_i64]) rfl) rfl ⟨rfl, trivial⟩ trivial ?_
          obtain ⟨l22, hl22, hF⟩ := bindS hF
          refine G.op2 (op_appendO Tryd.underlying26 ti3 rfl (app_map hl22 encI_i64) (app_b1 hl22 encI_i64) (app_b2 hl22 encI_i64) (Ev.t 107 (.own 5129 (List.map encI_i64 v16.2))) (Ev.t 110 (.g (.d (.sl 1 (List.map encI_i64 ([IntKind.wrap .i64 (1 + y21)])))))) rfl) rfl ⟨rfl, rfl, trivial⟩ ⟨rfl, trivial⟩ ?_
          refine G.op1 (op_fieldP (off' := 1) Tryd.underlying28 rfl ti26 (by decide) rfl (Ev.t 8 (.ptr 1008 0)) rfl) rfl ⟨rfl, trivial⟩ trivial ?_
          refine G.op3 (op_storeO (cs' := [.own 5128 (List.map encApi_Range l4), .own 5129 (List.map encI_i64 l22), .own 5130 (List.map encI_i64 y2.2)]) ti26 rfl rfl rfl (Ev.t 112 (.ptr 1008 1)) (Ev.t 111 (.own 5129 (List.map encI_i64 l22)))) rfl ⟨rfl, rfl, trivial⟩ ⟨rfl, rfl, trivial⟩ ?_
          refine G.endOps ?_
          refine G.endBlock ?_
          refine G.region ?_
          refine G.op1 (op_move (Ev.t 15 (bI .i64 v16.1)) rfl) rfl ⟨rfl, trivial⟩ trivial ?_
          refine G.op1 (op_add (Ev.t 87 (bI .i64 v16.1)) (Ev.c _ rfl) rfl) rfl ⟨rfl, trivial⟩ trivial ?_
          refine G.op1 (op_assign (Ev.t 88 (bI .i64 (IntKind.wrap .i64 (v16.1 + 1)))) rfl) rfl ⟨rfl, trivial⟩ trivial ?_
          refine G.endOps ?_
          exact G.arr (J17 (IntKind.wrap .i64 (v16.1 + 1), l22) hF) ⟨rfl, rfl, rfl, rfl, rfl, trivial⟩ ⟨rfl, rfl, rfl, rfl, trivial⟩ rfl
        refine ifS hF (fun hc24 hF => ?_) (fun hc24 hF => ?_)
        · refine G.cond rfl (fun _ => ?_) (fun hx => Bool.noConfusion (hc24.symm.trans hx))
          refine G.region ?_
          refine G.op1 (op_move (Ev.t 1 (.g (.d (.sl 1 (List.map encI_i64 owners_1))))) rfl) rfl ⟨rfl, trivial⟩ trivial ?_
          refine G.op1 (op_move (Ev.t 15 (bI .i64 v16.1)) rfl) rfl ⟨rfl, trivial⟩ trivial ?_
          obtain ⟨x25, hx25, hF⟩ := bindS hF
          refine G.op1 (op_index (cs := [.v (.int .i64 x25)]) Tryd.underlying26 ti3 (idx_ok hx25).1 (idx_get hx25 encI_i64) (Ev.t 93 (.g (.d (.sl 1 (List.map encI_i64 owners_1))))) (Ev.t 94 (bI .i64 v16.1)) rfl) rfl ⟨rfl, rfl, trivial⟩ trivial ?_
          refine G.op1 (op_load1E (c := .v (.int .i64 x25)) Tryd.underlying3 rfl rfl (Ev.t 95 (.ep [.v (.int .i64 x25)])) rfl) rfl ⟨rfl, trivial⟩ trivial ?_
          refine G.op1 (op_move (Ev.t 10 (bI .i64 y2.1)) rfl) rfl ⟨rfl, trivial⟩ trivial ?_
          refine G.op1 (op_sub (Ev.t 97 (bI .i64 y2.1)) (Ev.c _ rfl) rfl) rfl ⟨rfl, trivial⟩ trivial ?_
          obtain ⟨hz26, hF⟩ := chkS hF
          refine G.op1 (op_rem (by simpa using hz26) (Ev.t 96 (bI .i64 x25)) (Ev.t 98 (bI .i64 (IntKind.wrap .i64 (y2.1 - 1)))) rfl) rfl ⟨rfl, rfl, trivial⟩ trivial ?_
          refine G.op1 (op_move (Ev.t 10 (bI .i64 y2.1)) rfl) rfl ⟨rfl, trivial⟩ trivial ?_
          refine G.op1 (op_add (Ev.t 99 (bI .i64 (Int.tmod x25 (IntKind.wrap .i64 (y2.1 - 1))))) (Ev.t 100 (bI .i64 y2.1)) rfl) rfl ⟨rfl, rfl, trivial⟩ trivial ?_
          refine G.op1 (op_sub (Ev.t 101 (bI .i64 (IntKind.wrap .i64 ((Int.tmod x25 (IntKind.wrap .i64 (y2.1 - 1))) + y2.1)))) (Ev.c _ rfl) rfl) rfl ⟨rfl, trivial⟩ trivial ?_
          refine G.op1 (op_move (Ev.t 10 (bI .i64 y2.1)) rfl) rfl ⟨rfl, trivial⟩ trivial ?_
          refine G.op1 (op_sub (Ev.t 103 (bI .i64 y2.1)) (Ev.c _ rfl) rfl) rfl ⟨rfl, trivial⟩ trivial ?_
          obtain ⟨hz27, hF⟩ := chkS hF
          refine G.op1 (op_rem (by simpa using hz27) (Ev.t 102 (bI .i64 (IntKind.wrap .i64 ((IntKind.wrap .i64 ((Int.tmod x25 (IntKind.wrap .i64 (y2.1 - 1))) + y2.1)) - 1)))) (Ev.t 104 (bI .i64 (IntKind.wrap .i64 (y2.1 - 1)))) rfl) rfl ⟨rfl, rfl, trivial⟩ trivial ?_
          refine G.op1 (op_assign (Ev.t 105 (bI .i64 (Int.tmod (IntKind.wrap .i64 ((IntKind.wrap .i64 ((Int.tmod x25 (IntKind.wrap .i64 (y2.1 - 1))) + y2.1)) - 1)) (IntKind.wrap .i64 (y2.1 - 1))))) rfl) rfl ⟨rfl, trivial⟩ trivial ?_
          refine G.endOps ?_
          exact G.arr (J23 (Int.tmod (IntKind.wrap .i64 ((IntKind.wrap .i64 ((Int.tmod x25 (IntKind.wrap .i64 (y2.1 - 1))) + y2.1)) - 1)) (IntKind.wrap .i64 (y2.1 - 1))) hF) ⟨rfl, rfl, rfl, rfl, rfl, rfl, trivial⟩ ⟨rfl, rfl, rfl, rfl, trivial⟩ rfl
        · refine G.cond rfl (fun hx => Bool.noConfusion (hc24.symm.trans hx)) (fun _ => ?_)
          refine G.skip ?_
          exact G.arr (J23 0 hF) ⟨rfl, rfl, rfl, rfl, rfl, rfl, trivial⟩ ⟨rfl, rfl, rfl, rfl, trivial⟩ rfl
      · refine G.cond rfl (fun hx => Bool.noConfusion (hc20.symm.trans hx)) (fun _ => ?_)
        refine G.exit ?_
        refine GX.c ?_
        refine GX.q ?_
        refine GX.bYes ?_
        exact G.arr (J15 v16.2 hF) ⟨rfl, rfl, trivial⟩ ⟨rfl, rfl, rfl, rfl, trivial⟩ rfl
    refine G.block ?_
    refine G.keep (sl' := [(0, .one (.g (.d (.sl 1 (List.map encI_i64 ends_0))))), (1, .one (.g (.d (.sl 1 (List.map encI_i64 owners_1))))), (7, .one (bB r1)), (8, .one (.ptr 1008 0)), (10, .one (bI .i64 y2.1)), (12, .one (bS ByteArray.empty)), (13, .one (bI .i64 0))]) (hp' := [(1008, some (.blk 28 [.own 5128 (List.map encApi_Range ([] : List Api_Range)), .own 5129 (List.map encI_i64 ([] : List Int)), .own 5130 (List.map encI_i64 y2.2)])), (5128, some (.row 48 2 (List.map encApi_Range ([] : List Api_Range)) false)), (5129, some (.row 3 1 (List.map encI_i64 ([] : List Int)) false)), (5130, some (.row 3 1 (List.map encI_i64 y2.2) false))]) ⟨rfl, rfl, rfl, rfl, rfl, rfl, rfl, trivial⟩ ⟨rfl, rfl, rfl, rfl, trivial⟩ rfl ?_
    refine G.loopF (fun (v29 : ByteArray × Int × (List Api_Range)) => ⟨[(0, .one (.g (.d (.sl 1 (List.map encI_i64 ends_0))))), (1, .one (.g (.d (.sl 1 (List.map encI_i64 owners_1))))), (7, .one (bB r1)), (8, .one (.ptr 1008 0)), (10, .one (bI .i64 y2.1)), (12, .one (bS v29.1)), (13, .one (bI .i64 v29.2.1))], [(1008, some (.blk 28 [.own 5128 (List.map encApi_Range v29.2.2), .own 5129 (List.map encI_i64 ([] : List Int)), .own 5130 (List.map encI_i64 y2.2)])), (5128, some (.row 48 2 (List.map encApi_Range v29.2.2) false)), (5129, some (.row 3 1 (List.map encI_i64 ([] : List Int)) false)), (5130, some (.row 3 1 (List.map encI_i64 y2.2) false))]⟩) hF rfl (fun K32 again31 v29 J30 hF => ?_)
    unfold law24_WordsRows_l7 at hF
    refine G.seq ?_
    refine G.seq ?_
    refine G.joinC (T := Bool) (fun y33 => ⟨[(0, .one (.g (.d (.sl 1 (List.map encI_i64 ends_0))))), (1, .one (.g (.d (.sl 1 (List.map encI_i64 owners_1))))), (7, .one (bB r1)), (8, .one (.ptr 1008 0)), (10, .one (bI .i64 y2.1)), (12, .one (bS v29.1)), (13, .one (bI .i64 v29.2.1)), (49, .one (bB y33))], [(1008, some (.blk 28 [.own 5128 (List.map encApi_Range v29.2.2), .own 5129 (List.map encI_i64 ([] : List Int)), .own 5130 (List.map encI_i64 y2.2)])), (5128, some (.row 48 2 (List.map encApi_Range v29.2.2) false)), (5129, some (.row 3 1 (List.map encI_i64 ([] : List Int)) false)), (5130, some (.row 3 1 (List.map encI_i64 y2.2) false))]⟩) (fun y33 => law24_WordsRows_k8 ends_0 owners_1 r1 y2 again31 v29 y33 = some r) (fun y33 hF => ?_) (fun J38 => ?_)
    · unfold law24_WordsRows_k8 at hF
      refine ifS hF (fun hc34 hF => ?_) (fun hc34 hF => ?_)
      · refine G.cond rfl (fun _ => ?_) (fun hx => Bool.noConfusion (hc34.symm.trans hx))
        refine G.skip ?_
        refine G.seq ?_
        refine G.block ?_
        refine G.seq ?_
        refine G.region ?_
        refine G.op1 (op_move (Ev.t 0 (.g (.d (.sl 1 (List.map encI_i64 ends_0))))) rfl) rfl ⟨rfl, trivial⟩ trivial ?_
        refine G.op1 (op_move (Ev.t 13 (bI .i64 v29.2.1)) rfl) rfl ⟨rfl, trivial⟩ trivial ?_
        obtain ⟨x35, hx35, hF⟩ := bindS hF
        refine G.op1 (op_index (cs := [.v (.int .i64 x35)]) Tryd.underlying26 ti3 (idx_ok hx35).1 (idx_get hx35 encI_i64) (Ev.t 52 (.g (.d (.sl 1 (List.map encI_i64 ends_0))))) (Ev.t 53 (bI .i64 v29.2.1)) rfl) rfl ⟨rfl, rfl, trivial⟩ trivial ?_
        refine G.op1 (op_load1E (c := .v (.int .i64 x35)) Tryd.underlying3 rfl rfl (Ev.t 54 (.ep [.v (.int .i64 x35)])) rfl) rfl ⟨rfl, trivial⟩ trivial ?_
        refine G.op1 (op_rem (by decide) (Ev.t 55 (bI .i64 x35)) (Ev.c _ rfl) rfl) rfl ⟨rfl, trivial⟩ trivial ?_
        refine G.op1 (op_add (Ev.t 56 (bI .i64 (Int.tmod x35 90))) (Ev.c _ rfl) rfl) rfl ⟨rfl, trivial⟩ trivial ?_
        refine G.op1 (op_rem (by decide) (Ev.t 57 (bI .i64 (IntKind.wrap .i64 ((Int.tmod x35 90) + 90)))) (Ev.c _ rfl) rfl) rfl ⟨rfl, trivial⟩ trivial ?_
        refine G.op1 (op_add (Ev.c _ rfl) (Ev.t 58 (bI .i64 (Int.tmod (IntKind.wrap .i64 ((Int.tmod x35 90) + 90)) 90))) rfl) rfl ⟨rfl, trivial⟩ trivial ?_
        refine G.op1 (op_convI Tryd.underlying3 Tryd.underlying5 (Ev.t 59 (bI .i64 (IntKind.wrap .i64 (33 + (Int.tmod (IntKind.wrap .i64 ((Int.tmod x35 90) + 90)) 90))))) rfl) rfl ⟨rfl, trivial⟩ trivial ?_
        refine G.op1 (op_buildSlice (es := List.map encI_u8 [IntKind.wrap .u8 (IntKind.wrap .i64 (33 + (Int.tmod (IntKind.wrap .i64 ((Int.tmod x35 90) + 90)) 90)))]) Tryd.underlying46 ti5 rfl rfl (EvP.cons (Ev.t 60 (bI .u8 (IntKind.wrap .u8 (IntKind.wrap .i64 (33 + (Int.tmod (IntKind.wrap .i64 ((Int.tmod x35 90) + 90)) 90)))))) EvP.nil) rfl rfl (by simp [encI_u8]) rfl) rfl ⟨rfl, trivial⟩ trivial ?_
        refine G.op1 (op_toText (ns := [IntKind.wrap .u8 (IntKind.wrap .i64 (33 + (Int.tmod (IntKind.wrap .i64 ((Int.tmod x35 90) + 90)) 90)))]) Tryd.underlying46 Tryd.underlying5 Tryd.underlying9 rfl (Ev.t 61 (.g (.d (.sl 1 (List.map encI_u8 ([IntKind.wrap .u8 (IntKind.wrap .i64 (33 + (Int.tmod (IntKind.wrap .i64 ((Int.tmod x35 90) + 90)) 90)))])))))) rfl) rfl ⟨rfl, trivial⟩ trivial ?_
        refine G.op1 (op_assign (Ev.t 62 (bS (bytesOf ([IntKind.wrap .u8 (IntKind.wrap .i64 (33 + (Int.tmod (IntKind.wrap .i64 ((Int.tmod x35 90) + 90)) 90)))])))) rfl) rfl ⟨rfl, trivial⟩ trivial ?_
        refine G.endOps ?_
        refine G.seq ?_
        refine G.region ?_
        refine G.op1 (op_move (Ev.t 14 (bS (bytesOf ([IntKind.wrap .u8 (IntKind.wrap .i64 (33 + (Int.tmod (IntKind.wrap .i64 ((Int.tmod x35 90) + 90)) 90)))])))) rfl) rfl ⟨rfl, trivial⟩ trivial ?_
        refine G.op1 (op_move (Ev.t 12 (bS v29.1)) rfl) rfl ⟨rfl, trivial⟩ trivial ?_
        refine G.op1 (op_gtS (Ev.t 63 (bS (bytesOf ([IntKind.wrap .u8 (IntKind.wrap .i64 (33 + (Int.tmod (IntKind.wrap .i64 ((Int.tmod x35 90) + 90)) 90)))])))) (Ev.t 64 (bS v29.1)) rfl) rfl ⟨rfl, rfl, trivial⟩ trivial ?_
        refine G.endOps ?_
        refine ifS hF (fun hc36 hF => ?_) (fun hc36 hF => ?_)
        · refine G.cond rfl (fun _ => ?_) (fun hx => Bool.noConfusion (hc36.symm.trans hx))
          refine G.seq ?_
          refine G.region ?_
          refine G.op1 (op_fieldP (off' := 0) Tryd.underlying28 rfl ti25 (by decide) rfl (Ev.t 8 (.ptr 1008 0)) rfl) rfl ⟨rfl, trivial⟩ trivial ?_
          refine G.op1 (op_load1P (c := .own 5128 (List.map encApi_Range v29.2.2)) Tryd.underlying25 rfl rfl (Ev.t 66 (.ptr 1008 0)) rfl) rfl ⟨rfl, trivial⟩ ⟨rfl, trivial⟩ ?_
          refine G.op1 (op_move (Ev.t 12 (bS v29.1)) rfl) rfl ⟨rfl, trivial⟩ trivial ?_
          refine G.op1 (op_move (Ev.t 14 (bS (bytesOf ([IntKind.wrap .u8 (IntKind.wrap .i64 (33 + (Int.tmod (IntKind.wrap .i64 ((Int.tmod x35 90) + 90)) 90)))])))) rfl) rfl ⟨rfl, trivial⟩ trivial ?_
          refine G.op1 (op_build (zs := [.v (.string ByteArray.empty), .v (.string ByteArray.empty)]) (ds := [.v (.string v29.1), .v (.string (bytesOf ([IntKind.wrap .u8 (IntKind.wrap .i64 (33 + (Int.tmod (IntKind.wrap .i64 ((Int.tmod x35 90) + 90)) 90)))])))]) Tryd.underlying48 ti48 (pl48 _ Tryd.underlying48) ⟨.v _ rfl, .v _ rfl, trivial⟩ (EvP.cons (Ev.t 68 (bS v29.1)) (EvP.cons (Ev.t 69 (bS (bytesOf ([IntKind.wrap .u8 (IntKind.wrap .i64 (33 + (Int.tmod (IntKind.wrap .i64 ((Int.tmod x35 90) + 90)) 90)))])))) EvP.nil)) rfl rfl) rfl ⟨rfl, rfl, trivial⟩ trivial ?_
          refine G.op1 (op_buildSlice (es := List.map encApi_Range [(Api_Range.mk v29.1 (bytesOf ([IntKind.wrap .u8 (IntKind.wrap .i64 (33 + (Int.tmod (IntKind.wrap .i64 ((Int.tmod x35 90) + 90)) 90)))])))]) Tryd.underlying25 ti48 rfl rfl (EvP.cons (Ev.t 70 (.g (.agg [.v (.string v29.1), .v (.string (bytesOf ([IntKind.wrap .u8 (IntKind.wrap .i64 (33 + (Int.tmod (IntKind.wrap .i64 ((Int.tmod x35 90) + 90)) 90)))])))]))) EvP.nil) rfl rfl (by simp [encApi_Range]) rfl) rfl ⟨rfl, trivial⟩ trivial ?_
          obtain ⟨l37, hl37, hF⟩ := bindS hF
          refine G.op2 (op_appendO Tryd.underlying25 ti48 rfl (app_map hl37 encApi_Range) (app_b1 hl37 encApi_Range) (app_b2 hl37 encApi_Range) (Ev.t 67 (.own 5128 (List.map encApi_Range v29.2.2))) (Ev.t 71 (.g (.d (.sl 2 (List.map encApi_Range ([(Api_Range.mk v29.1 (bytesOf ([IntKind.wrap .u8 (IntKind.wrap .i64 (33 + (Int.tmod (IntKind.wrap .i64 ((Int.tmod x35 90) + 90)) 90)))])))])))))) rfl) rfl ⟨rfl, rfl, trivial⟩ ⟨rfl, trivial⟩ ?_
          refine G.op1 (op_fieldP (off' := 0) Tryd.underlying28 rfl ti25 (by decide) rfl (Ev.t 8 (.ptr 1008 0)) rfl) rfl ⟨rfl, trivial⟩ trivial ?_
          refine G.op3 (op_storeO (cs' := [.own 5128 (List.map encApi_Range l37), .own 5129 (List.map encI_i64 ([] : List Int)), .own 5130 (List.map encI_i64 y2.2)]) ti25 rfl rfl rfl (Ev.t 73 (.ptr 1008 0)) (Ev.t 72 (.own 5128 (List.map encApi_Range l37)))) rfl ⟨rfl, rfl, trivial⟩ ⟨rfl, rfl, trivial⟩ ?_
          refine G.endOps ?_
          refine G.region ?_
          refine G.op1 (op_move (Ev.t 14 (bS (bytesOf ([IntKind.wrap .u8 (IntKind.wrap .i64 (33 + (Int.tmod (IntKind.wrap .i64 ((Int.tmod x35 90) + 90)) 90)))])))) rfl) rfl ⟨rfl, trivial⟩ trivial ?_
          refine G.op1 (op_assign (Ev.t 74 (bS (bytesOf ([IntKind.wrap .u8 (IntKind.wrap .i64 (33 + (Int.tmod (IntKind.wrap .i64 ((Int.tmod x35 90) + 90)) 90)))])))) rfl) rfl ⟨rfl, trivial⟩ trivial ?_
          refine G.endOps ?_
          refine G.endBlock ?_
          refine G.region ?_
          refine G.op1 (op_move (Ev.t 13 (bI .i64 v29.2.1)) rfl) rfl ⟨rfl, trivial⟩ trivial ?_
          refine G.op1 (op_add (Ev.t 50 (bI .i64 v29.2.1)) (Ev.c _ rfl) rfl) rfl ⟨rfl, trivial⟩ trivial ?_
          refine G.op1 (op_assign (Ev.t 51 (bI .i64 (IntKind.wrap .i64 (v29.2.1 + 1)))) rfl) rfl ⟨rfl, trivial⟩ trivial ?_
          refine G.endOps ?_
          exact G.arr (J30 (bytesOf ([IntKind.wrap .u8 (IntKind.wrap .i64 (33 + (Int.tmod (IntKind.wrap .i64 ((Int.tmod x35 90) + 90)) 90)))]), IntKind.wrap .i64 (v29.2.1 + 1), l37) hF) ⟨rfl, rfl, rfl, rfl, rfl, rfl, rfl, trivial⟩ ⟨rfl, rfl, rfl, rfl, trivial⟩ rfl
        · refine G.cond rfl (fun hx => Bool.noConfusion (hc36.symm.trans hx)) (fun _ => ?_)
          refine G.skip ?_
          refine G.endBlock ?_
          refine G.region ?_
          refine G.op1 (op_move (Ev.t 13 (bI .i64 v29.2.1)) rfl) rfl ⟨rfl, trivial⟩ trivial ?_
          refine G.op1 (op_add (Ev.t 50 (bI .i64 v29.2.1)) (Ev.c _ rfl) rfl) rfl ⟨rfl, trivial⟩ trivial ?_
          refine G.op1 (op_assign (Ev.t 51 (bI .i64 (IntKind.wrap .i64 (v29.2.1 + 1)))) rfl) rfl ⟨rfl, trivial⟩ trivial ?_
          refine G.endOps ?_
          exact G.arr (J30 (v29.1, IntKind.wrap .i64 (v29.2.1 + 1), v29.2.2) hF) ⟨rfl, rfl, rfl, rfl, rfl, rfl, rfl, trivial⟩ ⟨rfl, rfl, rfl, rfl, trivial⟩ rfl
      · refine G.cond rfl (fun hx => Bool.noConfusion (hc34.symm.trans hx)) (fun _ => ?_)
        refine G.exit ?_
        refine GX.c ?_
        refine GX.q ?_
        refine GX.bYes ?_
        exact G.arr (J28 (v29.1, v29.2.2) hF) ⟨rfl, rfl, rfl, rfl, rfl, trivial⟩ ⟨rfl, rfl, rfl, rfl, trivial⟩ rfl
    refine G.region ?_
    refine G.op1 (op_move (Ev.t 13 (bI .i64 v29.2.1)) rfl) rfl ⟨rfl, trivial⟩ trivial ?_
    refine G.op1 (op_move (Ev.t 0 (.g (.d (.sl 1 (List.map encI_i64 ends_0))))) rfl) rfl ⟨rfl, trivial⟩ trivial ?_
    refine G.op1 (OpL.cast (op_lenD Tryd.underlying26 (Ev.t 43 (.g (.d (.sl 1 (List.map encI_i64 ends_0))))) rfl) (by rw [List.length_map])) rfl ⟨rfl, trivial⟩ trivial ?_
    refine G.op1 (op_lss (Ev.t 42 (bI .i64 v29.2.1)) (Ev.t 44 (bI .i64 (ends_0.length : Int))) rfl) rfl ⟨rfl, rfl, trivial⟩ trivial ?_
    refine G.op1 (op_move (Ev.t 45 (bB (decide (v29.2.1 < (ends_0.length : Int))))) rfl) rfl ⟨rfl, trivial⟩ trivial ?_
    refine ifS hF (fun hc39 hF => ?_) (fun hc39 hF => ?_)
    · refine G.known (t := 46) hc39 rfl ?_
      refine G.opG1 (op_move (Ev.t 13 (bI .i64 v29.2.1)) rfl) rfl rfl rfl ⟨rfl, trivial⟩ trivial ?_
      refine G.opG1 (op_lss (Ev.t 47 (bI .i64 v29.2.1)) (Ev.c _ rfl) rfl) rfl rfl rfl ⟨rfl, trivial⟩ trivial ?_
      refine G.op1 (op_pickT (Ev.t 46 (bB true)) (Ev.t 48 (bB (decide (v29.2.1 < 7)))) rfl) rfl ⟨rfl, rfl, trivial⟩ trivial ?_
      refine G.endOps ?_
      exact G.arr (J38 (decide (v29.2.1 < 7)) hF) ⟨rfl, rfl, rfl, rfl, rfl, rfl, rfl, rfl, trivial⟩ ⟨rfl, rfl, rfl, rfl, trivial⟩ rfl
    · refine G.known (t := 46) hc39 rfl ?_
      refine G.opN1 rfl rfl rfl rfl rfl ?_
      refine G.opN1 rfl rfl rfl rfl rfl ?_
      refine G.op1 (op_pickF (Ev.t 46 (bB false)) (Ev.c _ rfl) rfl) rfl ⟨rfl, trivial⟩ trivial ?_
      refine G.endOps ?_
      exact G.arr (J38 false hF) ⟨rfl, rfl, rfl, rfl, rfl, rfl, rfl, rfl, trivial⟩ ⟨rfl, rfl, rfl, rfl, trivial⟩ rfl
  refine G.block ?_
  refine G.keep (sl' := [(0, .one (.g (.d (.sl 1 (List.map encI_i64 ends_0))))), (1, .one (.g (.d (.sl 1 (List.map encI_i64 owners_1))))), (7, .one (bB r1)), (8, .one (.ptr 1008 0)), (9, .one (bI .i64 (IntKind.wrap .i64 (1 + (Int.tmod (IntKind.wrap .i64 ((Int.tmod sites_2 6) + 6)) 6))))), (10, .one (bI .i64 1)), (11, .one (bI .i64 0))]) (hp' := [(1008, some (.blk 28 [.own 5128 (List.map encApi_Range ([] : List Api_Range)), .own 5129 (List.map encI_i64 ([] : List Int)), .own 5130 (List.map encI_i64 ([] : List Int))])), (5128, some (.row 48 2 (List.map encApi_Range ([] : List Api_Range)) false)), (5129, some (.row 3 1 (List.map encI_i64 ([] : List Int)) false)), (5130, some (.row 3 1 (List.map encI_i64 ([] : List Int)) false))]) ⟨rfl, rfl, rfl, rfl, rfl, rfl, rfl, trivial⟩ ⟨rfl, rfl, rfl, rfl, trivial⟩ rfl ?_
  refine G.loopF (fun (v41 : Int × Int × (List Int)) => ⟨[(0, .one (.g (.d (.sl 1 (List.map encI_i64 ends_0))))), (1, .one (.g (.d (.sl 1 (List.map encI_i64 owners_1))))), (7, .one (bB r1)), (8, .one (.ptr 1008 0)), (9, .one (bI .i64 (IntKind.wrap .i64 (1 + (Int.tmod (IntKind.wrap .i64 ((Int.tmod sites_2 6) + 6)) 6))))), (10, .one (bI .i64 v41.1)), (11, .one (bI .i64 v41.2.1))], [(1008, some (.blk 28 [.own 5128 (List.map encApi_Range ([] : List Api_Range)), .own 5129 (List.map encI_i64 ([] : List Int)), .own 5130 (List.map encI_i64 v41.2.2)])), (5128, some (.row 48 2 (List.map encApi_Range ([] : List Api_Range)) false)), (5129, some (.row 3 1 (List.map encI_i64 ([] : List Int)) false)), (5130, some (.row 3 1 (List.map encI_i64 v41.2.2) false))]⟩) hF rfl (fun K44 again43 v41 J42 hF => ?_)
  unfold law24_WordsRows_l9 at hF
  refine G.seq ?_
  refine G.seq ?_
  refine G.region ?_
  refine G.op1 (op_move (Ev.t 11 (bI .i64 v41.2.1)) rfl) rfl ⟨rfl, trivial⟩ trivial ?_
  refine G.op1 (op_move (Ev.t 9 (bI .i64 (IntKind.wrap .i64 (1 + (Int.tmod (IntKind.wrap .i64 ((Int.tmod sites_2 6) + 6)) 6))))) rfl) rfl ⟨rfl, trivial⟩ trivial ?_
  refine G.op1 (op_lss (Ev.t 28 (bI .i64 v41.2.1)) (Ev.t 29 (bI .i64 (IntKind.wrap .i64 (1 + (Int.tmod (IntKind.wrap .i64 ((Int.tmod sites_2 6) + 6)) 6))))) rfl) rfl ⟨rfl, rfl, trivial⟩ trivial ?_
  refine G.endOps ?_
  refine ifS hF (fun hc45 hF => ?_) (fun hc45 hF => ?_)
  · refine G.cond rfl (fun _ => ?_) (fun hx => Bool.noConfusion (hc45.symm.trans hx))
    refine G.skip ?_
    refine G.seq ?_
    refine G.block ?_
    refine G.seq ?_
    refine G.region ?_
    refine G.op1 (op_fieldP (off' := 2) Tryd.underlying28 rfl ti26 (by decide) rfl (Ev.t 8 (.ptr 1008 0)) rfl) rfl ⟨rfl, trivial⟩ trivial ?_
    refine G.op1 (op_load1P (c := .own 5130 (List.map encI_i64 v41.2.2)) Tryd.underlying26 rfl rfl (Ev.t 33 (.ptr 1008 2)) rfl) rfl ⟨rfl, trivial⟩ ⟨rfl, trivial⟩ ?_
    refine G.op1 (op_move (Ev.t 11 (bI .i64 v41.2.1)) rfl) rfl ⟨rfl, trivial⟩ trivial ?_
    refine G.op1 (op_sub (Ev.t 35 (bI .i64 v41.2.1)) (Ev.c _ rfl) rfl) rfl ⟨rfl, trivial⟩ trivial ?_
    refine G.op1 (op_buildSlice (es := List.map encI_i64 [IntKind.wrap .i64 (v41.2.1 - 1)]) Tryd.underlying26 ti3 rfl rfl (EvP.cons (Ev.t 36 (bI .i64 (IntKind.wrap .i64 (v41.2.1 - 1)))) EvP.nil) rfl rfl (by simp [encI_i64]) rfl) rfl ⟨rfl, trivial⟩ trivial ?_
    obtain ⟨l46, hl46, hF⟩ := bindS hF
    refine G.op2 (op_appendO Tryd.underlying26 ti3 rfl (app_map hl46 encI_i64) (app_b1 hl46 encI_i64) (app_b2 hl46 encI_i64) (Ev.t 34 (.own 5130 (List.map encI_i64 v41.2.2))) (Ev.t 37 (.g (.d (.sl 1 (List.map encI_i64 ([IntKind.wrap .i64 (v41.2.1 - 1)])))))) rfl) rfl ⟨rfl, rfl, trivial⟩ ⟨rfl, trivial⟩ ?_
    refine G.op1 (op_fieldP (off' := 2) Tryd.underlying28 rfl ti26 (by decide) rfl (Ev.t 8 (.ptr 1008 0)) rfl) rfl ⟨rfl, trivial⟩ trivial ?_
    refine G.op3 (op_storeO (cs' := [.own 5128 (List.map encApi_Range ([] : List Api_Range)), .own 5129 (List.map encI_i64 ([] : List Int)), .own 5130 (List.map encI_i64 l46)]) ti26 rfl rfl rfl (Ev.t 39 (.ptr 1008 2)) (Ev.t 38 (.own 5130 (List.map encI_i64 l46)))) rfl ⟨rfl, rfl, trivial⟩ ⟨rfl, rfl, trivial⟩ ?_
    refine G.endOps ?_
    refine G.region ?_
    refine G.op1 (op_move (Ev.t 10 (bI .i64 v41.1)) rfl) rfl ⟨rfl, trivial⟩ trivial ?_
    refine G.op1 (op_mul (Ev.t 40 (bI .i64 v41.1)) (Ev.c _ rfl) rfl) rfl ⟨rfl, trivial⟩ trivial ?_
    refine G.op1 (op_assign (Ev.t 41 (bI .i64 (IntKind.wrap .i64 (v41.1 * 2)))) rfl) rfl ⟨rfl, trivial⟩ trivial ?_
    refine G.endOps ?_
    refine G.endBlock ?_
    refine G.region ?_
    refine G.op1 (op_move (Ev.t 11 (bI .i64 v41.2.1)) rfl) rfl ⟨rfl, trivial⟩ trivial ?_
    refine G.op1 (op_add (Ev.t 31 (bI .i64 v41.2.1)) (Ev.c _ rfl) rfl) rfl ⟨rfl, trivial⟩ trivial ?_
    refine G.op1 (op_assign (Ev.t 32 (bI .i64 (IntKind.wrap .i64 (v41.2.1 + 1)))) rfl) rfl ⟨rfl, trivial⟩ trivial ?_
    refine G.endOps ?_
    exact G.arr (J42 (IntKind.wrap .i64 (v41.1 * 2), IntKind.wrap .i64 (v41.2.1 + 1), l46) hF) ⟨rfl, rfl, rfl, rfl, rfl, rfl, rfl, trivial⟩ ⟨rfl, rfl, rfl, rfl, trivial⟩ rfl
  · refine G.cond rfl (fun hx => Bool.noConfusion (hc45.symm.trans hx)) (fun _ => ?_)
    refine G.exit ?_
    refine GX.c ?_
    refine GX.q ?_
    refine GX.bYes ?_
    exact G.arr (J40 (v41.1, v41.2.2) hF) ⟨rfl, rfl, rfl, rfl, rfl, trivial⟩ ⟨rfl, rfl, rfl, rfl, trivial⟩ rfl


end Go.Ark
