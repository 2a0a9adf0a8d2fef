/- Walks, printed by a program of mine: each function of the program computes the typed function of its name. Conditions: none. -/
import Derived.Test.YtfhlilpkgodilaaDoorWWordsQuote2
namespace Go.Ark
open Go Go.Ab Go.RowKit Go.Lib Go.Proofs Go.Shelf

set_option maxRecDepth 20000 in
set_option maxHeartbeats 2000000 in
theorem ct_script_Bytes (l_0 : (List Api_Op)) (r : ByteArray) (hF : script_Bytes l_0 = some r) : Ct Tryd.prog 40 [.g (.d (.sl 12 (List.map encApi_Op l_0)))] (.one (.d (.v (.string r)))) := by
  unfold script_Bytes at hF
  refine Ct.intro Tryd.func40 rfl Tryd.ntmps40 rfl rfl fun M w => ?_
  refine G.seq ?_
  refine G.region ?_
  refine G.op1 (op_assign (Ev.c _ rfl) rfl) rfl trivial trivial ?_
  refine G.endOps ?_
  refine G.seq ?_
  refine G.region ?_
  refine G.opM (op_allocB (T := 54) (E := 5) (k := 1003) (kk := 3003) ti54 rfl rfl rfl) rfl trivial ⟨rfl, rfl, trivial⟩ ?_
  refine G.endOps ?_
  refine G.seq ?_
  refine G.region ?_
  refine G.op1 (op_move (Ev.t 0 (.g (.d (.sl 12 (List.map encApi_Op l_0))))) rfl) rfl ⟨rfl, trivial⟩ trivial ?_
  refine G.op1 (OpL.cast (op_lenD Tryd.underlying22 (Ev.t 11 (.g (.d (.sl 12 (List.map encApi_Op l_0))))) rfl) (by rw [List.length_map])) rfl ⟨rfl, trivial⟩ trivial ?_
  refine G.op1 (op_convI Tryd.underlying3 Tryd.underlying97 (Ev.t 12 (bI .i64 (l_0.length : Int))) rfl) rfl ⟨rfl, trivial⟩ trivial ?_
  obtain ⟨r1, hr1, hF⟩ := bindS hF
  refine G.op1 (op_callQ (sv := .one (bS r1)) cf59 (ct_vary_Number (IntKind.wrap .u64 (l_0.length : Int)) r1 hr1) rfl rfl (EvQL.cons (EvQ.g (Ev.t 13 (bI .u64 (IntKind.wrap .u64 (l_0.length : Int))))) EvQL.nil) rfl) rfl ⟨rfl, trivial⟩ trivial ?_
  obtain ⟨r2, hr2, hF⟩ := bindS hF
  refine G.opM (op_callM (k := 1003) (h := .bld 54 5 ByteArray.empty) (h' := .bld 54 5 r2) 3003 (sv := .tup [bI .i64 (r1.size : Int), .g (.d (.v .nilIface))]) cf19 (ct_bld_WriteString ByteArray.empty r1 r2 hr2) rfl rfl (EvM.pt (Ev.t 3 (.ptr 1003 0)) (EvM.g (Ev.t 14 (bS r1)) EvM.nil)) rfl) rfl ⟨rfl, rfl, trivial⟩ ⟨rfl, rfl, trivial⟩ ?_
  refine G.endOps ?_
  refine G.seq ?_
  refine G.seq ?_
  refine G.region ?_
  refine G.op1 (op_move (Ev.t 0 (.g (.d (.sl 12 (List.map encApi_Op l_0))))) rfl) rfl ⟨rfl, trivial⟩ trivial ?_
  refine G.op1 (OpL.cast (op_lenD Tryd.underlying22 (Ev.t 16 (.g (.d (.sl 12 (List.map encApi_Op l_0))))) rfl) (by rw [List.length_map])) rfl ⟨rfl, trivial⟩ trivial ?_
  refine G.op1 (op_move (Ev.c _ rfl) rfl) rfl trivial trivial ?_
  refine G.endOps ?_
  refine G.joinC (T := ByteArray) (fun y3 => ⟨[(3, .one (.ptr 1003 0))], [(1003, some (.bld 54 5 3003 y3)), (3003, some (.hid true 1003))]⟩) (fun y3 => script_Bytes_k1 y3 = some r) (fun y3 hF => ?_) (fun J5 => ?_)
  · unfold script_Bytes_k1 at hF
    refine G.seq ?_
    refine G.region ?_
    obtain ⟨r4, hr4, hF⟩ := bindS hF
    refine G.opM (op_callM (k := 1003) (h := .bld 54 5 y3) (h' := .gone) 3003 (sv := .one (bS r4)) cf20 (ct_bld_String y3 r4 hr4) rfl rfl (EvM.pt (Ev.t 3 (.ptr 1003 0)) EvM.nil) rfl) rfl ⟨rfl, trivial⟩ ⟨rfl, rfl, trivial⟩ ?_
    refine G.op1 (op_assign (Ev.t 73 (bS r4)) rfl) rfl ⟨rfl, trivial⟩ trivial ?_
    refine G.endOps ?_
    cases hF
    exact G.ret1 Tryd.results40 (RVar.tmp 2 _) ⟨rfl, trivial⟩ trivial
  refine G.block ?_
  refine G.keep (sl' := [(3, .one (.ptr 1003 0)), (16, .one (.g (.d (.sl 12 (List.map encApi_Op l_0))))), (17, .one (bI .i64 (l_0.length : Int))), (18, .one (bI .i64 0))]) (hp' := [(1003, some (.bld 54 5 3003 r2)), (3003, some (.hid true 1003))]) ⟨rfl, rfl, rfl, rfl, trivial⟩ ⟨rfl, rfl, trivial⟩ rfl ?_
  refine G.loopF (fun (v6 : Int × ByteArray) => ⟨[(3, .one (.ptr 1003 0)), (16, .one (.g (.d (.sl 12 (List.map encApi_Op l_0))))), (17, .one (bI .i64 (l_0.length : Int))), (18, .one (bI .i64 v6.1))], [(1003, some (.bld 54 5 3003 v6.2)), (3003, some (.hid true 1003))]⟩) hF rfl (fun K9 again8 v6 J7 hF => ?_)
  unfold script_Bytes_l2 at hF
  refine G.seq ?_
  refine G.region ?_
  refine G.op1 (op_lss (Ev.t 18 (bI .i64 v6.1)) (Ev.t 17 (bI .i64 (l_0.length : Int))) rfl) rfl ⟨rfl, rfl, trivial⟩ trivial ?_
  refine G.endOps ?_
  refine G.seq ?_
  refine ifS hF (fun hc10 hF => ?_) (fun hc10 hF => ?_)
  · refine G.cond rfl (fun _ => ?_) (fun hx => Bool.noConfusion (hc10.symm.trans hx))
    refine G.skip ?_
    refine G.seq ?_
    refine G.joinC (T := ByteArray) (fun y11 => ⟨[(3, .one (.ptr 1003 0)), (16, .one (.g (.d (.sl 12 (List.map encApi_Op l_0))))), (17, .one (bI .i64 (l_0.length : Int))), (18, .one (bI .i64 v6.1))], [(1003, some (.bld 54 5 3003 y11)), (3003, some (.hid true 1003))]⟩) (fun y11 => script_Bytes_k3 again8 v6 y11 = some r) (fun y11 hF => ?_) (fun J12 => ?_)
    · unfold script_Bytes_k3 at hF
      refine G.region ?_
      refine G.op1 (op_add (Ev.t 18 (bI .i64 v6.1)) (Ev.c _ rfl) rfl) rfl ⟨rfl, trivial⟩ trivial ?_
      refine G.op1 (op_move (Ev.t 72 (bI .i64 (IntKind.wrap .i64 (v6.1 + 1)))) rfl) rfl ⟨rfl, trivial⟩ trivial ?_
      refine G.endOps ?_
      exact G.arr (J7 (IntKind.wrap .i64 (v6.1 + 1), y11) hF) ⟨rfl, rfl, rfl, rfl, trivial⟩ ⟨rfl, rfl, trivial⟩ rfl
    refine G.block ?_
    refine G.seq ?_
    refine G.region ?_
    obtain ⟨x13, hx13, hF⟩ := bindS hF
    refine G.op1 (op_index (cs := [.v (.int .i64 x13.Kind), .v (.int .i64 x13.Client), .v (.int .i64 x13.Site), .v (.int .i64 x13.To), .v (.int .i64 x13.At), .v (.int .i64 x13.How), .v (.string x13.Key), .v (.string x13.Value), .sl 1 (List.map encS x13.Keys), .sl 2 (List.map encApi_Range x13.Row.Ranges), .sl 1 (List.map encI_i64 x13.Row.Owners), .sl 1 (List.map encI_i64 x13.Row.Parents)]) Tryd.underlying22 ti30 (idx_ok hx13).1 (idx_get hx13 encApi_Op) (Ev.t 16 (.g (.d (.sl 12 (List.map encApi_Op l_0))))) (Ev.t 18 (bI .i64 v6.1)) rfl) rfl ⟨rfl, rfl, trivial⟩ trivial ?_
    refine G.op1 (op_loadAE (ds := [.v (.int .i64 x13.Kind), .v (.int .i64 x13.Client), .v (.int .i64 x13.Site), .v (.int .i64 x13.To), .v (.int .i64 x13.At), .v (.int .i64 x13.How), .v (.string x13.Key), .v (.string x13.Value), .sl 1 (List.map encS x13.Keys), .sl 2 (List.map encApi_Range x13.Row.Ranges), .sl 1 (List.map encI_i64 x13.Row.Owners), .sl 1 (List.map encI_i64 x13.Row.Parents)]) Tryd.underlying30 rfl ti30 rfl (Ev.t 20 (.ep [.v (.int .i64 x13.Kind), .v (.int .i64 x13.Client), .v (.int .i64 x13.Site), .v (.int .i64 x13.To), .v (.int .i64 x13.At), .v (.int .i64 x13.How), .v (.string x13.Key), .v (.string x13.Value), .sl 1 (List.map encS x13.Keys), .sl 2 (List.map encApi_Range x13.Row.Ranges), .sl 1 (List.map encI_i64 x13.Row.Owners), .sl 1 (List.map encI_i64 x13.Row.Parents)])) rfl) rfl ⟨rfl, trivial⟩ trivial ?_
    refine G.op2 (op_alloc (k := 1005) (cs := [bI .i64 0, bI .i64 0, bI .i64 0, bI .i64 0, bI .i64 0, bI .i64 0, bS ByteArray.empty, bS ByteArray.empty, .g (.d (.sl 1 (List.map encS ([] : (List ByteArray))))), .g (.d (.sl 2 (List.map encApi_Range ([] : (List Api_Range))))), .g (.d (.sl 1 (List.map encI_i64 ([] : (List Int))))), .g (.d (.sl 1 (List.map encI_i64 ([] : (List Int)))))]) ti30 ⟨.v _ rfl, .v _ rfl, .v _ rfl, .v _ rfl, .v _ rfl, .v _ rfl, .v _ rfl, .v _ rfl, .n 1, .n 2, .n 1, .n 1, trivial⟩ rfl) rfl trivial ⟨rfl, trivial⟩ ?_
    refine G.op3 (op_storeA (cs' := [bI .i64 x13.Kind, bI .i64 x13.Client, bI .i64 x13.Site, bI .i64 x13.To, bI .i64 x13.At, bI .i64 x13.How, bS x13.Key, bS x13.Value, .g (.d (.sl 1 (List.map encS x13.Keys))), .g (.d (.sl 2 (List.map encApi_Range x13.Row.Ranges))), .g (.d (.sl 1 (List.map encI_i64 x13.Row.Owners))), .g (.d (.sl 1 (List.map encI_i64 x13.Row.Parents)))]) ti30 rfl rfl (Ev.t 5 (.ptr 1005 0)) (Ev.t 21 (.g (.agg [.v (.int .i64 x13.Kind), .v (.int .i64 x13.Client), .v (.int .i64 x13.Site), .v (.int .i64 x13.To), .v (.int .i64 x13.At), .v (.int .i64 x13.How), .v (.string x13.Key), .v (.string x13.Value), .sl 1 (List.map encS x13.Keys), .sl 2 (List.map encApi_Range x13.Row.Ranges), .sl 1 (List.map encI_i64 x13.Row.Owners), .sl 1 (List.map encI_i64 x13.Row.Parents)])))) rfl ⟨rfl, rfl, trivial⟩ ⟨rfl, trivial⟩ ?_
    refine G.endOps ?_
    refine G.seq ?_
    refine G.seq ?_
    refine G.region ?_
    refine G.op1 (op_loadAP (ds := [.v (.int .i64 x13.Kind), .v (.int .i64 x13.Client), .v (.int .i64 x13.Site), .v (.int .i64 x13.To), .v (.int .i64 x13.At), .v (.int .i64 x13.How), .v (.string x13.Key), .v (.string x13.Value), .sl 1 (List.map encS x13.Keys), .sl 2 (List.map encApi_Range x13.Row.Ranges), .sl 1 (List.map encI_i64 x13.Row.Owners), .sl 1 (List.map encI_i64 x13.Row.Parents)]) Tryd.underlying30 rfl ti30 rfl (Ev.t 5 (.ptr 1005 0)) rfl) rfl ⟨rfl, trivial⟩ ⟨rfl, trivial⟩ ?_
    obtain ⟨r14, hr14, hF⟩ := bindS hF
    refine G.op1 (op_callQ (sv := .one (bB r14)) cf16 (ct_script_Check x13 r14 hr14) rfl rfl (EvQL.cons (EvQ.g (Ev.t 22 (.g (.agg [.v (.int .i64 x13.Kind), .v (.int .i64 x13.Client), .v (.int .i64 x13.Site), .v (.int .i64 x13.To), .v (.int .i64 x13.At), .v (.int .i64 x13.How), .v (.string x13.Key), .v (.string x13.Value), .sl 1 (List.map encS x13.Keys), .sl 2 (List.map encApi_Range x13.Row.Ranges), .sl 1 (List.map encI_i64 x13.Row.Owners), .sl 1 (List.map encI_i64 x13.Row.Parents)])))) EvQL.nil) rfl) rfl ⟨rfl, trivial⟩ trivial ?_
    refine G.op1 (op_not (Ev.t 23 (bB r14)) rfl) rfl ⟨rfl, trivial⟩ trivial ?_
    refine G.endOps ?_
    refine ifS hF (fun hc15 hF => ?_) (fun hc15 hF => ?_)
    · refine G.cond rfl (fun _ => ?_) (fun hx => Bool.noConfusion (hc15.symm.trans hx))
      refine G.seq ?_
      refine G.region ?_
      refine G.op1 (op_assign (Ev.c _ rfl) rfl) rfl trivial trivial ?_
      refine G.endOps ?_
      cases hF
      exact G.ret1 Tryd.results40 (RVar.tmp 2 _) ⟨rfl, trivial⟩ trivial
    · refine G.cond rfl (fun hx => Bool.noConfusion (hc15.symm.trans hx)) (fun _ => ?_)
      refine G.skip ?_
      refine G.seq ?_
      refine G.seq ?_
      refine G.region ?_
      refine G.op1 (op_loadAP (ds := [.v (.int .i64 x13.Kind), .v (.int .i64 x13.Client), .v (.int .i64 x13.Site), .v (.int .i64 x13.To), .v (.int .i64 x13.At), .v (.int .i64 x13.How), .v (.string x13.Key), .v (.string x13.Value), .sl 1 (List.map encS x13.Keys), .sl 2 (List.map encApi_Range x13.Row.Ranges), .sl 1 (List.map encI_i64 x13.Row.Owners), .sl 1 (List.map encI_i64 x13.Row.Parents)]) Tryd.underlying30 rfl ti30 rfl (Ev.t 5 (.ptr 1005 0)) rfl) rfl ⟨rfl, trivial⟩ ⟨rfl, trivial⟩ ?_
      obtain ⟨r16, hr16, hF⟩ := bindS hF
      refine G.op1 (op_call (sv := .one (.g (.d (.sl 1 (List.map encI_i64 r16))))) cf32 (ct_script_numbers x13 r16 hr16) rfl (EvL.cons (Ev.t 25 (.g (.agg [.v (.int .i64 x13.Kind), .v (.int .i64 x13.Client), .v (.int .i64 x13.Site), .v (.int .i64 x13.To), .v (.int .i64 x13.At), .v (.int .i64 x13.How), .v (.string x13.Key), .v (.string x13.Value), .sl 1 (List.map encS x13.Keys), .sl 2 (List.map encApi_Range x13.Row.Ranges), .sl 1 (List.map encI_i64 x13.Row.Owners), .sl 1 (List.map encI_i64 x13.Row.Parents)]))) EvL.nil) rfl) rfl ⟨rfl, trivial⟩ trivial ?_
      refine G.op1 (OpL.cast (op_lenD Tryd.underlying26 (Ev.t 26 (.g (.d (.sl 1 (List.map encI_i64 r16))))) rfl) (by rw [List.length_map])) rfl ⟨rfl, trivial⟩ trivial ?_
      refine G.op1 (op_move (Ev.c _ rfl) rfl) rfl trivial trivial ?_
      refine G.endOps ?_
      refine G.joinC (T := ByteArray) (fun y17 => ⟨[(3, .one (.ptr 1003 0)), (5, .one (.ptr 1005 0)), (16, .one (.g (.d (.sl 12 (List.map encApi_Op l_0))))), (17, .one (bI .i64 (l_0.length : Int))), (18, .one (bI .i64 v6.1))], [(1003, some (.bld 54 5 3003 y17)), (1005, some (.blk 30 [bI .i64 x13.Kind, bI .i64 x13.Client, bI .i64 x13.Site, bI .i64 x13.To, bI .i64 x13.At, bI .i64 x13.How, bS x13.Key, bS x13.Value, .g (.d (.sl 1 (List.map encS x13.Keys))), .g (.d (.sl 2 (List.map encApi_Range x13.Row.Ranges))), .g (.d (.sl 1 (List.map encI_i64 x13.Row.Owners))), .g (.d (.sl 1 (List.map encI_i64 x13.Row.Parents)))])), (3003, some (.hid true 1003))]⟩) (fun y17 => script_Bytes_k4 again8 v6 x13 y17 = some r) (fun y17 hF => ?_) (fun J41 => ?_)
      · unfold script_Bytes_k4 at hF
        refine G.seq ?_
        obtain ⟨r18, hr18, hF⟩ := bindS hF
        obtain ⟨r19, hr19, hF⟩ := bindS hF
        obtain ⟨s20, hs20, hF⟩ := bindS hF
        obtain ⟨r21, hr21, hF⟩ := bindS hF
        obtain ⟨s22, hs22, hF⟩ := bindS hF
        obtain ⟨r23, hr23, hF⟩ := bindS hF
        refine G.drawnI (deps := [[], [0], [0, 1], [], [3], [0, 1, 2, 3, 4], [0, 1, 2, 3, 4, 5], [], [7], [7, 8], [7, 8, 9], [0, 1, 2, 3, 4, 5, 7, 8, 9, 10], [0, 1, 2, 3, 4, 5, 6, 7, 8, 9, 10, 11], [0, 1, 2, 3, 4, 5, 6, 7, 8, 9, 10, 11, 12]]) (sl' := [(3, .one (.ptr 1003 0)), (5, .one (.ptr 1005 0)), (16, .one (.g (.d (.sl 12 (List.map encApi_Op l_0))))), (17, .one (bI .i64 (l_0.length : Int))), (18, .one (bI .i64 v6.1))]) (hp' := [(1003, some (.bld 54 5 3003 r23)), (1005, some (.blk 30 [bI .i64 x13.Kind, bI .i64 x13.Client, bI .i64 x13.Site, bI .i64 x13.To, bI .i64 x13.At, bI .i64 x13.How, bS x13.Key, bS x13.Value, .g (.d (.sl 1 (List.map encS x13.Keys))), .g (.d (.sl 2 (List.map encApi_Range x13.Row.Ranges))), .g (.d (.sl 1 (List.map encI_i64 x13.Row.Owners))), .g (.d (.sl 1 (List.map encI_i64 x13.Row.Parents)))])), (3003, some (.hid true 1003))]) (.c (oP rfl rfl (op_fieldP (off' := 6) Tryd.underlying30 rfl ti9 (by decide) rfl (Ev.t 5 (.ptr 1005 0)) rfl)) (.c (oP rfl rfl (op_load1P (c := bS x13.Key) Tryd.underlying9 rfl rfl (Ev.t 37 (.ptr 1005 6)) rfl)) (.c (oP rfl rfl (op_callQ (sv := .one (bS r18)) cf60 (ct_vary_Text x13.Key r18 hr18) rfl rfl (EvQL.cons (EvQ.g (Ev.t 38 (bS x13.Key))) EvQL.nil) rfl)) (.c (oP rfl rfl (op_fieldP (off' := 7) Tryd.underlying30 rfl ti9 (by decide) rfl (Ev.t 5 (.ptr 1005 0)) rfl)) (.c (oP rfl rfl (op_load1P (c := bS x13.Value) Tryd.underlying9 rfl rfl (Ev.t 40 (.ptr 1005 7)) rfl)) (.c (oP rfl rfl (op_callQ (sv := .one (bS r19)) cf60 (ct_vary_Text x13.Value r19 hr19) rfl rfl (EvQL.cons (EvQ.g (Ev.t 41 (bS x13.Value))) EvQL.nil) rfl)) (.c (oP rfl rfl (OpL.cast (op_cat (scat_ok hs20).1 (Ev.t 39 (bS r18)) (Ev.t 42 (bS r19)) rfl) (by rw [(scat_ok hs20).2]))) (.c (oP rfl rfl (op_fieldP (off' := 8) Tryd.underlying30 rfl ti24 (by decide) rfl (Ev.t 5 (.ptr 1005 0)) rfl)) (.c (oP rfl rfl (op_load1P (c := .g (.d (.sl 1 (List.map encS x13.Keys)))) Tryd.underlying24 rfl rfl (Ev.t 44 (.ptr 1005 8)) rfl)) (.c (oP rfl rfl (OpL.cast (op_lenD Tryd.underlying24 (Ev.t 45 (.g (.d (.sl 1 (List.map encS x13.Keys))))) rfl) (by rw [List.length_map]))) (.c (oP rfl rfl (op_convI Tryd.underlying3 Tryd.underlying97 (Ev.t 46 (bI .i64 (x13.Keys.length : Int))) rfl)) (.c (oP rfl rfl (op_callQ (sv := .one (bS r21)) cf59 (ct_vary_Number (IntKind.wrap .u64 (x13.Keys.length : Int)) r21 hr21) rfl rfl (EvQL.cons (EvQ.g (Ev.t 47 (bI .u64 (IntKind.wrap .u64 (x13.Keys.length : Int))))) EvQL.nil) rfl)) (.c (oP rfl rfl (OpL.cast (op_cat (scat_ok hs22).1 (Ev.t 43 (bS s20)) (Ev.t 48 (bS r21)) rfl) (by rw [(scat_ok hs22).2]))) (.c (oP rfl rfl (op_callM (k := 1003) (h := .bld 54 5 y17) (h' := .bld 54 5 r23) 3003 (sv := .tup [bI .i64 (s22.size : Int), .g (.d (.v .nilIface))]) cf19 (ct_bld_WriteString y17 s22 r23 hr23) rfl rfl (EvM.pt (Ev.t 3 (.ptr 1003 0)) (EvM.g (Ev.t 49 (bS s22)) EvM.nil)) rfl)) .nil)))))))))))))) follows rfl rfl rfl ⟨⟨rfl, trivial⟩, trivial, ⟨rfl, trivial⟩, ⟨⟨rfl, rfl⟩, trivial⟩, ⟨rfl, trivial⟩, trivial, ⟨rfl, trivial⟩, trivial, ⟨rfl, trivial⟩, ⟨⟨rfl, rfl⟩, trivial⟩, ⟨rfl, trivial⟩, trivial, ⟨rfl, rfl, trivial⟩, trivial, ⟨rfl, trivial⟩, trivial, ⟨rfl, trivial⟩, ⟨⟨rfl, rfl⟩, trivial⟩, ⟨rfl, trivial⟩, trivial, ⟨rfl, trivial⟩, trivial, ⟨rfl, trivial⟩, trivial, ⟨rfl, rfl, trivial⟩, trivial, ⟨rfl, rfl, trivial⟩, ⟨⟨rfl, rfl⟩, ⟨rfl, rfl⟩, trivial⟩, trivial⟩ ⟨rfl, rfl, rfl, rfl, rfl, trivial⟩ ⟨rfl, rfl, rfl, trivial⟩ rfl ?_
        refine G.seq ?_
        refine G.seq ?_
        refine G.region ?_
        refine G.op1 (op_fieldP (off' := 8) Tryd.underlying30 rfl ti24 (by decide) rfl (Ev.t 5 (.ptr 1005 0)) rfl) rfl ⟨rfl, trivial⟩ trivial ?_
        refine G.op1 (op_load1P (c := .g (.d (.sl 1 (List.map encS x13.Keys)))) Tryd.underlying24 rfl rfl (Ev.t 51 (.ptr 1005 8)) rfl) rfl ⟨rfl, trivial⟩ ⟨rfl, trivial⟩ ?_
        refine G.op1 (OpL.cast (op_lenD Tryd.underlying24 (Ev.t 52 (.g (.d (.sl 1 (List.map encS x13.Keys))))) rfl) (by rw [List.length_map])) rfl ⟨rfl, trivial⟩ trivial ?_
        refine G.op1 (op_move (Ev.c _ rfl) rfl) rfl trivial trivial ?_
        refine G.endOps ?_
        refine G.joinC (T := ByteArray) (fun y24 => ⟨[(3, .one (.ptr 1003 0)), (5, .one (.ptr 1005 0)), (16, .one (.g (.d (.sl 12 (List.map encApi_Op l_0))))), (17, .one (bI .i64 (l_0.length : Int))), (18, .one (bI .i64 v6.1))], [(1003, some (.bld 54 5 3003 y24)), (1005, some (.blk 30 [bI .i64 x13.Kind, bI .i64 x13.Client, bI .i64 x13.Site, bI .i64 x13.To, bI .i64 x13.At, bI .i64 x13.How, bS x13.Key, bS x13.Value, .g (.d (.sl 1 (List.map encS x13.Keys))), .g (.d (.sl 2 (List.map encApi_Range x13.Row.Ranges))), .g (.d (.sl 1 (List.map encI_i64 x13.Row.Owners))), .g (.d (.sl 1 (List.map encI_i64 x13.Row.Parents)))])), (3003, some (.hid true 1003))]⟩) (fun y24 => script_Bytes_k5 again8 v6 x13 y24 = some r) (fun y24 hF => ?_) (fun J32 => ?_)
        · unfold script_Bytes_k5 at hF
          refine G.seq ?_
          refine G.region ?_
          refine G.op1 (op_assign (Ev.c _ rfl) rfl) rfl trivial trivial ?_
          refine G.endOps ?_
          refine G.seq ?_
          refine G.seq ?_
          refine G.region ?_
          refine G.op1 (op_fieldP (off' := 9) Tryd.underlying30 rfl ti28 (by decide) rfl (Ev.t 5 (.ptr 1005 0)) rfl) rfl ⟨rfl, trivial⟩ trivial ?_
          refine G.op1 (op_loadAP (ds := [.sl 2 (List.map encApi_Range x13.Row.Ranges), .sl 1 (List.map encI_i64 x13.Row.Owners), .sl 1 (List.map encI_i64 x13.Row.Parents)]) Tryd.underlying28 rfl ti28 rfl (Ev.t 62 (.ptr 1005 9)) rfl) rfl ⟨rfl, trivial⟩ ⟨rfl, trivial⟩ ?_
          obtain ⟨r25, hr25, hF⟩ := bindS hF
          refine G.op1 (op_callQ (sv := .one (bB r25)) cf34 (ct_script_empty x13.Row r25 hr25) rfl rfl (EvQL.cons (EvQ.g (Ev.t 63 (.g (.agg [.sl 2 (List.map encApi_Range x13.Row.Ranges), .sl 1 (List.map encI_i64 x13.Row.Owners), .sl 1 (List.map encI_i64 x13.Row.Parents)])))) EvQL.nil) rfl) rfl ⟨rfl, trivial⟩ trivial ?_
          refine G.op1 (op_not (Ev.t 64 (bB r25)) rfl) rfl ⟨rfl, trivial⟩ trivial ?_
          refine G.endOps ?_
          refine ifS hF (fun hc26 hF => ?_) (fun hc26 hF => ?_)
          · refine G.cond rfl (fun _ => ?_) (fun hx => Bool.noConfusion (hc26.symm.trans hx))
            refine G.region ?_
            refine G.op1 (op_fieldP (off' := 9) Tryd.underlying30 rfl ti28 (by decide) rfl (Ev.t 5 (.ptr 1005 0)) rfl) rfl ⟨rfl, trivial⟩ trivial ?_
            refine G.op1 (op_loadAP (ds := [.sl 2 (List.map encApi_Range x13.Row.Ranges), .sl 1 (List.map encI_i64 x13.Row.Owners), .sl 1 (List.map encI_i64 x13.Row.Parents)]) Tryd.underlying28 rfl ti28 rfl (Ev.t 66 (.ptr 1005 9)) rfl) rfl ⟨rfl, trivial⟩ ⟨rfl, trivial⟩ ?_
            obtain ⟨r27, hr27, hF⟩ := bindS hF
            refine G.op1 (op_callQ (sv := .one (bS r27)) cf35 (ct_wire_RowBytes x13.Row r27 hr27) rfl rfl (EvQL.cons (EvQ.g (Ev.t 67 (.g (.agg [.sl 2 (List.map encApi_Range x13.Row.Ranges), .sl 1 (List.map encI_i64 x13.Row.Owners), .sl 1 (List.map encI_i64 x13.Row.Parents)])))) EvQL.nil) rfl) rfl ⟨rfl, trivial⟩ trivial ?_
            refine G.op1 (op_assign (Ev.t 68 (bS r27)) rfl) rfl ⟨rfl, trivial⟩ trivial ?_
            refine G.endOps ?_
            refine G.region ?_
            refine G.op1 (op_move (Ev.t 10 (bS r27)) rfl) rfl ⟨rfl, trivial⟩ trivial ?_
            obtain ⟨r28, hr28, hF⟩ := bindS hF
            refine G.op1 (op_callQ (sv := .one (bS r28)) cf60 (ct_vary_Text r27 r28 hr28) rfl rfl (EvQL.cons (EvQ.g (Ev.t 69 (bS r27))) EvQL.nil) rfl) rfl ⟨rfl, trivial⟩ trivial ?_
            obtain ⟨r29, hr29, hF⟩ := bindS hF
            refine G.opM (op_callM (k := 1003) (h := .bld 54 5 y24) (h' := .bld 54 5 r29) 3003 (sv := .tup [bI .i64 (r28.size : Int), .g (.d (.v .nilIface))]) cf19 (ct_bld_WriteString y24 r28 r29 hr29) rfl rfl (EvM.pt (Ev.t 3 (.ptr 1003 0)) (EvM.g (Ev.t 70 (bS r28)) EvM.nil)) rfl) rfl ⟨rfl, rfl, trivial⟩ ⟨rfl, rfl, trivial⟩ ?_
            refine G.endOps ?_
            refine G.endBlock ?_
            exact G.arr (J12 r29 hF) ⟨rfl, rfl, rfl, rfl, trivial⟩ ⟨rfl, rfl, trivial⟩ rfl
          · refine G.cond rfl (fun hx => Bool.noConfusion (hc26.symm.trans hx)) (fun _ => ?_)
            refine G.skip ?_
            refine G.region ?_
            refine G.op1 (op_move (Ev.t 10 (bS ByteArray.empty)) rfl) rfl ⟨rfl, trivial⟩ trivial ?_
            obtain ⟨r30, hr30, hF⟩ := bindS hF
            refine G.op1 (op_callQ (sv := .one (bS r30)) cf60 (ct_vary_Text ByteArray.empty r30 hr30) rfl rfl (EvQL.cons (EvQ.g (Ev.t 69 (bS ByteArray.empty))) EvQL.nil) rfl) rfl ⟨rfl, trivial⟩ trivial ?_
            obtain ⟨r31, hr31, hF⟩ := bindS hF
            refine G.opM (op_callM (k := 1003) (h := .bld 54 5 y24) (h' := .bld 54 5 r31) 3003 (sv := .tup [bI .i64 (r30.size : Int), .g (.d (.v .nilIface))]) cf19 (ct_bld_WriteString y24 r30 r31 hr31) rfl rfl (EvM.pt (Ev.t 3 (.ptr 1003 0)) (EvM.g (Ev.t 70 (bS r30)) EvM.nil)) rfl) rfl ⟨rfl, rfl, trivial⟩ ⟨rfl, rfl, trivial⟩ ?_
            refine G.endOps ?_
            refine G.endBlock ?_
            exact G.arr (J12 r31 hF) ⟨rfl, rfl, rfl, rfl, trivial⟩ ⟨rfl, rfl, trivial⟩ rfl
        refine G.block ?_
        refine G.keep (sl' := [(3, .one (.ptr 1003 0)), (5, .one (.ptr 1005 0)), (16, .one (.g (.d (.sl 12 (List.map encApi_Op l_0))))), (17, .one (bI .i64 (l_0.length : Int))), (18, .one (bI .i64 v6.1)), (52, .one (.g (.d (.sl 1 (List.map encS x13.Keys))))), (53, .one (bI .i64 (x13.Keys.length : Int))), (54, .one (bI .i64 0))]) (hp' := [(1003, some (.bld 54 5 3003 r23)), (1005, some (.blk 30 [bI .i64 x13.Kind, bI .i64 x13.Client, bI .i64 x13.Site, bI .i64 x13.To, bI .i64 x13.At, bI .i64 x13.How, bS x13.Key, bS x13.Value, .g (.d (.sl 1 (List.map encS x13.Keys))), .g (.d (.sl 2 (List.map encApi_Range x13.Row.Ranges))), .g (.d (.sl 1 (List.map encI_i64 x13.Row.Owners))), .g (.d (.sl 1 (List.map encI_i64 x13.Row.Parents)))])), (3003, some (.hid true 1003))]) ⟨rfl, rfl, rfl, rfl, rfl, rfl, rfl, rfl, trivial⟩ ⟨rfl, rfl, rfl, trivial⟩ rfl ?_
        refine G.loopF (fun (v33 : Int × ByteArray) => ⟨[(3, .one (.ptr 1003 0)), (5, .one (.ptr 1005 0)), (16, .one (.g (.d (.sl 12 (List.map encApi_Op l_0))))), (17, .one (bI .i64 (l_0.length : Int))), (18, .one (bI .i64 v6.1)), (52, .one (.g (.d (.sl 1 (List.map encS x13.Keys))))), (53, .one (bI .i64 (x13.Keys.length : Int))), (54, .one (bI .i64 v33.1))], [(1003, some (.bld 54 5 3003 v33.2)), (1005, some (.blk 30 [bI .i64 x13.Kind, bI .i64 x13.Client, bI .i64 x13.Site, bI .i64 x13.To, bI .i64 x13.At, bI .i64 x13.How, bS x13.Key, bS x13.Value, .g (.d (.sl 1 (List.map encS x13.Keys))), .g (.d (.sl 2 (List.map encApi_Range x13.Row.Ranges))), .g (.d (.sl 1 (List.map encI_i64 x13.Row.Owners))), .g (.d (.sl 1 (List.map encI_i64 x13.Row.Parents)))])), (3003, some (.hid true 1003))]⟩) hF rfl (fun K36 again35 v33 J34 hF => ?_)
        unfold script_Bytes_l6 at hF
        refine G.seq ?_
        refine G.region ?_
        refine G.op1 (op_lss (Ev.t 54 (bI .i64 v33.1)) (Ev.t 53 (bI .i64 (x13.Keys.length : Int))) rfl) rfl ⟨rfl, rfl, trivial⟩ trivial ?_
        refine G.endOps ?_
        refine G.seq ?_
        refine ifS hF (fun hc37 hF => ?_) (fun hc37 hF => ?_)
        · refine G.cond rfl (fun _ => ?_) (fun hx => Bool.noConfusion (hc37.symm.trans hx))
          refine G.skip ?_
          refine G.seq ?_
          refine G.block ?_
          refine G.seq ?_
          refine G.region ?_
          obtain ⟨x38, hx38, hF⟩ := bindS hF
          refine G.op1 (op_index (cs := [.v (.string x38)]) Tryd.underlying24 ti9 (idx_ok hx38).1 (idx_get hx38 encS) (Ev.t 52 (.g (.d (.sl 1 (List.map encS x13.Keys))))) (Ev.t 54 (bI .i64 v33.1)) rfl) rfl ⟨rfl, rfl, trivial⟩ trivial ?_
          refine G.op1 (op_load1E (c := .v (.string x38)) Tryd.underlying9 rfl rfl (Ev.t 56 (.ep [.v (.string x38)])) rfl) rfl ⟨rfl, trivial⟩ trivial ?_
          refine G.op1 (op_assign (Ev.t 57 (bS x38)) rfl) rfl ⟨rfl, trivial⟩ trivial ?_
          refine G.endOps ?_
          refine G.region ?_
          refine G.op1 (op_move (Ev.t 9 (bS x38)) rfl) rfl ⟨rfl, trivial⟩ trivial ?_
          obtain ⟨r39, hr39, hF⟩ := bindS hF
          refine G.op1 (op_callQ (sv := .one (bS r39)) cf60 (ct_vary_Text x38 r39 hr39) rfl rfl (EvQL.cons (EvQ.g (Ev.t 58 (bS x38))) EvQL.nil) rfl) rfl ⟨rfl, trivial⟩ trivial ?_
          obtain ⟨r40, hr40, hF⟩ := bindS hF
          refine G.opM (op_callM (k := 1003) (h := .bld 54 5 v33.2) (h' := .bld 54 5 r40) 3003 (sv := .tup [bI .i64 (r39.size : Int), .g (.d (.v .nilIface))]) cf19 (ct_bld_WriteString v33.2 r39 r40 hr40) rfl rfl (EvM.pt (Ev.t 3 (.ptr 1003 0)) (EvM.g (Ev.t 59 (bS r39)) EvM.nil)) rfl) rfl ⟨rfl, rfl, trivial⟩ ⟨rfl, rfl, trivial⟩ ?_
          refine G.endOps ?_
          refine G.endBlock ?_
          refine G.region ?_
          refine G.op1 (op_add (Ev.t 54 (bI .i64 v33.1)) (Ev.c _ rfl) rfl) rfl ⟨rfl, trivial⟩ trivial ?_
          refine G.op1 (op_move (Ev.t 61 (bI .i64 (IntKind.wrap .i64 (v33.1 + 1)))) rfl) rfl ⟨rfl, trivial⟩ trivial ?_
          refine G.endOps ?_
          exact G.arr (J34 (IntKind.wrap .i64 (v33.1 + 1), r40) hF) ⟨rfl, rfl, rfl, rfl, rfl, rfl, rfl, rfl, trivial⟩ ⟨rfl, rfl, rfl, trivial⟩ rfl
        · refine G.cond rfl (fun hx => Bool.noConfusion (hc37.symm.trans hx)) (fun _ => ?_)
          refine G.exit ?_
          refine GX.c ?_
          refine GX.q ?_
          refine GX.bYes ?_
          exact G.arr (J32 v33.2 hF) ⟨rfl, rfl, rfl, rfl, rfl, trivial⟩ ⟨rfl, rfl, rfl, trivial⟩ rfl
      refine G.block ?_
      refine G.keep (sl' := [(3, .one (.ptr 1003 0)), (5, .one (.ptr 1005 0)), (16, .one (.g (.d (.sl 12 (List.map encApi_Op l_0))))), (17, .one (bI .i64 (l_0.length : Int))), (18, .one (bI .i64 v6.1)), (26, .one (.g (.d (.sl 1 (List.map encI_i64 r16))))), (27, .one (bI .i64 (r16.length : Int))), (28, .one (bI .i64 0))]) (hp' := [(1003, some (.bld 54 5 3003 v6.2)), (1005, some (.blk 30 [bI .i64 x13.Kind, bI .i64 x13.Client, bI .i64 x13.Site, bI .i64 x13.To, bI .i64 x13.At, bI .i64 x13.How, bS x13.Key, bS x13.Value, .g (.d (.sl 1 (List.map encS x13.Keys))), .g (.d (.sl 2 (List.map encApi_Range x13.Row.Ranges))), .g (.d (.sl 1 (List.map encI_i64 x13.Row.Owners))), .g (.d (.sl 1 (List.map encI_i64 x13.Row.Parents)))])), (3003, some (.hid true 1003))]) ⟨rfl, rfl, rfl, rfl, rfl, rfl, rfl, rfl, trivial⟩ ⟨rfl, rfl, rfl, trivial⟩ rfl ?_
      refine G.loopF (fun (v42 : Int × ByteArray) => ⟨[(3, .one (.ptr 1003 0)), (5, .one (.ptr 1005 0)), (16, .one (.g (.d (.sl 12 (List.map encApi_Op l_0))))), (17, .one (bI .i64 (l_0.length : Int))), (18, .one (bI .i64 v6.1)), (26, .one (.g (.d (.sl 1 (List.map encI_i64 r16))))), (27, .one (bI .i64 (r16.length : Int))), (28, .one (bI .i64 v42.1))], [(1003, some (.bld 54 5 3003 v42.2)), (1005, some (.blk 30 [bI .i64 x13.Kind, bI .i64 x13.Client, bI .i64 x13.Site, bI .i64 x13.To, bI .i64 x13.At, bI .i64 x13.How, bS x13.Key, bS x13.Value, .g (.d (.sl 1 (List.map encS x13.Keys))), .g (.d (.sl 2 (List.map encApi_Range x13.Row.Ranges))), .g (.d (.sl 1 (List.map encI_i64 x13.Row.Owners))), .g (.d (.sl 1 (List.map encI_i64 x13.Row.Parents)))])), (3003, some (.hid true 1003))]⟩) hF rfl (fun K45 again44 v42 J43 hF => ?_)
      unfold script_Bytes_l7 at hF
      refine G.seq ?_
      refine G.region ?_
      refine G.op1 (op_lss (Ev.t 28 (bI .i64 v42.1)) (Ev.t 27 (bI .i64 (r16.length : Int))) rfl) rfl ⟨rfl, rfl, trivial⟩ trivial ?_
      refine G.endOps ?_
      refine G.seq ?_
      refine ifS hF (fun hc46 hF => ?_) (fun hc46 hF => ?_)
      · refine G.cond rfl (fun _ => ?_) (fun hx => Bool.noConfusion (hc46.symm.trans hx))
        refine G.skip ?_
        refine G.seq ?_
        refine G.block ?_
        refine G.seq ?_
        refine G.region ?_
        obtain ⟨x47, hx47, hF⟩ := bindS hF
        refine G.op1 (op_index (cs := [.v (.int .i64 x47)]) Tryd.underlying26 ti3 (idx_ok hx47).1 (idx_get hx47 encI_i64) (Ev.t 26 (.g (.d (.sl 1 (List.map encI_i64 r16))))) (Ev.t 28 (bI .i64 v42.1)) rfl) rfl ⟨rfl, rfl, trivial⟩ trivial ?_
        refine G.op1 (op_load1E (c := .v (.int .i64 x47)) Tryd.underlying3 rfl rfl (Ev.t 30 (.ep [.v (.int .i64 x47)])) rfl) rfl ⟨rfl, trivial⟩ trivial ?_
        refine G.op1 (op_assign (Ev.t 31 (bI .i64 x47)) rfl) rfl ⟨rfl, trivial⟩ trivial ?_
        refine G.endOps ?_
        refine G.region ?_
        refine G.op1 (op_move (Ev.t 7 (bI .i64 x47)) rfl) rfl ⟨rfl, trivial⟩ trivial ?_
        refine G.op1 (op_convI Tryd.underlying3 Tryd.underlying97 (Ev.t 32 (bI .i64 x47)) rfl) rfl ⟨rfl, trivial⟩ trivial ?_
        obtain ⟨r48, hr48, hF⟩ := bindS hF
        refine G.op1 (op_callQ (sv := .one (bS r48)) cf59 (ct_vary_Number (IntKind.wrap .u64 x47) r48 hr48) rfl rfl (EvQL.cons (EvQ.g (Ev.t 33 (bI .u64 (IntKind.wrap .u64 x47)))) EvQL.nil) rfl) rfl ⟨rfl, trivial⟩ trivial ?_
        obtain ⟨r49, hr49, hF⟩ := bindS hF
        refine G.opM (op_callM (k := 1003) (h := .bld 54 5 v42.2) (h' := .bld 54 5 r49) 3003 (sv := .tup [bI .i64 (r48.size : Int), .g (.d (.v .nilIface))]) cf19 (ct_bld_WriteString v42.2 r48 r49 hr49) rfl rfl (EvM.pt (Ev.t 3 (.ptr 1003 0)) (EvM.g (Ev.t 34 (bS r48)) EvM.nil)) rfl) rfl ⟨rfl, rfl, trivial⟩ ⟨rfl, rfl, trivial⟩ ?_
        refine G.endOps ?_
        refine G.endBlock ?_
        refine G.region ?_
        refine G.op1 (op_add (Ev.t 28 (bI .i64 v42.1)) (Ev.c _ rfl) rfl) rfl ⟨rfl, trivial⟩ trivial ?_
        refine G.op1 (op_move (Ev.t 36 (bI .i64 (IntKind.wrap .i64 (v42.1 + 1)))) rfl) rfl ⟨rfl, trivial⟩ trivial ?_
        refine G.endOps ?_
        exact G.arr (J43 (IntKind.wrap .i64 (v42.1 + 1), r49) hF) ⟨rfl, rfl, rfl, rfl, rfl, rfl, rfl, rfl, trivial⟩ ⟨rfl, rfl, rfl, trivial⟩ rfl
      · refine G.cond rfl (fun hx => Bool.noConfusion (hc46.symm.trans hx)) (fun _ => ?_)
        refine G.exit ?_
        refine GX.c ?_
        refine GX.q ?_
        refine GX.bYes ?_
        exact G.arr (J41 v42.2 hF) ⟨rfl, rfl, rfl, rfl, rfl, trivial⟩ ⟨rfl, rfl, rfl, trivial⟩ rfl
  · refine G.cond rfl (fun hx => Bool.noConfusion (hc10.symm.trans hx)) (fun _ => ?_)
    refine G.exit ?_
    refine GX.c ?_
    refine GX.q ?_
    refine GX.bYes ?_
    exact G.arr (J5 v6.2 hF) ⟨rfl, trivial⟩ ⟨rfl, rfl, trivial⟩ rfl


set_option maxRecDepth 20000 in
set_option maxHeartbeats 2000000 in
theorem ct_slices_Equal_string (s1_0 : (List ByteArray)) (s2_1 : (List ByteArray)) (r : Bool) (hF : slices_Equal_string s1_0 s2_1 = some r) : Ct Tryd.prog 41 [.g (.d (.sl 1 (List.map encS s1_0))), .g (.d (.sl 1 (List.map encS s2_1)))] (.one (.d (.v (.bool r)))) := by
  unfold slices_Equal_string at hF
  refine Ct.intro Tryd.func41 rfl Tryd.ntmps41 rfl rfl fun M w => ?_
  refine G.seq ?_
  refine G.region ?_
  refine G.op1 (op_assign (Ev.c _ rfl) rfl) rfl trivial trivial ?_
  refine G.endOps ?_
  refine G.seq ?_
  refine G.seq ?_
  refine G.region ?_
  refine G.op1 (op_move (Ev.t 0 (.g (.d (.sl 1 (List.map encS s1_0))))) rfl) rfl ⟨rfl, trivial⟩ trivial ?_
  refine G.op1 (OpL.cast (op_lenD Tryd.underlying24 (Ev.t 6 (.g (.d (.sl 1 (List.map encS s1_0))))) rfl) (by rw [List.length_map])) rfl ⟨rfl, trivial⟩ trivial ?_
  refine G.op1 (op_move (Ev.t 1 (.g (.d (.sl 1 (List.map encS s2_1))))) rfl) rfl ⟨rfl, trivial⟩ trivial ?_
  refine G.op1 (OpL.cast (op_lenD Tryd.underlying24 (Ev.t 8 (.g (.d (.sl 1 (List.map encS s2_1))))) rfl) (by rw [List.length_map])) rfl ⟨rfl, trivial⟩ trivial ?_
  refine G.op1 (op_neI (Ev.t 7 (bI .i64 (s1_0.length : Int))) (Ev.t 9 (bI .i64 (s2_1.length : Int))) rfl) rfl ⟨rfl, rfl, trivial⟩ trivial ?_
  refine G.endOps ?_
  refine ifS hF (fun hc1 hF => ?_) (fun hc1 hF => ?_)
  · refine G.cond rfl (fun _ => ?_) (fun hx => Bool.noConfusion (hc1.symm.trans hx))
    refine G.seq ?_
    refine G.region ?_
    refine G.op1 (op_assign (Ev.c _ rfl) rfl) rfl trivial trivial ?_
    refine G.endOps ?_
    cases hF
    exact G.ret1 Tryd.results41 (RVar.tmp 4 _) ⟨rfl, trivial⟩ trivial
  · refine G.cond rfl (fun hx => Bool.noConfusion (hc1.symm.trans hx)) (fun _ => ?_)
    refine G.skip ?_
    refine G.seq ?_
    refine G.seq ?_
    refine G.region ?_
    refine G.op1 (op_move (Ev.t 0 (.g (.d (.sl 1 (List.map encS s1_0))))) rfl) rfl ⟨rfl, trivial⟩ trivial ?_
    refine G.op1 (OpL.cast (op_lenD Tryd.underlying24 (Ev.t 11 (.g (.d (.sl 1 (List.map encS s1_0))))) rfl) (by rw [List.length_map])) rfl ⟨rfl, trivial⟩ trivial ?_
    refine G.op1 (op_move (Ev.c _ rfl) rfl) rfl trivial trivial ?_
    refine G.endOps ?_
    refine G.joinC (T := Unit) (fun y2 => ⟨[], []⟩) (fun y2 => slices_Equal_string_k1 y2 = some r) (fun y2 hF => ?_) (fun J3 => ?_)
    · unfold slices_Equal_string_k1 at hF
      refine G.seq ?_
      refine G.region ?_
      refine G.op1 (op_assign (Ev.c _ rfl) rfl) rfl trivial trivial ?_
      refine G.endOps ?_
      cases hF
      exact G.ret1 Tryd.results41 (RVar.tmp 4 _) ⟨rfl, trivial⟩ trivial
    refine G.block ?_
    refine G.keep (sl' := [(0, .one (.g (.d (.sl 1 (List.map encS s1_0))))), (1, .one (.g (.d (.sl 1 (List.map encS s2_1))))), (12, .one (bI .i64 (s1_0.length : Int))), (13, .one (bI .i64 0))]) (hp' := []) ⟨rfl, rfl, rfl, rfl, trivial⟩ trivial rfl ?_
    refine G.loopF (fun (v4 : Int) => ⟨[(0, .one (.g (.d (.sl 1 (List.map encS s1_0))))), (1, .one (.g (.d (.sl 1 (List.map encS s2_1))))), (12, .one (bI .i64 (s1_0.length : Int))), (13, .one (bI .i64 v4))], []⟩) hF rfl (fun K7 again6 v4 J5 hF => ?_)
    unfold slices_Equal_string_l2 at hF
    refine G.seq ?_
    refine G.region ?_
    refine G.op1 (op_lss (Ev.t 13 (bI .i64 v4)) (Ev.t 12 (bI .i64 (s1_0.length : Int))) rfl) rfl ⟨rfl, rfl, trivial⟩ trivial ?_
    refine G.endOps ?_
    refine G.seq ?_
    refine ifS hF (fun hc8 hF => ?_) (fun hc8 hF => ?_)
    · refine G.cond rfl (fun _ => ?_) (fun hx => Bool.noConfusion (hc8.symm.trans hx))
      refine G.skip ?_
      refine G.seq ?_
      refine G.block ?_
      refine G.seq ?_
      refine G.region ?_
      refine G.op1 (op_move (Ev.t 13 (bI .i64 v4)) rfl) rfl ⟨rfl, trivial⟩ trivial ?_
      refine G.op1 (op_assign (Ev.t 15 (bI .i64 v4)) rfl) rfl ⟨rfl, trivial⟩ trivial ?_
      refine G.endOps ?_
      refine G.seq ?_
      obtain ⟨x9, hx9, hF⟩ := bindS hF
      obtain ⟨x10, hx10, hF⟩ := bindS hF
      refine G.drawnI (deps := [[], [], [0, 1], [0, 1, 2], [], [], [4, 5], [4, 5, 6], [0, 1, 2, 3, 4, 5, 6, 7]]) (sl' := [(0, .one (.g (.d (.sl 1 (List.map encS s1_0))))), (1, .one (.g (.d (.sl 1 (List.map encS s2_1))))), (12, .one (bI .i64 (s1_0.length : Int))), (13, .one (bI .i64 v4)), (24, .one (bB (!seq x9 x10)))]) (hp' := []) (.c (oP rfl rfl (op_move (Ev.t 0 (.g (.d (.sl 1 (List.map encS s1_0))))) rfl)) (.c (oP rfl rfl (op_move (Ev.t 5 (bI .i64 v4)) rfl)) (.c (oP rfl rfl (op_index (cs := [.v (.string x9)]) Tryd.underlying24 ti9 (idx_ok hx9).1 (idx_get hx9 encS) (Ev.t 16 (.g (.d (.sl 1 (List.map encS s1_0))))) (Ev.t 17 (bI .i64 v4)) rfl)) (.c (oP rfl rfl (op_load1E (c := .v (.string x9)) Tryd.underlying9 rfl rfl (Ev.t 18 (.ep [.v (.string x9)])) rfl)) (.c (oP rfl rfl (op_move (Ev.t 1 (.g (.d (.sl 1 (List.map encS s2_1))))) rfl)) (.c (oP rfl rfl (op_move (Ev.t 5 (bI .i64 v4)) rfl)) (.c (oP rfl rfl (op_index (cs := [.v (.string x10)]) Tryd.underlying24 ti9 (idx_ok hx10).1 (idx_get hx10 encS) (Ev.t 20 (.g (.d (.sl 1 (List.map encS s2_1))))) (Ev.t 21 (bI .i64 v4)) rfl)) (.c (oP rfl rfl (op_load1E (c := .v (.string x10)) Tryd.underlying9 rfl rfl (Ev.t 22 (.ep [.v (.string x10)])) rfl)) (.c (oP rfl rfl (op_neS (Ev.t 19 (bS x9)) (Ev.t 23 (bS x10)) rfl)) .nil))))))))) follows rfl rfl rfl ⟨⟨rfl, trivial⟩, trivial, ⟨rfl, trivial⟩, trivial, ⟨rfl, rfl, trivial⟩, trivial, ⟨rfl, trivial⟩, trivial, ⟨rfl, trivial⟩, trivial, ⟨rfl, trivial⟩, trivial, ⟨rfl, rfl, trivial⟩, trivial, ⟨rfl, trivial⟩, trivial, ⟨rfl, rfl, trivial⟩, trivial, trivial⟩ ⟨rfl, rfl, rfl, rfl, rfl, trivial⟩ trivial rfl ?_
      refine ifS hF (fun hc11 hF => ?_) (fun hc11 hF => ?_)
      · refine G.cond rfl (fun _ => ?_) (fun hx => Bool.noConfusion (hc11.symm.trans hx))
        refine G.seq ?_
        refine G.region ?_
        refine G.op1 (op_assign (Ev.c _ rfl) rfl) rfl trivial trivial ?_
        refine G.endOps ?_
        cases hF
        exact G.ret1 Tryd.results41 (RVar.tmp 4 _) ⟨rfl, trivial⟩ trivial
      · refine G.cond rfl (fun hx => Bool.noConfusion (hc11.symm.trans hx)) (fun _ => ?_)
        refine G.skip ?_
        refine G.endBlock ?_
        refine G.region ?_
        refine G.op1 (op_add (Ev.t 13 (bI .i64 v4)) (Ev.c _ rfl) rfl) rfl ⟨rfl, trivial⟩ trivial ?_
        refine G.op1 (op_move (Ev.t 25 (bI .i64 (IntKind.wrap .i64 (v4 + 1)))) rfl) rfl ⟨rfl, trivial⟩ trivial ?_
        refine G.endOps ?_
        exact G.arr (J5 (IntKind.wrap .i64 (v4 + 1)) hF) ⟨rfl, rfl, rfl, rfl, trivial⟩ trivial rfl
    · refine G.cond rfl (fun hx => Bool.noConfusion (hc8.symm.trans hx)) (fun _ => ?_)
      refine G.exit ?_
      refine GX.c ?_
      refine GX.q ?_
      refine GX.bYes ?_
      exact G.arr (J3 () hF) trivial trivial rfl


set_option maxRecDepth 20000 in
set_option maxHeartbeats 2000000 in
theorem ct_words_same (a_0 : Api_Op) (b_1 : Api_Op) (r : Bool) (hF : words_same a_0 b_1 = some r) : Ct Tryd.prog 18 [.g (.agg (encApi_Op a_0)), .g (.agg (encApi_Op b_1))] (.one (.d (.v (.bool r)))) := by
  unfold words_same at hF
  refine Ct.intro Tryd.func18 rfl Tryd.ntmps18 rfl rfl fun M w => ?_
  refine G.seq ?_
  refine G.region ?_
  refine G.op2 (op_boxA (k := 1002) (Ev.t 0 (.g (.agg [.v (.int .i64 a_0.Kind), .v (.int .i64 a_0.Client), .v (.int .i64 a_0.Site), .v (.int .i64 a_0.To), .v (.int .i64 a_0.At), .v (.int .i64 a_0.How), .v (.string a_0.Key), .v (.string a_0.Value), .sl 1 (List.map encS a_0.Keys), .sl 2 (List.map encApi_Range a_0.Row.Ranges), .sl 1 (List.map encI_i64 a_0.Row.Owners), .sl 1 (List.map encI_i64 a_0.Row.Parents)]))) rfl) rfl ⟨rfl, trivial⟩ ⟨rfl, trivial⟩ ?_
  refine G.op2 (op_boxA (k := 1003) (Ev.t 1 (.g (.agg [.v (.int .i64 b_1.Kind), .v (.int .i64 b_1.Client), .v (.int .i64 b_1.Site), .v (.int .i64 b_1.To), .v (.int .i64 b_1.At), .v (.int .i64 b_1.How), .v (.string b_1.Key), .v (.string b_1.Value), .sl 1 (List.map encS b_1.Keys), .sl 2 (List.map encApi_Range b_1.Row.Ranges), .sl 1 (List.map encI_i64 b_1.Row.Owners), .sl 1 (List.map encI_i64 b_1.Row.Parents)]))) rfl) rfl ⟨rfl, trivial⟩ ⟨rfl, trivial⟩ ?_
  refine G.op1 (op_assign (Ev.c _ rfl) rfl) rfl trivial trivial ?_
  refine G.endOps ?_
  refine G.seq ?_
  obtain ⟨r1, hr1, hF⟩ := bindS hF
  obtain ⟨r2, hr2, hF⟩ := bindS hF
  refine ifS hF (fun hc3 hF => ?_) (fun hc3 hF => ?_)
  · obtain ⟨r4, hr4, hF⟩ := bindS hF
    refine G.drawnI (deps := [[], [0], [0, 1], [], [3], [0, 1, 2, 3, 4], [0, 1, 2, 3, 4, 5], [0, 1, 2, 3, 4, 5, 6], [0, 1, 2, 3, 4, 5, 6, 7], [0, 1, 2, 3, 4, 5, 6, 7, 8], [0, 1, 2, 3, 4, 5, 6, 7], [0, 1, 2, 3, 4, 5, 6, 7, 10], [0, 1, 2, 3, 4, 5, 6, 7, 8, 9, 10, 11], [0, 1, 2, 3, 4, 5, 6, 7, 8, 9, 10, 11, 12], [0, 1, 2, 3, 4, 5, 6, 7, 8, 9, 10, 11, 12, 13]]) (sl' := [(4, .one (bB r4))]) (hp' := []) (.c (oP rfl rfl (op_loadAP (ds := [.v (.int .i64 a_0.Kind), .v (.int .i64 a_0.Client), .v (.int .i64 a_0.Site), .v (.int .i64 a_0.To), .v (.int .i64 a_0.At), .v (.int .i64 a_0.How), .v (.string a_0.Key), .v (.string a_0.Value), .sl 1 (List.map encS a_0.Keys), .sl 2 (List.map encApi_Range a_0.Row.Ranges), .sl 1 (List.map encI_i64 a_0.Row.Owners), .sl 1 (List.map encI_i64 a_0.Row.Parents)]) Tryd.underlying30 rfl ti30 rfl (Ev.t 2 (.ptr 1002 0)) rfl)) (.c (oP rfl rfl (op_buildSlice (es := List.map encApi_Op [a_0]) Tryd.underlying22 ti30 rfl rfl (EvP.cons (Ev.t 5 (.g (.agg [.v (.int .i64 a_0.Kind), .v (.int .i64 a_0.Client), .v (.int .i64 a_0.Site), .v (.int .i64 a_0.To), .v (.int .i64 a_0.At), .v (.int .i64 a_0.How), .v (.string a_0.Key), .v (.string a_0.Value), .sl 1 (List.map encS a_0.Keys), .sl 2 (List.map encApi_Range a_0.Row.Ranges), .sl 1 (List.map encI_i64 a_0.Row.Owners), .sl 1 (List.map encI_i64 a_0.Row.Parents)]))) EvP.nil) rfl rfl (by simp [encApi_Op]) rfl)) (.c (oP rfl rfl (op_callQ (sv := .one (bS r1)) cf40 (ct_script_Bytes ([a_0]) r1 hr1) rfl rfl (EvQL.cons (EvQ.g (Ev.t 6 (.g (.d (.sl 12 (List.map encApi_Op ([a_0]))))))) EvQL.nil) rfl)) (.c (oP rfl rfl (op_loadAP (ds := [.v (.int .i64 b_1.Kind), .v (.int .i64 b_1.Client), .v (.int .i64 b_1.Site), .v (.int .i64 b_1.To), .v (.int .i64 b_1.At), .v (.int .i64 b_1.How), .v (.string b_1.Key), .v (.string b_1.Value), .sl 1 (List.map encS b_1.Keys), .sl 2 (List.map encApi_Range b_1.Row.Ranges), .sl 1 (List.map encI_i64 b_1.Row.Owners), .sl 1 (List.map encI_i64 b_1.Row.Parents)]) Tryd.underlying30 rfl ti30 rfl (Ev.t 3 (.ptr 1003 0)) rfl)) (.c (oP rfl rfl (op_buildSlice (es := List.map encApi_Op [b_1]) Tryd.underlying22 ti30 rfl rfl (EvP.cons (Ev.t 8 (.g (.agg [.v (.int .i64 b_1.Kind), .v (.int .i64 b_1.Client), .v (.int .i64 b_1.Site), .v (.int .i64 b_1.To), .v (.int .i64 b_1.At), .v (.int .i64 b_1.How), .v (.string b_1.Key), .v (.string b_1.Value), .sl 1 (List.map encS b_1.Keys), .sl 2 (List.map encApi_Range b_1.Row.Ranges), .sl 1 (List.map encI_i64 b_1.Row.Owners), .sl 1 (List.map encI_i64 b_1.Row.Parents)]))) EvP.nil) rfl rfl (by simp [encApi_Op]) rfl)) (.c (oP rfl rfl (op_callQ (sv := .one (bS r2)) cf40 (ct_script_Bytes ([b_1]) r2 hr2) rfl rfl (EvQL.cons (EvQ.g (Ev.t 9 (.g (.d (.sl 12 (List.map encApi_Op ([b_1]))))))) EvQL.nil) rfl)) (.c (oP rfl rfl (OpL.cast (op_eqS (Ev.t 7 (bS r1)) (Ev.t 10 (bS r2)) rfl) (congrArg (fun b => bB b) hc3))) (.c (oP rfl rfl (op_move (Ev.t 11 (bB true)) rfl)) (.c (oY rfl rfl rfl (op_fieldP (off' := 8) Tryd.underlying30 rfl ti24 (by decide) rfl (Ev.t 2 (.ptr 1002 0)) rfl)) (.c (oY rfl rfl rfl (op_load1P (c := .g (.d (.sl 1 (List.map encS a_0.Keys)))) Tryd.underlying24 rfl rfl (Ev.t 13 (.ptr 1002 8)) rfl)) (.c (oY rfl rfl rfl (op_fieldP (off' := 8) Tryd.underlying30 rfl ti24 (by decide) rfl (Ev.t 3 (.ptr 1003 0)) rfl)) (.c (oY rfl rfl rfl (op_load1P (c := .g (.d (.sl 1 (List.map encS b_1.Keys)))) Tryd.underlying24 rfl rfl (Ev.t 15 (.ptr 1003 8)) rfl)) (.c (oY rfl rfl rfl (op_callQ (sv := .one (bB r4)) cf41 (ct_slices_Equal_string a_0.Keys b_1.Keys r4 hr4) rfl rfl (EvQL.cons (EvQ.g (Ev.t 14 (.g (.d (.sl 1 (List.map encS a_0.Keys)))))) (EvQL.cons (EvQ.g (Ev.t 16 (.g (.d (.sl 1 (List.map encS b_1.Keys)))))) EvQL.nil)) rfl)) (.c (oP rfl rfl (op_pickT (Ev.t 12 (bB true)) (Ev.t 17 (bB r4)) rfl)) (.c (oP rfl rfl (op_assign (Ev.t 18 (bB r4)) rfl)) .nil))))))))))))))) follows rfl rfl rfl ⟨⟨rfl, trivial⟩, ⟨⟨rfl, rfl⟩, trivial⟩, ⟨rfl, trivial⟩, trivial, ⟨rfl, trivial⟩, trivial, ⟨rfl, trivial⟩, ⟨⟨rfl, rfl⟩, trivial⟩, ⟨rfl, trivial⟩, trivial, ⟨rfl, trivial⟩, trivial, ⟨rfl, rfl, trivial⟩, trivial, ⟨rfl, trivial⟩, trivial, ⟨rfl, rfl, trivial⟩, trivial, ⟨rfl, rfl, trivial⟩, ⟨⟨rfl, rfl⟩, trivial⟩, ⟨rfl, rfl, trivial⟩, trivial, ⟨rfl, rfl, trivial⟩, ⟨⟨rfl, rfl⟩, trivial⟩, ⟨rfl, rfl, rfl, trivial⟩, trivial, ⟨rfl, rfl, trivial⟩, trivial, ⟨rfl, trivial⟩, trivial, trivial⟩ ⟨rfl, trivial⟩ trivial rfl ?_
    cases hF
    exact G.ret1 Tryd.results18 (RVar.tmp 4 _) ⟨rfl, trivial⟩ trivial
  · refine G.drawnI (deps := [[], [0], [0, 1], [], [3], [0, 1, 2, 3, 4], [0, 1, 2, 3, 4, 5], [0, 1, 2, 3, 4, 5, 6], [0, 1, 2, 3, 4, 5, 6, 7], [0, 1, 2, 3, 4, 5, 6, 7, 8], [0, 1, 2, 3, 4, 5, 6, 7], [0, 1, 2, 3, 4, 5, 6, 7, 10], [0, 1, 2, 3, 4, 5, 6, 7, 8, 9, 10, 11], [0, 1, 2, 3, 4, 5, 6, 7, 8, 9, 10, 11, 12], [0, 1, 2, 3, 4, 5, 6, 7, 8, 9, 10, 11, 12, 13]]) (sl' := [(4, .one (bB false))]) (hp' := []) (.c (oP rfl rfl (op_loadAP (ds := [.v (.int .i64 a_0.Kind), .v (.int .i64 a_0.Client), .v (.int .i64 a_0.Site), .v (.int .i64 a_0.To), .v (.int .i64 a_0.At), .v (.int .i64 a_0.How), .v (.string a_0.Key), .v (.string a_0.Value), .sl 1 (List.map encS a_0.Keys), .sl 2 (List.map encApi_Range a_0.Row.Ranges), .sl 1 (List.map encI_i64 a_0.Row.Owners), .sl 1 (List.map encI_i64 a_0.Row.Parents)]) Tryd.underlying30 rfl ti30 rfl (Ev.t 2 (.ptr 1002 0)) rfl)) (.c (oP rfl rfl (op_buildSlice (es := List.map encApi_Op [a_0]) Tryd.underlying22 ti30 rfl rfl (EvP.cons (Ev.t 5 (.g (.agg [.v (.int .i64 a_0.Kind), .v (.int .i64 a_0.Client), .v (.int .i64 a_0.Site), .v (.int .i64 a_0.To), .v (.int .i64 a_0.At), .v (.int .i64 a_0.How), .v (.string a_0.Key), .v (.string a_0.Value), .sl 1 (List.map encS a_0.Keys), .sl 2 (List.map encApi_Range a_0.Row.Ranges), .sl 1 (List.map encI_i64 a_0.Row.Owners), .sl 1 (List.map encI_i64 a_0.Row.Parents)]))) EvP.nil) rfl rfl (by simp [encApi_Op]) rfl)) (.c (oP rfl rfl (op_callQ (sv := .one (bS r1)) cf40 (ct_script_Bytes ([a_0]) r1 hr1) rfl rfl (EvQL.cons (EvQ.g (Ev.t 6 (.g (.d (.sl 12 (List.map encApi_Op ([a_0]))))))) EvQL.nil) rfl)) (.c (oP rfl rfl (op_loadAP (ds := [.v (.int .i64 b_1.Kind), .v (.int .i64 b_1.Client), .v (.int .i64 b_1.Site), .v (.int .i64 b_1.To), .v (.int .i64 b_1.At), .v (.int .i64 b_1.How), .v (.string b_1.Key), .v (.string b_1.Value), .sl 1 (List.map encS b_1.Keys), .sl 2 (List.map encApi_Range b_1.Row.Ranges), .sl 1 (List.map encI_i64 b_1.Row.Owners), .sl 1 (List.map encI_i64 b_1.Row.Parents)]) Tryd.underlying30 rfl ti30 rfl (Ev.t 3 (.ptr 1003 0)) rfl)) (.c (oP rfl rfl (op_buildSlice (es := List.map encApi_Op [b_1]) Tryd.underlying22 ti30 rfl rfl (EvP.cons (Ev.t 8 (.g (.agg [.v (.int .i64 b_1.Kind), .v (.int .i64 b_1.Client), .v (.int .i64 b_1.Site), .v (.int .i64 b_1.To), .v (.int .i64 b_1.At), .v (.int .i64 b_1.How), .v (.string b_1.Key), .v (.string b_1.Value), .sl 1 (List.map encS b_1.Keys), .sl 2 (List.map encApi_Range b_1.Row.Ranges), .sl 1 (List.map encI_i64 b_1.Row.Owners), .sl 1 (List.map encI_i64 b_1.Row.Parents)]))) EvP.nil) rfl rfl (by simp [encApi_Op]) rfl)) (.c (oP rfl rfl (op_callQ (sv := .one (bS r2)) cf40 (ct_script_Bytes ([b_1]) r2 hr2) rfl rfl (EvQL.cons (EvQ.g (Ev.t 9 (.g (.d (.sl 12 (List.map encApi_Op ([b_1]))))))) EvQL.nil) rfl)) (.c (oP rfl rfl (OpL.cast (op_eqS (Ev.t 7 (bS r1)) (Ev.t 10 (bS r2)) rfl) (congrArg (fun b => bB b) hc3))) (.c (oP rfl rfl (op_move (Ev.t 11 (bB false)) rfl)) (.c (OpW.no rfl rfl rfl rfl rfl) (.c (OpW.no rfl rfl rfl rfl rfl) (.c (OpW.no rfl rfl rfl rfl rfl) (.c (OpW.no rfl rfl rfl rfl rfl) (.c (OpW.no rfl rfl rfl rfl rfl) (.c (oP rfl rfl (op_pickF (Ev.t 12 (bB false)) (Ev.c _ rfl) rfl)) (.c (oP rfl rfl (op_assign (Ev.t 18 (bB false)) rfl)) .nil))))))))))))))) follows rfl rfl rfl ⟨⟨rfl, trivial⟩, ⟨⟨rfl, rfl⟩, trivial⟩, ⟨rfl, trivial⟩, trivial, ⟨rfl, trivial⟩, trivial, ⟨rfl, trivial⟩, ⟨⟨rfl, rfl⟩, trivial⟩, ⟨rfl, trivial⟩, trivial, ⟨rfl, trivial⟩, trivial, ⟨rfl, rfl, trivial⟩, trivial, ⟨rfl, trivial⟩, trivial, ⟨rfl, trivial⟩, trivial, ⟨rfl, trivial⟩, trivial, ⟨rfl, trivial⟩, trivial, ⟨rfl, trivial⟩, trivial, ⟨rfl, trivial⟩, trivial, ⟨rfl, trivial⟩, trivial, ⟨rfl, trivial⟩, trivial, trivial⟩ ⟨rfl, trivial⟩ trivial rfl ?_
    cases hF
    exact G.ret1 Tryd.results18 (RVar.tmp 4 _) ⟨rfl, trivial⟩ trivial


set_option maxRecDepth 20000 in
set_option maxHeartbeats 2000000 in
theorem ct_words_Check (o_0 : Api_Op) (r : Bool) (hF : words_Check o_0 = some r) : CtG Tryd.prog Γ0 9 [.g (.agg (encApi_Op o_0))] (.one (.d (.v (.bool r)))) := by
  unfold words_Check at hF
  refine CtG.intro (GL.ok _ _ _) Tryd.func9 rfl Tryd.ntmps9 rfl rfl fun M w hG => ?_
  refine G.seq ?_
  refine G.region ?_
  refine G.op2 (op_boxA (k := 1001) (Ev.t 0 (.g (.agg [.v (.int .i64 o_0.Kind), .v (.int .i64 o_0.Client), .v (.int .i64 o_0.Site), .v (.int .i64 o_0.To), .v (.int .i64 o_0.At), .v (.int .i64 o_0.How), .v (.string o_0.Key), .v (.string o_0.Value), .sl 1 (List.map encS o_0.Keys), .sl 2 (List.map encApi_Range o_0.Row.Ranges), .sl 1 (List.map encI_i64 o_0.Row.Owners), .sl 1 (List.map encI_i64 o_0.Row.Parents)]))) rfl) rfl ⟨rfl, trivial⟩ ⟨rfl, trivial⟩ ?_
  refine G.op1 (op_assign (Ev.c _ rfl) rfl) rfl trivial trivial ?_
  refine G.endOps ?_
  refine G.seq ?_
  refine G.region ?_
  refine G.op1 (op_fieldP (off' := 9) Tryd.underlying30 rfl ti28 (by decide) rfl (Ev.t 1 (.ptr 1001 0)) rfl) rfl ⟨rfl, trivial⟩ trivial ?_
  refine G.op1 (op_fieldP (off' := 9) Tryd.underlying28 rfl ti25 (by decide) rfl (Ev.t 6 (.ptr 1001 9)) rfl) rfl ⟨rfl, trivial⟩ trivial ?_
  refine G.op1 (op_load1P (c := .g (.d (.sl 2 (List.map encApi_Range o_0.Row.Ranges)))) Tryd.underlying25 rfl rfl (Ev.t 7 (.ptr 1001 9)) rfl) rfl ⟨rfl, trivial⟩ ⟨rfl, trivial⟩ ?_
  refine G.op1 (OpL.cast (op_lenD Tryd.underlying25 (Ev.t 8 (.g (.d (.sl 2 (List.map encApi_Range o_0.Row.Ranges))))) rfl) (by rw [List.length_map])) rfl ⟨rfl, trivial⟩ trivial ?_
  refine G.op1 (op_eqI (Ev.t 9 (bI .i64 (o_0.Row.Ranges.length : Int))) (Ev.c _ rfl) rfl) rfl ⟨rfl, trivial⟩ trivial ?_
  refine G.op1 (op_assign (Ev.t 10 (bB (decide ((o_0.Row.Ranges.length : Int) = 0)))) rfl) rfl ⟨rfl, trivial⟩ trivial ?_
  refine G.endOps ?_
  refine G.seq ?_
  refine G.seq ?_
  refine G.joinC (T := Bool) (fun y1 => ⟨[(1, .one (.ptr 1001 0)), (20, .one (bB y1))], [(1001, some (.blk 30 [bI .i64 o_0.Kind, bI .i64 o_0.Client, bI .i64 o_0.Site, bI .i64 o_0.To, bI .i64 o_0.At, bI .i64 o_0.How, bS o_0.Key, bS o_0.Value, .g (.d (.sl 1 (List.map encS o_0.Keys))), .g (.d (.sl 2 (List.map encApi_Range o_0.Row.Ranges))), .g (.d (.sl 1 (List.map encI_i64 o_0.Row.Owners))), .g (.d (.sl 1 (List.map encI_i64 o_0.Row.Parents)))]))]⟩) (fun y1 => words_Check_k1 o_0 y1 = some r) (fun y1 hF => ?_) (fun J9 => ?_)
  · unfold words_Check_k1 at hF
    refine ifS hF (fun hc2 hF => ?_) (fun hc2 hF => ?_)
    · refine G.cond rfl (fun _ => ?_) (fun hx => Bool.noConfusion (hc2.symm.trans hx))
      refine G.seq ?_
      refine G.region ?_
      refine G.op1 (op_assign (Ev.c _ rfl) rfl) rfl trivial trivial ?_
      refine G.endOps ?_
      cases hF
      exact G.ret1 Tryd.results9 (RVar.tmp 2 _) ⟨rfl, trivial⟩ trivial
    · refine G.cond rfl (fun hx => Bool.noConfusion (hc2.symm.trans hx)) (fun _ => ?_)
      refine G.skip ?_
      refine G.seq ?_
      refine G.region ?_
      refine G.op1 (op_loadAP (ds := [.v (.int .i64 o_0.Kind), .v (.int .i64 o_0.Client), .v (.int .i64 o_0.Site), .v (.int .i64 o_0.To), .v (.int .i64 o_0.At), .v (.int .i64 o_0.How), .v (.string o_0.Key), .v (.string o_0.Value), .sl 1 (List.map encS o_0.Keys), .sl 2 (List.map encApi_Range o_0.Row.Ranges), .sl 1 (List.map encI_i64 o_0.Row.Owners), .sl 1 (List.map encI_i64 o_0.Row.Parents)]) Tryd.underlying30 rfl ti30 rfl (Ev.t 1 (.ptr 1001 0)) rfl) rfl ⟨rfl, trivial⟩ ⟨rfl, trivial⟩ ?_
      obtain ⟨r3, hr3, hF⟩ := bindS hF
      refine G.op1 (op_callQ (sv := .one (bS r3)) cf17 (ct_words_line o_0 r3 hr3) rfl rfl (EvQL.cons (EvQ.g (Ev.t 22 (.g (.agg [.v (.int .i64 o_0.Kind), .v (.int .i64 o_0.Client), .v (.int .i64 o_0.Site), .v (.int .i64 o_0.To), .v (.int .i64 o_0.At), .v (.int .i64 o_0.How), .v (.string o_0.Key), .v (.string o_0.Value), .sl 1 (List.map encS o_0.Keys), .sl 2 (List.map encApi_Range o_0.Row.Ranges), .sl 1 (List.map encI_i64 o_0.Row.Owners), .sl 1 (List.map encI_i64 o_0.Row.Parents)])))) EvQL.nil) rfl) rfl ⟨rfl, trivial⟩ trivial ?_
      obtain ⟨r4, hr4, hF⟩ := bindS hF
      refine G.op1 (op_callG (sv := .tup [.g (.d (.sl 12 (List.map encApi_Op r4.1))), bI .i64 r4.2]) hG cf11 (ct_words_Parse r3 r4 hr4) rfl (EvL.cons (Ev.t 23 (bS r3)) EvL.nil) rfl) rfl ⟨rfl, trivial⟩ trivial ?_
      refine G.op1 (op_moveS (t := 24) (sv := .tup [.g (.d (.sl 12 (List.map encApi_Op r4.1))), bI .i64 r4.2]) rfl) rfl ⟨rfl, trivial⟩ trivial ?_
      refine G.op1 (op_extract (l := [.g (.d (.sl 12 (List.map encApi_Op r4.1))), bI .i64 r4.2]) (c := .g (.d (.sl 12 (List.map encApi_Op r4.1)))) rfl rfl) rfl ⟨rfl, trivial⟩ trivial ?_
      refine G.op1 (op_extract (l := [.g (.d (.sl 12 (List.map encApi_Op r4.1))), bI .i64 r4.2]) (c := bI .i64 r4.2) rfl rfl) rfl ⟨rfl, trivial⟩ trivial ?_
      refine G.op1 (op_assign (Ev.t 25 (.g (.d (.sl 12 (List.map encApi_Op r4.1))))) rfl) rfl ⟨rfl, trivial⟩ trivial ?_
      refine G.op1 (op_assign (Ev.t 26 (bI .i64 r4.2)) rfl) rfl ⟨rfl, trivial⟩ trivial ?_
      refine G.endOps ?_
      refine G.seq ?_
      refine ifS hF (fun hc5 hF => ?_) (fun hc5 hF => ?_)
      · refine ifS hF (fun hc6 hF => ?_) (fun hc6 hF => ?_)
        · obtain ⟨x7, hx7, hF⟩ := bindS hF
          obtain ⟨r8, hr8, hF⟩ := bindS hF
          refine G.drawnI (deps := [[], [0], [0, 1], [0, 1, 2], [0, 1, 2, 3], [0, 1, 2, 3, 4], [0, 1, 2, 3, 4, 5], [0, 1, 2, 3, 4, 5, 6], [0, 1, 2, 3, 4, 5, 6, 7], [0, 1, 2, 3, 4, 5, 6, 7, 8], [0, 1, 2, 3, 4, 5, 6, 7, 8, 9], [0, 1, 2, 3, 4, 5, 6, 7], [0, 1, 2, 3, 4, 5, 6, 7, 8, 9, 10, 11], [0, 1, 2, 3, 4, 5, 6, 7, 8, 9, 10, 11, 12], [0, 1, 2, 3, 4, 5, 6, 7, 8, 9, 10, 11, 12, 13]]) (sl' := [(2, .one (bB r8))]) (hp' := []) (.c (oP rfl rfl (op_move (Ev.t 5 (bI .i64 r4.2)) rfl)) (.c (oP rfl rfl (OpL.cast (op_eqI (Ev.t 27 (bI .i64 r4.2)) (Ev.c _ rfl) rfl) (congrArg (fun b => bB b) hc5))) (.c (oP rfl rfl (op_move (Ev.t 28 (bB true)) rfl)) (.c (oY rfl rfl rfl (op_move (Ev.t 4 (.g (.d (.sl 12 (List.map encApi_Op r4.1))))) rfl)) (.c (oY rfl rfl rfl (OpL.cast (op_lenD Tryd.underlying22 (Ev.t 30 (.g (.d (.sl 12 (List.map encApi_Op r4.1))))) rfl) (by rw [List.length_map]))) (.c (oY rfl rfl rfl (OpL.cast (op_eqI (Ev.t 31 (bI .i64 (r4.1.length : Int))) (Ev.c _ rfl) rfl) (congrArg (fun b => bB b) hc6))) (.c (oP rfl rfl (op_pickT (Ev.t 29 (bB true)) (Ev.t 32 (bB true)) rfl)) (.c (oP rfl rfl (op_move (Ev.t 33 (bB true)) rfl)) (.c (oY rfl rfl rfl (op_move (Ev.t 4 (.g (.d (.sl 12 (List.map encApi_Op r4.1))))) rfl)) (.c (oY rfl rfl rfl (op_index (cs := [.v (.int .i64 x7.Kind), .v (.int .i64 x7.Client), .v (.int .i64 x7.Site), .v (.int .i64 x7.To), .v (.int .i64 x7.At), .v (.int .i64 x7.How), .v (.string x7.Key), .v (.string x7.Value), .sl 1 (List.map encS x7.Keys), .sl 2 (List.map encApi_Range x7.Row.Ranges), .sl 1 (List.map encI_i64 x7.Row.Owners), .sl 1 (List.map encI_i64 x7.Row.Parents)]) Tryd.underlying22 ti30 (idx_ok hx7).1 (idx_get hx7 encApi_Op) (Ev.t 35 (.g (.d (.sl 12 (List.map encApi_Op r4.1))))) (Ev.c _ rfl) rfl)) (.c (oY rfl rfl rfl (op_loadAE (ds := [.v (.int .i64 x7.Kind), .v (.int .i64 x7.Client), .v (.int .i64 x7.Site), .v (.int .i64 x7.To), .v (.int .i64 x7.At), .v (.int .i64 x7.How), .v (.string x7.Key), .v (.string x7.Value), .sl 1 (List.map encS x7.Keys), .sl 2 (List.map encApi_Range x7.Row.Ranges), .sl 1 (List.map encI_i64 x7.Row.Owners), .sl 1 (List.map encI_i64 x7.Row.Parents)]) Tryd.underlying30 rfl ti30 rfl (Ev.t 36 (.ep [.v (.int .i64 x7.Kind), .v (.int .i64 x7.Client), .v (.int .i64 x7.Site), .v (.int .i64 x7.To), .v (.int .i64 x7.At), .v (.int .i64 x7.How), .v (.string x7.Key), .v (.string x7.Value), .sl 1 (List.map encS x7.Keys), .sl 2 (List.map encApi_Range x7.Row.Ranges), .sl 1 (List.map encI_i64 x7.Row.Owners), .sl 1 (List.map encI_i64 x7.Row.Parents)])) rfl)) (.c (oY rfl rfl rfl (op_loadAP (ds := [.v (.int .i64 o_0.Kind), .v (.int .i64 o_0.Client), .v (.int .i64 o_0.Site), .v (.int .i64 o_0.To), .v (.int .i64 o_0.At), .v (.int .i64 o_0.How), .v (.string o_0.Key), .v (.string o_0.Value), .sl 1 (List.map encS o_0.Keys), .sl 2 (List.map encApi_Range o_0.Row.Ranges), .sl 1 (List.map encI_i64 o_0.Row.Owners), .sl 1 (List.map encI_i64 o_0.Row.Parents)]) Tryd.underlying30 rfl ti30 rfl (Ev.t 1 (.ptr 1001 0)) rfl)) (.c (oY rfl rfl rfl (op_callQ (sv := .one (bB r8)) cf18 (ct_words_same x7 o_0 r8 hr8) rfl rfl (EvQL.cons (EvQ.g (Ev.t 37 (.g (.agg [.v (.int .i64 x7.Kind), .v (.int .i64 x7.Client), .v (.int .i64 x7.Site), .v (.int .i64 x7.To), .v (.int .i64 x7.At), .v (.int .i64 x7.How), .v (.string x7.Key), .v (.string x7.Value), .sl 1 (List.map encS x7.Keys), .sl 2 (List.map encApi_Range x7.Row.Ranges), .sl 1 (List.map encI_i64 x7.Row.Owners), .sl 1 (List.map encI_i64 x7.Row.Parents)])))) (EvQL.cons (EvQ.g (Ev.t 38 (.g (.agg [.v (.int .i64 o_0.Kind), .v (.int .i64 o_0.Client), .v (.int .i64 o_0.Site), .v (.int .i64 o_0.To), .v (.int .i64 o_0.At), .v (.int .i64 o_0.How), .v (.string o_0.Key), .v (.string o_0.Value), .sl 1 (List.map encS o_0.Keys), .sl 2 (List.map encApi_Range o_0.Row.Ranges), .sl 1 (List.map encI_i64 o_0.Row.Owners), .sl 1 (List.map encI_i64 o_0.Row.Parents)])))) EvQL.nil)) rfl)) (.c (oP rfl rfl (op_pickT (Ev.t 34 (bB true)) (Ev.t 39 (bB r8)) rfl)) (.c (oP rfl rfl (op_assign (Ev.t 40 (bB r8)) rfl)) .nil))))))))))))))) follows rfl rfl rfl ⟨⟨rfl, trivial⟩, trivial, ⟨rfl, trivial⟩, trivial, ⟨rfl, trivial⟩, trivial, ⟨rfl, rfl, trivial⟩, trivial, ⟨rfl, rfl, trivial⟩, trivial, ⟨rfl, rfl, trivial⟩, trivial, ⟨rfl, rfl, trivial⟩, trivial, ⟨rfl, trivial⟩, trivial, ⟨rfl, rfl, trivial⟩, trivial, ⟨rfl, rfl, trivial⟩, trivial, ⟨rfl, rfl, trivial⟩, trivial, ⟨rfl, rfl, trivial⟩, ⟨⟨rfl, rfl⟩, trivial⟩, ⟨rfl, rfl, rfl, trivial⟩, trivial, ⟨rfl, rfl, trivial⟩, trivial, ⟨rfl, trivial⟩, trivial, trivial⟩ ⟨rfl, trivial⟩ trivial rfl ?_
          cases hF
          exact G.ret1 Tryd.results9 (RVar.tmp 2 _) ⟨rfl, trivial⟩ trivial
        · refine G.drawnI (deps := [[], [0], [0, 1], [0, 1, 2], [0, 1, 2, 3], [0, 1, 2, 3, 4], [0, 1, 2, 3, 4, 5], [0, 1, 2, 3, 4, 5, 6], [0, 1, 2, 3, 4, 5, 6, 7], [0, 1, 2, 3, 4, 5, 6, 7, 8], [0, 1, 2, 3, 4, 5, 6, 7, 8, 9], [0, 1, 2, 3, 4, 5, 6, 7], [0, 1, 2, 3, 4, 5, 6, 7, 8, 9, 10, 11], [0, 1, 2, 3, 4, 5, 6, 7, 8, 9, 10, 11, 12], [0, 1, 2, 3, 4, 5, 6, 7, 8, 9, 10, 11, 12, 13]]) (sl' := [(2, .one (bB false))]) (hp' := []) (.c (oP rfl rfl (op_move (Ev.t 5 (bI .i64 r4.2)) rfl)) (.c (oP rfl rfl (OpL.cast (op_eqI (Ev.t 27 (bI .i64 r4.2)) (Ev.c _ rfl) rfl) (congrArg (fun b => bB b) hc5))) (.c (oP rfl rfl (op_move (Ev.t 28 (bB true)) rfl)) (.c (oY rfl rfl rfl (op_move (Ev.t 4 (.g (.d (.sl 12 (List.map encApi_Op r4.1))))) rfl)) (.c (oY rfl rfl rfl (OpL.cast (op_lenD Tryd.underlying22 (Ev.t 30 (.g (.d (.sl 12 (List.map encApi_Op r4.1))))) rfl) (by rw [List.length_map]))) (.c (oY rfl rfl rfl (OpL.cast (op_eqI (Ev.t 31 (bI .i64 (r4.1.length : Int))) (Ev.c _ rfl) rfl) (congrArg (fun b => bB b) hc6))) (.c (oP rfl rfl (op_pickT (Ev.t 29 (bB true)) (Ev.t 32 (bB false)) rfl)) (.c (oP rfl rfl (op_move (Ev.t 33 (bB false)) rfl)) (.c (OpW.no rfl rfl rfl rfl rfl) (.c (OpW.no rfl rfl rfl rfl rfl) (.c (OpW.no rfl rfl rfl rfl rfl) (.c (OpW.no rfl rfl rfl rfl rfl) (.c (OpW.no rfl rfl rfl rfl rfl) (.c (oP rfl rfl (op_pickF (Ev.t 34 (bB false)) (Ev.c _ rfl) rfl)) (.c (oP rfl rfl (op_assign (Ev.t 40 (bB false)) rfl)) .nil))))))))))))))) follows rfl rfl rfl ⟨⟨rfl, trivial⟩, trivial, ⟨rfl, trivial⟩, trivial, ⟨rfl, trivial⟩, trivial, ⟨rfl, rfl, trivial⟩, trivial, ⟨rfl, rfl, trivial⟩, trivial, ⟨rfl, rfl, trivial⟩, trivial, ⟨rfl, rfl, trivial⟩, trivial, ⟨rfl, trivial⟩, trivial, ⟨rfl, trivial⟩, trivial, ⟨rfl, trivial⟩, trivial, ⟨rfl, trivial⟩, trivial, ⟨rfl, trivial⟩, trivial, ⟨rfl, trivial⟩, trivial, ⟨rfl, trivial⟩, trivial, ⟨rfl, trivial⟩, trivial, trivial⟩ ⟨rfl, trivial⟩ trivial rfl ?_
          cases hF
          exact G.ret1 Tryd.results9 (RVar.tmp 2 _) ⟨rfl, trivial⟩ trivial
      · refine G.drawnI (deps := [[], [0], [0, 1], [0, 1, 2], [0, 1, 2, 3], [0, 1, 2, 3, 4], [0, 1, 2, 3, 4, 5], [0, 1, 2, 3, 4, 5, 6], [0, 1, 2, 3, 4, 5, 6, 7], [0, 1, 2, 3, 4, 5, 6, 7, 8], [0, 1, 2, 3, 4, 5, 6, 7, 8, 9], [0, 1, 2, 3, 4, 5, 6, 7], [0, 1, 2, 3, 4, 5, 6, 7, 8, 9, 10, 11], [0, 1, 2, 3, 4, 5, 6, 7, 8, 9, 10, 11, 12], [0, 1, 2, 3, 4, 5, 6, 7, 8, 9, 10, 11, 12, 13]]) (sl' := [(2, .one (bB false))]) (hp' := []) (.c (oP rfl rfl (op_move (Ev.t 5 (bI .i64 r4.2)) rfl)) (.c (oP rfl rfl (OpL.cast (op_eqI (Ev.t 27 (bI .i64 r4.2)) (Ev.c _ rfl) rfl) (congrArg (fun b => bB b) hc5))) (.c (oP rfl rfl (op_move (Ev.t 28 (bB false)) rfl)) (.c (OpW.no rfl rfl rfl rfl rfl) (.c (OpW.no rfl rfl rfl rfl rfl) (.c (OpW.no rfl rfl rfl rfl rfl) (.c (oP rfl rfl (op_pickF (Ev.t 29 (bB false)) (Ev.c _ rfl) rfl)) (.c (oP rfl rfl (op_move (Ev.t 33 (bB false)) rfl)) (.c (OpW.no rfl rfl rfl rfl rfl) (.c (OpW.no rfl rfl rfl rfl rfl) (.c (OpW.no rfl rfl rfl rfl rfl) (.c (OpW.no rfl rfl rfl rfl rfl) (.c (OpW.no rfl rfl rfl rfl rfl) (.c (oP rfl rfl (op_pickF (Ev.t 34 (bB false)) (Ev.c _ rfl) rfl)) (.c (oP rfl rfl (op_assign (Ev.t 40 (bB false)) rfl)) .nil))))))))))))))) follows rfl rfl rfl ⟨⟨rfl, trivial⟩, trivial, ⟨rfl, trivial⟩, trivial, ⟨rfl, trivial⟩, trivial, ⟨rfl, trivial⟩, trivial, ⟨rfl, trivial⟩, trivial, ⟨rfl, trivial⟩, trivial, ⟨rfl, trivial⟩, trivial, ⟨rfl, trivial⟩, trivial, ⟨rfl, trivial⟩, trivial, ⟨rfl, trivial⟩, trivial, ⟨rfl, trivial⟩, trivial, ⟨rfl, trivial⟩, trivial, ⟨rfl, trivial⟩, trivial, ⟨rfl, trivial⟩, trivial, ⟨rfl, trivial⟩, trivial, trivial⟩ ⟨rfl, trivial⟩ trivial rfl ?_
        cases hF
        exact G.ret1 Tryd.results9 (RVar.tmp 2 _) ⟨rfl, trivial⟩ trivial
  refine G.region ?_
  refine G.op1 (op_loadAP (ds := [.v (.int .i64 o_0.Kind), .v (.int .i64 o_0.Client), .v (.int .i64 o_0.Site), .v (.int .i64 o_0.To), .v (.int .i64 o_0.At), .v (.int .i64 o_0.How), .v (.string o_0.Key), .v (.string o_0.Value), .sl 1 (List.map encS o_0.Keys), .sl 2 (List.map encApi_Range o_0.Row.Ranges), .sl 1 (List.map encI_i64 o_0.Row.Owners), .sl 1 (List.map encI_i64 o_0.Row.Parents)]) Tryd.underlying30 rfl ti30 rfl (Ev.t 1 (.ptr 1001 0)) rfl) rfl ⟨rfl, trivial⟩ ⟨rfl, trivial⟩ ?_
  obtain ⟨r10, hr10, hF⟩ := bindS hF
  refine G.op1 (op_callQ (sv := .one (bB r10)) cf16 (ct_script_Check o_0 r10 hr10) rfl rfl (EvQL.cons (EvQ.g (Ev.t 11 (.g (.agg [.v (.int .i64 o_0.Kind), .v (.int .i64 o_0.Client), .v (.int .i64 o_0.Site), .v (.int .i64 o_0.To), .v (.int .i64 o_0.At), .v (.int .i64 o_0.How), .v (.string o_0.Key), .v (.string o_0.Value), .sl 1 (List.map encS o_0.Keys), .sl 2 (List.map encApi_Range o_0.Row.Ranges), .sl 1 (List.map encI_i64 o_0.Row.Owners), .sl 1 (List.map encI_i64 o_0.Row.Parents)])))) EvQL.nil) rfl) rfl ⟨rfl, trivial⟩ trivial ?_
  refine G.op1 (op_not (Ev.t 12 (bB r10)) rfl) rfl ⟨rfl, trivial⟩ trivial ?_
  refine G.op1 (op_move (Ev.t 13 (bB (!r10))) rfl) rfl ⟨rfl, trivial⟩ trivial ?_
  refine ifS hF (fun hc11 hF => ?_) (fun hc11 hF => ?_)
  · refine G.known (t := 14) hc11 rfl ?_
    refine G.opN1 rfl rfl rfl rfl rfl ?_
    refine G.opN1 rfl rfl rfl rfl rfl ?_
    refine G.opN1 rfl rfl rfl rfl rfl ?_
    refine G.opN1 rfl rfl rfl rfl rfl ?_
    refine G.opN1 rfl rfl rfl rfl rfl ?_
    refine G.op1 (op_pickT (Ev.t 14 (bB true)) (Ev.c _ rfl) rfl) rfl ⟨rfl, trivial⟩ trivial ?_
    refine G.endOps ?_
    exact G.arr (J9 true hF) ⟨rfl, rfl, trivial⟩ ⟨rfl, trivial⟩ rfl
  · refine G.known (t := 14) hc11 rfl ?_
    refine G.opG1 (op_move (Ev.t 3 (bB (decide ((o_0.Row.Ranges.length : Int) = 0)))) rfl) rfl rfl rfl ⟨rfl, trivial⟩ trivial ?_
    refine G.opG1 (op_fieldP (off' := 0) Tryd.underlying30 rfl ti3 (by decide) rfl (Ev.t 1 (.ptr 1001 0)) rfl) rfl rfl rfl ⟨rfl, trivial⟩ trivial ?_
    refine G.opG1 (op_load1P (c := bI .i64 o_0.Kind) Tryd.underlying3 rfl rfl (Ev.t 16 (.ptr 1001 0)) rfl) rfl rfl rfl ⟨rfl, trivial⟩ ⟨rfl, trivial⟩ ?_
    refine G.opG1 (op_eqI (Ev.t 17 (bI .i64 o_0.Kind)) (Ev.c _ rfl) rfl) rfl rfl rfl ⟨rfl, trivial⟩ trivial ?_
    refine G.opG1 (op_eqB Tryd.underlying4 (Ev.t 15 (bB (decide ((o_0.Row.Ranges.length : Int) = 0)))) (Ev.t 18 (bB (decide (o_0.Kind = 12)))) rfl) rfl rfl rfl ⟨rfl, rfl, trivial⟩ trivial ?_
    refine G.op1 (op_pickF (Ev.t 14 (bB false)) (Ev.t 19 (bB ((decide ((o_0.Row.Ranges.length : Int) = 0)) == (decide (o_0.Kind = 12))))) rfl) rfl ⟨rfl, rfl, trivial⟩ trivial ?_
    refine G.endOps ?_
    exact G.arr (J9 ((decide ((o_0.Row.Ranges.length : Int) = 0)) == (decide (o_0.Kind = 12))) hF) ⟨rfl, rfl, trivial⟩ ⟨rfl, trivial⟩ rfl


set_option maxRecDepth 20000 in
set_option maxHeartbeats 2000000 in
theorem ct_words_Text (l_0 : (List Api_Op)) (r : ByteArray) (hF : words_Text l_0 = some r) : CtG Tryd.prog Γ0 10 [.g (.d (.sl 12 (List.map encApi_Op l_0)))] (.one (.d (.v (.string r)))) := by
  unfold words_Text at hF
  refine CtG.intro (GL.ok _ _ _) Tryd.func10 rfl Tryd.ntmps10 rfl rfl fun M w hG => ?_
  refine G.seq ?_
  refine G.region ?_
  refine G.op1 (op_assign (Ev.c _ rfl) rfl) rfl trivial trivial ?_
  refine G.endOps ?_
  refine G.seq ?_
  refine G.region ?_
  refine G.opM (op_allocB (T := 54) (E := 5) (k := 1003) (kk := 3003) ti54 rfl rfl rfl) rfl trivial ⟨rfl, rfl, trivial⟩ ?_
  refine G.endOps ?_
  refine G.seq ?_
  refine G.seq ?_
  refine G.region ?_
  refine G.op1 (op_move (Ev.t 0 (.g (.d (.sl 12 (List.map encApi_Op l_0))))) rfl) rfl ⟨rfl, trivial⟩ trivial ?_
  refine G.op1 (OpL.cast (op_lenD Tryd.underlying22 (Ev.t 6 (.g (.d (.sl 12 (List.map encApi_Op l_0))))) rfl) (by rw [List.length_map])) rfl ⟨rfl, trivial⟩ trivial ?_
  refine G.op1 (op_move (Ev.c _ rfl) rfl) rfl trivial trivial ?_
  refine G.endOps ?_
  refine G.joinC (T := ByteArray) (fun y1 => ⟨[(3, .one (.ptr 1003 0))], [(1003, some (.bld 54 5 3003 y1)), (3003, some (.hid true 1003))]⟩) (fun y1 => words_Text_k1 y1 = some r) (fun y1 hF => ?_) (fun J3 => ?_)
  · unfold words_Text_k1 at hF
    refine G.seq ?_
    refine G.region ?_
    obtain ⟨r2, hr2, hF⟩ := bindS hF
    refine G.opM (op_callM (k := 1003) (h := .bld 54 5 y1) (h' := .gone) 3003 (sv := .one (bS r2)) cf20 (ct_bld_String y1 r2 hr2) rfl rfl (EvM.pt (Ev.t 3 (.ptr 1003 0)) EvM.nil) rfl) rfl ⟨rfl, trivial⟩ ⟨rfl, rfl, trivial⟩ ?_
    refine G.op1 (op_assign (Ev.t 19 (bS r2)) rfl) rfl ⟨rfl, trivial⟩ trivial ?_
    refine G.endOps ?_
    cases hF
    exact G.ret1 Tryd.results10 (RVar.tmp 2 _) ⟨rfl, trivial⟩ trivial
  refine G.block ?_
  refine G.keep (sl' := [(3, .one (.ptr 1003 0)), (6, .one (.g (.d (.sl 12 (List.map encApi_Op l_0))))), (7, .one (bI .i64 (l_0.length : Int))), (8, .one (bI .i64 0))]) (hp' := [(1003, some (.bld 54 5 3003 ByteArray.empty)), (3003, some (.hid true 1003))]) ⟨rfl, rfl, rfl, rfl, trivial⟩ ⟨rfl, rfl, trivial⟩ rfl ?_
  refine G.loopF (fun (v4 : Int × ByteArray) => ⟨[(3, .one (.ptr 1003 0)), (6, .one (.g (.d (.sl 12 (List.map encApi_Op l_0))))), (7, .one (bI .i64 (l_0.length : Int))), (8, .one (bI .i64 v4.1))], [(1003, some (.bld 54 5 3003 v4.2)), (3003, some (.hid true 1003))]⟩) hF rfl (fun K7 again6 v4 J5 hF => ?_)
  unfold words_Text_l2 at hF
  refine G.seq ?_
  refine G.region ?_
  refine G.op1 (op_lss (Ev.t 8 (bI .i64 v4.1)) (Ev.t 7 (bI .i64 (l_0.length : Int))) rfl) rfl ⟨rfl, rfl, trivial⟩ trivial ?_
  refine G.endOps ?_
  refine G.seq ?_
  refine ifS hF (fun hc8 hF => ?_) (fun hc8 hF => ?_)
  · refine G.cond rfl (fun _ => ?_) (fun hx => Bool.noConfusion (hc8.symm.trans hx))
    refine G.skip ?_
    refine G.seq ?_
    refine G.block ?_
    refine G.seq ?_
    refine G.region ?_
    obtain ⟨x9, hx9, hF⟩ := bindS hF
    refine G.op1 (op_index (cs := [.v (.int .i64 x9.Kind), .v (.int .i64 x9.Client), .v (.int .i64 x9.Site), .v (.int .i64 x9.To), .v (.int .i64 x9.At), .v (.int .i64 x9.How), .v (.string x9.Key), .v (.string x9.Value), .sl 1 (List.map encS x9.Keys), .sl 2 (List.map encApi_Range x9.Row.Ranges), .sl 1 (List.map encI_i64 x9.Row.Owners), .sl 1 (List.map encI_i64 x9.Row.Parents)]) Tryd.underlying22 ti30 (idx_ok hx9).1 (idx_get hx9 encApi_Op) (Ev.t 6 (.g (.d (.sl 12 (List.map encApi_Op l_0))))) (Ev.t 8 (bI .i64 v4.1)) rfl) rfl ⟨rfl, rfl, trivial⟩ trivial ?_
    refine G.op1 (op_loadAE (ds := [.v (.int .i64 x9.Kind), .v (.int .i64 x9.Client), .v (.int .i64 x9.Site), .v (.int .i64 x9.To), .v (.int .i64 x9.At), .v (.int .i64 x9.How), .v (.string x9.Key), .v (.string x9.Value), .sl 1 (List.map encS x9.Keys), .sl 2 (List.map encApi_Range x9.Row.Ranges), .sl 1 (List.map encI_i64 x9.Row.Owners), .sl 1 (List.map encI_i64 x9.Row.Parents)]) Tryd.underlying30 rfl ti30 rfl (Ev.t 10 (.ep [.v (.int .i64 x9.Kind), .v (.int .i64 x9.Client), .v (.int .i64 x9.Site), .v (.int .i64 x9.To), .v (.int .i64 x9.At), .v (.int .i64 x9.How), .v (.string x9.Key), .v (.string x9.Value), .sl 1 (List.map encS x9.Keys), .sl 2 (List.map encApi_Range x9.Row.Ranges), .sl 1 (List.map encI_i64 x9.Row.Owners), .sl 1 (List.map encI_i64 x9.Row.Parents)])) rfl) rfl ⟨rfl, trivial⟩ trivial ?_
    refine G.op2 (op_alloc (k := 1005) (cs := [bI .i64 0, bI .i64 0, bI .i64 0, bI .i64 0, bI .i64 0, bI .i64 0, bS ByteArray.empty, bS ByteArray.empty, .g (.d (.sl 1 (List.map encS ([] : (List ByteArray))))), .g (.d (.sl 2 (List.map encApi_Range ([] : (List Api_Range))))), .g (.d (.sl 1 (List.map encI_i64 ([] : (List Int))))), .g (.d (.sl 1 (List.map encI_i64 ([] : (List Int)))))]) ti30 ⟨.v _ rfl, .v _ rfl, .v _ rfl, .v _ rfl, .v _ rfl, .v _ rfl, .v _ rfl, .v _ rfl, .n 1, .n 2, .n 1, .n 1, trivial⟩ rfl) rfl trivial ⟨rfl, trivial⟩ ?_
    refine G.op3 (op_storeA (cs' := [bI .i64 x9.Kind, bI .i64 x9.Client, bI .i64 x9.Site, bI .i64 x9.To, bI .i64 x9.At, bI .i64 x9.How, bS x9.Key, bS x9.Value, .g (.d (.sl 1 (List.map encS x9.Keys))), .g (.d (.sl 2 (List.map encApi_Range x9.Row.Ranges))), .g (.d (.sl 1 (List.map encI_i64 x9.Row.Owners))), .g (.d (.sl 1 (List.map encI_i64 x9.Row.Parents)))]) ti30 rfl rfl (Ev.t 5 (.ptr 1005 0)) (Ev.t 11 (.g (.agg [.v (.int .i64 x9.Kind), .v (.int .i64 x9.Client), .v (.int .i64 x9.Site), .v (.int .i64 x9.To), .v (.int .i64 x9.At), .v (.int .i64 x9.How), .v (.string x9.Key), .v (.string x9.Value), .sl 1 (List.map encS x9.Keys), .sl 2 (List.map encApi_Range x9.Row.Ranges), .sl 1 (List.map encI_i64 x9.Row.Owners), .sl 1 (List.map encI_i64 x9.Row.Parents)])))) rfl ⟨rfl, rfl, trivial⟩ ⟨rfl, trivial⟩ ?_
    refine G.endOps ?_
    refine G.seq ?_
    refine G.seq ?_
    refine G.region ?_
    refine G.op1 (op_loadAP (ds := [.v (.int .i64 x9.Kind), .v (.int .i64 x9.Client), .v (.int .i64 x9.Site), .v (.int .i64 x9.To), .v (.int .i64 x9.At), .v (.int .i64 x9.How), .v (.string x9.Key), .v (.string x9.Value), .sl 1 (List.map encS x9.Keys), .sl 2 (List.map encApi_Range x9.Row.Ranges), .sl 1 (List.map encI_i64 x9.Row.Owners), .sl 1 (List.map encI_i64 x9.Row.Parents)]) Tryd.underlying30 rfl ti30 rfl (Ev.t 5 (.ptr 1005 0)) rfl) rfl ⟨rfl, trivial⟩ ⟨rfl, trivial⟩ ?_
    obtain ⟨r10, hr10, hF⟩ := bindS hF
    refine G.op1 (op_callQG (sv := .one (bB r10)) hG cf9 (ct_words_Check x9 r10 hr10) rfl rfl (EvQL.cons (EvQ.g (Ev.t 12 (.g (.agg [.v (.int .i64 x9.Kind), .v (.int .i64 x9.Client), .v (.int .i64 x9.Site), .v (.int .i64 x9.To), .v (.int .i64 x9.At), .v (.int .i64 x9.How), .v (.string x9.Key), .v (.string x9.Value), .sl 1 (List.map encS x9.Keys), .sl 2 (List.map encApi_Range x9.Row.Ranges), .sl 1 (List.map encI_i64 x9.Row.Owners), .sl 1 (List.map encI_i64 x9.Row.Parents)])))) EvQL.nil) rfl) rfl ⟨rfl, trivial⟩ trivial ?_
    refine G.op1 (op_not (Ev.t 13 (bB r10)) rfl) rfl ⟨rfl, trivial⟩ trivial ?_
    refine G.endOps ?_
    refine ifS hF (fun hc11 hF => ?_) (fun hc11 hF => ?_)
    · refine G.cond rfl (fun _ => ?_) (fun hx => Bool.noConfusion (hc11.symm.trans hx))
      refine G.seq ?_
      refine G.region ?_
      refine G.op1 (op_assign (Ev.c _ rfl) rfl) rfl trivial trivial ?_
      refine G.endOps ?_
      cases hF
      exact G.ret1 Tryd.results10 (RVar.tmp 2 _) ⟨rfl, trivial⟩ trivial
    · refine G.cond rfl (fun hx => Bool.noConfusion (hc11.symm.trans hx)) (fun _ => ?_)
      refine G.skip ?_
      refine G.region ?_
      refine G.op1 (op_loadAP (ds := [.v (.int .i64 x9.Kind), .v (.int .i64 x9.Client), .v (.int .i64 x9.Site), .v (.int .i64 x9.To), .v (.int .i64 x9.At), .v (.int .i64 x9.How), .v (.string x9.Key), .v (.string x9.Value), .sl 1 (List.map encS x9.Keys), .sl 2 (List.map encApi_Range x9.Row.Ranges), .sl 1 (List.map encI_i64 x9.Row.Owners), .sl 1 (List.map encI_i64 x9.Row.Parents)]) Tryd.underlying30 rfl ti30 rfl (Ev.t 5 (.ptr 1005 0)) rfl) rfl ⟨rfl, trivial⟩ ⟨rfl, trivial⟩ ?_
      obtain ⟨r12, hr12, hF⟩ := bindS hF
      refine G.op1 (op_callQ (sv := .one (bS r12)) cf17 (ct_words_line x9 r12 hr12) rfl rfl (EvQL.cons (EvQ.g (Ev.t 15 (.g (.agg [.v (.int .i64 x9.Kind), .v (.int .i64 x9.Client), .v (.int .i64 x9.Site), .v (.int .i64 x9.To), .v (.int .i64 x9.At), .v (.int .i64 x9.How), .v (.string x9.Key), .v (.string x9.Value), .sl 1 (List.map encS x9.Keys), .sl 2 (List.map encApi_Range x9.Row.Ranges), .sl 1 (List.map encI_i64 x9.Row.Owners), .sl 1 (List.map encI_i64 x9.Row.Parents)])))) EvQL.nil) rfl) rfl ⟨rfl, trivial⟩ trivial ?_
      obtain ⟨r13, hr13, hF⟩ := bindS hF
      refine G.opM (op_callM (k := 1003) (h := .bld 54 5 v4.2) (h' := .bld 54 5 r13) 3003 (sv := .tup [bI .i64 (r12.size : Int), .g (.d (.v .nilIface))]) cf19 (ct_bld_WriteString v4.2 r12 r13 hr13) rfl rfl (EvM.pt (Ev.t 3 (.ptr 1003 0)) (EvM.g (Ev.t 16 (bS r12)) EvM.nil)) rfl) rfl ⟨rfl, rfl, trivial⟩ ⟨rfl, rfl, trivial⟩ ?_
      refine G.endOps ?_
      refine G.endBlock ?_
      refine G.region ?_
      refine G.op1 (op_add (Ev.t 8 (bI .i64 v4.1)) (Ev.c _ rfl) rfl) rfl ⟨rfl, trivial⟩ trivial ?_
      refine G.op1 (op_move (Ev.t 18 (bI .i64 (IntKind.wrap .i64 (v4.1 + 1)))) rfl) rfl ⟨rfl, trivial⟩ trivial ?_
      refine G.endOps ?_
      exact G.arr (J5 (IntKind.wrap .i64 (v4.1 + 1), r13) hF) ⟨rfl, rfl, rfl, rfl, trivial⟩ ⟨rfl, rfl, trivial⟩ rfl
  · refine G.cond rfl (fun hx => Bool.noConfusion (hc8.symm.trans hx)) (fun _ => ?_)
    refine G.exit ?_
    refine GX.c ?_
    refine GX.q ?_
    refine GX.bYes ?_
    exact G.arr (J3 v4.2 hF) ⟨rfl, trivial⟩ ⟨rfl, rfl, trivial⟩ rfl


set_option maxRecDepth 20000 in
set_option maxHeartbeats 2000000 in
theorem ct_law24_awake (r : Bool) (hF : law24_awake = some r) : CtG Tryd.prog Γ0 7 [] (.one (.d (.v (.bool r)))) := by
  unfold law24_awake at hF
  refine CtG.intro (GL.ok _ _ _) Tryd.func7 rfl Tryd.ntmps7 rfl rfl fun M w hG => ?_
  refine G.seq ?_
  refine G.region ?_
  refine G.op1 (op_assign (Ev.c _ rfl) rfl) rfl trivial trivial ?_
  refine G.endOps ?_
  refine G.seq ?_
  refine G.region ?_
  obtain ⟨r1, hr1, hF⟩ := bindS hF
  refine G.op1 (op_callG (sv := .tup [.g (.d (.sl 12 (List.map encApi_Op r1.1))), bI .i64 r1.2]) hG cf11 (ct_words_Parse (ByteArray.mk #[112, 117, 116, 32, 48, 32, 97, 32, 34, 120, 92, 48, 97, 34, 10, 35, 32, 110, 111, 32, 115, 116, 101, 112, 10]) r1 hr1) rfl (EvL.cons (Ev.c _ rfl) EvL.nil) rfl) rfl trivial trivial ?_
  refine G.op1 (op_moveS (t := 4) (sv := .tup [.g (.d (.sl 12 (List.map encApi_Op r1.1))), bI .i64 r1.2]) rfl) rfl ⟨rfl, trivial⟩ trivial ?_
  refine G.op1 (op_extract (l := [.g (.d (.sl 12 (List.map encApi_Op r1.1))), bI .i64 r1.2]) (c := .g (.d (.sl 12 (List.map encApi_Op r1.1)))) rfl rfl) rfl ⟨rfl, trivial⟩ trivial ?_
  refine G.op1 (op_extract (l := [.g (.d (.sl 12 (List.map encApi_Op r1.1))), bI .i64 r1.2]) (c := bI .i64 r1.2) rfl rfl) rfl ⟨rfl, trivial⟩ trivial ?_
  refine G.op1 (op_assign (Ev.t 5 (.g (.d (.sl 12 (List.map encApi_Op r1.1))))) rfl) rfl ⟨rfl, trivial⟩ trivial ?_
  refine G.op1 (op_assign (Ev.t 6 (bI .i64 r1.2)) rfl) rfl ⟨rfl, trivial⟩ trivial ?_
  refine G.endOps ?_
  refine G.seq ?_
  refine G.region ?_
  refine G.op1 (op_move (Ev.t 2 (bI .i64 r1.2)) rfl) rfl ⟨rfl, trivial⟩ trivial ?_
  refine G.op1 (op_eqI (Ev.t 7 (bI .i64 r1.2)) (Ev.c _ rfl) rfl) rfl ⟨rfl, trivial⟩ trivial ?_
  refine G.op1 (op_move (Ev.t 8 (bB (decide (r1.2 = 0)))) rfl) rfl ⟨rfl, trivial⟩ trivial ?_
  refine G.joinL (T := Bool) 4 (fun y2 => ⟨[(1, .one (.g (.d (.sl 12 (List.map encApi_Op r1.1))))), (13, .one (bB y2))], []⟩) (fun y2 => law24_awake_k1 r1 y2 = some r) (fun y2 hF => ?_) (fun J18 => ?_)
  · unfold law24_awake_k1 at hF
    refine G.op1 (op_move (Ev.t 13 (bB y2)) rfl) rfl ⟨rfl, trivial⟩ trivial ?_
    refine G.joinL (T := Bool) 6 (fun y3 => ⟨[(1, .one (.g (.d (.sl 12 (List.map encApi_Op r1.1))))), (20, .one (bB y3))], []⟩) (fun y3 => law24_awake_k2 r1 y3 = some r) (fun y3 hF => ?_) (fun J15 => ?_)
    · unfold law24_awake_k2 at hF
      refine G.op1 (op_move (Ev.t 20 (bB y3)) rfl) rfl ⟨rfl, trivial⟩ trivial ?_
      refine G.joinL (T := Bool) 6 (fun y4 => ⟨[(1, .one (.g (.d (.sl 12 (List.map encApi_Op r1.1))))), (27, .one (bB y4))], []⟩) (fun y4 => law24_awake_k3 r1 y4 = some r) (fun y4 hF => ?_) (fun J12 => ?_)
      · unfold law24_awake_k3 at hF
        refine G.op1 (op_move (Ev.t 27 (bB y4)) rfl) rfl ⟨rfl, trivial⟩ trivial ?_
        refine G.joinL (T := Bool) 5 (fun y5 => ⟨[(1, .one (.g (.d (.sl 12 (List.map encApi_Op r1.1))))), (33, .one (bB y5))], []⟩) (fun y5 => law24_awake_k4 r1 y5 = some r) (fun y5 hF => ?_) (fun J8 => ?_)
        · unfold law24_awake_k4 at hF
          refine G.op1 (op_move (Ev.t 33 (bB y5)) rfl) rfl ⟨rfl, trivial⟩ trivial ?_
          refine ifS hF (fun hc6 hF => ?_) (fun hc6 hF => ?_)
          · refine G.known (t := 34) hc6 rfl ?_
            refine G.opG1 (op_move (Ev.t 1 (.g (.d (.sl 12 (List.map encApi_Op r1.1))))) rfl) rfl rfl rfl ⟨rfl, trivial⟩ trivial ?_
            obtain ⟨r7, hr7, hF⟩ := bindS hF
            refine G.opG1 (op_callQG (sv := .one (bS r7)) hG cf10 (ct_words_Text r1.1 r7 hr7) rfl rfl (EvQL.cons (EvQ.g (Ev.t 35 (.g (.d (.sl 12 (List.map encApi_Op r1.1)))))) EvQL.nil) rfl) rfl rfl rfl ⟨rfl, trivial⟩ trivial ?_
            refine G.opG1 (op_eqS (Ev.t 36 (bS r7)) (Ev.c _ rfl) rfl) rfl rfl rfl ⟨rfl, trivial⟩ trivial ?_
            refine G.op1 (op_pickT (Ev.t 34 (bB true)) (Ev.t 37 (bB (seq r7 (ByteArray.mk #[112, 117, 116, 32, 48, 32, 34, 97, 34, 32, 34, 120, 92, 48, 97, 34, 10])))) rfl) rfl ⟨rfl, rfl, trivial⟩ trivial ?_
            refine G.op1 (op_assign (Ev.t 38 (bB (seq r7 (ByteArray.mk #[112, 117, 116, 32, 48, 32, 34, 97, 34, 32, 34, 120, 92, 48, 97, 34, 10])))) rfl) rfl ⟨rfl, trivial⟩ trivial ?_
            refine G.endOps ?_
            cases hF
            exact G.ret1 Tryd.results7 (RVar.tmp 0 _) ⟨rfl, trivial⟩ trivial
          · refine G.known (t := 34) hc6 rfl ?_
            refine G.opN1 rfl rfl rfl rfl rfl ?_
            refine G.opN1 rfl rfl rfl rfl rfl ?_
            refine G.opN1 rfl rfl rfl rfl rfl ?_
            refine G.op1 (op_pickF (Ev.t 34 (bB false)) (Ev.c _ rfl) rfl) rfl ⟨rfl, trivial⟩ trivial ?_
            refine G.op1 (op_assign (Ev.t 38 (bB false)) rfl) rfl ⟨rfl, trivial⟩ trivial ?_
            refine G.endOps ?_
            cases hF
            exact G.ret1 Tryd.results7 (RVar.tmp 0 _) ⟨rfl, trivial⟩ trivial
        refine ifS hF (fun hc9 hF => ?_) (fun hc9 hF => ?_)
        · refine G.known (t := 28) hc9 rfl ?_
          refine G.opG1 (op_move (Ev.t 1 (.g (.d (.sl 12 (List.map encApi_Op r1.1))))) rfl) rfl rfl rfl ⟨rfl, trivial⟩ trivial ?_
          obtain ⟨x10, hx10, hF⟩ := bindS hF
          refine G.opG1 (op_index (cs := [.v (.int .i64 x10.Kind), .v (.int .i64 x10.Client), .v (.int .i64 x10.Site), .v (.int .i64 x10.To), .v (.int .i64 x10.At), .v (.int .i64 x10.How), .v (.string x10.Key), .v (.string x10.Value), .sl 1 (List.map encS x10.Keys), .sl 2 (List.map encApi_Range x10.Row.Ranges), .sl 1 (List.map encI_i64 x10.Row.Owners), .sl 1 (List.map encI_i64 x10.Row.Parents)]) Tryd.underlying22 ti30 (idx_ok hx10).1 (idx_get hx10 encApi_Op) (Ev.t 29 (.g (.d (.sl 12 (List.map encApi_Op r1.1))))) (Ev.c _ rfl) rfl) rfl rfl rfl ⟨rfl, trivial⟩ trivial ?_
          refine G.opG1 (op_loadAE (ds := [.v (.int .i64 x10.Kind), .v (.int .i64 x10.Client), .v (.int .i64 x10.Site), .v (.int .i64 x10.To), .v (.int .i64 x10.At), .v (.int .i64 x10.How), .v (.string x10.Key), .v (.string x10.Value), .sl 1 (List.map encS x10.Keys), .sl 2 (List.map encApi_Range x10.Row.Ranges), .sl 1 (List.map encI_i64 x10.Row.Owners), .sl 1 (List.map encI_i64 x10.Row.Parents)]) Tryd.underlying30 rfl ti30 rfl (Ev.t 30 (.ep [.v (.int .i64 x10.Kind), .v (.int .i64 x10.Client), .v (.int .i64 x10.Site), .v (.int .i64 x10.To), .v (.int .i64 x10.At), .v (.int .i64 x10.How), .v (.string x10.Key), .v (.string x10.Value), .sl 1 (List.map encS x10.Keys), .sl 2 (List.map encApi_Range x10.Row.Ranges), .sl 1 (List.map encI_i64 x10.Row.Owners), .sl 1 (List.map encI_i64 x10.Row.Parents)])) rfl) rfl rfl rfl ⟨rfl, trivial⟩ trivial ?_
          obtain ⟨r11, hr11, hF⟩ := bindS hF
          refine G.opG1 (op_callQG (sv := .one (bB r11)) hG cf9 (ct_words_Check x10 r11 hr11) rfl rfl (EvQL.cons (EvQ.g (Ev.t 31 (.g (.agg [.v (.int .i64 x10.Kind), .v (.int .i64 x10.Client), .v (.int .i64 x10.Site), .v (.int .i64 x10.To), .v (.int .i64 x10.At), .v (.int .i64 x10.How), .v (.string x10.Key), .v (.string x10.Value), .sl 1 (List.map encS x10.Keys), .sl 2 (List.map encApi_Range x10.Row.Ranges), .sl 1 (List.map encI_i64 x10.Row.Owners), .sl 1 (List.map encI_i64 x10.Row.Parents)])))) EvQL.nil) rfl) rfl rfl rfl ⟨rfl, trivial⟩ trivial ?_
          refine G.op1 (op_pickT (Ev.t 28 (bB true)) (Ev.t 32 (bB r11)) rfl) rfl ⟨rfl, rfl, trivial⟩ trivial ?_
          exact G.arr (J8 r11 hF) ⟨rfl, rfl, trivial⟩ trivial rfl
        · refine G.known (t := 28) hc9 rfl ?_
          refine G.opN1 rfl rfl rfl rfl rfl ?_
          refine G.opN1 rfl rfl rfl rfl rfl ?_
          refine G.opN1 rfl rfl rfl rfl rfl ?_
          refine G.opN1 rfl rfl rfl rfl rfl ?_
          refine G.op1 (op_pickF (Ev.t 28 (bB false)) (Ev.c _ rfl) rfl) rfl ⟨rfl, trivial⟩ trivial ?_
          exact G.arr (J8 false hF) ⟨rfl, rfl, trivial⟩ trivial rfl
      refine ifS hF (fun hc13 hF => ?_) (fun hc13 hF => ?_)
      · refine G.known (t := 21) hc13 rfl ?_
        refine G.opG1 (op_move (Ev.t 1 (.g (.d (.sl 12 (List.map encApi_Op r1.1))))) rfl) rfl rfl rfl ⟨rfl, trivial⟩ trivial ?_
        obtain ⟨x14, hx14, hF⟩ := bindS hF
        refine G.opG1 (op_index (cs := [.v (.int .i64 x14.Kind), .v (.int .i64 x14.Client), .v (.int .i64 x14.Site), .v (.int .i64 x14.To), .v (.int .i64 x14.At), .v (.int .i64 x14.How), .v (.string x14.Key), .v (.string x14.Value), .sl 1 (List.map encS x14.Keys), .sl 2 (List.map encApi_Range x14.Row.Ranges), .sl 1 (List.map encI_i64 x14.Row.Owners), .sl 1 (List.map encI_i64 x14.Row.Parents)]) Tryd.underlying22 ti30 (idx_ok hx14).1 (idx_get hx14 encApi_Op) (Ev.t 22 (.g (.d (.sl 12 (List.map encApi_Op r1.1))))) (Ev.c _ rfl) rfl) rfl rfl rfl ⟨rfl, trivial⟩ trivial ?_
        refine G.opG1 (op_fieldE (cs' := [.v (.string x14.Value), .sl 1 (List.map encS x14.Keys), .sl 2 (List.map encApi_Range x14.Row.Ranges), .sl 1 (List.map encI_i64 x14.Row.Owners), .sl 1 (List.map encI_i64 x14.Row.Parents)]) Tryd.underlying30 rfl ti9 (by decide) rfl (Ev.t 23 (.ep [.v (.int .i64 x14.Kind), .v (.int .i64 x14.Client), .v (.int .i64 x14.Site), .v (.int .i64 x14.To), .v (.int .i64 x14.At), .v (.int .i64 x14.How), .v (.string x14.Key), .v (.string x14.Value), .sl 1 (List.map encS x14.Keys), .sl 2 (List.map encApi_Range x14.Row.Ranges), .sl 1 (List.map encI_i64 x14.Row.Owners), .sl 1 (List.map encI_i64 x14.Row.Parents)])) rfl) rfl rfl rfl ⟨rfl, trivial⟩ trivial ?_
        refine G.opG1 (op_load1E (c := .v (.string x14.Value)) Tryd.underlying9 rfl rfl (Ev.t 24 (.ep [.v (.string x14.Value), .sl 1 (List.map encS x14.Keys), .sl 2 (List.map encApi_Range x14.Row.Ranges), .sl 1 (List.map encI_i64 x14.Row.Owners), .sl 1 (List.map encI_i64 x14.Row.Parents)])) rfl) rfl rfl rfl ⟨rfl, trivial⟩ trivial ?_
        refine G.opG1 (op_eqS (Ev.t 25 (bS x14.Value)) (Ev.c _ rfl) rfl) rfl rfl rfl ⟨rfl, trivial⟩ trivial ?_
        refine G.op1 (op_pickT (Ev.t 21 (bB true)) (Ev.t 26 (bB (seq x14.Value (ByteArray.mk #[120, 10])))) rfl) rfl ⟨rfl, rfl, trivial⟩ trivial ?_
        exact G.arr (J12 (seq x14.Value (ByteArray.mk #[120, 10])) hF) ⟨rfl, rfl, trivial⟩ trivial rfl
      · refine G.known (t := 21) hc13 rfl ?_
        refine G.opN1 rfl rfl rfl rfl rfl ?_
        refine G.opN1 rfl rfl rfl rfl rfl ?_
        refine G.opN1 rfl rfl rfl rfl rfl ?_
        refine G.opN1 rfl rfl rfl rfl rfl ?_
        refine G.opN1 rfl rfl rfl rfl rfl ?_
        refine G.op1 (op_pickF (Ev.t 21 (bB false)) (Ev.c _ rfl) rfl) rfl ⟨rfl, trivial⟩ trivial ?_
        exact G.arr (J12 false hF) ⟨rfl, rfl, trivial⟩ trivial rfl
    refine ifS hF (fun hc16 hF => ?_) (fun hc16 hF => ?_)
    · refine G.known (t := 14) hc16 rfl ?_
      refine G.opG1 (op_move (Ev.t 1 (.g (.d (.sl 12 (List.map encApi_Op r1.1))))) rfl) rfl rfl rfl ⟨rfl, trivial⟩ trivial ?_
      obtain ⟨x17, hx17, hF⟩ := bindS hF
      refine G.opG1 (op_index (cs := [.v (.int .i64 x17.Kind), .v (.int .i64 x17.Client), .v (.int .i64 x17.Site), .v (.int .i64 x17.To), .v (.int .i64 x17.At), .v (.int .i64 x17.How), .v (.string x17.Key), .v (.string x17.Value), .sl 1 (List.map encS x17.Keys), .sl 2 (List.map encApi_Range x17.Row.Ranges), .sl 1 (List.map encI_i64 x17.Row.Owners), .sl 1 (List.map encI_i64 x17.Row.Parents)]) Tryd.underlying22 ti30 (idx_ok hx17).1 (idx_get hx17 encApi_Op) (Ev.t 15 (.g (.d (.sl 12 (List.map encApi_Op r1.1))))) (Ev.c _ rfl) rfl) rfl rfl rfl ⟨rfl, trivial⟩ trivial ?_
      refine G.opG1 (op_fieldE (cs' := [.v (.string x17.Key), .v (.string x17.Value), .sl 1 (List.map encS x17.Keys), .sl 2 (List.map encApi_Range x17.Row.Ranges), .sl 1 (List.map encI_i64 x17.Row.Owners), .sl 1 (List.map encI_i64 x17.Row.Parents)]) Tryd.underlying30 rfl ti9 (by decide) rfl (Ev.t 16 (.ep [.v (.int .i64 x17.Kind), .v (.int .i64 x17.Client), .v (.int .i64 x17.Site), .v (.int .i64 x17.To), .v (.int .i64 x17.At), .v (.int .i64 x17.How), .v (.string x17.Key), .v (.string x17.Value), .sl 1 (List.map encS x17.Keys), .sl 2 (List.map encApi_Range x17.Row.Ranges), .sl 1 (List.map encI_i64 x17.Row.Owners), .sl 1 (List.map encI_i64 x17.Row.Parents)])) rfl) rfl rfl rfl ⟨rfl, trivial⟩ trivial ?_
      refine G.opG1 (op_load1E (c := .v (.string x17.Key)) Tryd.underlying9 rfl rfl (Ev.t 17 (.ep [.v (.string x17.Key), .v (.string x17.Value), .sl 1 (List.map encS x17.Keys), .sl 2 (List.map encApi_Range x17.Row.Ranges), .sl 1 (List.map encI_i64 x17.Row.Owners), .sl 1 (List.map encI_i64 x17.Row.Parents)])) rfl) rfl rfl rfl ⟨rfl, trivial⟩ trivial ?_
      refine G.opG1 (op_eqS (Ev.t 18 (bS x17.Key)) (Ev.c _ rfl) rfl) rfl rfl rfl ⟨rfl, trivial⟩ trivial ?_
      refine G.op1 (op_pickT (Ev.t 14 (bB true)) (Ev.t 19 (bB (seq x17.Key (ByteArray.mk #[97])))) rfl) rfl ⟨rfl, rfl, trivial⟩ trivial ?_
      exact G.arr (J15 (seq x17.Key (ByteArray.mk #[97])) hF) ⟨rfl, rfl, trivial⟩ trivial rfl
    · refine G.known (t := 14) hc16 rfl ?_
      refine G.opN1 rfl rfl rfl rfl rfl ?_
      refine G.opN1 rfl rfl rfl rfl rfl ?_
      refine G.opN1 rfl rfl rfl rfl rfl ?_
      refine G.opN1 rfl rfl rfl rfl rfl ?_
      refine G.opN1 rfl rfl rfl rfl rfl ?_
      refine G.op1 (op_pickF (Ev.t 14 (bB false)) (Ev.c _ rfl) rfl) rfl ⟨rfl, trivial⟩ trivial ?_
      exact G.arr (J15 false hF) ⟨rfl, rfl, trivial⟩ trivial rfl
  refine ifS hF (fun hc19 hF => ?_) (fun hc19 hF => ?_)
  · refine G.known (t := 9) hc19 rfl ?_
    refine G.opG1 (op_move (Ev.t 1 (.g (.d (.sl 12 (List.map encApi_Op r1.1))))) rfl) rfl rfl rfl ⟨rfl, trivial⟩ trivial ?_
    refine G.opG1 (OpL.cast (op_lenD Tryd.underlying22 (Ev.t 10 (.g (.d (.sl 12 (List.map encApi_Op r1.1))))) rfl) (by rw [List.length_map])) rfl rfl rfl ⟨rfl, trivial⟩ trivial ?_
    refine G.opG1 (op_eqI (Ev.t 11 (bI .i64 (r1.1.length : Int))) (Ev.c _ rfl) rfl) rfl rfl rfl ⟨rfl, trivial⟩ trivial ?_
    refine G.op1 (op_pickT (Ev.t 9 (bB true)) (Ev.t 12 (bB (decide ((r1.1.length : Int) = 1)))) rfl) rfl ⟨rfl, rfl, trivial⟩ trivial ?_
    exact G.arr (J18 (decide ((r1.1.length : Int) = 1)) hF) ⟨rfl, rfl, trivial⟩ trivial rfl
  · refine G.known (t := 9) hc19 rfl ?_
    refine G.opN1 rfl rfl rfl rfl rfl ?_
    refine G.opN1 rfl rfl rfl rfl rfl ?_
    refine G.opN1 rfl rfl rfl rfl rfl ?_
    refine G.op1 (op_pickF (Ev.t 9 (bB false)) (Ev.c _ rfl) rfl) rfl ⟨rfl, trivial⟩ trivial ?_
    exact G.arr (J18 false hF) ⟨rfl, rfl, trivial⟩ trivial rfl


set_option maxRecDepth 20000 in
set_option maxHeartbeats 2000000 in
theorem ct_law24_short (s_0 : ByteArray) (n_1 : Int) (r : ByteArray) (hF : law24_short s_0 n_1 = some r) : Ct Tryd.prog 13 [.g (.d (.v (.string s_0))), .g (.d (.v (.int .i64 n_1)))] (.one (.d (.v (.string r)))) := by
  unfold law24_short at hF
  refine Ct.intro Tryd.func13 rfl Tryd.ntmps13 rfl rfl fun M w => ?_
  refine G.seq ?_
  refine G.region ?_
  refine G.op1 (op_assign (Ev.c _ rfl) rfl) rfl trivial trivial ?_
  refine G.endOps ?_
  refine G.seq ?_
  refine G.seq ?_
  refine G.region ?_
  refine G.op1 (op_move (Ev.t 0 (bS s_0)) rfl) rfl ⟨rfl, trivial⟩ trivial ?_
  refine G.op1 (op_lenS Tryd.underlying9 (Ev.t 5 (bS s_0)) rfl) rfl ⟨rfl, trivial⟩ trivial ?_
  refine G.op1 (op_move (Ev.t 1 (bI .i64 n_1)) rfl) rfl ⟨rfl, trivial⟩ trivial ?_
  refine G.op1 (op_gtr (Ev.t 6 (bI .i64 (s_0.size : Int))) (Ev.t 7 (bI .i64 n_1)) rfl) rfl ⟨rfl, rfl, trivial⟩ trivial ?_
  refine G.endOps ?_
  refine ifS hF (fun hc1 hF => ?_) (fun hc1 hF => ?_)
  · refine G.cond rfl (fun _ => ?_) (fun hx => Bool.noConfusion (hc1.symm.trans hx))
    refine G.seq ?_
    refine G.region ?_
    refine G.op1 (op_move (Ev.t 0 (bS s_0)) rfl) rfl ⟨rfl, trivial⟩ trivial ?_
    refine G.op1 (op_move (Ev.t 1 (bI .i64 n_1)) rfl) rfl ⟨rfl, trivial⟩ trivial ?_
    obtain ⟨s2, hs2, hF⟩ := bindS hF
    refine G.op1 (OpL.cast (op_sliceS (lo := none) (hi := some n_1) Tryd.underlying9 (ssub_ok hs2).1 (ssub_ok hs2).2.1 (ssub_ok hs2).2.2.1 (Ev.t 9 (bS s_0)) EvO.none (EvO.some (Ev.t 10 (bI .i64 n_1))) rfl) (congrArg (fun s => bS s) (ssub_ok hs2).2.2.2)) rfl ⟨rfl, rfl, trivial⟩ trivial ?_
    refine G.op1 (op_assign (Ev.t 11 (bS s2)) rfl) rfl ⟨rfl, trivial⟩ trivial ?_
    refine G.endOps ?_
    cases hF
    exact G.ret1 Tryd.results13 (RVar.tmp 4 _) ⟨rfl, trivial⟩ trivial
  · refine G.cond rfl (fun hx => Bool.noConfusion (hc1.symm.trans hx)) (fun _ => ?_)
    refine G.skip ?_
    refine G.seq ?_
    refine G.region ?_
    refine G.op1 (op_move (Ev.t 0 (bS s_0)) rfl) rfl ⟨rfl, trivial⟩ trivial ?_
    refine G.op1 (op_assign (Ev.t 12 (bS s_0)) rfl) rfl ⟨rfl, trivial⟩ trivial ?_
    refine G.endOps ?_
    cases hF
    exact G.ret1 Tryd.results13 (RVar.tmp 4 _) ⟨rfl, trivial⟩ trivial


set_option maxRecDepth 20000 in
set_option maxHeartbeats 2000000 in
theorem ct_law24_WordsQuote (s_0 : ByteArray) (t_1 : ByteArray) (r : Bool) (hF : law24_WordsQuote s_0 t_1 = some r) : CtG Tryd.prog Γ0 4 [.g (.d (.v (.string s_0))), .g (.d (.v (.string t_1)))] (.one (.d (.v (.bool r)))) := by
  unfold law24_WordsQuote at hF
  refine CtG.intro (GL.ok _ _ _) Tryd.func4 rfl Tryd.ntmps4 rfl rfl fun M w hG => ?_
  refine G.seq ?_
  refine G.region ?_
  refine G.op1 (op_assign (Ev.c _ rfl) rfl) rfl trivial trivial ?_
  refine G.endOps ?_
  refine G.seq ?_
  refine G.region ?_
  obtain ⟨r1, hr1, hF⟩ := bindS hF
  refine G.op1 (op_callQG (sv := .one (bB r1)) hG cf7 (ct_law24_awake r1 hr1) rfl rfl EvQL.nil rfl) rfl trivial trivial ?_
  refine G.op1 (op_assign (Ev.t 12 (bB r1)) rfl) rfl ⟨rfl, trivial⟩ trivial ?_
  refine G.endOps ?_
  refine G.seq ?_
  refine G.region ?_
  refine G.op1 (op_move (Ev.t 0 (bS s_0)) rfl) rfl ⟨rfl, trivial⟩ trivial ?_
  obtain ⟨r2, hr2, hF⟩ := bindS hF
  refine G.op1 (op_callQ (sv := .one (bS r2)) cf13 (ct_law24_short s_0 60 r2 hr2) rfl rfl (EvQL.cons (EvQ.g (Ev.t 13 (bS s_0))) (EvQL.cons (EvQ.g (Ev.c _ rfl)) EvQL.nil)) rfl) rfl ⟨rfl, trivial⟩ trivial ?_
  refine G.op1 (op_assign (Ev.t 14 (bS r2)) rfl) rfl ⟨rfl, trivial⟩ trivial ?_
  refine G.endOps ?_
  refine G.seq ?_
  refine G.region ?_
  refine G.op1 (op_move (Ev.t 1 (bS t_1)) rfl) rfl ⟨rfl, trivial⟩ trivial ?_
  obtain ⟨r3, hr3, hF⟩ := bindS hF
  refine G.op1 (op_callQ (sv := .one (bS r3)) cf13 (ct_law24_short t_1 60 r3 hr3) rfl rfl (EvQL.cons (EvQ.g (Ev.t 15 (bS t_1))) (EvQL.cons (EvQ.g (Ev.c _ rfl)) EvQL.nil)) rfl) rfl ⟨rfl, trivial⟩ trivial ?_
  refine G.op1 (op_assign (Ev.t 16 (bS r3)) rfl) rfl ⟨rfl, trivial⟩ trivial ?_
  refine G.endOps ?_
  refine G.seq ?_
  refine G.region ?_
  refine G.op1 (op_move (Ev.t 0 (bS r2)) rfl) rfl ⟨rfl, trivial⟩ trivial ?_
  obtain ⟨r4, hr4, hF⟩ := bindS hF
  refine G.op1 (op_callQ (sv := .one (bS r4)) cf14 (ct_words_Quote r2 r4 hr4) rfl rfl (EvQL.cons (EvQ.g (Ev.t 17 (bS r2))) EvQL.nil) rfl) rfl ⟨rfl, trivial⟩ trivial ?_
  refine G.op1 (op_assign (Ev.t 18 (bS r4)) rfl) rfl ⟨rfl, trivial⟩ trivial ?_
  refine G.endOps ?_
  refine G.seq ?_
  refine G.seq ?_
  refine G.region ?_
  refine G.op1 (op_assign (Ev.c _ rfl) rfl) rfl trivial trivial ?_
  refine G.endOps ?_
  refine G.joinC (T := Unit) (fun y5 => ⟨[(0, .one (bS r2)), (1, .one (bS r3)), (5, .one (bB r1)), (6, .one (bS r4))], []⟩) (fun y5 => law24_WordsQuote_k1 r1 r2 r3 r4 y5 = some r) (fun y5 hF => ?_) (fun J35 => ?_)
  · unfold law24_WordsQuote_k1 at hF
    refine G.seq ?_
    refine G.region ?_
    refine G.op1 (op_move (Ev.t 6 (bS r4)) rfl) rfl ⟨rfl, trivial⟩ trivial ?_
    obtain ⟨s6, hs6, hF⟩ := bindS hF
    refine G.op1 (OpL.cast (op_cat (scat_ok hs6).1 (Ev.c _ rfl) (Ev.t 36 (bS r4)) rfl) (by rw [(scat_ok hs6).2])) rfl ⟨rfl, trivial⟩ trivial ?_
    obtain ⟨s7, hs7, hF⟩ := bindS hF
    refine G.op1 (OpL.cast (op_cat (scat_ok hs7).1 (Ev.t 37 (bS s6)) (Ev.c _ rfl) rfl) (by rw [(scat_ok hs7).2])) rfl ⟨rfl, trivial⟩ trivial ?_
    refine G.op1 (op_move (Ev.t 1 (bS r3)) rfl) rfl ⟨rfl, trivial⟩ trivial ?_
    obtain ⟨r8, hr8, hF⟩ := bindS hF
    refine G.op1 (op_callQ (sv := .one (bS r8)) cf14 (ct_words_Quote r3 r8 hr8) rfl rfl (EvQL.cons (EvQ.g (Ev.t 39 (bS r3))) EvQL.nil) rfl) rfl ⟨rfl, trivial⟩ trivial ?_
    obtain ⟨s9, hs9, hF⟩ := bindS hF
    refine G.op1 (OpL.cast (op_cat (scat_ok hs9).1 (Ev.t 38 (bS s7)) (Ev.t 40 (bS r8)) rfl) (by rw [(scat_ok hs9).2])) rfl ⟨rfl, rfl, trivial⟩ trivial ?_
    obtain ⟨r10, hr10, hF⟩ := bindS hF
    refine G.op1 (op_callG (sv := .tup [.g (.d (.sl 1 (List.map encS r10.1))), bB r10.2]) hG cf15 (ct_words_Words s9 r10 hr10) rfl (EvL.cons (Ev.t 41 (bS s9)) EvL.nil) rfl) rfl ⟨rfl, trivial⟩ trivial ?_
    refine G.op1 (op_moveS (t := 42) (sv := .tup [.g (.d (.sl 1 (List.map encS r10.1))), bB r10.2]) rfl) rfl ⟨rfl, trivial⟩ trivial ?_
    refine G.op1 (op_extract (l := [.g (.d (.sl 1 (List.map encS r10.1))), bB r10.2]) (c := .g (.d (.sl 1 (List.map encS r10.1)))) rfl rfl) rfl ⟨rfl, trivial⟩ trivial ?_
    refine G.op1 (op_extract (l := [.g (.d (.sl 1 (List.map encS r10.1))), bB r10.2]) (c := bB r10.2) rfl rfl) rfl ⟨rfl, trivial⟩ trivial ?_
    refine G.op1 (op_assign (Ev.t 43 (.g (.d (.sl 1 (List.map encS r10.1))))) rfl) rfl ⟨rfl, trivial⟩ trivial ?_
    refine G.op1 (op_assign (Ev.t 44 (bB r10.2)) rfl) rfl ⟨rfl, trivial⟩ trivial ?_
    refine G.endOps ?_
    refine G.seq ?_
    refine G.region ?_
    refine G.op1 (op_move (Ev.t 6 (bS r4)) rfl) rfl ⟨rfl, trivial⟩ trivial ?_
    refine G.op1 (op_move (Ev.t 1 (bS r3)) rfl) rfl ⟨rfl, trivial⟩ trivial ?_
    obtain ⟨r11, hr11, hF⟩ := bindS hF
    refine G.op1 (op_callQ (sv := .one (bS r11)) cf14 (ct_words_Quote r3 r11 hr11) rfl rfl (EvQL.cons (EvQ.g (Ev.t 47 (bS r3))) EvQL.nil) rfl) rfl ⟨rfl, trivial⟩ trivial ?_
    obtain ⟨s12, hs12, hF⟩ := bindS hF
    refine G.op1 (OpL.cast (op_cat (scat_ok hs12).1 (Ev.t 46 (bS r4)) (Ev.t 48 (bS r11)) rfl) (by rw [(scat_ok hs12).2])) rfl ⟨rfl, rfl, trivial⟩ trivial ?_
    obtain ⟨r13, hr13, hF⟩ := bindS hF
    refine G.op1 (op_callG (sv := .tup [.g (.d (.sl 1 (List.map encS r13.1))), bB r13.2]) hG cf15 (ct_words_Words s12 r13 hr13) rfl (EvL.cons (Ev.t 49 (bS s12)) EvL.nil) rfl) rfl ⟨rfl, trivial⟩ trivial ?_
    refine G.op1 (op_moveS (t := 50) (sv := .tup [.g (.d (.sl 1 (List.map encS r13.1))), bB r13.2]) rfl) rfl ⟨rfl, trivial⟩ trivial ?_
    refine G.op1 (op_extract (l := [.g (.d (.sl 1 (List.map encS r13.1))), bB r13.2]) (c := .g (.d (.sl 1 (List.map encS r13.1)))) rfl rfl) rfl ⟨rfl, trivial⟩ trivial ?_
    refine G.op1 (op_extract (l := [.g (.d (.sl 1 (List.map encS r13.1))), bB r13.2]) (c := bB r13.2) rfl rfl) rfl ⟨rfl, trivial⟩ trivial ?_
    refine G.op1 (op_assign (Ev.t 51 (.g (.d (.sl 1 (List.map encS r13.1))))) rfl) rfl ⟨rfl, trivial⟩ trivial ?_
    refine G.op1 (op_assign (Ev.t 52 (bB r13.2)) rfl) rfl ⟨rfl, trivial⟩ trivial ?_
    refine G.endOps ?_
    refine G.seq ?_
    refine G.region ?_
    refine G.op1 (op_move (Ev.t 5 (bB r1)) rfl) rfl ⟨rfl, trivial⟩ trivial ?_
    refine G.op1 (op_move (Ev.t 53 (bB r1)) rfl) rfl ⟨rfl, trivial⟩ trivial ?_
    refine G.joinL (T := Bool) 2 (fun y14 => ⟨[(0, .one (bS r2)), (1, .one (bS r3)), (6, .one (bS r4)), (8, .one (.g (.d (.sl 1 (List.map encS r10.1))))), (11, .one (bB r13.2)), (56, .one (bB y14))], []⟩) (fun y14 => law24_WordsQuote_k2 r2 r3 r4 r10 r13 y14 = some r) (fun y14 hF => ?_) (fun J33 => ?_)
    · unfold law24_WordsQuote_k2 at hF
      refine G.op1 (op_move (Ev.t 56 (bB y14)) rfl) rfl ⟨rfl, trivial⟩ trivial ?_
      refine G.joinL (T := Bool) 4 (fun y15 => ⟨[(0, .one (bS r2)), (1, .one (bS r3)), (6, .one (bS r4)), (8, .one (.g (.d (.sl 1 (List.map encS r10.1))))), (11, .one (bB r13.2)), (61, .one (bB y15))], []⟩) (fun y15 => law24_WordsQuote_k3 r2 r3 r4 r10 r13 y15 = some r) (fun y15 hF => ?_) (fun J31 => ?_)
      · unfold law24_WordsQuote_k3 at hF
        refine G.op1 (op_move (Ev.t 61 (bB y15)) rfl) rfl ⟨rfl, trivial⟩ trivial ?_
        refine G.joinL (T := Bool) 7 (fun y16 => ⟨[(0, .one (bS r2)), (1, .one (bS r3)), (6, .one (bS r4)), (8, .one (.g (.d (.sl 1 (List.map encS r10.1))))), (11, .one (bB r13.2)), (69, .one (bB y16))], []⟩) (fun y16 => law24_WordsQuote_k4 r2 r3 r4 r10 r13 y16 = some r) (fun y16 hF => ?_) (fun J27 => ?_)
        · unfold law24_WordsQuote_k4 at hF
          refine G.op1 (op_move (Ev.t 69 (bB y16)) rfl) rfl ⟨rfl, trivial⟩ trivial ?_
          refine G.joinL (T := Bool) 7 (fun y17 => ⟨[(0, .one (bS r2)), (1, .one (bS r3)), (6, .one (bS r4)), (11, .one (bB r13.2)), (77, .one (bB y17))], []⟩) (fun y17 => law24_WordsQuote_k5 r2 r3 r4 r13 y17 = some r) (fun y17 hF => ?_) (fun J23 => ?_)
          · unfold law24_WordsQuote_k5 at hF
            refine G.op1 (op_move (Ev.t 77 (bB y17)) rfl) rfl ⟨rfl, trivial⟩ trivial ?_
            refine G.joinL (T := Bool) 3 (fun y18 => ⟨[(0, .one (bS r2)), (1, .one (bS r3)), (6, .one (bS r4)), (81, .one (bB y18))], []⟩) (fun y18 => law24_WordsQuote_k6 r2 r3 r4 y18 = some r) (fun y18 hF => ?_) (fun J21 => ?_)
            · unfold law24_WordsQuote_k6 at hF
              refine G.op1 (op_move (Ev.t 81 (bB y18)) rfl) rfl ⟨rfl, trivial⟩ trivial ?_
              refine ifS hF (fun hc19 hF => ?_) (fun hc19 hF => ?_)
              · refine G.known (t := 82) hc19 rfl ?_
                refine G.opG1 (op_move (Ev.t 1 (bS r3)) rfl) rfl rfl rfl ⟨rfl, trivial⟩ trivial ?_
                obtain ⟨r20, hr20, hF⟩ := bindS hF
                refine G.opG1 (op_callQ (sv := .one (bS r20)) cf14 (ct_words_Quote r3 r20 hr20) rfl rfl (EvQL.cons (EvQ.g (Ev.t 83 (bS r3))) EvQL.nil) rfl) rfl rfl rfl ⟨rfl, trivial⟩ trivial ?_
                refine G.opG1 (op_move (Ev.t 6 (bS r4)) rfl) rfl rfl rfl ⟨rfl, trivial⟩ trivial ?_
                refine G.opG1 (op_eqS (Ev.t 84 (bS r20)) (Ev.t 85 (bS r4)) rfl) rfl rfl rfl ⟨rfl, rfl, trivial⟩ trivial ?_
                refine G.opG1 (op_move (Ev.t 0 (bS r2)) rfl) rfl rfl rfl ⟨rfl, trivial⟩ trivial ?_
                refine G.opG1 (op_move (Ev.t 1 (bS r3)) rfl) rfl rfl rfl ⟨rfl, trivial⟩ trivial ?_
                refine G.opG1 (op_eqS (Ev.t 87 (bS r2)) (Ev.t 88 (bS r3)) rfl) rfl rfl rfl ⟨rfl, rfl, trivial⟩ trivial ?_
                refine G.opG1 (op_eqB Tryd.underlying4 (Ev.t 86 (bB (seq r20 r4))) (Ev.t 89 (bB (seq r2 r3))) rfl) rfl rfl rfl ⟨rfl, rfl, trivial⟩ trivial ?_
                refine G.op1 (op_pickT (Ev.t 82 (bB true)) (Ev.t 90 (bB ((seq r20 r4) == (seq r2 r3)))) rfl) rfl ⟨rfl, rfl, trivial⟩ trivial ?_
                refine G.op1 (op_assign (Ev.t 91 (bB ((seq r20 r4) == (seq r2 r3)))) rfl) rfl ⟨rfl, trivial⟩ trivial ?_
                refine G.endOps ?_
                cases hF
                exact G.ret1 Tryd.results4 (RVar.tmp 4 _) ⟨rfl, trivial⟩ trivial
              · refine G.known (t := 82) hc19 rfl ?_
                refine G.opN1 rfl rfl rfl rfl rfl ?_
                refine G.opN1 rfl rfl rfl rfl rfl ?_
                refine G.opN1 rfl rfl rfl rfl rfl ?_
                refine G.opN1 rfl rfl rfl rfl rfl ?_
                refine G.opN1 rfl rfl rfl rfl rfl ?_
                refine G.opN1 rfl rfl rfl rfl rfl ?_
                refine G.opN1 rfl rfl rfl rfl rfl ?_
                refine G.opN1 rfl rfl rfl rfl rfl ?_
                refine G.op1 (op_pickF (Ev.t 82 (bB false)) (Ev.c _ rfl) rfl) rfl ⟨rfl, trivial⟩ trivial ?_
                refine G.op1 (op_assign (Ev.t 91 (bB false)) rfl) rfl ⟨rfl, trivial⟩ trivial ?_
                refine G.endOps ?_
                cases hF
                exact G.ret1 Tryd.results4 (RVar.tmp 4 _) ⟨rfl, trivial⟩ trivial
            refine ifS hF (fun hc22 hF => ?_) (fun hc22 hF => ?_)
            · refine G.known (t := 78) hc22 rfl ?_
              refine G.opG1 (op_move (Ev.t 11 (bB r13.2)) rfl) rfl rfl rfl ⟨rfl, trivial⟩ trivial ?_
              refine G.opG1 (op_not (Ev.t 79 (bB r13.2)) rfl) rfl rfl rfl ⟨rfl, trivial⟩ trivial ?_
              refine G.op1 (op_pickT (Ev.t 78 (bB true)) (Ev.t 80 (bB (!r13.2))) rfl) rfl ⟨rfl, rfl, trivial⟩ trivial ?_
              exact G.arr (J21 (!r13.2) hF) ⟨rfl, rfl, rfl, rfl, trivial⟩ trivial rfl
            · refine G.known (t := 78) hc22 rfl ?_
              refine G.opN1 rfl rfl rfl rfl rfl ?_
              refine G.opN1 rfl rfl rfl rfl rfl ?_
              refine G.op1 (op_pickF (Ev.t 78 (bB false)) (Ev.c _ rfl) rfl) rfl ⟨rfl, trivial⟩ trivial ?_
              exact G.arr (J21 false hF) ⟨rfl, rfl, rfl, rfl, trivial⟩ trivial rfl
          refine ifS hF (fun hc24 hF => ?_) (fun hc24 hF => ?_)
          · refine G.known (t := 70) hc24 rfl ?_
            refine G.opG1 (op_move (Ev.t 8 (.g (.d (.sl 1 (List.map encS r10.1))))) rfl) rfl rfl rfl ⟨rfl, trivial⟩ trivial ?_
            obtain ⟨x25, hx25, hF⟩ := bindS hF
            refine G.opG1 (op_index (cs := [.v (.string x25)]) Tryd.underlying24 ti9 (idx_ok hx25).1 (idx_get hx25 encS) (Ev.t 71 (.g (.d (.sl 1 (List.map encS r10.1))))) (Ev.c _ rfl) rfl) rfl rfl rfl ⟨rfl, trivial⟩ trivial ?_
            refine G.opG1 (op_load1E (c := .v (.string x25)) Tryd.underlying9 rfl rfl (Ev.t 72 (.ep [.v (.string x25)])) rfl) rfl rfl rfl ⟨rfl, trivial⟩ trivial ?_
            refine G.opG1 (op_move (Ev.t 1 (bS r3)) rfl) rfl rfl rfl ⟨rfl, trivial⟩ trivial ?_
            obtain ⟨s26, hs26, hF⟩ := bindS hF
            refine G.opG1 (OpL.cast (op_cat (scat_ok hs26).1 (Ev.c _ rfl) (Ev.t 74 (bS r3)) rfl) (by rw [(scat_ok hs26).2])) rfl rfl rfl ⟨rfl, trivial⟩ trivial ?_
            refine G.opG1 (op_eqS (Ev.t 73 (bS x25)) (Ev.t 75 (bS s26)) rfl) rfl rfl rfl ⟨rfl, rfl, trivial⟩ trivial ?_
            refine G.op1 (op_pickT (Ev.t 70 (bB true)) (Ev.t 76 (bB (seq x25 s26))) rfl) rfl ⟨rfl, rfl, trivial⟩ trivial ?_
            exact G.arr (J23 (seq x25 s26) hF) ⟨rfl, rfl, rfl, rfl, rfl, trivial⟩ trivial rfl
          · refine G.known (t := 70) hc24 rfl ?_
            refine G.opN1 rfl rfl rfl rfl rfl ?_
            refine G.opN1 rfl rfl rfl rfl rfl ?_
            refine G.opN1 rfl rfl rfl rfl rfl ?_
            refine G.opN1 rfl rfl rfl rfl rfl ?_
            refine G.opN1 rfl rfl rfl rfl rfl ?_
            refine G.opN1 rfl rfl rfl rfl rfl ?_
            refine G.op1 (op_pickF (Ev.t 70 (bB false)) (Ev.c _ rfl) rfl) rfl ⟨rfl, trivial⟩ trivial ?_
            exact G.arr (J23 false hF) ⟨rfl, rfl, rfl, rfl, rfl, trivial⟩ trivial rfl
        refine ifS hF (fun hc28 hF => ?_) (fun hc28 hF => ?_)
        · refine G.known (t := 62) hc28 rfl ?_
          refine G.opG1 (op_move (Ev.t 8 (.g (.d (.sl 1 (List.map encS r10.1))))) rfl) rfl rfl rfl ⟨rfl, trivial⟩ trivial ?_
          obtain ⟨x29, hx29, hF⟩ := bindS hF
          refine G.opG1 (op_index (cs := [.v (.string x29)]) Tryd.underlying24 ti9 (idx_ok hx29).1 (idx_get hx29 encS) (Ev.t 63 (.g (.d (.sl 1 (List.map encS r10.1))))) (Ev.c _ rfl) rfl) rfl rfl rfl ⟨rfl, trivial⟩ trivial ?_
          refine G.opG1 (op_load1E (c := .v (.string x29)) Tryd.underlying9 rfl rfl (Ev.t 64 (.ep [.v (.string x29)])) rfl) rfl rfl rfl ⟨rfl, trivial⟩ trivial ?_
          refine G.opG1 (op_move (Ev.t 0 (bS r2)) rfl) rfl rfl rfl ⟨rfl, trivial⟩ trivial ?_
          obtain ⟨s30, hs30, hF⟩ := bindS hF
          refine G.opG1 (OpL.cast (op_cat (scat_ok hs30).1 (Ev.c _ rfl) (Ev.t 66 (bS r2)) rfl) (by rw [(scat_ok hs30).2])) rfl rfl rfl ⟨rfl, trivial⟩ trivial ?_
          refine G.opG1 (op_eqS (Ev.t 65 (bS x29)) (Ev.t 67 (bS s30)) rfl) rfl rfl rfl ⟨rfl, rfl, trivial⟩ trivial ?_
          refine G.op1 (op_pickT (Ev.t 62 (bB true)) (Ev.t 68 (bB (seq x29 s30))) rfl) rfl ⟨rfl, rfl, trivial⟩ trivial ?_
          exact G.arr (J27 (seq x29 s30) hF) ⟨rfl, rfl, rfl, rfl, rfl, rfl, trivial⟩ trivial rfl
        · refine G.known (t := 62) hc28 rfl ?_
          refine G.opN1 rfl rfl rfl rfl rfl ?_
          refine G.opN1 rfl rfl rfl rfl rfl ?_
          refine G.opN1 rfl rfl rfl rfl rfl ?_
          refine G.opN1 rfl rfl rfl rfl rfl ?_
          refine G.opN1 rfl rfl rfl rfl rfl ?_
          refine G.opN1 rfl rfl rfl rfl rfl ?_
          refine G.op1 (op_pickF (Ev.t 62 (bB false)) (Ev.c _ rfl) rfl) rfl ⟨rfl, trivial⟩ trivial ?_
          exact G.arr (J27 false hF) ⟨rfl, rfl, rfl, rfl, rfl, rfl, trivial⟩ trivial rfl
      refine ifS hF (fun hc32 hF => ?_) (fun hc32 hF => ?_)
      · refine G.known (t := 57) hc32 rfl ?_
        refine G.opG1 (op_move (Ev.t 8 (.g (.d (.sl 1 (List.map encS r10.1))))) rfl) rfl rfl rfl ⟨rfl, trivial⟩ trivial ?_
        refine G.opG1 (OpL.cast (op_lenD Tryd.underlying24 (Ev.t 58 (.g (.d (.sl 1 (List.map encS r10.1))))) rfl) (by rw [List.length_map])) rfl rfl rfl ⟨rfl, trivial⟩ trivial ?_
        refine G.opG1 (op_eqI (Ev.t 59 (bI .i64 (r10.1.length : Int))) (Ev.c _ rfl) rfl) rfl rfl rfl ⟨rfl, trivial⟩ trivial ?_
        refine G.op1 (op_pickT (Ev.t 57 (bB true)) (Ev.t 60 (bB (decide ((r10.1.length : Int) = 2)))) rfl) rfl ⟨rfl, rfl, trivial⟩ trivial ?_
        exact G.arr (J31 (decide ((r10.1.length : Int) = 2)) hF) ⟨rfl, rfl, rfl, rfl, rfl, rfl, trivial⟩ trivial rfl
      · refine G.known (t := 57) hc32 rfl ?_
        refine G.opN1 rfl rfl rfl rfl rfl ?_
        refine G.opN1 rfl rfl rfl rfl rfl ?_
        refine G.opN1 rfl rfl rfl rfl rfl ?_
        refine G.op1 (op_pickF (Ev.t 57 (bB false)) (Ev.c _ rfl) rfl) rfl ⟨rfl, trivial⟩ trivial ?_
        exact G.arr (J31 false hF) ⟨rfl, rfl, rfl, rfl, rfl, rfl, trivial⟩ trivial rfl
    refine ifS hF (fun hc34 hF => ?_) (fun hc34 hF => ?_)
    · refine G.known (t := 54) hc34 rfl ?_
      refine G.opG1 (op_move (Ev.t 9 (bB r10.2)) rfl) rfl rfl rfl ⟨rfl, trivial⟩ trivial ?_
      refine G.op1 (op_pickT (Ev.t 54 (bB true)) (Ev.t 55 (bB r10.2)) rfl) rfl ⟨rfl, rfl, trivial⟩ trivial ?_
      exact G.arr (J33 r10.2 hF) ⟨rfl, rfl, rfl, rfl, rfl, rfl, trivial⟩ trivial rfl
    · refine G.known (t := 54) hc34 rfl ?_
      refine G.opN1 rfl rfl rfl rfl rfl ?_
      refine G.op1 (op_pickF (Ev.t 54 (bB false)) (Ev.c _ rfl) rfl) rfl ⟨rfl, trivial⟩ trivial ?_
      exact G.arr (J33 false hF) ⟨rfl, rfl, rfl, rfl, rfl, rfl, trivial⟩ trivial rfl
  refine G.block ?_
  refine G.keep (sl' := [(0, .one (bS r2)), (1, .one (bS r3)), (5, .one (bB r1)), (6, .one (bS r4)), (7, .one (bI .i64 0))]) (hp' := []) ⟨rfl, rfl, rfl, rfl, rfl, trivial⟩ trivial rfl ?_
  refine G.loopF (fun (v36 : Int) => ⟨[(0, .one (bS r2)), (1, .one (bS r3)), (5, .one (bB r1)), (6, .one (bS r4)), (7, .one (bI .i64 v36))], []⟩) hF rfl (fun K39 again38 v36 J37 hF => ?_)
  unfold law24_WordsQuote_l7 at hF
  refine G.seq ?_
  refine G.seq ?_
  refine G.region ?_
  refine G.op1 (op_move (Ev.t 7 (bI .i64 v36)) rfl) rfl ⟨rfl, trivial⟩ trivial ?_
  refine G.op1 (op_move (Ev.t 6 (bS r4)) rfl) rfl ⟨rfl, trivial⟩ trivial ?_
  refine G.op1 (op_lenS Tryd.underlying9 (Ev.t 20 (bS r4)) rfl) rfl ⟨rfl, trivial⟩ trivial ?_
  refine G.op1 (op_lss (Ev.t 19 (bI .i64 v36)) (Ev.t 21 (bI .i64 (r4.size : Int))) rfl) rfl ⟨rfl, rfl, trivial⟩ trivial ?_
  refine G.endOps ?_
  refine ifS hF (fun hc40 hF => ?_) (fun hc40 hF => ?_)
  · refine G.cond rfl (fun _ => ?_) (fun hx => Bool.noConfusion (hc40.symm.trans hx))
    refine G.skip ?_
    refine G.seq ?_
    refine G.block ?_
    refine G.seq ?_
    refine G.region ?_
    refine G.op1 (op_move (Ev.t 6 (bS r4)) rfl) rfl ⟨rfl, trivial⟩ trivial ?_
    refine G.op1 (op_move (Ev.t 7 (bI .i64 v36)) rfl) rfl ⟨rfl, trivial⟩ trivial ?_
    obtain ⟨b41, hb41, hF⟩ := bindS hF
    refine G.op1 (op_indexS Tryd.underlying9 (sidx_ok hb41).1 (sidx_ok hb41).2 (Ev.t 25 (bS r4)) (Ev.t 26 (bI .i64 v36)) rfl) rfl ⟨rfl, rfl, trivial⟩ trivial ?_
    refine G.op1 (op_lss (Ev.t 27 (bI .u8 (b41.toNat : Int))) (Ev.c _ rfl) rfl) rfl ⟨rfl, trivial⟩ trivial ?_
    refine G.op1 (op_move (Ev.t 28 (bB (decide ((b41.toNat : Int) < 32)))) rfl) rfl ⟨rfl, trivial⟩ trivial ?_
    refine ifS hF (fun hc42 hF => ?_) (fun hc42 hF => ?_)
    · refine G.known (t := 29) hc42 rfl ?_
      refine G.opN1 rfl rfl rfl rfl rfl ?_
      refine G.opN1 rfl rfl rfl rfl rfl ?_
      refine G.opN1 rfl rfl rfl rfl rfl ?_
      refine G.opN1 rfl rfl rfl rfl rfl ?_
      refine G.op1 (op_pickT (Ev.t 29 (bB true)) (Ev.c _ rfl) rfl) rfl ⟨rfl, trivial⟩ trivial ?_
      refine G.endOps ?_
      refine G.condT rfl ?_
      refine G.seq ?_
      refine G.region ?_
      refine G.op1 (op_assign (Ev.c _ rfl) rfl) rfl trivial trivial ?_
      refine G.endOps ?_
      cases hF
      exact G.ret1 Tryd.results4 (RVar.tmp 4 _) ⟨rfl, trivial⟩ trivial
    · refine G.known (t := 29) hc42 rfl ?_
      refine G.opG1 (op_move (Ev.t 6 (bS r4)) rfl) rfl rfl rfl ⟨rfl, trivial⟩ trivial ?_
      refine G.opG1 (op_move (Ev.t 7 (bI .i64 v36)) rfl) rfl rfl rfl ⟨rfl, trivial⟩ trivial ?_
      obtain ⟨b43, hb43, hF⟩ := bindS hF
      refine G.opG1 (op_indexS Tryd.underlying9 (sidx_ok hb43).1 (sidx_ok hb43).2 (Ev.t 30 (bS r4)) (Ev.t 31 (bI .i64 v36)) rfl) rfl rfl rfl ⟨rfl, rfl, trivial⟩ trivial ?_
      refine G.opG1 (op_gtr (Ev.t 32 (bI .u8 (b43.toNat : Int))) (Ev.c _ rfl) rfl) rfl rfl rfl ⟨rfl, trivial⟩ trivial ?_
      refine G.op1 (op_pickF (Ev.t 29 (bB false)) (Ev.t 33 (bB (decide (126 < (b43.toNat : Int))))) rfl) rfl ⟨rfl, rfl, trivial⟩ trivial ?_
      refine G.endOps ?_
      refine ifS hF (fun hc44 hF => ?_) (fun hc44 hF => ?_)
      · refine G.cond rfl (fun _ => ?_) (fun hx => Bool.noConfusion (hc44.symm.trans hx))
        refine G.seq ?_
        refine G.region ?_
        refine G.op1 (op_assign (Ev.c _ rfl) rfl) rfl trivial trivial ?_
        refine G.endOps ?_
        cases hF
        exact G.ret1 Tryd.results4 (RVar.tmp 4 _) ⟨rfl, trivial⟩ trivial
      · refine G.cond rfl (fun hx => Bool.noConfusion (hc44.symm.trans hx)) (fun _ => ?_)
        refine G.skip ?_
        refine G.endBlock ?_
        refine G.region ?_
        refine G.op1 (op_move (Ev.t 7 (bI .i64 v36)) rfl) rfl ⟨rfl, trivial⟩ trivial ?_
        refine G.op1 (op_add (Ev.t 23 (bI .i64 v36)) (Ev.c _ rfl) rfl) rfl ⟨rfl, trivial⟩ trivial ?_
        refine G.op1 (op_assign (Ev.t 24 (bI .i64 (IntKind.wrap .i64 (v36 + 1)))) rfl) rfl ⟨rfl, trivial⟩ trivial ?_
        refine G.endOps ?_
        exact G.arr (J37 (IntKind.wrap .i64 (v36 + 1)) hF) ⟨rfl, rfl, rfl, rfl, rfl, trivial⟩ trivial rfl
  · refine G.cond rfl (fun hx => Bool.noConfusion (hc40.symm.trans hx)) (fun _ => ?_)
    refine G.exit ?_
    refine GX.c ?_
    refine GX.q ?_
    refine GX.bYes ?_
    exact G.arr (J35 () hF) ⟨rfl, rfl, rfl, rfl, trivial⟩ trivial rfl


end Go.Ark
