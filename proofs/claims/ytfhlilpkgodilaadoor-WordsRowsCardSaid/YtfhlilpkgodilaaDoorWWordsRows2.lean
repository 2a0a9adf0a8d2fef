/- Walks, printed by a program of mine: each function of the program computes the typed function of its name. Conditions: none. -/
import Derived.Test.YtfhlilpkgodilaaDoorWWordsRows1
namespace Go.Ark
open Go Go.Ab Go.RowKit Go.Lib Go.Proofs Go.Shelf

set_option maxRecDepth 20000 in
set_option maxHeartbeats 2000000 in
theorem ct_words_reader_row (r_0 : Words_reader) (r : (Words_reader × Api_Row)) (hF : words_reader_row r_0 = some r) : CtM Tryd.prog 48 [.pt (.dat 82 (encWords_reader r_0))] (.dat 82 (encWords_reader r.1)) (.one (.agg (encApi_Row r.2))) := by
  unfold words_reader_row at hF
  refine CtM.intro (h := .dat 82 (encWords_reader r_0)) 0 Tryd.func48 rfl Tryd.ntmps48 rfl rfl rfl rfl (fun M w b go => ?_)
  refine G.seq ?_
  refine G.region ?_
  refine G.op2 (op_alloc (k := 1002) (cs := [.g (.d (.sl 2 (List.map encApi_Range ([] : (List Api_Range))))), .g (.d (.sl 1 (List.map encI_i64 ([] : (List Int))))), .g (.d (.sl 1 (List.map encI_i64 ([] : (List Int)))))]) ti28 ⟨.n 2, .n 1, .n 1, trivial⟩ rfl) rfl trivial ⟨rfl, trivial⟩ ?_
  refine G.endOps ?_
  refine G.scope ?_
  refine G.seq ?_
  refine G.region ?_
  refine G.op2 (op_alloc (k := 1003) (cs := [.g (.d (.v (.slice none 0 0))), .g (.d (.v (.slice none 0 0))), .g (.d (.v (.slice none 0 0)))]) ti28 ⟨.v _ rfl, .v _ rfl, .v _ rfl, trivial⟩ rfl) rfl trivial ⟨rfl, trivial⟩ ?_
  refine G.rowCell (kb := 1003) (kk := 5048) (E := 48) (size := 2) (j := 0) (cs' := [.own 5048 (List.map encApi_Range ([] : List Api_Range)), .g (.d (.v (.slice none 0 0))), .g (.d (.v (.slice none 0 0)))]) rfl rfl rfl rfl rfl rfl ?_
  refine G.rowCell (kb := 1003) (kk := 5049) (E := 3) (size := 1) (j := 1) (cs' := [.own 5048 (List.map encApi_Range ([] : List Api_Range)), .own 5049 (List.map encI_i64 ([] : List Int)), .g (.d (.v (.slice none 0 0)))]) rfl rfl rfl rfl rfl rfl ?_
  refine G.rowCell (kb := 1003) (kk := 5050) (E := 3) (size := 1) (j := 2) (cs' := [.own 5048 (List.map encApi_Range ([] : List Api_Range)), .own 5049 (List.map encI_i64 ([] : List Int)), .own 5050 (List.map encI_i64 ([] : List Int))]) rfl rfl rfl rfl rfl rfl ?_
  refine G.endOps ?_
  refine G.seq ?_
  refine G.region ?_
  refine G.op1 (op_assign (Ev.c _ rfl) rfl) rfl trivial trivial ?_
  refine G.endOps ?_
  refine G.seq ?_
  refine G.label ?_
  refine G.seq ?_
  refine G.joinC (T := (List ByteArray) × Bool × (List Api_Range) × (List Int)) (fun y1 => ⟨[(0, .one (.ptr 0 0)), (2, .one (.ptr 1002 0)), (3, .one (.ptr 1003 0))], [(0, some (.blk 82 [.g (.d (.sl 1 (List.map encS y1.1))), bB y1.2.1])), (1002, some (.blk 28 [.g (.d (.sl 2 (List.map encApi_Range ([] : (List Api_Range))))), .g (.d (.sl 1 (List.map encI_i64 ([] : (List Int))))), .g (.d (.sl 1 (List.map encI_i64 ([] : (List Int)))))])), (1003, some (.blk 28 [.own 5048 (List.map encApi_Range y1.2.2.1), .own 5049 (List.map encI_i64 y1.2.2.2), .own 5050 (List.map encI_i64 ([] : List Int))])), (5048, some (.row 48 2 (List.map encApi_Range y1.2.2.1) false)), (5049, some (.row 3 1 (List.map encI_i64 y1.2.2.2) false)), (5050, some (.row 3 1 (List.map encI_i64 ([] : List Int)) false))]⟩) (fun y1 => words_reader_row_k1 y1 = some r) (fun y1 hF => ?_) (fun J18 => ?_)
  · unfold words_reader_row_k1 at hF
    refine G.seq ?_
    refine G.joinC (T := (List ByteArray) × Bool × (List Int)) (fun y2 => ⟨[(0, .one (.ptr 0 0)), (2, .one (.ptr 1002 0)), (3, .one (.ptr 1003 0))], [(0, some (.blk 82 [.g (.d (.sl 1 (List.map encS y2.1))), bB y2.2.1])), (1002, some (.blk 28 [.g (.d (.sl 2 (List.map encApi_Range ([] : (List Api_Range))))), .g (.d (.sl 1 (List.map encI_i64 ([] : (List Int))))), .g (.d (.sl 1 (List.map encI_i64 ([] : (List Int)))))])), (1003, some (.blk 28 [.own 5048 (List.map encApi_Range y1.2.2.1), .own 5049 (List.map encI_i64 y1.2.2.2), .own 5050 (List.map encI_i64 y2.2.2)])), (5048, some (.row 48 2 (List.map encApi_Range y1.2.2.1) false)), (5049, some (.row 3 1 (List.map encI_i64 y1.2.2.2) false)), (5050, some (.row 3 1 (List.map encI_i64 y2.2.2) false))]⟩) (fun y2 => words_reader_row_k2 y1 y2 = some r) (fun y2 hF => ?_) (fun J5 => ?_)
    · unfold words_reader_row_k2 at hF
      refine G.seq ?_
      refine G.region ?_
      refine G.op1 (op_move (Ev.t 0 (.ptr 0 0)) rfl) rfl ⟨rfl, trivial⟩ trivial ?_
      refine G.op1 (op_move (Ev.t 0 (.ptr 0 0)) rfl) rfl ⟨rfl, trivial⟩ trivial ?_
      refine G.op1 (op_nilCheckP (Ev.t 81 (.ptr 0 0)) rfl) rfl ⟨rfl, trivial⟩ trivial ?_
      refine G.op1 (op_fieldP (off' := 1) Tryd.underlying82 rfl ti4 (by decide) rfl (Ev.t 82 (.ptr 0 0)) rfl) rfl ⟨rfl, trivial⟩ trivial ?_
      refine G.op1 (op_load1P (c := bB y2.2.1) Tryd.underlying4 rfl rfl (Ev.t 83 (.ptr 0 1)) rfl) rfl ⟨rfl, trivial⟩ ⟨rfl, trivial⟩ ?_
      refine G.op1 (op_move (Ev.t 84 (bB y2.2.1)) rfl) rfl ⟨rfl, trivial⟩ trivial ?_
      refine ifS hF (fun hc3 hF => ?_) (fun hc3 hF => ?_)
      · refine G.known (t := 85) hc3 rfl ?_
        refine G.opN1 rfl rfl rfl rfl rfl ?_
        refine G.opN1 rfl rfl rfl rfl rfl ?_
        refine G.opN1 rfl rfl rfl rfl rfl ?_
        refine G.op1 (op_pickT (Ev.t 85 (bB true)) (Ev.c _ rfl) rfl) rfl ⟨rfl, trivial⟩ trivial ?_
        refine G.op1 (op_nilCheckP (Ev.t 80 (.ptr 0 0)) rfl) rfl ⟨rfl, trivial⟩ trivial ?_
        refine G.op1 (op_fieldP (off' := 1) Tryd.underlying82 rfl ti4 (by decide) rfl (Ev.t 90 (.ptr 0 0)) rfl) rfl ⟨rfl, trivial⟩ trivial ?_
        refine G.op3 (op_store1 (cs' := [.g (.d (.sl 1 (List.map encS y2.1))), bB true]) (c := bB true) trivial ti4 rfl rfl (Ev.t 91 (.ptr 0 1)) (Ev.t 89 (bB true))) rfl ⟨rfl, rfl, trivial⟩ ⟨rfl, trivial⟩ ?_
        refine G.endOps ?_
        refine G.seq ?_
        refine G.region ?_
        refine G.viewCell (kb := 1003) (j := 0) (cs' := [.g (.d (.sl 2 (List.map encApi_Range y1.2.2.1))), .own 5049 (List.map encI_i64 y1.2.2.2), .own 5050 (List.map encI_i64 y2.2.2)]) rfl rfl rfl rfl ?_
        refine G.viewCell (kb := 1003) (j := 1) (cs' := [.g (.d (.sl 2 (List.map encApi_Range y1.2.2.1))), .g (.d (.sl 1 (List.map encI_i64 y1.2.2.2))), .own 5050 (List.map encI_i64 y2.2.2)]) rfl rfl rfl rfl ?_
        refine G.viewCell (kb := 1003) (j := 2) (cs' := [.g (.d (.sl 2 (List.map encApi_Range y1.2.2.1))), .g (.d (.sl 1 (List.map encI_i64 y1.2.2.2))), .g (.d (.sl 1 (List.map encI_i64 y2.2.2)))]) rfl rfl rfl rfl ?_
        refine G.op1 (op_loadAP (ds := [.sl 2 (List.map encApi_Range y1.2.2.1), .sl 1 (List.map encI_i64 y1.2.2.2), .sl 1 (List.map encI_i64 y2.2.2)]) Tryd.underlying28 rfl ti28 rfl (Ev.t 3 (.ptr 1003 0)) rfl) rfl ⟨rfl, trivial⟩ ⟨rfl, trivial⟩ ?_
        refine G.op3 (op_storeA (cs' := [.g (.d (.sl 2 (List.map encApi_Range y1.2.2.1))), .g (.d (.sl 1 (List.map encI_i64 y1.2.2.2))), .g (.d (.sl 1 (List.map encI_i64 y2.2.2)))]) ti28 rfl rfl (Ev.t 2 (.ptr 1002 0)) (Ev.t 92 (.g (.agg [.sl 2 (List.map encApi_Range y1.2.2.1), .sl 1 (List.map encI_i64 y1.2.2.2), .sl 1 (List.map encI_i64 y2.2.2)])))) rfl ⟨rfl, rfl, trivial⟩ ⟨rfl, trivial⟩ ?_
        refine G.endOps ?_
        have hF := Option.some.inj hF; subst hF
        exact G.retM (retOK1 Tryd.results48 (RVar.cellA (ds := [.sl 2 (List.map encApi_Range y1.2.2.1), .sl 1 (List.map encI_i64 y1.2.2.2), .sl 1 (List.map encI_i64 y2.2.2)]) Tryd.underlying28 rfl ti28 rfl)) ⟨rfl, trivial⟩ ⟨rfl, trivial⟩ ⟨rfl, trivial⟩
      · refine G.known (t := 85) hc3 rfl ?_
        refine G.viewCell (kb := 1003) (j := 0) (cs' := [.g (.d (.sl 2 (List.map encApi_Range y1.2.2.1))), .own 5049 (List.map encI_i64 y1.2.2.2), .own 5050 (List.map encI_i64 y2.2.2)]) rfl rfl rfl rfl ?_
        refine G.viewCell (kb := 1003) (j := 1) (cs' := [.g (.d (.sl 2 (List.map encApi_Range y1.2.2.1))), .g (.d (.sl 1 (List.map encI_i64 y1.2.2.2))), .own 5050 (List.map encI_i64 y2.2.2)]) rfl rfl rfl rfl ?_
        refine G.viewCell (kb := 1003) (j := 2) (cs' := [.g (.d (.sl 2 (List.map encApi_Range y1.2.2.1))), .g (.d (.sl 1 (List.map encI_i64 y1.2.2.2))), .g (.d (.sl 1 (List.map encI_i64 y2.2.2)))]) rfl rfl rfl rfl ?_
        refine G.opG1 (op_loadAP (ds := [.sl 2 (List.map encApi_Range y1.2.2.1), .sl 1 (List.map encI_i64 y1.2.2.2), .sl 1 (List.map encI_i64 y2.2.2)]) Tryd.underlying28 rfl ti28 rfl (Ev.t 3 (.ptr 1003 0)) rfl) rfl rfl rfl ⟨rfl, trivial⟩ ⟨rfl, trivial⟩ ?_
        obtain ⟨r4, hr4, hF⟩ := bindS hF
        refine G.opG1 (op_callQ (sv := .one (bS r4)) cf35 (ct_wire_RowBytes (Api_Row.mk y1.2.2.1 y1.2.2.2 y2.2.2) r4 hr4) rfl rfl (EvQL.cons (EvQ.g (Ev.t 86 (.g (.agg [.sl 2 (List.map encApi_Range y1.2.2.1), .sl 1 (List.map encI_i64 y1.2.2.2), .sl 1 (List.map encI_i64 y2.2.2)])))) EvQL.nil) rfl) rfl rfl rfl ⟨rfl, trivial⟩ trivial ?_
        refine G.opG1 (op_eqS (Ev.t 87 (bS r4)) (Ev.c _ rfl) rfl) rfl rfl rfl ⟨rfl, trivial⟩ trivial ?_
        refine G.op1 (op_pickF (Ev.t 85 (bB false)) (Ev.t 88 (bB (seq r4 ByteArray.empty))) rfl) rfl ⟨rfl, rfl, trivial⟩ trivial ?_
        refine G.op1 (op_nilCheckP (Ev.t 80 (.ptr 0 0)) rfl) rfl ⟨rfl, trivial⟩ trivial ?_
        refine G.op1 (op_fieldP (off' := 1) Tryd.underlying82 rfl ti4 (by decide) rfl (Ev.t 90 (.ptr 0 0)) rfl) rfl ⟨rfl, trivial⟩ trivial ?_
        refine G.op3 (op_store1 (cs' := [.g (.d (.sl 1 (List.map encS y2.1))), bB (seq r4 ByteArray.empty)]) (c := bB (seq r4 ByteArray.empty)) trivial ti4 rfl rfl (Ev.t 91 (.ptr 0 1)) (Ev.t 89 (bB (seq r4 ByteArray.empty)))) rfl ⟨rfl, rfl, trivial⟩ ⟨rfl, trivial⟩ ?_
        refine G.endOps ?_
        refine G.seq ?_
        refine G.region ?_
        refine G.op1 (op_loadAP (ds := [.sl 2 (List.map encApi_Range y1.2.2.1), .sl 1 (List.map encI_i64 y1.2.2.2), .sl 1 (List.map encI_i64 y2.2.2)]) Tryd.underlying28 rfl ti28 rfl (Ev.t 3 (.ptr 1003 0)) rfl) rfl ⟨rfl, trivial⟩ ⟨rfl, trivial⟩ ?_
        refine G.op3 (op_storeA (cs' := [.g (.d (.sl 2 (List.map encApi_Range y1.2.2.1))), .g (.d (.sl 1 (List.map encI_i64 y1.2.2.2))), .g (.d (.sl 1 (List.map encI_i64 y2.2.2)))]) ti28 rfl rfl (Ev.t 2 (.ptr 1002 0)) (Ev.t 92 (.g (.agg [.sl 2 (List.map encApi_Range y1.2.2.1), .sl 1 (List.map encI_i64 y1.2.2.2), .sl 1 (List.map encI_i64 y2.2.2)])))) rfl ⟨rfl, rfl, trivial⟩ ⟨rfl, trivial⟩ ?_
        refine G.endOps ?_
        have hF := Option.some.inj hF; subst hF
        exact G.retM (retOK1 Tryd.results48 (RVar.cellA (ds := [.sl 2 (List.map encApi_Range y1.2.2.1), .sl 1 (List.map encI_i64 y1.2.2.2), .sl 1 (List.map encI_i64 y2.2.2)]) Tryd.underlying28 rfl ti28 rfl)) ⟨rfl, trivial⟩ ⟨rfl, trivial⟩ ⟨rfl, trivial⟩
    refine G.block ?_
    refine G.keep (sl' := [(0, .one (.ptr 0 0)), (2, .one (.ptr 1002 0)), (3, .one (.ptr 1003 0))]) (hp' := [(0, some (.blk 82 [.g (.d (.sl 1 (List.map encS y1.1))), bB y1.2.1])), (1002, some (.blk 28 [.g (.d (.sl 2 (List.map encApi_Range ([] : (List Api_Range))))), .g (.d (.sl 1 (List.map encI_i64 ([] : (List Int))))), .g (.d (.sl 1 (List.map encI_i64 ([] : (List Int)))))])), (1003, some (.blk 28 [.own 5048 (List.map encApi_Range y1.2.2.1), .own 5049 (List.map encI_i64 y1.2.2.2), .own 5050 (List.map encI_i64 ([] : List Int))])), (5048, some (.row 48 2 (List.map encApi_Range y1.2.2.1) false)), (5049, some (.row 3 1 (List.map encI_i64 y1.2.2.2) false)), (5050, some (.row 3 1 (List.map encI_i64 ([] : List Int)) false))]) ⟨rfl, rfl, rfl, trivial⟩ ⟨rfl, rfl, rfl, rfl, rfl, rfl, trivial⟩ rfl ?_
    refine G.loopF (fun (v6 : (List ByteArray) × Bool × (List Int)) => ⟨[(0, .one (.ptr 0 0)), (2, .one (.ptr 1002 0)), (3, .one (.ptr 1003 0))], [(0, some (.blk 82 [.g (.d (.sl 1 (List.map encS v6.1))), bB v6.2.1])), (1002, some (.blk 28 [.g (.d (.sl 2 (List.map encApi_Range ([] : (List Api_Range))))), .g (.d (.sl 1 (List.map encI_i64 ([] : (List Int))))), .g (.d (.sl 1 (List.map encI_i64 ([] : (List Int)))))])), (1003, some (.blk 28 [.own 5048 (List.map encApi_Range y1.2.2.1), .own 5049 (List.map encI_i64 y1.2.2.2), .own 5050 (List.map encI_i64 v6.2.2)])), (5048, some (.row 48 2 (List.map encApi_Range y1.2.2.1) false)), (5049, some (.row 3 1 (List.map encI_i64 y1.2.2.2) false)), (5050, some (.row 3 1 (List.map encI_i64 v6.2.2) false))]⟩) hF rfl (fun K9 again8 v6 J7 hF => ?_)
    unfold words_reader_row_l3 at hF
    refine G.seq ?_
    refine G.seq ?_
    refine G.region ?_
    refine G.op1 (op_move (Ev.t 0 (.ptr 0 0)) rfl) rfl ⟨rfl, trivial⟩ trivial ?_
    obtain ⟨r10, hr10, hF⟩ := bindS hF
    refine G.opM (op_callM (k := 0) (h := .dat 82 (encWords_reader (Words_reader.mk v6.1 v6.2.1))) (h' := .dat 82 (encWords_reader r10.1)) 0 (sv := .one (bB r10.2)) cf47 (ct_words_reader_more (Words_reader.mk v6.1 v6.2.1) r10 hr10) rfl rfl (EvM.pt (Ev.t 57 (.ptr 0 0)) EvM.nil) rfl) rfl ⟨rfl, trivial⟩ ⟨rfl, trivial⟩ ?_
    refine G.endOps ?_
    refine ifS hF (fun hc11 hF => ?_) (fun hc11 hF => ?_)
    · refine G.cond rfl (fun _ => ?_) (fun hx => Bool.noConfusion (hc11.symm.trans hx))
      refine G.skip ?_
      refine G.block ?_
      refine G.seq ?_
      refine G.seq ?_
      refine G.region ?_
      refine G.op1 (op_move (Ev.t 0 (.ptr 0 0)) rfl) rfl ⟨rfl, trivial⟩ trivial ?_
      refine G.op1 (op_nilCheckP (Ev.t 59 (.ptr 0 0)) rfl) rfl ⟨rfl, trivial⟩ trivial ?_
      refine G.op1 (op_fieldP (off' := 0) Tryd.underlying82 rfl ti24 (by decide) rfl (Ev.t 60 (.ptr 0 0)) rfl) rfl ⟨rfl, trivial⟩ trivial ?_
      refine G.op1 (op_load1P (c := .g (.d (.sl 1 (List.map encS r10.1.words)))) Tryd.underlying24 rfl rfl (Ev.t 61 (.ptr 0 0)) rfl) rfl ⟨rfl, trivial⟩ ⟨rfl, trivial⟩ ?_
      obtain ⟨x12, hx12, hF⟩ := bindS hF
      refine G.op1 (op_index (cs := [.v (.string x12)]) Tryd.underlying24 ti9 (idx_ok hx12).1 (idx_get hx12 encS) (Ev.t 62 (.g (.d (.sl 1 (List.map encS r10.1.words))))) (Ev.c _ rfl) rfl) rfl ⟨rfl, trivial⟩ trivial ?_
      refine G.op1 (op_load1E (c := .v (.string x12)) Tryd.underlying9 rfl rfl (Ev.t 63 (.ep [.v (.string x12)])) rfl) rfl ⟨rfl, trivial⟩ trivial ?_
      refine G.op1 (op_eqS (Ev.t 64 (bS x12)) (Ev.c _ rfl) rfl) rfl ⟨rfl, trivial⟩ trivial ?_
      refine G.endOps ?_
      refine ifS hF (fun hc13 hF => ?_) (fun hc13 hF => ?_)
      · refine G.cond rfl (fun _ => ?_) (fun hx => Bool.noConfusion (hc13.symm.trans hx))
        refine G.seq ?_
        refine G.region ?_
        refine G.op1 (op_move (Ev.t 0 (.ptr 0 0)) rfl) rfl ⟨rfl, trivial⟩ trivial ?_
        obtain ⟨r14, hr14, hF⟩ := bindS hF
        refine G.opM (op_callM (k := 0) (h := .dat 82 (encWords_reader r10.1)) (h' := .dat 82 (encWords_reader r14.1)) 0 (sv := .one (bS r14.2)) cf68 (ct_words_reader_next r10.1 r14 hr14) rfl rfl (EvM.pt (Ev.t 66 (.ptr 0 0)) EvM.nil) rfl) rfl ⟨rfl, trivial⟩ ⟨rfl, trivial⟩ ?_
        refine G.endOps ?_
        refine G.seq ?_
        refine G.region ?_
        refine G.op1 (op_fieldP (off' := 2) Tryd.underlying28 rfl ti26 (by decide) rfl (Ev.t 3 (.ptr 1003 0)) rfl) rfl ⟨rfl, trivial⟩ trivial ?_
        refine G.op1 (op_load1P (c := .own 5050 (List.map encI_i64 v6.2.2)) Tryd.underlying26 rfl rfl (Ev.t 68 (.ptr 1003 2)) rfl) rfl ⟨rfl, trivial⟩ ⟨rfl, trivial⟩ ?_
        refine G.op1 (op_buildSlice (es := List.map encI_i64 [(-1)]) Tryd.underlying26 ti3 rfl rfl (EvP.cons (Ev.c _ rfl) EvP.nil) rfl rfl (by simp [encI_i64]) rfl) rfl trivial trivial ?_
        obtain ⟨l15, hl15, hF⟩ := bindS hF
        refine G.op2 (op_appendO Tryd.underlying26 ti3 rfl (app_map hl15 encI_i64) (app_b1 hl15 encI_i64) (app_b2 hl15 encI_i64) (Ev.t 69 (.own 5050 (List.map encI_i64 v6.2.2))) (Ev.t 70 (.g (.d (.sl 1 (List.map encI_i64 ([(-1)])))))) rfl) rfl ⟨rfl, rfl, trivial⟩ ⟨rfl, trivial⟩ ?_
        refine G.op1 (op_fieldP (off' := 2) Tryd.underlying28 rfl ti26 (by decide) rfl (Ev.t 3 (.ptr 1003 0)) rfl) rfl ⟨rfl, trivial⟩ trivial ?_
        refine G.op3 (op_storeO (cs' := [.own 5048 (List.map encApi_Range y1.2.2.1), .own 5049 (List.map encI_i64 y1.2.2.2), .own 5050 (List.map encI_i64 l15)]) ti26 rfl rfl rfl (Ev.t 72 (.ptr 1003 2)) (Ev.t 71 (.own 5050 (List.map encI_i64 l15)))) rfl ⟨rfl, rfl, trivial⟩ ⟨rfl, rfl, trivial⟩ ?_
        refine G.endOps ?_
        refine G.exit ?_
        refine GX.c ?_
        refine GX.bYes ?_
        exact G.arr (J7 (r14.1.words, r14.1.bad, l15) hF) ⟨rfl, rfl, rfl, trivial⟩ ⟨rfl, rfl, rfl, rfl, rfl, rfl, trivial⟩ rfl
      · refine G.cond rfl (fun hx => Bool.noConfusion (hc13.symm.trans hx)) (fun _ => ?_)
        refine G.skip ?_
        obtain ⟨r16, hr16, hF⟩ := bindS hF
        obtain ⟨l17, hl17, hF⟩ := bindS hF
        refine G.drawnI (deps := [[], [0], [], [2], [2, 3], [0, 1, 2, 3, 4], [0, 1, 2, 3, 4, 5], [0, 1, 2, 3, 4, 5, 6]]) (sl' := [(0, .one (.ptr 0 0)), (2, .one (.ptr 1002 0)), (3, .one (.ptr 1003 0))]) (hp' := [(0, some (.blk 82 [.g (.d (.sl 1 (List.map encS r16.1.words))), bB r16.1.bad])), (1002, some (.blk 28 [.g (.d (.sl 2 (List.map encApi_Range ([] : (List Api_Range))))), .g (.d (.sl 1 (List.map encI_i64 ([] : (List Int))))), .g (.d (.sl 1 (List.map encI_i64 ([] : (List Int)))))])), (1003, some (.blk 28 [.own 5048 (List.map encApi_Range y1.2.2.1), .own 5049 (List.map encI_i64 y1.2.2.2), .own 5050 (List.map encI_i64 l17)])), (5048, some (.row 48 2 (List.map encApi_Range y1.2.2.1) false)), (5049, some (.row 3 1 (List.map encI_i64 y1.2.2.2) false)), (5050, some (.row 3 1 (List.map encI_i64 l17) false))]) (.c (oP rfl rfl (op_fieldP (off' := 2) Tryd.underlying28 rfl ti26 (by decide) rfl (Ev.t 3 (.ptr 1003 0)) rfl)) (.c (oP rfl rfl (op_load1P (c := .own 5050 (List.map encI_i64 v6.2.2)) Tryd.underlying26 rfl rfl (Ev.t 73 (.ptr 1003 2)) rfl)) (.c (oP rfl rfl (op_move (Ev.t 0 (.ptr 0 0)) rfl)) (.c (oP rfl rfl (op_callM (k := 0) (h := .dat 82 (encWords_reader r10.1)) (h' := .dat 82 (encWords_reader r16.1)) 0 (sv := .one (bI .i64 r16.2)) cf45 (ct_words_reader_number r10.1 r16 hr16) rfl rfl (EvM.pt (Ev.t 75 (.ptr 0 0)) EvM.nil) rfl)) (.c (oP rfl rfl (op_buildSlice (es := List.map encI_i64 [r16.2]) Tryd.underlying26 ti3 rfl rfl (EvP.cons (Ev.t 76 (bI .i64 r16.2)) EvP.nil) rfl rfl (by simp [encI_i64]) rfl)) (.c (oP rfl rfl (op_appendO Tryd.underlying26 ti3 rfl (app_map hl17 encI_i64) (app_b1 hl17 encI_i64) (app_b2 hl17 encI_i64) (Ev.t 74 (.own 5050 (List.map encI_i64 v6.2.2))) (Ev.t 77 (.g (.d (.sl 1 (List.map encI_i64 ([r16.2])))))) rfl)) (.c (oP rfl rfl (op_fieldP (off' := 2) Tryd.underlying28 rfl ti26 (by decide) rfl (Ev.t 3 (.ptr 1003 0)) rfl)) (.c (oP rfl rfl (op_storeO (cs' := [.own 5048 (List.map encApi_Range y1.2.2.1), .own 5049 (List.map encI_i64 y1.2.2.2), .own 5050 (List.map encI_i64 l17)]) ti26 rfl rfl rfl (Ev.t 79 (.ptr 1003 2)) (Ev.t 78 (.own 5050 (List.map encI_i64 l17))))) .nil)))))))) follows rfl rfl rfl ⟨⟨rfl, trivial⟩, trivial, ⟨rfl, trivial⟩, ⟨⟨rfl, rfl⟩, trivial⟩, ⟨rfl, trivial⟩, trivial, ⟨rfl, trivial⟩, ⟨⟨rfl, rfl⟩, trivial⟩, ⟨rfl, trivial⟩, trivial, ⟨rfl, rfl, trivial⟩, ⟨⟨rfl, rfl⟩, trivial⟩, ⟨rfl, trivial⟩, trivial, ⟨rfl, rfl, trivial⟩, ⟨⟨rfl, rfl⟩, ⟨rfl, rfl⟩, trivial⟩, trivial⟩ ⟨rfl, rfl, rfl, trivial⟩ ⟨rfl, rfl, rfl, rfl, rfl, rfl, trivial⟩ rfl ?_
        refine G.endBlock ?_
        exact G.arr (J7 (r16.1.words, r16.1.bad, l17) hF) ⟨rfl, rfl, rfl, trivial⟩ ⟨rfl, rfl, rfl, rfl, rfl, rfl, trivial⟩ rfl
    · refine G.cond rfl (fun hx => Bool.noConfusion (hc11.symm.trans hx)) (fun _ => ?_)
      refine G.exit ?_
      refine GX.c ?_
      refine GX.q ?_
      refine GX.bYes ?_
      exact G.arr (J5 (r10.1.words, r10.1.bad, v6.2.2) hF) ⟨rfl, rfl, rfl, trivial⟩ ⟨rfl, rfl, rfl, rfl, rfl, rfl, trivial⟩ rfl
  refine G.block ?_
  refine G.keep (sl' := [(0, .one (.ptr 0 0)), (2, .one (.ptr 1002 0)), (3, .one (.ptr 1003 0)), (4, .one (bS ByteArray.empty))]) (hp' := [(0, some (.blk 82 [.g (.d (.sl 1 (List.map encS r_0.words))), bB r_0.bad])), (1002, some (.blk 28 [.g (.d (.sl 2 (List.map encApi_Range ([] : (List Api_Range))))), .g (.d (.sl 1 (List.map encI_i64 ([] : (List Int))))), .g (.d (.sl 1 (List.map encI_i64 ([] : (List Int)))))])), (1003, some (.blk 28 [.own 5048 (List.map encApi_Range ([] : List Api_Range)), .own 5049 (List.map encI_i64 ([] : List Int)), .own 5050 (List.map encI_i64 ([] : List Int))])), (5048, some (.row 48 2 (List.map encApi_Range ([] : List Api_Range)) false)), (5049, some (.row 3 1 (List.map encI_i64 ([] : List Int)) false)), (5050, some (.row 3 1 (List.map encI_i64 ([] : List Int)) false))]) ⟨rfl, rfl, rfl, rfl, trivial⟩ ⟨rfl, rfl, rfl, rfl, rfl, rfl, trivial⟩ rfl ?_
  refine G.loopF (fun (v19 : ByteArray × (List ByteArray) × Bool × (List Api_Range) × (List Int)) => ⟨[(0, .one (.ptr 0 0)), (2, .one (.ptr 1002 0)), (3, .one (.ptr 1003 0)), (4, .one (bS v19.1))], [(0, some (.blk 82 [.g (.d (.sl 1 (List.map encS v19.2.1))), bB v19.2.2.1])), (1002, some (.blk 28 [.g (.d (.sl 2 (List.map encApi_Range ([] : (List Api_Range))))), .g (.d (.sl 1 (List.map encI_i64 ([] : (List Int))))), .g (.d (.sl 1 (List.map encI_i64 ([] : (List Int)))))])), (1003, some (.blk 28 [.own 5048 (List.map encApi_Range v19.2.2.2.1), .own 5049 (List.map encI_i64 v19.2.2.2.2), .own 5050 (List.map encI_i64 ([] : List Int))])), (5048, some (.row 48 2 (List.map encApi_Range v19.2.2.2.1) false)), (5049, some (.row 3 1 (List.map encI_i64 v19.2.2.2.2) false)), (5050, some (.row 3 1 (List.map encI_i64 ([] : List Int)) false))]⟩) hF rfl (fun K22 again21 v19 J20 hF => ?_)
  unfold words_reader_row_l4 at hF
  refine G.seq ?_
  refine G.seq ?_
  refine G.region ?_
  refine G.op1 (op_move (Ev.t 0 (.ptr 0 0)) rfl) rfl ⟨rfl, trivial⟩ trivial ?_
  refine G.op1 (op_nilCheckP (Ev.t 6 (.ptr 0 0)) rfl) rfl ⟨rfl, trivial⟩ trivial ?_
  refine G.op1 (op_fieldP (off' := 1) Tryd.underlying82 rfl ti4 (by decide) rfl (Ev.t 7 (.ptr 0 0)) rfl) rfl ⟨rfl, trivial⟩ trivial ?_
  refine G.op1 (op_load1P (c := bB v19.2.2.1) Tryd.underlying4 rfl rfl (Ev.t 8 (.ptr 0 1)) rfl) rfl ⟨rfl, trivial⟩ ⟨rfl, trivial⟩ ?_
  refine G.op1 (op_not (Ev.t 9 (bB v19.2.2.1)) rfl) rfl ⟨rfl, trivial⟩ trivial ?_
  refine G.endOps ?_
  refine ifS hF (fun hc23 hF => ?_) (fun hc23 hF => ?_)
  · refine G.cond rfl (fun _ => ?_) (fun hx => Bool.noConfusion (hc23.symm.trans hx))
    refine G.skip ?_
    refine G.block ?_
    refine G.seq ?_
    obtain ⟨r24, hr24, hF⟩ := bindS hF
    obtain ⟨l25, hl25, hF⟩ := bindS hF
    refine G.drawnI (deps := [[], [0], [], [2], [2, 3], [0, 1, 2, 3, 4], [0, 1, 2, 3, 4, 5], [0, 1, 2, 3, 4, 5, 6]]) (sl' := [(0, .one (.ptr 0 0)), (2, .one (.ptr 1002 0)), (3, .one (.ptr 1003 0)), (4, .one (bS v19.1))]) (hp' := [(0, some (.blk 82 [.g (.d (.sl 1 (List.map encS r24.1.words))), bB r24.1.bad])), (1002, some (.blk 28 [.g (.d (.sl 2 (List.map encApi_Range ([] : (List Api_Range))))), .g (.d (.sl 1 (List.map encI_i64 ([] : (List Int))))), .g (.d (.sl 1 (List.map encI_i64 ([] : (List Int)))))])), (1003, some (.blk 28 [.own 5048 (List.map encApi_Range v19.2.2.2.1), .own 5049 (List.map encI_i64 l25), .own 5050 (List.map encI_i64 ([] : List Int))])), (5048, some (.row 48 2 (List.map encApi_Range v19.2.2.2.1) false)), (5049, some (.row 3 1 (List.map encI_i64 l25) false)), (5050, some (.row 3 1 (List.map encI_i64 ([] : List Int)) false))]) (.c (oP rfl rfl (op_fieldP (off' := 1) Tryd.underlying28 rfl ti26 (by decide) rfl (Ev.t 3 (.ptr 1003 0)) rfl)) (.c (oP rfl rfl (op_load1P (c := .own 5049 (List.map encI_i64 v19.2.2.2.2)) Tryd.underlying26 rfl rfl (Ev.t 11 (.ptr 1003 1)) rfl)) (.c (oP rfl rfl (op_move (Ev.t 0 (.ptr 0 0)) rfl)) (.c (oP rfl rfl (op_callM (k := 0) (h := .dat 82 (encWords_reader (Words_reader.mk v19.2.1 v19.2.2.1))) (h' := .dat 82 (encWords_reader r24.1)) 0 (sv := .one (bI .i64 r24.2)) cf45 (ct_words_reader_number (Words_reader.mk v19.2.1 v19.2.2.1) r24 hr24) rfl rfl (EvM.pt (Ev.t 13 (.ptr 0 0)) EvM.nil) rfl)) (.c (oP rfl rfl (op_buildSlice (es := List.map encI_i64 [r24.2]) Tryd.underlying26 ti3 rfl rfl (EvP.cons (Ev.t 14 (bI .i64 r24.2)) EvP.nil) rfl rfl (by simp [encI_i64]) rfl)) (.c (oP rfl rfl (op_appendO Tryd.underlying26 ti3 rfl (app_map hl25 encI_i64) (app_b1 hl25 encI_i64) (app_b2 hl25 encI_i64) (Ev.t 12 (.own 5049 (List.map encI_i64 v19.2.2.2.2))) (Ev.t 15 (.g (.d (.sl 1 (List.map encI_i64 ([r24.2])))))) rfl)) (.c (oP rfl rfl (op_fieldP (off' := 1) Tryd.underlying28 rfl ti26 (by decide) rfl (Ev.t 3 (.ptr 1003 0)) rfl)) (.c (oP rfl rfl (op_storeO (cs' := [.own 5048 (List.map encApi_Range v19.2.2.2.1), .own 5049 (List.map encI_i64 l25), .own 5050 (List.map encI_i64 ([] : List Int))]) ti26 rfl rfl rfl (Ev.t 17 (.ptr 1003 1)) (Ev.t 16 (.own 5049 (List.map encI_i64 l25))))) .nil)))))))) follows rfl rfl rfl ⟨⟨rfl, trivial⟩, trivial, ⟨rfl, trivial⟩, ⟨⟨rfl, rfl⟩, trivial⟩, ⟨rfl, trivial⟩, trivial, ⟨rfl, trivial⟩, ⟨⟨rfl, rfl⟩, trivial⟩, ⟨rfl, trivial⟩, trivial, ⟨rfl, rfl, trivial⟩, ⟨⟨rfl, rfl⟩, trivial⟩, ⟨rfl, trivial⟩, trivial, ⟨rfl, rfl, trivial⟩, ⟨⟨rfl, rfl⟩, ⟨rfl, rfl⟩, trivial⟩, trivial⟩ ⟨rfl, rfl, rfl, rfl, trivial⟩ ⟨rfl, rfl, rfl, rfl, rfl, rfl, trivial⟩ rfl ?_
    refine G.seq ?_
    refine G.seq ?_
    refine G.joinC (T := Bool × (List ByteArray) × Bool) (fun y26 => ⟨[(0, .one (.ptr 0 0)), (2, .one (.ptr 1002 0)), (3, .one (.ptr 1003 0)), (4, .one (bS v19.1)), (26, .one (bB y26.1))], [(0, some (.blk 82 [.g (.d (.sl 1 (List.map encS y26.2.1))), bB y26.2.2])), (1002, some (.blk 28 [.g (.d (.sl 2 (List.map encApi_Range ([] : (List Api_Range))))), .g (.d (.sl 1 (List.map encI_i64 ([] : (List Int))))), .g (.d (.sl 1 (List.map encI_i64 ([] : (List Int)))))])), (1003, some (.blk 28 [.own 5048 (List.map encApi_Range v19.2.2.2.1), .own 5049 (List.map encI_i64 l25), .own 5050 (List.map encI_i64 ([] : List Int))])), (5048, some (.row 48 2 (List.map encApi_Range v19.2.2.2.1) false)), (5049, some (.row 3 1 (List.map encI_i64 l25) false)), (5050, some (.row 3 1 (List.map encI_i64 ([] : List Int)) false))]⟩) (fun y26 => words_reader_row_k5 again21 v19 l25 y26 = some r) (fun y26 hF => ?_) (fun J34 => ?_)
    · unfold words_reader_row_k5 at hF
      refine ifS hF (fun hc27 hF => ?_) (fun hc27 hF => ?_)
      · refine G.cond rfl (fun _ => ?_) (fun hx => Bool.noConfusion (hc27.symm.trans hx))
        refine G.seq ?_
        refine G.region ?_
        refine G.op1 (op_move (Ev.t 0 (.ptr 0 0)) rfl) rfl ⟨rfl, trivial⟩ trivial ?_
        refine G.op1 (op_nilCheckP (Ev.t 27 (.ptr 0 0)) rfl) rfl ⟨rfl, trivial⟩ trivial ?_
        refine G.op1 (op_fieldP (off' := 1) Tryd.underlying82 rfl ti4 (by decide) rfl (Ev.t 28 (.ptr 0 0)) rfl) rfl ⟨rfl, trivial⟩ trivial ?_
        refine G.op3 (op_store1 (cs' := [.g (.d (.sl 1 (List.map encS y26.2.1))), bB true]) (c := bB true) trivial ti4 rfl rfl (Ev.t 29 (.ptr 0 1)) (Ev.c _ rfl)) rfl ⟨rfl, trivial⟩ ⟨rfl, trivial⟩ ?_
        refine G.endOps ?_
        refine G.exit ?_
        refine GX.c ?_
        refine GX.bNo rfl ?_
        refine GX.q ?_
        refine GX.bYes ?_
        exact G.arr (J18 (y26.2.1, true, v19.2.2.2.1, l25) hF) ⟨rfl, rfl, rfl, trivial⟩ ⟨rfl, rfl, rfl, rfl, rfl, rfl, trivial⟩ rfl
      · refine G.cond rfl (fun hx => Bool.noConfusion (hc27.symm.trans hx)) (fun _ => ?_)
        refine G.skip ?_
        refine G.seq ?_
        refine G.seq ?_
        refine G.region ?_
        refine G.op1 (op_move (Ev.t 0 (.ptr 0 0)) rfl) rfl ⟨rfl, trivial⟩ trivial ?_
        refine G.op1 (op_nilCheckP (Ev.t 30 (.ptr 0 0)) rfl) rfl ⟨rfl, trivial⟩ trivial ?_
        refine G.op1 (op_fieldP (off' := 0) Tryd.underlying82 rfl ti24 (by decide) rfl (Ev.t 31 (.ptr 0 0)) rfl) rfl ⟨rfl, trivial⟩ trivial ?_
        refine G.op1 (op_load1P (c := .g (.d (.sl 1 (List.map encS y26.2.1)))) Tryd.underlying24 rfl rfl (Ev.t 32 (.ptr 0 0)) rfl) rfl ⟨rfl, trivial⟩ ⟨rfl, trivial⟩ ?_
        obtain ⟨x28, hx28, hF⟩ := bindS hF
        refine G.op1 (op_index (cs := [.v (.string x28)]) Tryd.underlying24 ti9 (idx_ok hx28).1 (idx_get hx28 encS) (Ev.t 33 (.g (.d (.sl 1 (List.map encS y26.2.1))))) (Ev.c _ rfl) rfl) rfl ⟨rfl, trivial⟩ trivial ?_
        refine G.op1 (op_load1E (c := .v (.string x28)) Tryd.underlying9 rfl rfl (Ev.t 34 (.ep [.v (.string x28)])) rfl) rfl ⟨rfl, trivial⟩ trivial ?_
        refine G.op1 (op_eqS (Ev.t 35 (bS x28)) (Ev.c _ rfl) rfl) rfl ⟨rfl, trivial⟩ trivial ?_
        refine G.endOps ?_
        refine ifS hF (fun hc29 hF => ?_) (fun hc29 hF => ?_)
        · refine G.cond rfl (fun _ => ?_) (fun hx => Bool.noConfusion (hc29.symm.trans hx))
          refine G.seq ?_
          refine G.region ?_
          refine G.op1 (op_move (Ev.t 0 (.ptr 0 0)) rfl) rfl ⟨rfl, trivial⟩ trivial ?_
          obtain ⟨r30, hr30, hF⟩ := bindS hF
          refine G.opM (op_callM (k := 0) (h := .dat 82 (encWords_reader (Words_reader.mk y26.2.1 y26.2.2))) (h' := .dat 82 (encWords_reader r30.1)) 0 (sv := .one (bS r30.2)) cf68 (ct_words_reader_next (Words_reader.mk y26.2.1 y26.2.2) r30 hr30) rfl rfl (EvM.pt (Ev.t 37 (.ptr 0 0)) EvM.nil) rfl) rfl ⟨rfl, trivial⟩ ⟨rfl, trivial⟩ ?_
          refine G.endOps ?_
          refine G.seq ?_
          refine G.region ?_
          refine G.op1 (op_fieldP (off' := 0) Tryd.underlying28 rfl ti25 (by decide) rfl (Ev.t 3 (.ptr 1003 0)) rfl) rfl ⟨rfl, trivial⟩ trivial ?_
          refine G.op1 (op_load1P (c := .own 5048 (List.map encApi_Range v19.2.2.2.1)) Tryd.underlying25 rfl rfl (Ev.t 39 (.ptr 1003 0)) rfl) rfl ⟨rfl, trivial⟩ ⟨rfl, trivial⟩ ?_
          refine G.op1 (op_move (Ev.t 4 (bS v19.1)) rfl) rfl ⟨rfl, trivial⟩ trivial ?_
          refine G.op1 (op_build (zs := [.v (.string ByteArray.empty), .v (.string ByteArray.empty)]) (ds := [.v (.string v19.1), .v (.string ByteArray.empty)]) Tryd.underlying48 ti48 (pl48 _ Tryd.underlying48) ⟨.v _ rfl, .v _ rfl, trivial⟩ (EvP.cons (Ev.t 41 (bS v19.1)) EvP.nil) rfl rfl) rfl ⟨rfl, trivial⟩ trivial ?_
          refine G.op1 (op_buildSlice (es := List.map encApi_Range [(Api_Range.mk v19.1 ByteArray.empty)]) Tryd.underlying25 ti48 rfl rfl (EvP.cons (Ev.t 42 (.g (.agg [.v (.string v19.1), .v (.string ByteArray.empty)]))) EvP.nil) rfl rfl (by simp [encApi_Range]) rfl) rfl ⟨rfl, trivial⟩ trivial ?_
          obtain ⟨l31, hl31, hF⟩ := bindS hF
          refine G.op2 (op_appendO Tryd.underlying25 ti48 rfl (app_map hl31 encApi_Range) (app_b1 hl31 encApi_Range) (app_b2 hl31 encApi_Range) (Ev.t 40 (.own 5048 (List.map encApi_Range v19.2.2.2.1))) (Ev.t 43 (.g (.d (.sl 2 (List.map encApi_Range ([(Api_Range.mk v19.1 ByteArray.empty)])))))) rfl) rfl ⟨rfl, rfl, trivial⟩ ⟨rfl, trivial⟩ ?_
          refine G.op1 (op_fieldP (off' := 0) Tryd.underlying28 rfl ti25 (by decide) rfl (Ev.t 3 (.ptr 1003 0)) rfl) rfl ⟨rfl, trivial⟩ trivial ?_
          refine G.op3 (op_storeO (cs' := [.own 5048 (List.map encApi_Range l31), .own 5049 (List.map encI_i64 l25), .own 5050 (List.map encI_i64 ([] : List Int))]) ti25 rfl rfl rfl (Ev.t 45 (.ptr 1003 0)) (Ev.t 44 (.own 5048 (List.map encApi_Range l31)))) rfl ⟨rfl, rfl, trivial⟩ ⟨rfl, rfl, trivial⟩ ?_
          refine G.endOps ?_
          refine G.exit ?_
          refine GX.c ?_
          refine GX.bNo rfl ?_
          refine GX.q ?_
          refine GX.bYes ?_
          exact G.arr (J18 (r30.1.words, r30.1.bad, l31, l25) hF) ⟨rfl, rfl, rfl, trivial⟩ ⟨rfl, rfl, rfl, rfl, rfl, rfl, trivial⟩ rfl
        · refine G.cond rfl (fun hx => Bool.noConfusion (hc29.symm.trans hx)) (fun _ => ?_)
          refine G.skip ?_
          refine G.seq ?_
          refine G.region ?_
          refine G.op1 (op_move (Ev.t 0 (.ptr 0 0)) rfl) rfl ⟨rfl, trivial⟩ trivial ?_
          obtain ⟨r32, hr32, hF⟩ := bindS hF
          refine G.opM (op_callM (k := 0) (h := .dat 82 (encWords_reader (Words_reader.mk y26.2.1 y26.2.2))) (h' := .dat 82 (encWords_reader r32.1)) 0 (sv := .one (bS r32.2)) cf46 (ct_words_reader_text (Words_reader.mk y26.2.1 y26.2.2) r32 hr32) rfl rfl (EvM.pt (Ev.t 46 (.ptr 0 0)) EvM.nil) rfl) rfl ⟨rfl, trivial⟩ ⟨rfl, trivial⟩ ?_
          refine G.op1 (op_assign (Ev.t 47 (bS r32.2)) rfl) rfl ⟨rfl, trivial⟩ trivial ?_
          refine G.endOps ?_
          refine G.seq ?_
          refine G.region ?_
          refine G.op1 (op_fieldP (off' := 0) Tryd.underlying28 rfl ti25 (by decide) rfl (Ev.t 3 (.ptr 1003 0)) rfl) rfl ⟨rfl, trivial⟩ trivial ?_
          refine G.op1 (op_load1P (c := .own 5048 (List.map encApi_Range v19.2.2.2.1)) Tryd.underlying25 rfl rfl (Ev.t 48 (.ptr 1003 0)) rfl) rfl ⟨rfl, trivial⟩ ⟨rfl, trivial⟩ ?_
          refine G.op1 (op_move (Ev.t 4 (bS v19.1)) rfl) rfl ⟨rfl, trivial⟩ trivial ?_
          refine G.op1 (op_move (Ev.t 5 (bS r32.2)) rfl) rfl ⟨rfl, trivial⟩ trivial ?_
          refine G.op1 (op_build (zs := [.v (.string ByteArray.empty), .v (.string ByteArray.empty)]) (ds := [.v (.string v19.1), .v (.string r32.2)]) Tryd.underlying48 ti48 (pl48 _ Tryd.underlying48) ⟨.v _ rfl, .v _ rfl, trivial⟩ (EvP.cons (Ev.t 50 (bS v19.1)) (EvP.cons (Ev.t 51 (bS r32.2)) EvP.nil)) rfl rfl) rfl ⟨rfl, rfl, trivial⟩ trivial ?_
          refine G.op1 (op_buildSlice (es := List.map encApi_Range [(Api_Range.mk v19.1 r32.2)]) Tryd.underlying25 ti48 rfl rfl (EvP.cons (Ev.t 52 (.g (.agg [.v (.string v19.1), .v (.string r32.2)]))) EvP.nil) rfl rfl (by simp [encApi_Range]) rfl) rfl ⟨rfl, trivial⟩ trivial ?_
          obtain ⟨l33, hl33, hF⟩ := bindS hF
          refine G.op2 (op_appendO Tryd.underlying25 ti48 rfl (app_map hl33 encApi_Range) (app_b1 hl33 encApi_Range) (app_b2 hl33 encApi_Range) (Ev.t 49 (.own 5048 (List.map encApi_Range v19.2.2.2.1))) (Ev.t 53 (.g (.d (.sl 2 (List.map encApi_Range ([(Api_Range.mk v19.1 r32.2)])))))) rfl) rfl ⟨rfl, rfl, trivial⟩ ⟨rfl, trivial⟩ ?_
          refine G.op1 (op_fieldP (off' := 0) Tryd.underlying28 rfl ti25 (by decide) rfl (Ev.t 3 (.ptr 1003 0)) rfl) rfl ⟨rfl, trivial⟩ trivial ?_
          refine G.op3 (op_storeO (cs' := [.own 5048 (List.map encApi_Range l33), .own 5049 (List.map encI_i64 l25), .own 5050 (List.map encI_i64 ([] : List Int))]) ti25 rfl rfl rfl (Ev.t 55 (.ptr 1003 0)) (Ev.t 54 (.own 5048 (List.map encApi_Range l33)))) rfl ⟨rfl, rfl, trivial⟩ ⟨rfl, rfl, trivial⟩ ?_
          refine G.endOps ?_
          refine G.region ?_
          refine G.op1 (op_move (Ev.t 5 (bS r32.2)) rfl) rfl ⟨rfl, trivial⟩ trivial ?_
          refine G.op1 (op_assign (Ev.t 56 (bS r32.2)) rfl) rfl ⟨rfl, trivial⟩ trivial ?_
          refine G.endOps ?_
          refine G.endBlock ?_
          exact G.arr (J20 (r32.2, r32.1.words, r32.1.bad, l33, l25) hF) ⟨rfl, rfl, rfl, rfl, trivial⟩ ⟨rfl, rfl, rfl, rfl, rfl, rfl, trivial⟩ rfl
    refine G.region ?_
    refine G.op1 (op_move (Ev.t 0 (.ptr 0 0)) rfl) rfl ⟨rfl, trivial⟩ trivial ?_
    refine G.op1 (op_nilCheckP (Ev.t 18 (.ptr 0 0)) rfl) rfl ⟨rfl, trivial⟩ trivial ?_
    refine G.op1 (op_fieldP (off' := 1) Tryd.underlying82 rfl ti4 (by decide) rfl (Ev.t 19 (.ptr 0 0)) rfl) rfl ⟨rfl, trivial⟩ trivial ?_
    refine G.op1 (op_load1P (c := bB r24.1.bad) Tryd.underlying4 rfl rfl (Ev.t 20 (.ptr 0 1)) rfl) rfl ⟨rfl, trivial⟩ ⟨rfl, trivial⟩ ?_
    refine G.op1 (op_move (Ev.t 21 (bB r24.1.bad)) rfl) rfl ⟨rfl, trivial⟩ trivial ?_
    refine ifS hF (fun hc35 hF => ?_) (fun hc35 hF => ?_)
    · refine G.known (t := 22) hc35 rfl ?_
      refine G.opN1 rfl rfl rfl rfl rfl ?_
      refine G.opN1 rfl rfl rfl rfl rfl ?_
      refine G.opN1 rfl rfl rfl rfl rfl ?_
      refine G.op1 (op_pickT (Ev.t 22 (bB true)) (Ev.c _ rfl) rfl) rfl ⟨rfl, trivial⟩ trivial ?_
      refine G.endOps ?_
      exact G.arr (J34 (true, r24.1.words, r24.1.bad) hF) ⟨rfl, rfl, rfl, rfl, rfl, trivial⟩ ⟨rfl, rfl, rfl, rfl, rfl, rfl, trivial⟩ rfl
    · refine G.known (t := 22) hc35 rfl ?_
      refine G.opG1 (op_move (Ev.t 0 (.ptr 0 0)) rfl) rfl rfl rfl ⟨rfl, trivial⟩ trivial ?_
      obtain ⟨r36, hr36, hF⟩ := bindS hF
      refine G.opGM (op_callM (k := 0) (h := .dat 82 (encWords_reader r24.1)) (h' := .dat 82 (encWords_reader r36.1)) 0 (sv := .one (bB r36.2)) cf47 (ct_words_reader_more r24.1 r36 hr36) rfl rfl (EvM.pt (Ev.t 23 (.ptr 0 0)) EvM.nil) rfl) rfl rfl rfl ⟨rfl, trivial⟩ ⟨rfl, trivial⟩ ?_
      refine G.opG1 (op_not (Ev.t 24 (bB r36.2)) rfl) rfl rfl rfl ⟨rfl, trivial⟩ trivial ?_
      refine G.op1 (op_pickF (Ev.t 22 (bB false)) (Ev.t 25 (bB (!r36.2))) rfl) rfl ⟨rfl, rfl, trivial⟩ trivial ?_
      refine G.endOps ?_
      exact G.arr (J34 (!r36.2, r36.1.words, r36.1.bad) hF) ⟨rfl, rfl, rfl, rfl, rfl, trivial⟩ ⟨rfl, rfl, rfl, rfl, rfl, rfl, trivial⟩ rfl
  · refine G.cond rfl (fun hx => Bool.noConfusion (hc23.symm.trans hx)) (fun _ => ?_)
    refine G.exit ?_
    refine GX.c ?_
    refine GX.q ?_
    refine GX.bYes ?_
    exact G.arr (J18 (v19.2.1, v19.2.2.1, v19.2.2.2.1, v19.2.2.2.2) hF) ⟨rfl, rfl, rfl, trivial⟩ ⟨rfl, rfl, rfl, rfl, rfl, rfl, trivial⟩ rfl


set_option maxRecDepth 20000 in
set_option maxHeartbeats 2000000 in
theorem ct_words_step (w_0 : (List ByteArray)) (r : (Api_Op × Bool)) (hF : words_step w_0 = some r) : Ct Tryd.prog 23 [.g (.d (.sl 1 (List.map encS w_0)))] (.tup [.agg (encApi_Op r.1), .d (.v (.bool r.2))]) := by
  unfold words_step at hF
  refine Ct.intro Tryd.func23 rfl Tryd.ntmps23 rfl rfl fun M w => ?_
  refine G.seq ?_
  refine G.region ?_
  refine G.op2 (op_alloc (k := 1002) (cs := [bI .i64 0, bI .i64 0, bI .i64 0, bI .i64 0, bI .i64 0, bI .i64 0, bS ByteArray.empty, bS ByteArray.empty, .g (.d (.sl 1 (List.map encS ([] : (List ByteArray))))), .g (.d (.sl 2 (List.map encApi_Range ([] : (List Api_Range))))), .g (.d (.sl 1 (List.map encI_i64 ([] : (List Int))))), .g (.d (.sl 1 (List.map encI_i64 ([] : (List Int)))))]) ti30 ⟨.v _ rfl, .v _ rfl, .v _ rfl, .v _ rfl, .v _ rfl, .v _ rfl, .v _ rfl, .v _ rfl, .n 1, .n 2, .n 1, .n 1, trivial⟩ rfl) rfl trivial ⟨rfl, trivial⟩ ?_
  refine G.op1 (op_assign (Ev.c _ rfl) rfl) rfl trivial trivial ?_
  refine G.endOps ?_
  refine G.seq ?_
  refine G.region ?_
  refine G.op1 (op_move (Ev.t 0 (.g (.d (.sl 1 (List.map encS w_0))))) rfl) rfl ⟨rfl, trivial⟩ trivial ?_
  obtain ⟨l1, hl1, hF⟩ := bindS hF
  refine G.op1 (op_sliceD (lo := some 1) (hi := none) Tryd.underlying24 ti9 (sub_okE hl1 encS).1 (sub_okE hl1 encS).2.1 (Int.le_refl _) (sub_okE hl1 encS).2.2 (Ev.t 6 (.g (.d (.sl 1 (List.map encS w_0))))) (EvO.some (Ev.c _ rfl)) EvO.none rfl) rfl ⟨rfl, trivial⟩ trivial ?_
  refine G.op1 (op_build (zs := [.sl 1 (List.map encS ([] : (List ByteArray))), .v (.bool false)]) (ds := [.sl 1 (List.map encS l1), .v (.bool false)]) Tryd.underlying82 ti82 (pl82 _ Tryd.underlying82) ⟨.n 1, .v _ rfl, trivial⟩ (EvP.cons (Ev.t 7 (.g (.d (.sl 1 (List.map encS l1))))) EvP.nil) rfl rfl) rfl ⟨rfl, trivial⟩ trivial ?_
  refine G.op2 (op_boxA (k := 1009) (Ev.t 8 (.g (.agg [.sl 1 (List.map encS l1), .v (.bool false)]))) rfl) rfl ⟨rfl, trivial⟩ ⟨rfl, trivial⟩ ?_
  refine G.op1 (op_assign (Ev.t 9 (.ptr 1009 0)) rfl) rfl ⟨rfl, trivial⟩ trivial ?_
  refine G.endOps ?_
  refine G.seq ?_
  refine G.region ?_
  refine G.op1 (op_move (Ev.t 0 (.g (.d (.sl 1 (List.map encS w_0))))) rfl) rfl ⟨rfl, trivial⟩ trivial ?_
  obtain ⟨x2, hx2, hF⟩ := bindS hF
  refine G.op1 (op_index (cs := [.v (.string x2)]) Tryd.underlying24 ti9 (idx_ok hx2).1 (idx_get hx2 encS) (Ev.t 10 (.g (.d (.sl 1 (List.map encS w_0))))) (Ev.c _ rfl) rfl) rfl ⟨rfl, trivial⟩ trivial ?_
  refine G.op1 (op_load1E (c := .v (.string x2)) Tryd.underlying9 rfl rfl (Ev.t 11 (.ep [.v (.string x2)])) rfl) rfl ⟨rfl, trivial⟩ trivial ?_
  obtain ⟨r3, hr3, hF⟩ := bindS hF
  refine G.op1 (op_callQ (sv := .one (bI .i64 r3)) cf44 (ct_words_kind x2 r3 hr3) rfl rfl (EvQL.cons (EvQ.g (Ev.t 12 (bS x2))) EvQL.nil) rfl) rfl ⟨rfl, trivial⟩ trivial ?_
  refine G.op1 (op_build (zs := [.v (.int .i64 0), .v (.int .i64 0), .v (.int .i64 0), .v (.int .i64 0), .v (.int .i64 0), .v (.int .i64 0), .v (.string ByteArray.empty), .v (.string ByteArray.empty), .v (.slice none 0 0), .sl 2 (List.map encApi_Range ([] : (List Api_Range))), .sl 1 (List.map encI_i64 ([] : (List Int))), .sl 1 (List.map encI_i64 ([] : (List Int)))]) (ds := [.v (.int .i64 r3), .v (.int .i64 0), .v (.int .i64 0), .v (.int .i64 0), .v (.int .i64 0), .v (.int .i64 0), .v (.string ByteArray.empty), .v (.string ByteArray.empty), .v (.slice none 0 0), .sl 2 (List.map encApi_Range ([] : (List Api_Range))), .sl 1 (List.map encI_i64 ([] : (List Int))), .sl 1 (List.map encI_i64 ([] : (List Int)))]) Tryd.underlying30 ti30 (pl30 _ Tryd.underlying30) ⟨.v _ rfl, .v _ rfl, .v _ rfl, .v _ rfl, .v _ rfl, .v _ rfl, .v _ rfl, .v _ rfl, .v _ rfl, .n 2, .n 1, .n 1, trivial⟩ (EvP.cons (Ev.t 13 (bI .i64 r3)) EvP.nil) rfl rfl) rfl ⟨rfl, trivial⟩ trivial ?_
  refine G.op2 (op_alloc (k := 1005) (cs := [bI .i64 0, bI .i64 0, bI .i64 0, bI .i64 0, bI .i64 0, bI .i64 0, bS ByteArray.empty, bS ByteArray.empty, .g (.d (.v (.slice none 0 0))), .g (.d (.sl 2 (List.map encApi_Range ([] : (List Api_Range))))), .g (.d (.sl 1 (List.map encI_i64 ([] : (List Int))))), .g (.d (.sl 1 (List.map encI_i64 ([] : (List Int)))))]) ti30 ⟨.v _ rfl, .v _ rfl, .v _ rfl, .v _ rfl, .v _ rfl, .v _ rfl, .v _ rfl, .v _ rfl, .v _ rfl, .n 2, .n 1, .n 1, trivial⟩ rfl) rfl trivial ⟨rfl, trivial⟩ ?_
  refine G.op3 (op_storeA (cs' := [bI .i64 r3, bI .i64 0, bI .i64 0, bI .i64 0, bI .i64 0, bI .i64 0, bS ByteArray.empty, bS ByteArray.empty, .g (.d (.v (.slice none 0 0))), .g (.d (.sl 2 (List.map encApi_Range ([] : (List Api_Range))))), .g (.d (.sl 1 (List.map encI_i64 ([] : (List Int))))), .g (.d (.sl 1 (List.map encI_i64 ([] : (List Int)))))]) ti30 rfl rfl (Ev.t 5 (.ptr 1005 0)) (Ev.t 14 (.g (.agg [.v (.int .i64 r3), .v (.int .i64 0), .v (.int .i64 0), .v (.int .i64 0), .v (.int .i64 0), .v (.int .i64 0), .v (.string ByteArray.empty), .v (.string ByteArray.empty), .v (.slice none 0 0), .sl 2 (List.map encApi_Range ([] : (List Api_Range))), .sl 1 (List.map encI_i64 ([] : (List Int))), .sl 1 (List.map encI_i64 ([] : (List Int)))])))) rfl ⟨rfl, rfl, trivial⟩ ⟨rfl, trivial⟩ ?_
  refine G.rowCell (kb := 1005) (kk := 5088) (E := 9) (size := 1) (j := 8) (cs' := [bI .i64 r3, bI .i64 0, bI .i64 0, bI .i64 0, bI .i64 0, bI .i64 0, bS ByteArray.empty, bS ByteArray.empty, .own 5088 (List.map encS ([] : List ByteArray)), .g (.d (.sl 2 (List.map encApi_Range ([] : (List Api_Range))))), .g (.d (.sl 1 (List.map encI_i64 ([] : (List Int))))), .g (.d (.sl 1 (List.map encI_i64 ([] : (List Int)))))]) rfl rfl rfl rfl rfl rfl ?_
  refine G.endOps ?_
  refine G.seq ?_
  refine G.seq ?_
  refine G.region ?_
  refine G.op1 (op_fieldP (off' := 0) Tryd.underlying30 rfl ti3 (by decide) rfl (Ev.t 5 (.ptr 1005 0)) rfl) rfl ⟨rfl, trivial⟩ trivial ?_
  refine G.op1 (op_load1P (c := bI .i64 r3) Tryd.underlying3 rfl rfl (Ev.t 15 (.ptr 1005 0)) rfl) rfl ⟨rfl, trivial⟩ ⟨rfl, trivial⟩ ?_
  refine G.endOps ?_
  refine G.block ?_
  refine G.seq ?_
  refine G.seq ?_
  refine G.region ?_
  refine G.op1 (op_eqI (Ev.t 16 (bI .i64 r3)) (Ev.c _ rfl) rfl) rfl ⟨rfl, trivial⟩ trivial ?_
  refine G.op1 (op_assign (Ev.t 18 (bB (decide (r3 = 1)))) rfl) rfl ⟨rfl, trivial⟩ trivial ?_
  refine G.endOps ?_
  refine G.joinC (T := Bool) (fun y4 => ⟨[(2, .one (.ptr 1002 0)), (4, .one (.ptr 1009 0)), (5, .one (.ptr 1005 0)), (16, .one (bI .i64 r3)), (17, .one (bB y4))], [(1002, some (.blk 30 [bI .i64 0, bI .i64 0, bI .i64 0, bI .i64 0, bI .i64 0, bI .i64 0, bS ByteArray.empty, bS ByteArray.empty, .g (.d (.sl 1 (List.map encS ([] : (List ByteArray))))), .g (.d (.sl 2 (List.map encApi_Range ([] : (List Api_Range))))), .g (.d (.sl 1 (List.map encI_i64 ([] : (List Int))))), .g (.d (.sl 1 (List.map encI_i64 ([] : (List Int)))))])), (1005, some (.blk 30 [bI .i64 r3, bI .i64 0, bI .i64 0, bI .i64 0, bI .i64 0, bI .i64 0, bS ByteArray.empty, bS ByteArray.empty, .own 5088 (List.map encS ([] : List ByteArray)), .g (.d (.sl 2 (List.map encApi_Range ([] : (List Api_Range))))), .g (.d (.sl 1 (List.map encI_i64 ([] : (List Int))))), .g (.d (.sl 1 (List.map encI_i64 ([] : (List Int)))))])), (1009, some (.blk 82 [.g (.d (.sl 1 (List.map encS l1))), bB false])), (5088, some (.row 9 1 (List.map encS ([] : List ByteArray)) false))]⟩) (fun y4 => words_step_k1 l1 r3 y4 = some r) (fun y4 hF => ?_) (fun J52 => ?_)
  · unfold words_step_k1 at hF
    refine G.joinC (T := Int × Int × (List ByteArray) × Bool) (fun y5 => ⟨[(2, .one (.ptr 1002 0)), (4, .one (.ptr 1009 0)), (5, .one (.ptr 1005 0))], [(1002, some (.blk 30 [bI .i64 0, bI .i64 0, bI .i64 0, bI .i64 0, bI .i64 0, bI .i64 0, bS ByteArray.empty, bS ByteArray.empty, .g (.d (.sl 1 (List.map encS ([] : (List ByteArray))))), .g (.d (.sl 2 (List.map encApi_Range ([] : (List Api_Range))))), .g (.d (.sl 1 (List.map encI_i64 ([] : (List Int))))), .g (.d (.sl 1 (List.map encI_i64 ([] : (List Int)))))])), (1005, some (.blk 30 [bI .i64 r3, bI .i64 y5.1, bI .i64 y5.2.1, bI .i64 0, bI .i64 0, bI .i64 0, bS ByteArray.empty, bS ByteArray.empty, .own 5088 (List.map encS ([] : List ByteArray)), .g (.d (.sl 2 (List.map encApi_Range ([] : (List Api_Range))))), .g (.d (.sl 1 (List.map encI_i64 ([] : (List Int))))), .g (.d (.sl 1 (List.map encI_i64 ([] : (List Int)))))])), (1009, some (.blk 82 [.g (.d (.sl 1 (List.map encS y5.2.2.1))), bB y5.2.2.2])), (5088, some (.row 9 1 (List.map encS ([] : List ByteArray)) false))]⟩) (fun y5 => words_step_k2 r3 y5 = some r) (fun y5 hF => ?_) (fun J42 => ?_)
    · unfold words_step_k2 at hF
      refine G.endBlock ?_
      refine G.seq ?_
      refine G.seq ?_
      refine G.region ?_
      refine G.op1 (op_fieldP (off' := 0) Tryd.underlying30 rfl ti3 (by decide) rfl (Ev.t 5 (.ptr 1005 0)) rfl) rfl ⟨rfl, trivial⟩ trivial ?_
      refine G.op1 (op_load1P (c := bI .i64 r3) Tryd.underlying3 rfl rfl (Ev.t 38 (.ptr 1005 0)) rfl) rfl ⟨rfl, trivial⟩ ⟨rfl, trivial⟩ ?_
      refine G.endOps ?_
      refine G.joinC (T := Int × Int × Int × Int × ByteArray × ByteArray × (List Api_Range) × (List Int) × (List Int) × (List ByteArray) × Bool × (List ByteArray)) (fun y6 => ⟨[(2, .one (.ptr 1002 0)), (4, .one (.ptr 1009 0)), (5, .one (.ptr 1005 0))], [(1002, some (.blk 30 [bI .i64 0, bI .i64 0, bI .i64 0, bI .i64 0, bI .i64 0, bI .i64 0, bS ByteArray.empty, bS ByteArray.empty, .g (.d (.sl 1 (List.map encS ([] : (List ByteArray))))), .g (.d (.sl 2 (List.map encApi_Range ([] : (List Api_Range))))), .g (.d (.sl 1 (List.map encI_i64 ([] : (List Int))))), .g (.d (.sl 1 (List.map encI_i64 ([] : (List Int)))))])), (1005, some (.blk 30 [bI .i64 r3, bI .i64 y5.1, bI .i64 y6.1, bI .i64 y6.2.1, bI .i64 y6.2.2.1, bI .i64 y6.2.2.2.1, bS y6.2.2.2.2.1, bS y6.2.2.2.2.2.1, .own 5088 (List.map encS y6.2.2.2.2.2.2.2.2.2.2.2), .g (.d (.sl 2 (List.map encApi_Range y6.2.2.2.2.2.2.1))), .g (.d (.sl 1 (List.map encI_i64 y6.2.2.2.2.2.2.2.1))), .g (.d (.sl 1 (List.map encI_i64 y6.2.2.2.2.2.2.2.2.1)))])), (1009, some (.blk 82 [.g (.d (.sl 1 (List.map encS y6.2.2.2.2.2.2.2.2.2.1))), bB y6.2.2.2.2.2.2.2.2.2.2.1])), (5088, some (.row 9 1 (List.map encS y6.2.2.2.2.2.2.2.2.2.2.2) false))]⟩) (fun y6 => words_step_k3 r3 y5 y6 = some r) (fun y6 hF => ?_) (fun J11 => ?_)
      · unfold words_step_k3 at hF
        refine G.seq ?_
        refine G.seq ?_
        refine G.joinC (T := Bool) (fun y7 => ⟨[(2, .one (.ptr 1002 0)), (5, .one (.ptr 1005 0)), (115, .one (bB y7))], [(1002, some (.blk 30 [bI .i64 0, bI .i64 0, bI .i64 0, bI .i64 0, bI .i64 0, bI .i64 0, bS ByteArray.empty, bS ByteArray.empty, .g (.d (.sl 1 (List.map encS ([] : (List ByteArray))))), .g (.d (.sl 2 (List.map encApi_Range ([] : (List Api_Range))))), .g (.d (.sl 1 (List.map encI_i64 ([] : (List Int))))), .g (.d (.sl 1 (List.map encI_i64 ([] : (List Int)))))])), (1005, some (.blk 30 [bI .i64 r3, bI .i64 y5.1, bI .i64 y6.1, bI .i64 y6.2.1, bI .i64 y6.2.2.1, bI .i64 y6.2.2.2.1, bS y6.2.2.2.2.1, bS y6.2.2.2.2.2.1, .own 5088 (List.map encS y6.2.2.2.2.2.2.2.2.2.2.2), .g (.d (.sl 2 (List.map encApi_Range y6.2.2.2.2.2.2.1))), .g (.d (.sl 1 (List.map encI_i64 y6.2.2.2.2.2.2.2.1))), .g (.d (.sl 1 (List.map encI_i64 y6.2.2.2.2.2.2.2.2.1)))])), (5088, some (.row 9 1 (List.map encS y6.2.2.2.2.2.2.2.2.2.2.2) false))]⟩) (fun y7 => words_step_k4 r3 y5 y6 y7 = some r) (fun y7 hF => ?_) (fun J9 => ?_)
        · unfold words_step_k4 at hF
          refine ifS hF (fun hc8 hF => ?_) (fun hc8 hF => ?_)
          · refine G.cond rfl (fun _ => ?_) (fun hx => Bool.noConfusion (hc8.symm.trans hx))
            refine G.seq ?_
            refine G.region ?_
            refine G.op1 (op_build (zs := [.v (.int .i64 0), .v (.int .i64 0), .v (.int .i64 0), .v (.int .i64 0), .v (.int .i64 0), .v (.int .i64 0), .v (.string ByteArray.empty), .v (.string ByteArray.empty), .sl 1 (List.map encS ([] : (List ByteArray))), .sl 2 (List.map encApi_Range ([] : (List Api_Range))), .sl 1 (List.map encI_i64 ([] : (List Int))), .sl 1 (List.map encI_i64 ([] : (List Int)))]) (ds := [.v (.int .i64 0), .v (.int .i64 0), .v (.int .i64 0), .v (.int .i64 0), .v (.int .i64 0), .v (.int .i64 0), .v (.string ByteArray.empty), .v (.string ByteArray.empty), .sl 1 (List.map encS ([] : (List ByteArray))), .sl 2 (List.map encApi_Range ([] : (List Api_Range))), .sl 1 (List.map encI_i64 ([] : (List Int))), .sl 1 (List.map encI_i64 ([] : (List Int)))]) Tryd.underlying30 ti30 (pl30 _ Tryd.underlying30) ⟨.v _ rfl, .v _ rfl, .v _ rfl, .v _ rfl, .v _ rfl, .v _ rfl, .v _ rfl, .v _ rfl, .n 1, .n 2, .n 1, .n 1, trivial⟩ EvP.nil rfl rfl) rfl trivial trivial ?_
            refine G.op3 (op_storeA (cs' := [bI .i64 0, bI .i64 0, bI .i64 0, bI .i64 0, bI .i64 0, bI .i64 0, bS ByteArray.empty, bS ByteArray.empty, .g (.d (.sl 1 (List.map encS ([] : (List ByteArray))))), .g (.d (.sl 2 (List.map encApi_Range ([] : (List Api_Range))))), .g (.d (.sl 1 (List.map encI_i64 ([] : (List Int))))), .g (.d (.sl 1 (List.map encI_i64 ([] : (List Int)))))]) ti30 rfl rfl (Ev.t 2 (.ptr 1002 0)) (Ev.t 116 (.g (.agg [.v (.int .i64 0), .v (.int .i64 0), .v (.int .i64 0), .v (.int .i64 0), .v (.int .i64 0), .v (.int .i64 0), .v (.string ByteArray.empty), .v (.string ByteArray.empty), .sl 1 (List.map encS ([] : (List ByteArray))), .sl 2 (List.map encApi_Range ([] : (List Api_Range))), .sl 1 (List.map encI_i64 ([] : (List Int))), .sl 1 (List.map encI_i64 ([] : (List Int)))])))) rfl ⟨rfl, rfl, trivial⟩ ⟨rfl, trivial⟩ ?_
            refine G.op1 (op_assign (Ev.c _ rfl) rfl) rfl trivial trivial ?_
            refine G.endOps ?_
            cases hF
            exact G.ret2 Tryd.results23 (RVar.cellA (ds := [.v (.int .i64 0), .v (.int .i64 0), .v (.int .i64 0), .v (.int .i64 0), .v (.int .i64 0), .v (.int .i64 0), .v (.string ByteArray.empty), .v (.string ByteArray.empty), .sl 1 (List.map encS ([] : (List ByteArray))), .sl 2 (List.map encApi_Range ([] : (List Api_Range))), .sl 1 (List.map encI_i64 ([] : (List Int))), .sl 1 (List.map encI_i64 ([] : (List Int)))]) Tryd.underlying30 rfl ti30 rfl) (RVar.tmp 3 _) ⟨rfl, rfl, trivial⟩ ⟨rfl, trivial⟩
          · refine G.cond rfl (fun hx => Bool.noConfusion (hc8.symm.trans hx)) (fun _ => ?_)
            refine G.skip ?_
            refine G.seq ?_
            refine G.region ?_
            refine G.viewCell (kb := 1005) (j := 8) (cs' := [bI .i64 r3, bI .i64 y5.1, bI .i64 y6.1, bI .i64 y6.2.1, bI .i64 y6.2.2.1, bI .i64 y6.2.2.2.1, bS y6.2.2.2.2.1, bS y6.2.2.2.2.2.1, .g (.d (.sl 1 (List.map encS y6.2.2.2.2.2.2.2.2.2.2.2))), .g (.d (.sl 2 (List.map encApi_Range y6.2.2.2.2.2.2.1))), .g (.d (.sl 1 (List.map encI_i64 y6.2.2.2.2.2.2.2.1))), .g (.d (.sl 1 (List.map encI_i64 y6.2.2.2.2.2.2.2.2.1)))]) rfl rfl rfl rfl ?_
            refine G.op1 (op_loadAP (ds := [.v (.int .i64 r3), .v (.int .i64 y5.1), .v (.int .i64 y6.1), .v (.int .i64 y6.2.1), .v (.int .i64 y6.2.2.1), .v (.int .i64 y6.2.2.2.1), .v (.string y6.2.2.2.2.1), .v (.string y6.2.2.2.2.2.1), .sl 1 (List.map encS y6.2.2.2.2.2.2.2.2.2.2.2), .sl 2 (List.map encApi_Range y6.2.2.2.2.2.2.1), .sl 1 (List.map encI_i64 y6.2.2.2.2.2.2.2.1), .sl 1 (List.map encI_i64 y6.2.2.2.2.2.2.2.2.1)]) Tryd.underlying30 rfl ti30 rfl (Ev.t 5 (.ptr 1005 0)) rfl) rfl ⟨rfl, trivial⟩ ⟨rfl, trivial⟩ ?_
            refine G.op3 (op_storeA (cs' := [bI .i64 r3, bI .i64 y5.1, bI .i64 y6.1, bI .i64 y6.2.1, bI .i64 y6.2.2.1, bI .i64 y6.2.2.2.1, bS y6.2.2.2.2.1, bS y6.2.2.2.2.2.1, .g (.d (.sl 1 (List.map encS y6.2.2.2.2.2.2.2.2.2.2.2))), .g (.d (.sl 2 (List.map encApi_Range y6.2.2.2.2.2.2.1))), .g (.d (.sl 1 (List.map encI_i64 y6.2.2.2.2.2.2.2.1))), .g (.d (.sl 1 (List.map encI_i64 y6.2.2.2.2.2.2.2.2.1)))]) ti30 rfl rfl (Ev.t 2 (.ptr 1002 0)) (Ev.t 117 (.g (.agg [.v (.int .i64 r3), .v (.int .i64 y5.1), .v (.int .i64 y6.1), .v (.int .i64 y6.2.1), .v (.int .i64 y6.2.2.1), .v (.int .i64 y6.2.2.2.1), .v (.string y6.2.2.2.2.1), .v (.string y6.2.2.2.2.2.1), .sl 1 (List.map encS y6.2.2.2.2.2.2.2.2.2.2.2), .sl 2 (List.map encApi_Range y6.2.2.2.2.2.2.1), .sl 1 (List.map encI_i64 y6.2.2.2.2.2.2.2.1), .sl 1 (List.map encI_i64 y6.2.2.2.2.2.2.2.2.1)])))) rfl ⟨rfl, rfl, trivial⟩ ⟨rfl, trivial⟩ ?_
            refine G.op1 (op_assign (Ev.c _ rfl) rfl) rfl trivial trivial ?_
            refine G.endOps ?_
            cases hF
            exact G.ret2 Tryd.results23 (RVar.cellA (ds := [.v (.int .i64 r3), .v (.int .i64 y5.1), .v (.int .i64 y6.1), .v (.int .i64 y6.2.1), .v (.int .i64 y6.2.2.1), .v (.int .i64 y6.2.2.2.1), .v (.string y6.2.2.2.2.1), .v (.string y6.2.2.2.2.2.1), .sl 1 (List.map encS y6.2.2.2.2.2.2.2.2.2.2.2), .sl 2 (List.map encApi_Range y6.2.2.2.2.2.2.1), .sl 1 (List.map encI_i64 y6.2.2.2.2.2.2.2.1), .sl 1 (List.map encI_i64 y6.2.2.2.2.2.2.2.2.1)]) Tryd.underlying30 rfl ti30 rfl) (RVar.tmp 3 _) ⟨rfl, rfl, trivial⟩ ⟨rfl, trivial⟩
        refine G.region ?_
        refine G.op1 (op_move (Ev.t 4 (.ptr 1009 0)) rfl) rfl ⟨rfl, trivial⟩ trivial ?_
        refine G.op1 (op_nilCheckP (Ev.t 104 (.ptr 1009 0)) rfl) rfl ⟨rfl, trivial⟩ trivial ?_
        refine G.op1 (op_fieldP (off' := 1) Tryd.underlying82 rfl ti4 (by decide) rfl (Ev.t 105 (.ptr 1009 0)) rfl) rfl ⟨rfl, trivial⟩ trivial ?_
        refine G.op1 (op_load1P (c := bB y6.2.2.2.2.2.2.2.2.2.2.1) Tryd.underlying4 rfl rfl (Ev.t 106 (.ptr 1009 1)) rfl) rfl ⟨rfl, trivial⟩ ⟨rfl, trivial⟩ ?_
        refine G.op1 (op_move (Ev.t 107 (bB y6.2.2.2.2.2.2.2.2.2.2.1)) rfl) rfl ⟨rfl, trivial⟩ trivial ?_
        refine ifS hF (fun hc10 hF => ?_) (fun hc10 hF => ?_)
        · refine G.known (t := 108) hc10 rfl ?_
          refine G.opN1 rfl rfl rfl rfl rfl ?_
          refine G.opN1 rfl rfl rfl rfl rfl ?_
          refine G.opN1 rfl rfl rfl rfl rfl ?_
          refine G.opN1 rfl rfl rfl rfl rfl ?_
          refine G.opN1 rfl rfl rfl rfl rfl ?_
          refine G.opN1 rfl rfl rfl rfl rfl ?_
          refine G.op1 (op_pickT (Ev.t 108 (bB true)) (Ev.c _ rfl) rfl) rfl ⟨rfl, trivial⟩ trivial ?_
          refine G.endOps ?_
          exact G.arr (J9 true hF) ⟨rfl, rfl, rfl, trivial⟩ ⟨rfl, rfl, rfl, trivial⟩ rfl
        · refine G.known (t := 108) hc10 rfl ?_
          refine G.opG1 (op_move (Ev.t 4 (.ptr 1009 0)) rfl) rfl rfl rfl ⟨rfl, trivial⟩ trivial ?_
          refine G.opG1 (op_nilCheckP (Ev.t 109 (.ptr 1009 0)) rfl) rfl rfl rfl ⟨rfl, trivial⟩ trivial ?_
          refine G.opG1 (op_fieldP (off' := 0) Tryd.underlying82 rfl ti24 (by decide) rfl (Ev.t 110 (.ptr 1009 0)) rfl) rfl rfl rfl ⟨rfl, trivial⟩ trivial ?_
          refine G.opG1 (op_load1P (c := .g (.d (.sl 1 (List.map encS y6.2.2.2.2.2.2.2.2.2.1)))) Tryd.underlying24 rfl rfl (Ev.t 111 (.ptr 1009 0)) rfl) rfl rfl rfl ⟨rfl, trivial⟩ ⟨rfl, trivial⟩ ?_
          refine G.opG1 (OpL.cast (op_lenD Tryd.underlying24 (Ev.t 112 (.g (.d (.sl 1 (List.map encS y6.2.2.2.2.2.2.2.2.2.1))))) rfl) (by rw [List.length_map])) rfl rfl rfl ⟨rfl, trivial⟩ trivial ?_
          refine G.opG1 (op_gtr (Ev.t 113 (bI .i64 (y6.2.2.2.2.2.2.2.2.2.1.length : Int))) (Ev.c _ rfl) rfl) rfl rfl rfl ⟨rfl, trivial⟩ trivial ?_
          refine G.op1 (op_pickF (Ev.t 108 (bB false)) (Ev.t 114 (bB (decide (0 < (y6.2.2.2.2.2.2.2.2.2.1.length : Int))))) rfl) rfl ⟨rfl, rfl, trivial⟩ trivial ?_
          refine G.endOps ?_
          exact G.arr (J9 (decide (0 < (y6.2.2.2.2.2.2.2.2.2.1.length : Int))) hF) ⟨rfl, rfl, rfl, trivial⟩ ⟨rfl, rfl, rfl, trivial⟩ rfl
      refine G.block ?_
      refine G.seq ?_
      refine G.region ?_
      refine G.op1 (op_eqI (Ev.t 39 (bI .i64 r3)) (Ev.c _ rfl) rfl) rfl ⟨rfl, trivial⟩ trivial ?_
      refine G.op1 (op_assign (Ev.t 41 (bB (decide (r3 = 1)))) rfl) rfl ⟨rfl, trivial⟩ trivial ?_
      refine G.endOps ?_
      refine ifS hF (fun hc12 hF => ?_) (fun hc12 hF => ?_)
      · refine G.cond rfl (fun _ => ?_) (fun hx => Bool.noConfusion (hc12.symm.trans hx))
        refine G.seq ?_
        refine G.region ?_
        refine G.op1 (op_move (Ev.t 4 (.ptr 1009 0)) rfl) rfl ⟨rfl, trivial⟩ trivial ?_
        obtain ⟨r13, hr13, hF⟩ := bindS hF
        refine G.opM (op_callM (k := 1009) (h := .dat 82 (encWords_reader (Words_reader.mk y5.2.2.1 y5.2.2.2))) (h' := .dat 82 (encWords_reader r13.1)) 0 (sv := .one (bS r13.2)) cf46 (ct_words_reader_text (Words_reader.mk y5.2.2.1 y5.2.2.2) r13 hr13) rfl rfl (EvM.pt (Ev.t 42 (.ptr 1009 0)) EvM.nil) rfl) rfl ⟨rfl, trivial⟩ ⟨rfl, trivial⟩ ?_
        refine G.op1 (op_fieldP (off' := 6) Tryd.underlying30 rfl ti9 (by decide) rfl (Ev.t 5 (.ptr 1005 0)) rfl) rfl ⟨rfl, trivial⟩ trivial ?_
        refine G.op3 (op_store1 (cs' := [bI .i64 r3, bI .i64 y5.1, bI .i64 y5.2.1, bI .i64 0, bI .i64 0, bI .i64 0, bS r13.2, bS ByteArray.empty, .own 5088 (List.map encS ([] : List ByteArray)), .g (.d (.sl 2 (List.map encApi_Range ([] : (List Api_Range))))), .g (.d (.sl 1 (List.map encI_i64 ([] : (List Int))))), .g (.d (.sl 1 (List.map encI_i64 ([] : (List Int)))))]) (c := bS r13.2) trivial ti9 rfl rfl (Ev.t 44 (.ptr 1005 6)) (Ev.t 43 (bS r13.2))) rfl ⟨rfl, rfl, trivial⟩ ⟨rfl, trivial⟩ ?_
        refine G.endOps ?_
        refine G.region ?_
        refine G.op1 (op_move (Ev.t 4 (.ptr 1009 0)) rfl) rfl ⟨rfl, trivial⟩ trivial ?_
        obtain ⟨r14, hr14, hF⟩ := bindS hF
        refine G.opM (op_callM (k := 1009) (h := .dat 82 (encWords_reader r13.1)) (h' := .dat 82 (encWords_reader r14.1)) 0 (sv := .one (bS r14.2)) cf46 (ct_words_reader_text r13.1 r14 hr14) rfl rfl (EvM.pt (Ev.t 45 (.ptr 1009 0)) EvM.nil) rfl) rfl ⟨rfl, trivial⟩ ⟨rfl, trivial⟩ ?_
        refine G.op1 (op_fieldP (off' := 7) Tryd.underlying30 rfl ti9 (by decide) rfl (Ev.t 5 (.ptr 1005 0)) rfl) rfl ⟨rfl, trivial⟩ trivial ?_
        refine G.op3 (op_store1 (cs' := [bI .i64 r3, bI .i64 y5.1, bI .i64 y5.2.1, bI .i64 0, bI .i64 0, bI .i64 0, bS r13.2, bS r14.2, .own 5088 (List.map encS ([] : List ByteArray)), .g (.d (.sl 2 (List.map encApi_Range ([] : (List Api_Range))))), .g (.d (.sl 1 (List.map encI_i64 ([] : (List Int))))), .g (.d (.sl 1 (List.map encI_i64 ([] : (List Int)))))]) (c := bS r14.2) trivial ti9 rfl rfl (Ev.t 47 (.ptr 1005 7)) (Ev.t 46 (bS r14.2))) rfl ⟨rfl, rfl, trivial⟩ ⟨rfl, trivial⟩ ?_
        refine G.endOps ?_
        refine G.endBlock ?_
        exact G.arr (J11 (y5.2.1, 0, 0, 0, r13.2, r14.2, ([] : (List Api_Range)), ([] : (List Int)), ([] : (List Int)), r14.1.words, r14.1.bad, ([] : List ByteArray)) hF) ⟨rfl, rfl, rfl, trivial⟩ ⟨rfl, rfl, rfl, rfl, trivial⟩ rfl
      · refine G.cond rfl (fun hx => Bool.noConfusion (hc12.symm.trans hx)) (fun _ => ?_)
        refine G.seq ?_
        refine G.seq ?_
        refine G.region ?_
        refine G.op1 (op_eqI (Ev.t 39 (bI .i64 r3)) (Ev.c _ rfl) rfl) rfl ⟨rfl, trivial⟩ trivial ?_
        refine G.op1 (op_assign (Ev.t 49 (bB (decide (r3 = 2)))) rfl) rfl ⟨rfl, trivial⟩ trivial ?_
        refine G.endOps ?_
        refine G.joinC (T := Bool) (fun y15 => ⟨[(2, .one (.ptr 1002 0)), (4, .one (.ptr 1009 0)), (5, .one (.ptr 1005 0)), (39, .one (bI .i64 r3)), (48, .one (bB y15))], [(1002, some (.blk 30 [bI .i64 0, bI .i64 0, bI .i64 0, bI .i64 0, bI .i64 0, bI .i64 0, bS ByteArray.empty, bS ByteArray.empty, .g (.d (.sl 1 (List.map encS ([] : (List ByteArray))))), .g (.d (.sl 2 (List.map encApi_Range ([] : (List Api_Range))))), .g (.d (.sl 1 (List.map encI_i64 ([] : (List Int))))), .g (.d (.sl 1 (List.map encI_i64 ([] : (List Int)))))])), (1005, some (.blk 30 [bI .i64 r3, bI .i64 y5.1, bI .i64 y5.2.1, bI .i64 0, bI .i64 0, bI .i64 0, bS ByteArray.empty, bS ByteArray.empty, .own 5088 (List.map encS ([] : List ByteArray)), .g (.d (.sl 2 (List.map encApi_Range ([] : (List Api_Range))))), .g (.d (.sl 1 (List.map encI_i64 ([] : (List Int))))), .g (.d (.sl 1 (List.map encI_i64 ([] : (List Int)))))])), (1009, some (.blk 82 [.g (.d (.sl 1 (List.map encS y5.2.2.1))), bB y5.2.2.2])), (5088, some (.row 9 1 (List.map encS ([] : List ByteArray)) false))]⟩) (fun y15 => words_step_k5 r3 y5 y15 = some r) (fun y15 hF => ?_) (fun J40 => ?_)
        · unfold words_step_k5 at hF
          refine ifS hF (fun hc16 hF => ?_) (fun hc16 hF => ?_)
          · refine G.cond rfl (fun _ => ?_) (fun hx => Bool.noConfusion (hc16.symm.trans hx))
            refine G.region ?_
            refine G.op1 (op_move (Ev.t 4 (.ptr 1009 0)) rfl) rfl ⟨rfl, trivial⟩ trivial ?_
            obtain ⟨r17, hr17, hF⟩ := bindS hF
            refine G.opM (op_callM (k := 1009) (h := .dat 82 (encWords_reader (Words_reader.mk y5.2.2.1 y5.2.2.2))) (h' := .dat 82 (encWords_reader r17.1)) 0 (sv := .one (bS r17.2)) cf46 (ct_words_reader_text (Words_reader.mk y5.2.2.1 y5.2.2.2) r17 hr17) rfl rfl (EvM.pt (Ev.t 51 (.ptr 1009 0)) EvM.nil) rfl) rfl ⟨rfl, trivial⟩ ⟨rfl, trivial⟩ ?_
            refine G.op1 (op_fieldP (off' := 6) Tryd.underlying30 rfl ti9 (by decide) rfl (Ev.t 5 (.ptr 1005 0)) rfl) rfl ⟨rfl, trivial⟩ trivial ?_
            refine G.op3 (op_store1 (cs' := [bI .i64 r3, bI .i64 y5.1, bI .i64 y5.2.1, bI .i64 0, bI .i64 0, bI .i64 0, bS r17.2, bS ByteArray.empty, .own 5088 (List.map encS ([] : List ByteArray)), .g (.d (.sl 2 (List.map encApi_Range ([] : (List Api_Range))))), .g (.d (.sl 1 (List.map encI_i64 ([] : (List Int))))), .g (.d (.sl 1 (List.map encI_i64 ([] : (List Int)))))]) (c := bS r17.2) trivial ti9 rfl rfl (Ev.t 53 (.ptr 1005 6)) (Ev.t 52 (bS r17.2))) rfl ⟨rfl, rfl, trivial⟩ ⟨rfl, trivial⟩ ?_
            refine G.endOps ?_
            refine G.endBlock ?_
            exact G.arr (J11 (y5.2.1, 0, 0, 0, r17.2, ByteArray.empty, ([] : (List Api_Range)), ([] : (List Int)), ([] : (List Int)), r17.1.words, r17.1.bad, ([] : List ByteArray)) hF) ⟨rfl, rfl, rfl, trivial⟩ ⟨rfl, rfl, rfl, rfl, trivial⟩ rfl
          · refine G.cond rfl (fun hx => Bool.noConfusion (hc16.symm.trans hx)) (fun _ => ?_)
            refine G.seq ?_
            refine G.region ?_
            refine G.op1 (op_eqI (Ev.t 39 (bI .i64 r3)) (Ev.c _ rfl) rfl) rfl ⟨rfl, trivial⟩ trivial ?_
            refine G.op1 (op_assign (Ev.t 55 (bB (decide (r3 = 5)))) rfl) rfl ⟨rfl, trivial⟩ trivial ?_
            refine G.endOps ?_
            refine ifS hF (fun hc18 hF => ?_) (fun hc18 hF => ?_)
            · refine G.cond rfl (fun _ => ?_) (fun hx => Bool.noConfusion (hc18.symm.trans hx))
              refine G.region ?_
              refine G.op1 (op_move (Ev.t 4 (.ptr 1009 0)) rfl) rfl ⟨rfl, trivial⟩ trivial ?_
              obtain ⟨r19, hr19, hF⟩ := bindS hF
              refine G.opM (op_callM (k := 1009) (h := .dat 82 (encWords_reader (Words_reader.mk y5.2.2.1 y5.2.2.2))) (h' := .dat 82 (encWords_reader r19.1)) 0 (sv := .one (bI .i64 r19.2)) cf45 (ct_words_reader_number (Words_reader.mk y5.2.2.1 y5.2.2.2) r19 hr19) rfl rfl (EvM.pt (Ev.t 56 (.ptr 1009 0)) EvM.nil) rfl) rfl ⟨rfl, trivial⟩ ⟨rfl, trivial⟩ ?_
              refine G.op1 (op_fieldP (off' := 2) Tryd.underlying30 rfl ti3 (by decide) rfl (Ev.t 5 (.ptr 1005 0)) rfl) rfl ⟨rfl, trivial⟩ trivial ?_
              refine G.op3 (op_store1 (cs' := [bI .i64 r3, bI .i64 y5.1, bI .i64 r19.2, bI .i64 0, bI .i64 0, bI .i64 0, bS ByteArray.empty, bS ByteArray.empty, .own 5088 (List.map encS ([] : List ByteArray)), .g (.d (.sl 2 (List.map encApi_Range ([] : (List Api_Range))))), .g (.d (.sl 1 (List.map encI_i64 ([] : (List Int))))), .g (.d (.sl 1 (List.map encI_i64 ([] : (List Int)))))]) (c := bI .i64 r19.2) trivial ti3 rfl rfl (Ev.t 58 (.ptr 1005 2)) (Ev.t 57 (bI .i64 r19.2))) rfl ⟨rfl, rfl, trivial⟩ ⟨rfl, trivial⟩ ?_
              refine G.endOps ?_
              refine G.endBlock ?_
              exact G.arr (J11 (r19.2, 0, 0, 0, ByteArray.empty, ByteArray.empty, ([] : (List Api_Range)), ([] : (List Int)), ([] : (List Int)), r19.1.words, r19.1.bad, ([] : List ByteArray)) hF) ⟨rfl, rfl, rfl, trivial⟩ ⟨rfl, rfl, rfl, rfl, trivial⟩ rfl
            · refine G.cond rfl (fun hx => Bool.noConfusion (hc18.symm.trans hx)) (fun _ => ?_)
              refine G.seq ?_
              refine G.region ?_
              refine G.op1 (op_eqI (Ev.t 39 (bI .i64 r3)) (Ev.c _ rfl) rfl) rfl ⟨rfl, trivial⟩ trivial ?_
              refine G.op1 (op_assign (Ev.t 60 (bB (decide (r3 = 6)))) rfl) rfl ⟨rfl, trivial⟩ trivial ?_
              refine G.endOps ?_
              refine ifS hF (fun hc20 hF => ?_) (fun hc20 hF => ?_)
              · refine G.cond rfl (fun _ => ?_) (fun hx => Bool.noConfusion (hc20.symm.trans hx))
                refine G.seq ?_
                refine G.joinC (T := (List ByteArray) × Bool × (List ByteArray)) (fun y21 => ⟨[(2, .one (.ptr 1002 0)), (4, .one (.ptr 1009 0)), (5, .one (.ptr 1005 0))], [(1002, some (.blk 30 [bI .i64 0, bI .i64 0, bI .i64 0, bI .i64 0, bI .i64 0, bI .i64 0, bS ByteArray.empty, bS ByteArray.empty, .g (.d (.sl 1 (List.map encS ([] : (List ByteArray))))), .g (.d (.sl 2 (List.map encApi_Range ([] : (List Api_Range))))), .g (.d (.sl 1 (List.map encI_i64 ([] : (List Int))))), .g (.d (.sl 1 (List.map encI_i64 ([] : (List Int)))))])), (1005, some (.blk 30 [bI .i64 r3, bI .i64 y5.1, bI .i64 y5.2.1, bI .i64 0, bI .i64 0, bI .i64 0, bS ByteArray.empty, bS ByteArray.empty, .own 5088 (List.map encS y21.2.2), .g (.d (.sl 2 (List.map encApi_Range ([] : (List Api_Range))))), .g (.d (.sl 1 (List.map encI_i64 ([] : (List Int))))), .g (.d (.sl 1 (List.map encI_i64 ([] : (List Int)))))])), (1009, some (.blk 82 [.g (.d (.sl 1 (List.map encS y21.1))), bB y21.2.1])), (5088, some (.row 9 1 (List.map encS y21.2.2) false))]⟩) (fun y21 => words_step_k6 r3 y5 y21 = some r) (fun y21 hF => ?_) (fun J23 => ?_)
                · unfold words_step_k6 at hF
                  refine G.region ?_
                  refine G.op1 (op_move (Ev.t 4 (.ptr 1009 0)) rfl) rfl ⟨rfl, trivial⟩ trivial ?_
                  refine G.op1 (op_move (Ev.t 4 (.ptr 1009 0)) rfl) rfl ⟨rfl, trivial⟩ trivial ?_
                  refine G.op1 (op_nilCheckP (Ev.t 71 (.ptr 1009 0)) rfl) rfl ⟨rfl, trivial⟩ trivial ?_
                  refine G.op1 (op_fieldP (off' := 1) Tryd.underlying82 rfl ti4 (by decide) rfl (Ev.t 72 (.ptr 1009 0)) rfl) rfl ⟨rfl, trivial⟩ trivial ?_
                  refine G.op1 (op_load1P (c := bB y21.2.1) Tryd.underlying4 rfl rfl (Ev.t 73 (.ptr 1009 1)) rfl) rfl ⟨rfl, trivial⟩ ⟨rfl, trivial⟩ ?_
                  refine G.op1 (op_move (Ev.t 74 (bB y21.2.1)) rfl) rfl ⟨rfl, trivial⟩ trivial ?_
                  refine ifS hF (fun hc22 hF => ?_) (fun hc22 hF => ?_)
                  · refine G.known (t := 75) hc22 rfl ?_
                    refine G.opN1 rfl rfl rfl rfl rfl ?_
                    refine G.opN1 rfl rfl rfl rfl rfl ?_
                    refine G.opN1 rfl rfl rfl rfl rfl ?_
                    refine G.opN1 rfl rfl rfl rfl rfl ?_
                    refine G.op1 (op_pickT (Ev.t 75 (bB true)) (Ev.c _ rfl) rfl) rfl ⟨rfl, trivial⟩ trivial ?_
                    refine G.op1 (op_nilCheckP (Ev.t 70 (.ptr 1009 0)) rfl) rfl ⟨rfl, trivial⟩ trivial ?_
                    refine G.op1 (op_fieldP (off' := 1) Tryd.underlying82 rfl ti4 (by decide) rfl (Ev.t 81 (.ptr 1009 0)) rfl) rfl ⟨rfl, trivial⟩ trivial ?_
                    refine G.op3 (op_store1 (cs' := [.g (.d (.sl 1 (List.map encS y21.1))), bB true]) (c := bB true) trivial ti4 rfl rfl (Ev.t 82 (.ptr 1009 1)) (Ev.t 80 (bB true))) rfl ⟨rfl, rfl, trivial⟩ ⟨rfl, trivial⟩ ?_
                    refine G.endOps ?_
                    refine G.endBlock ?_
                    exact G.arr (J11 (y5.2.1, 0, 0, 0, ByteArray.empty, ByteArray.empty, ([] : (List Api_Range)), ([] : (List Int)), ([] : (List Int)), y21.1, true, y21.2.2) hF) ⟨rfl, rfl, rfl, trivial⟩ ⟨rfl, rfl, rfl, rfl, trivial⟩ rfl
                  · refine G.known (t := 75) hc22 rfl ?_
                    refine G.opG1 (op_fieldP (off' := 8) Tryd.underlying30 rfl ti24 (by decide) rfl (Ev.t 5 (.ptr 1005 0)) rfl) rfl rfl rfl ⟨rfl, trivial⟩ trivial ?_
                    refine G.opG1 (op_load1P (c := .own 5088 (List.map encS y21.2.2)) Tryd.underlying24 rfl rfl (Ev.t 76 (.ptr 1005 8)) rfl) rfl rfl rfl ⟨rfl, trivial⟩ ⟨rfl, trivial⟩ ?_
                    refine G.opG1 (OpL.cast (op_lenO Tryd.underlying24 (Ev.t 77 (.own 5088 (List.map encS y21.2.2))) rfl) (by rw [List.length_map])) rfl rfl rfl ⟨rfl, trivial⟩ ⟨rfl, trivial⟩ ?_
                    refine G.opG1 (op_gtr (Ev.t 78 (bI .i64 (y21.2.2.length : Int))) (Ev.c _ rfl) rfl) rfl rfl rfl ⟨rfl, trivial⟩ trivial ?_
                    refine G.op1 (op_pickF (Ev.t 75 (bB false)) (Ev.t 79 (bB (decide (8 < (y21.2.2.length : Int))))) rfl) rfl ⟨rfl, rfl, trivial⟩ trivial ?_
                    refine G.op1 (op_nilCheckP (Ev.t 70 (.ptr 1009 0)) rfl) rfl ⟨rfl, trivial⟩ trivial ?_
                    refine G.op1 (op_fieldP (off' := 1) Tryd.underlying82 rfl ti4 (by decide) rfl (Ev.t 81 (.ptr 1009 0)) rfl) rfl ⟨rfl, trivial⟩ trivial ?_
                    refine G.op3 (op_store1 (cs' := [.g (.d (.sl 1 (List.map encS y21.1))), bB (decide (8 < (y21.2.2.length : Int)))]) (c := bB (decide (8 < (y21.2.2.length : Int)))) trivial ti4 rfl rfl (Ev.t 82 (.ptr 1009 1)) (Ev.t 80 (bB (decide (8 < (y21.2.2.length : Int)))))) rfl ⟨rfl, rfl, trivial⟩ ⟨rfl, trivial⟩ ?_
                    refine G.endOps ?_
                    refine G.endBlock ?_
                    exact G.arr (J11 (y5.2.1, 0, 0, 0, ByteArray.empty, ByteArray.empty, ([] : (List Api_Range)), ([] : (List Int)), ([] : (List Int)), y21.1, decide (8 < (y21.2.2.length : Int)), y21.2.2) hF) ⟨rfl, rfl, rfl, trivial⟩ ⟨rfl, rfl, rfl, rfl, trivial⟩ rfl
                refine G.block ?_
                refine G.keep (sl' := [(2, .one (.ptr 1002 0)), (4, .one (.ptr 1009 0)), (5, .one (.ptr 1005 0))]) (hp' := [(1002, some (.blk 30 [bI .i64 0, bI .i64 0, bI .i64 0, bI .i64 0, bI .i64 0, bI .i64 0, bS ByteArray.empty, bS ByteArray.empty, .g (.d (.sl 1 (List.map encS ([] : (List ByteArray))))), .g (.d (.sl 2 (List.map encApi_Range ([] : (List Api_Range))))), .g (.d (.sl 1 (List.map encI_i64 ([] : (List Int))))), .g (.d (.sl 1 (List.map encI_i64 ([] : (List Int)))))])), (1005, some (.blk 30 [bI .i64 r3, bI .i64 y5.1, bI .i64 y5.2.1, bI .i64 0, bI .i64 0, bI .i64 0, bS ByteArray.empty, bS ByteArray.empty, .own 5088 (List.map encS ([] : List ByteArray)), .g (.d (.sl 2 (List.map encApi_Range ([] : (List Api_Range))))), .g (.d (.sl 1 (List.map encI_i64 ([] : (List Int))))), .g (.d (.sl 1 (List.map encI_i64 ([] : (List Int)))))])), (1009, some (.blk 82 [.g (.d (.sl 1 (List.map encS y5.2.2.1))), bB y5.2.2.2])), (5088, some (.row 9 1 (List.map encS ([] : List ByteArray)) false))]) ⟨rfl, rfl, rfl, trivial⟩ ⟨rfl, rfl, rfl, rfl, trivial⟩ rfl ?_
                refine G.loopF (fun (v24 : (List ByteArray) × Bool × (List ByteArray)) => ⟨[(2, .one (.ptr 1002 0)), (4, .one (.ptr 1009 0)), (5, .one (.ptr 1005 0))], [(1002, some (.blk 30 [bI .i64 0, bI .i64 0, bI .i64 0, bI .i64 0, bI .i64 0, bI .i64 0, bS ByteArray.empty, bS ByteArray.empty, .g (.d (.sl 1 (List.map encS ([] : (List ByteArray))))), .g (.d (.sl 2 (List.map encApi_Range ([] : (List Api_Range))))), .g (.d (.sl 1 (List.map encI_i64 ([] : (List Int))))), .g (.d (.sl 1 (List.map encI_i64 ([] : (List Int)))))])), (1005, some (.blk 30 [bI .i64 r3, bI .i64 y5.1, bI .i64 y5.2.1, bI .i64 0, bI .i64 0, bI .i64 0, bS ByteArray.empty, bS ByteArray.empty, .own 5088 (List.map encS v24.2.2), .g (.d (.sl 2 (List.map encApi_Range ([] : (List Api_Range))))), .g (.d (.sl 1 (List.map encI_i64 ([] : (List Int))))), .g (.d (.sl 1 (List.map encI_i64 ([] : (List Int)))))])), (1009, some (.blk 82 [.g (.d (.sl 1 (List.map encS v24.1))), bB v24.2.1])), (5088, some (.row 9 1 (List.map encS v24.2.2) false))]⟩) hF rfl (fun K27 again26 v24 J25 hF => ?_)
                unfold words_step_l7 at hF
                refine G.seq ?_
                refine G.seq ?_
                refine G.region ?_
                refine G.op1 (op_move (Ev.t 4 (.ptr 1009 0)) rfl) rfl ⟨rfl, trivial⟩ trivial ?_
                obtain ⟨r28, hr28, hF⟩ := bindS hF
                refine G.opM (op_callM (k := 1009) (h := .dat 82 (encWords_reader (Words_reader.mk v24.1 v24.2.1))) (h' := .dat 82 (encWords_reader r28.1)) 0 (sv := .one (bB r28.2)) cf47 (ct_words_reader_more (Words_reader.mk v24.1 v24.2.1) r28 hr28) rfl rfl (EvM.pt (Ev.t 61 (.ptr 1009 0)) EvM.nil) rfl) rfl ⟨rfl, trivial⟩ ⟨rfl, trivial⟩ ?_
                refine G.endOps ?_
                refine ifS hF (fun hc29 hF => ?_) (fun hc29 hF => ?_)
                · refine G.cond rfl (fun _ => ?_) (fun hx => Bool.noConfusion (hc29.symm.trans hx))
                  refine G.skip ?_
                  refine G.block ?_
                  obtain ⟨r30, hr30, hF⟩ := bindS hF
                  obtain ⟨l31, hl31, hF⟩ := bindS hF
                  refine G.drawnI (deps := [[], [0], [], [2], [2, 3], [0, 1, 2, 3, 4], [0, 1, 2, 3, 4, 5], [0, 1, 2, 3, 4, 5, 6]]) (sl' := [(2, .one (.ptr 1002 0)), (4, .one (.ptr 1009 0)), (5, .one (.ptr 1005 0))]) (hp' := [(1002, some (.blk 30 [bI .i64 0, bI .i64 0, bI .i64 0, bI .i64 0, bI .i64 0, bI .i64 0, bS ByteArray.empty, bS ByteArray.empty, .g (.d (.sl 1 (List.map encS ([] : (List ByteArray))))), .g (.d (.sl 2 (List.map encApi_Range ([] : (List Api_Range))))), .g (.d (.sl 1 (List.map encI_i64 ([] : (List Int))))), .g (.d (.sl 1 (List.map encI_i64 ([] : (List Int)))))])), (1005, some (.blk 30 [bI .i64 r3, bI .i64 y5.1, bI .i64 y5.2.1, bI .i64 0, bI .i64 0, bI .i64 0, bS ByteArray.empty, bS ByteArray.empty, .own 5088 (List.map encS l31), .g (.d (.sl 2 (List.map encApi_Range ([] : (List Api_Range))))), .g (.d (.sl 1 (List.map encI_i64 ([] : (List Int))))), .g (.d (.sl 1 (List.map encI_i64 ([] : (List Int)))))])), (1009, some (.blk 82 [.g (.d (.sl 1 (List.map encS r30.1.words))), bB r30.1.bad])), (5088, some (.row 9 1 (List.map encS l31) false))]) (.c (oP rfl rfl (op_fieldP (off' := 8) Tryd.underlying30 rfl ti24 (by decide) rfl (Ev.t 5 (.ptr 1005 0)) rfl)) (.c (oP rfl rfl (op_load1P (c := .own 5088 (List.map encS v24.2.2)) Tryd.underlying24 rfl rfl (Ev.t 63 (.ptr 1005 8)) rfl)) (.c (oP rfl rfl (op_move (Ev.t 4 (.ptr 1009 0)) rfl)) (.c (oP rfl rfl (op_callM (k := 1009) (h := .dat 82 (encWords_reader r28.1)) (h' := .dat 82 (encWords_reader r30.1)) 0 (sv := .one (bS r30.2)) cf46 (ct_words_reader_text r28.1 r30 hr30) rfl rfl (EvM.pt (Ev.t 65 (.ptr 1009 0)) EvM.nil) rfl)) (.c (oP rfl rfl (op_buildSlice (es := List.map encS [r30.2]) Tryd.underlying24 ti9 rfl rfl (EvP.cons (Ev.t 66 (bS r30.2)) EvP.nil) rfl rfl (by simp [encS]) rfl)) (.c (oP rfl rfl (op_appendO Tryd.underlying24 ti9 rfl (app_map hl31 encS) (app_b1 hl31 encS) (app_b2 hl31 encS) (Ev.t 64 (.own 5088 (List.map encS v24.2.2))) (Ev.t 67 (.g (.d (.sl 1 (List.map encS ([r30.2])))))) rfl)) (.c (oP rfl rfl (op_fieldP (off' := 8) Tryd.underlying30 rfl ti24 (by decide) rfl (Ev.t 5 (.ptr 1005 0)) rfl)) (.c (oP rfl rfl (op_storeO (cs' := [bI .i64 r3, bI .i64 y5.1, bI .i64 y5.2.1, bI .i64 0, bI .i64 0, bI .i64 0, bS ByteArray.empty, bS ByteArray.empty, .own 5088 (List.map encS l31), .g (.d (.sl 2 (List.map encApi_Range ([] : (List Api_Range))))), .g (.d (.sl 1 (List.map encI_i64 ([] : (List Int))))), .g (.d (.sl 1 (List.map encI_i64 ([] : (List Int)))))]) ti24 rfl rfl rfl (Ev.t 69 (.ptr 1005 8)) (Ev.t 68 (.own 5088 (List.map encS l31))))) .nil)))))))) follows rfl rfl rfl ⟨⟨rfl, trivial⟩, trivial, ⟨rfl, trivial⟩, ⟨⟨rfl, rfl⟩, trivial⟩, ⟨rfl, trivial⟩, trivial, ⟨rfl, trivial⟩, ⟨⟨rfl, rfl⟩, trivial⟩, ⟨rfl, trivial⟩, trivial, ⟨rfl, rfl, trivial⟩, ⟨⟨rfl, rfl⟩, trivial⟩, ⟨rfl, trivial⟩, trivial, ⟨rfl, rfl, trivial⟩, ⟨⟨rfl, rfl⟩, ⟨rfl, rfl⟩, trivial⟩, trivial⟩ ⟨rfl, rfl, rfl, trivial⟩ ⟨rfl, rfl, rfl, rfl, trivial⟩ rfl ?_
                  refine G.endBlock ?_
                  exact G.arr (J25 (r30.1.words, r30.1.bad, l31) hF) ⟨rfl, rfl, rfl, trivial⟩ ⟨rfl, rfl, rfl, rfl, trivial⟩ rfl
                · refine G.cond rfl (fun hx => Bool.noConfusion (hc29.symm.trans hx)) (fun _ => ?_)
                  refine G.exit ?_
                  refine GX.c ?_
                  refine GX.q ?_
                  refine GX.bYes ?_
                  exact G.arr (J23 (r28.1.words, r28.1.bad, v24.2.2) hF) ⟨rfl, rfl, rfl, trivial⟩ ⟨rfl, rfl, rfl, rfl, trivial⟩ rfl
              · refine G.cond rfl (fun hx => Bool.noConfusion (hc20.symm.trans hx)) (fun _ => ?_)
                refine G.seq ?_
                refine G.region ?_
                refine G.op1 (op_eqI (Ev.t 39 (bI .i64 r3)) (Ev.c _ rfl) rfl) rfl ⟨rfl, trivial⟩ trivial ?_
                refine G.op1 (op_assign (Ev.t 84 (bB (decide (r3 = 8)))) rfl) rfl ⟨rfl, trivial⟩ trivial ?_
                refine G.endOps ?_
                refine ifS hF (fun hc32 hF => ?_) (fun hc32 hF => ?_)
                · refine G.cond rfl (fun _ => ?_) (fun hx => Bool.noConfusion (hc32.symm.trans hx))
                  refine G.seq ?_
                  refine G.region ?_
                  refine G.op1 (op_move (Ev.t 4 (.ptr 1009 0)) rfl) rfl ⟨rfl, trivial⟩ trivial ?_
                  obtain ⟨r33, hr33, hF⟩ := bindS hF
                  refine G.opM (op_callM (k := 1009) (h := .dat 82 (encWords_reader (Words_reader.mk y5.2.2.1 y5.2.2.2))) (h' := .dat 82 (encWords_reader r33.1)) 0 (sv := .one (bI .i64 r33.2)) cf45 (ct_words_reader_number (Words_reader.mk y5.2.2.1 y5.2.2.2) r33 hr33) rfl rfl (EvM.pt (Ev.t 85 (.ptr 1009 0)) EvM.nil) rfl) rfl ⟨rfl, trivial⟩ ⟨rfl, trivial⟩ ?_
                  refine G.op1 (op_fieldP (off' := 3) Tryd.underlying30 rfl ti3 (by decide) rfl (Ev.t 5 (.ptr 1005 0)) rfl) rfl ⟨rfl, trivial⟩ trivial ?_
                  refine G.op3 (op_store1 (cs' := [bI .i64 r3, bI .i64 y5.1, bI .i64 y5.2.1, bI .i64 r33.2, bI .i64 0, bI .i64 0, bS ByteArray.empty, bS ByteArray.empty, .own 5088 (List.map encS ([] : List ByteArray)), .g (.d (.sl 2 (List.map encApi_Range ([] : (List Api_Range))))), .g (.d (.sl 1 (List.map encI_i64 ([] : (List Int))))), .g (.d (.sl 1 (List.map encI_i64 ([] : (List Int)))))]) (c := bI .i64 r33.2) trivial ti3 rfl rfl (Ev.t 87 (.ptr 1005 3)) (Ev.t 86 (bI .i64 r33.2))) rfl ⟨rfl, rfl, trivial⟩ ⟨rfl, trivial⟩ ?_
                  refine G.endOps ?_
                  refine G.seq ?_
                  refine G.region ?_
                  refine G.op1 (op_move (Ev.t 4 (.ptr 1009 0)) rfl) rfl ⟨rfl, trivial⟩ trivial ?_
                  obtain ⟨r34, hr34, hF⟩ := bindS hF
                  refine G.opM (op_callM (k := 1009) (h := .dat 82 (encWords_reader r33.1)) (h' := .dat 82 (encWords_reader r34.1)) 0 (sv := .one (bI .i64 r34.2)) cf45 (ct_words_reader_number r33.1 r34 hr34) rfl rfl (EvM.pt (Ev.t 88 (.ptr 1009 0)) EvM.nil) rfl) rfl ⟨rfl, trivial⟩ ⟨rfl, trivial⟩ ?_
                  refine G.op1 (op_fieldP (off' := 4) Tryd.underlying30 rfl ti3 (by decide) rfl (Ev.t 5 (.ptr 1005 0)) rfl) rfl ⟨rfl, trivial⟩ trivial ?_
                  refine G.op3 (op_store1 (cs' := [bI .i64 r3, bI .i64 y5.1, bI .i64 y5.2.1, bI .i64 r33.2, bI .i64 r34.2, bI .i64 0, bS ByteArray.empty, bS ByteArray.empty, .own 5088 (List.map encS ([] : List ByteArray)), .g (.d (.sl 2 (List.map encApi_Range ([] : (List Api_Range))))), .g (.d (.sl 1 (List.map encI_i64 ([] : (List Int))))), .g (.d (.sl 1 (List.map encI_i64 ([] : (List Int)))))]) (c := bI .i64 r34.2) trivial ti3 rfl rfl (Ev.t 90 (.ptr 1005 4)) (Ev.t 89 (bI .i64 r34.2))) rfl ⟨rfl, rfl, trivial⟩ ⟨rfl, trivial⟩ ?_
                  refine G.endOps ?_
                  refine G.region ?_
                  refine G.op1 (op_move (Ev.t 4 (.ptr 1009 0)) rfl) rfl ⟨rfl, trivial⟩ trivial ?_
                  obtain ⟨r35, hr35, hF⟩ := bindS hF
                  refine G.opM (op_callM (k := 1009) (h := .dat 82 (encWords_reader r34.1)) (h' := .dat 82 (encWords_reader r35.1)) 0 (sv := .one (bI .i64 r35.2)) cf45 (ct_words_reader_number r34.1 r35 hr35) rfl rfl (EvM.pt (Ev.t 91 (.ptr 1009 0)) EvM.nil) rfl) rfl ⟨rfl, trivial⟩ ⟨rfl, trivial⟩ ?_
                  refine G.op1 (op_fieldP (off' := 5) Tryd.underlying30 rfl ti3 (by decide) rfl (Ev.t 5 (.ptr 1005 0)) rfl) rfl ⟨rfl, trivial⟩ trivial ?_
                  refine G.op3 (op_store1 (cs' := [bI .i64 r3, bI .i64 y5.1, bI .i64 y5.2.1, bI .i64 r33.2, bI .i64 r34.2, bI .i64 r35.2, bS ByteArray.empty, bS ByteArray.empty, .own 5088 (List.map encS ([] : List ByteArray)), .g (.d (.sl 2 (List.map encApi_Range ([] : (List Api_Range))))), .g (.d (.sl 1 (List.map encI_i64 ([] : (List Int))))), .g (.d (.sl 1 (List.map encI_i64 ([] : (List Int)))))]) (c := bI .i64 r35.2) trivial ti3 rfl rfl (Ev.t 93 (.ptr 1005 5)) (Ev.t 92 (bI .i64 r35.2))) rfl ⟨rfl, rfl, trivial⟩ ⟨rfl, trivial⟩ ?_
                  refine G.endOps ?_
                  refine G.endBlock ?_
                  exact G.arr (J11 (y5.2.1, r33.2, r34.2, r35.2, ByteArray.empty, ByteArray.empty, ([] : (List Api_Range)), ([] : (List Int)), ([] : (List Int)), r35.1.words, r35.1.bad, ([] : List ByteArray)) hF) ⟨rfl, rfl, rfl, trivial⟩ ⟨rfl, rfl, rfl, rfl, trivial⟩ rfl
                · refine G.cond rfl (fun hx => Bool.noConfusion (hc32.symm.trans hx)) (fun _ => ?_)
                  refine G.seq ?_
                  refine G.region ?_
                  refine G.op1 (op_eqI (Ev.t 39 (bI .i64 r3)) (Ev.c _ rfl) rfl) rfl ⟨rfl, trivial⟩ trivial ?_
                  refine G.op1 (op_assign (Ev.t 95 (bB (decide (r3 = 9)))) rfl) rfl ⟨rfl, trivial⟩ trivial ?_
                  refine G.endOps ?_
                  refine ifS hF (fun hc36 hF => ?_) (fun hc36 hF => ?_)
                  · refine G.cond rfl (fun _ => ?_) (fun hx => Bool.noConfusion (hc36.symm.trans hx))
                    refine G.region ?_
                    refine G.op1 (op_move (Ev.t 4 (.ptr 1009 0)) rfl) rfl ⟨rfl, trivial⟩ trivial ?_
                    obtain ⟨r37, hr37, hF⟩ := bindS hF
                    refine G.opM (op_callM (k := 1009) (h := .dat 82 (encWords_reader (Words_reader.mk y5.2.2.1 y5.2.2.2))) (h' := .dat 82 (encWords_reader r37.1)) 0 (sv := .one (bI .i64 r37.2)) cf45 (ct_words_reader_number (Words_reader.mk y5.2.2.1 y5.2.2.2) r37 hr37) rfl rfl (EvM.pt (Ev.t 96 (.ptr 1009 0)) EvM.nil) rfl) rfl ⟨rfl, trivial⟩ ⟨rfl, trivial⟩ ?_
                    refine G.op1 (op_fieldP (off' := 3) Tryd.underlying30 rfl ti3 (by decide) rfl (Ev.t 5 (.ptr 1005 0)) rfl) rfl ⟨rfl, trivial⟩ trivial ?_
                    refine G.op3 (op_store1 (cs' := [bI .i64 r3, bI .i64 y5.1, bI .i64 y5.2.1, bI .i64 r37.2, bI .i64 0, bI .i64 0, bS ByteArray.empty, bS ByteArray.empty, .own 5088 (List.map encS ([] : List ByteArray)), .g (.d (.sl 2 (List.map encApi_Range ([] : (List Api_Range))))), .g (.d (.sl 1 (List.map encI_i64 ([] : (List Int))))), .g (.d (.sl 1 (List.map encI_i64 ([] : (List Int)))))]) (c := bI .i64 r37.2) trivial ti3 rfl rfl (Ev.t 98 (.ptr 1005 3)) (Ev.t 97 (bI .i64 r37.2))) rfl ⟨rfl, rfl, trivial⟩ ⟨rfl, trivial⟩ ?_
                    refine G.endOps ?_
                    refine G.endBlock ?_
                    exact G.arr (J11 (y5.2.1, r37.2, 0, 0, ByteArray.empty, ByteArray.empty, ([] : (List Api_Range)), ([] : (List Int)), ([] : (List Int)), r37.1.words, r37.1.bad, ([] : List ByteArray)) hF) ⟨rfl, rfl, rfl, trivial⟩ ⟨rfl, rfl, rfl, rfl, trivial⟩ rfl
                  · refine G.cond rfl (fun hx => Bool.noConfusion (hc36.symm.trans hx)) (fun _ => ?_)
                    refine G.seq ?_
                    refine G.region ?_
                    refine G.op1 (op_eqI (Ev.t 39 (bI .i64 r3)) (Ev.c _ rfl) rfl) rfl ⟨rfl, trivial⟩ trivial ?_
                    refine G.op1 (op_assign (Ev.t 100 (bB (decide (r3 = 12)))) rfl) rfl ⟨rfl, trivial⟩ trivial ?_
                    refine G.endOps ?_
                    refine ifS hF (fun hc38 hF => ?_) (fun hc38 hF => ?_)
                    · refine G.cond rfl (fun _ => ?_) (fun hx => Bool.noConfusion (hc38.symm.trans hx))
                      refine G.region ?_
                      refine G.op1 (op_move (Ev.t 4 (.ptr 1009 0)) rfl) rfl ⟨rfl, trivial⟩ trivial ?_
                      obtain ⟨r39, hr39, hF⟩ := bindS hF
                      refine G.opM (op_callM (k := 1009) (h := .dat 82 (encWords_reader (Words_reader.mk y5.2.2.1 y5.2.2.2))) (h' := .dat 82 (encWords_reader r39.1)) 0 (sv := .one (.g (.agg [.sl 2 (List.map encApi_Range r39.2.Ranges), .sl 1 (List.map encI_i64 r39.2.Owners), .sl 1 (List.map encI_i64 r39.2.Parents)]))) cf48 (ct_words_reader_row (Words_reader.mk y5.2.2.1 y5.2.2.2) r39 hr39) rfl rfl (EvM.pt (Ev.t 101 (.ptr 1009 0)) EvM.nil) rfl) rfl ⟨rfl, trivial⟩ ⟨rfl, trivial⟩ ?_
                      refine G.op1 (op_fieldP (off' := 9) Tryd.underlying30 rfl ti28 (by decide) rfl (Ev.t 5 (.ptr 1005 0)) rfl) rfl ⟨rfl, trivial⟩ trivial ?_
                      refine G.op3 (op_storeA (cs' := [bI .i64 r3, bI .i64 y5.1, bI .i64 y5.2.1, bI .i64 0, bI .i64 0, bI .i64 0, bS ByteArray.empty, bS ByteArray.empty, .own 5088 (List.map encS ([] : List ByteArray)), .g (.d (.sl 2 (List.map encApi_Range r39.2.Ranges))), .g (.d (.sl 1 (List.map encI_i64 r39.2.Owners))), .g (.d (.sl 1 (List.map encI_i64 r39.2.Parents)))]) ti28 rfl rfl (Ev.t 103 (.ptr 1005 9)) (Ev.t 102 (.g (.agg [.sl 2 (List.map encApi_Range r39.2.Ranges), .sl 1 (List.map encI_i64 r39.2.Owners), .sl 1 (List.map encI_i64 r39.2.Parents)])))) rfl ⟨rfl, rfl, trivial⟩ ⟨rfl, trivial⟩ ?_
                      refine G.endOps ?_
                      refine G.endBlock ?_
                      exact G.arr (J11 (y5.2.1, 0, 0, 0, ByteArray.empty, ByteArray.empty, r39.2.Ranges, r39.2.Owners, r39.2.Parents, r39.1.words, r39.1.bad, ([] : List ByteArray)) hF) ⟨rfl, rfl, rfl, trivial⟩ ⟨rfl, rfl, rfl, rfl, trivial⟩ rfl
                    · refine G.cond rfl (fun hx => Bool.noConfusion (hc38.symm.trans hx)) (fun _ => ?_)
                      refine G.skip ?_
                      refine G.endBlock ?_
                      exact G.arr (J11 (y5.2.1, 0, 0, 0, ByteArray.empty, ByteArray.empty, ([] : (List Api_Range)), ([] : (List Int)), ([] : (List Int)), y5.2.2.1, y5.2.2.2, ([] : List ByteArray)) hF) ⟨rfl, rfl, rfl, trivial⟩ ⟨rfl, rfl, rfl, rfl, trivial⟩ rfl
        refine ifS hF (fun hc41 hF => ?_) (fun hc41 hF => ?_)
        · refine G.cond rfl (fun _ => ?_) (fun hx => Bool.noConfusion (hc41.symm.trans hx))
          refine G.skip ?_
          exact G.arr (J40 (decide (r3 = 2)) hF) ⟨rfl, rfl, rfl, rfl, rfl, trivial⟩ ⟨rfl, rfl, rfl, rfl, trivial⟩ rfl
        · refine G.cond rfl (fun hx => Bool.noConfusion (hc41.symm.trans hx)) (fun _ => ?_)
          refine G.region ?_
          refine G.op1 (op_eqI (Ev.t 39 (bI .i64 r3)) (Ev.c _ rfl) rfl) rfl ⟨rfl, trivial⟩ trivial ?_
          refine G.op1 (op_assign (Ev.t 50 (bB (decide (r3 = 3)))) rfl) rfl ⟨rfl, trivial⟩ trivial ?_
          refine G.endOps ?_
          exact G.arr (J40 (decide (r3 = 3)) hF) ⟨rfl, rfl, rfl, rfl, rfl, trivial⟩ ⟨rfl, rfl, rfl, rfl, trivial⟩ rfl
    refine ifS hF (fun hc43 hF => ?_) (fun hc43 hF => ?_)
    · refine G.cond rfl (fun _ => ?_) (fun hx => Bool.noConfusion (hc43.symm.trans hx))
      refine G.region ?_
      refine G.op1 (op_move (Ev.t 4 (.ptr 1009 0)) rfl) rfl ⟨rfl, trivial⟩ trivial ?_
      obtain ⟨r44, hr44, hF⟩ := bindS hF
      refine G.opM (op_callM (k := 1009) (h := .dat 82 (encWords_reader (Words_reader.mk l1 false))) (h' := .dat 82 (encWords_reader r44.1)) 0 (sv := .one (bI .i64 r44.2)) cf45 (ct_words_reader_number (Words_reader.mk l1 false) r44 hr44) rfl rfl (EvM.pt (Ev.t 25 (.ptr 1009 0)) EvM.nil) rfl) rfl ⟨rfl, trivial⟩ ⟨rfl, trivial⟩ ?_
      refine G.op1 (op_fieldP (off' := 1) Tryd.underlying30 rfl ti3 (by decide) rfl (Ev.t 5 (.ptr 1005 0)) rfl) rfl ⟨rfl, trivial⟩ trivial ?_
      refine G.op3 (op_store1 (cs' := [bI .i64 r3, bI .i64 r44.2, bI .i64 0, bI .i64 0, bI .i64 0, bI .i64 0, bS ByteArray.empty, bS ByteArray.empty, .own 5088 (List.map encS ([] : List ByteArray)), .g (.d (.sl 2 (List.map encApi_Range ([] : (List Api_Range))))), .g (.d (.sl 1 (List.map encI_i64 ([] : (List Int))))), .g (.d (.sl 1 (List.map encI_i64 ([] : (List Int)))))]) (c := bI .i64 r44.2) trivial ti3 rfl rfl (Ev.t 27 (.ptr 1005 1)) (Ev.t 26 (bI .i64 r44.2))) rfl ⟨rfl, rfl, trivial⟩ ⟨rfl, trivial⟩ ?_
      refine G.endOps ?_
      exact G.arr (J42 (r44.2, 0, r44.1.words, r44.1.bad) hF) ⟨rfl, rfl, rfl, trivial⟩ ⟨rfl, rfl, rfl, rfl, trivial⟩ rfl
    · refine G.cond rfl (fun hx => Bool.noConfusion (hc43.symm.trans hx)) (fun _ => ?_)
      refine G.seq ?_
      refine G.seq ?_
      refine G.region ?_
      refine G.op1 (op_eqI (Ev.t 16 (bI .i64 r3)) (Ev.c _ rfl) rfl) rfl ⟨rfl, trivial⟩ trivial ?_
      refine G.op1 (op_assign (Ev.t 29 (bB (decide (r3 = 8)))) rfl) rfl ⟨rfl, trivial⟩ trivial ?_
      refine G.endOps ?_
      refine G.joinC (T := Bool) (fun y45 => ⟨[(2, .one (.ptr 1002 0)), (4, .one (.ptr 1009 0)), (5, .one (.ptr 1005 0)), (16, .one (bI .i64 r3)), (28, .one (bB y45))], [(1002, some (.blk 30 [bI .i64 0, bI .i64 0, bI .i64 0, bI .i64 0, bI .i64 0, bI .i64 0, bS ByteArray.empty, bS ByteArray.empty, .g (.d (.sl 1 (List.map encS ([] : (List ByteArray))))), .g (.d (.sl 2 (List.map encApi_Range ([] : (List Api_Range))))), .g (.d (.sl 1 (List.map encI_i64 ([] : (List Int))))), .g (.d (.sl 1 (List.map encI_i64 ([] : (List Int)))))])), (1005, some (.blk 30 [bI .i64 r3, bI .i64 0, bI .i64 0, bI .i64 0, bI .i64 0, bI .i64 0, bS ByteArray.empty, bS ByteArray.empty, .own 5088 (List.map encS ([] : List ByteArray)), .g (.d (.sl 2 (List.map encApi_Range ([] : (List Api_Range))))), .g (.d (.sl 1 (List.map encI_i64 ([] : (List Int))))), .g (.d (.sl 1 (List.map encI_i64 ([] : (List Int)))))])), (1009, some (.blk 82 [.g (.d (.sl 1 (List.map encS l1))), bB false])), (5088, some (.row 9 1 (List.map encS ([] : List ByteArray)) false))]⟩) (fun y45 => words_step_k8 l1 r3 y45 = some r) (fun y45 hF => ?_) (fun J49 => ?_)
      · unfold words_step_k8 at hF
        refine ifS hF (fun hc46 hF => ?_) (fun hc46 hF => ?_)
        · refine G.cond rfl (fun _ => ?_) (fun hx => Bool.noConfusion (hc46.symm.trans hx))
          refine G.region ?_
          refine G.op1 (op_move (Ev.t 4 (.ptr 1009 0)) rfl) rfl ⟨rfl, trivial⟩ trivial ?_
          obtain ⟨r47, hr47, hF⟩ := bindS hF
          refine G.opM (op_callM (k := 1009) (h := .dat 82 (encWords_reader (Words_reader.mk l1 false))) (h' := .dat 82 (encWords_reader r47.1)) 0 (sv := .one (bI .i64 r47.2)) cf45 (ct_words_reader_number (Words_reader.mk l1 false) r47 hr47) rfl rfl (EvM.pt (Ev.t 32 (.ptr 1009 0)) EvM.nil) rfl) rfl ⟨rfl, trivial⟩ ⟨rfl, trivial⟩ ?_
          refine G.op1 (op_fieldP (off' := 2) Tryd.underlying30 rfl ti3 (by decide) rfl (Ev.t 5 (.ptr 1005 0)) rfl) rfl ⟨rfl, trivial⟩ trivial ?_
          refine G.op3 (op_store1 (cs' := [bI .i64 r3, bI .i64 0, bI .i64 r47.2, bI .i64 0, bI .i64 0, bI .i64 0, bS ByteArray.empty, bS ByteArray.empty, .own 5088 (List.map encS ([] : List ByteArray)), .g (.d (.sl 2 (List.map encApi_Range ([] : (List Api_Range))))), .g (.d (.sl 1 (List.map encI_i64 ([] : (List Int))))), .g (.d (.sl 1 (List.map encI_i64 ([] : (List Int)))))]) (c := bI .i64 r47.2) trivial ti3 rfl rfl (Ev.t 34 (.ptr 1005 2)) (Ev.t 33 (bI .i64 r47.2))) rfl ⟨rfl, rfl, trivial⟩ ⟨rfl, trivial⟩ ?_
          refine G.endOps ?_
          exact G.arr (J42 (0, r47.2, r47.1.words, r47.1.bad) hF) ⟨rfl, rfl, rfl, trivial⟩ ⟨rfl, rfl, rfl, rfl, trivial⟩ rfl
        · refine G.cond rfl (fun hx => Bool.noConfusion (hc46.symm.trans hx)) (fun _ => ?_)
          refine G.seq ?_
          refine G.region ?_
          refine G.op1 (op_eqI (Ev.t 16 (bI .i64 r3)) (Ev.c _ rfl) rfl) rfl ⟨rfl, trivial⟩ trivial ?_
          refine G.op1 (op_assign (Ev.t 36 (bB (decide (r3 = 0)))) rfl) rfl ⟨rfl, trivial⟩ trivial ?_
          refine G.endOps ?_
          refine ifS hF (fun hc48 hF => ?_) (fun hc48 hF => ?_)
          · refine G.cond rfl (fun _ => ?_) (fun hx => Bool.noConfusion (hc48.symm.trans hx))
            refine G.seq ?_
            refine G.region ?_
            refine G.op1 (op_build (zs := [.v (.int .i64 0), .v (.int .i64 0), .v (.int .i64 0), .v (.int .i64 0), .v (.int .i64 0), .v (.int .i64 0), .v (.string ByteArray.empty), .v (.string ByteArray.empty), .sl 1 (List.map encS ([] : (List ByteArray))), .sl 2 (List.map encApi_Range ([] : (List Api_Range))), .sl 1 (List.map encI_i64 ([] : (List Int))), .sl 1 (List.map encI_i64 ([] : (List Int)))]) (ds := [.v (.int .i64 0), .v (.int .i64 0), .v (.int .i64 0), .v (.int .i64 0), .v (.int .i64 0), .v (.int .i64 0), .v (.string ByteArray.empty), .v (.string ByteArray.empty), .sl 1 (List.map encS ([] : (List ByteArray))), .sl 2 (List.map encApi_Range ([] : (List Api_Range))), .sl 1 (List.map encI_i64 ([] : (List Int))), .sl 1 (List.map encI_i64 ([] : (List Int)))]) Tryd.underlying30 ti30 (pl30 _ Tryd.underlying30) ⟨.v _ rfl, .v _ rfl, .v _ rfl, .v _ rfl, .v _ rfl, .v _ rfl, .v _ rfl, .v _ rfl, .n 1, .n 2, .n 1, .n 1, trivial⟩ EvP.nil rfl rfl) rfl trivial trivial ?_
            refine G.op3 (op_storeA (cs' := [bI .i64 0, bI .i64 0, bI .i64 0, bI .i64 0, bI .i64 0, bI .i64 0, bS ByteArray.empty, bS ByteArray.empty, .g (.d (.sl 1 (List.map encS ([] : (List ByteArray))))), .g (.d (.sl 2 (List.map encApi_Range ([] : (List Api_Range))))), .g (.d (.sl 1 (List.map encI_i64 ([] : (List Int))))), .g (.d (.sl 1 (List.map encI_i64 ([] : (List Int)))))]) ti30 rfl rfl (Ev.t 2 (.ptr 1002 0)) (Ev.t 37 (.g (.agg [.v (.int .i64 0), .v (.int .i64 0), .v (.int .i64 0), .v (.int .i64 0), .v (.int .i64 0), .v (.int .i64 0), .v (.string ByteArray.empty), .v (.string ByteArray.empty), .sl 1 (List.map encS ([] : (List ByteArray))), .sl 2 (List.map encApi_Range ([] : (List Api_Range))), .sl 1 (List.map encI_i64 ([] : (List Int))), .sl 1 (List.map encI_i64 ([] : (List Int)))])))) rfl ⟨rfl, rfl, trivial⟩ ⟨rfl, trivial⟩ ?_
            refine G.op1 (op_assign (Ev.c _ rfl) rfl) rfl trivial trivial ?_
            refine G.endOps ?_
            cases hF
            exact G.ret2 Tryd.results23 (RVar.cellA (ds := [.v (.int .i64 0), .v (.int .i64 0), .v (.int .i64 0), .v (.int .i64 0), .v (.int .i64 0), .v (.int .i64 0), .v (.string ByteArray.empty), .v (.string ByteArray.empty), .sl 1 (List.map encS ([] : (List ByteArray))), .sl 2 (List.map encApi_Range ([] : (List Api_Range))), .sl 1 (List.map encI_i64 ([] : (List Int))), .sl 1 (List.map encI_i64 ([] : (List Int)))]) Tryd.underlying30 rfl ti30 rfl) (RVar.tmp 3 _) ⟨rfl, rfl, trivial⟩ ⟨rfl, trivial⟩
          · refine G.cond rfl (fun hx => Bool.noConfusion (hc48.symm.trans hx)) (fun _ => ?_)
            refine G.skip ?_
            exact G.arr (J42 (0, 0, l1, false) hF) ⟨rfl, rfl, rfl, trivial⟩ ⟨rfl, rfl, rfl, rfl, trivial⟩ rfl
      refine ifS hF (fun hc50 hF => ?_) (fun hc50 hF => ?_)
      · refine G.cond rfl (fun _ => ?_) (fun hx => Bool.noConfusion (hc50.symm.trans hx))
        refine G.skip ?_
        exact G.arr (J49 (decide (r3 = 8)) hF) ⟨rfl, rfl, rfl, rfl, rfl, trivial⟩ ⟨rfl, rfl, rfl, rfl, trivial⟩ rfl
      · refine G.cond rfl (fun hx => Bool.noConfusion (hc50.symm.trans hx)) (fun _ => ?_)
        refine G.seq ?_
        refine G.region ?_
        refine G.op1 (op_eqI (Ev.t 16 (bI .i64 r3)) (Ev.c _ rfl) rfl) rfl ⟨rfl, trivial⟩ trivial ?_
        refine G.op1 (op_assign (Ev.t 30 (bB (decide (r3 = 9)))) rfl) rfl ⟨rfl, trivial⟩ trivial ?_
        refine G.endOps ?_
        refine ifS hF (fun hc51 hF => ?_) (fun hc51 hF => ?_)
        · refine G.cond rfl (fun _ => ?_) (fun hx => Bool.noConfusion (hc51.symm.trans hx))
          refine G.skip ?_
          exact G.arr (J49 (decide (r3 = 9)) hF) ⟨rfl, rfl, rfl, rfl, rfl, trivial⟩ ⟨rfl, rfl, rfl, rfl, trivial⟩ rfl
        · refine G.cond rfl (fun hx => Bool.noConfusion (hc51.symm.trans hx)) (fun _ => ?_)
          refine G.region ?_
          refine G.op1 (op_eqI (Ev.t 16 (bI .i64 r3)) (Ev.c _ rfl) rfl) rfl ⟨rfl, trivial⟩ trivial ?_
          refine G.op1 (op_assign (Ev.t 31 (bB (decide (r3 = 10)))) rfl) rfl ⟨rfl, trivial⟩ trivial ?_
          refine G.endOps ?_
          exact G.arr (J49 (decide (r3 = 10)) hF) ⟨rfl, rfl, rfl, rfl, rfl, trivial⟩ ⟨rfl, rfl, rfl, rfl, trivial⟩ rfl
  refine ifS hF (fun hc53 hF => ?_) (fun hc53 hF => ?_)
  · refine G.cond rfl (fun _ => ?_) (fun hx => Bool.noConfusion (hc53.symm.trans hx))
    refine G.skip ?_
    exact G.arr (J52 (decide (r3 = 1)) hF) ⟨rfl, rfl, rfl, rfl, rfl, trivial⟩ ⟨rfl, rfl, rfl, rfl, trivial⟩ rfl
  · refine G.cond rfl (fun hx => Bool.noConfusion (hc53.symm.trans hx)) (fun _ => ?_)
    refine G.seq ?_
    refine G.region ?_
    refine G.op1 (op_eqI (Ev.t 16 (bI .i64 r3)) (Ev.c _ rfl) rfl) rfl ⟨rfl, trivial⟩ trivial ?_
    refine G.op1 (op_assign (Ev.t 19 (bB (decide (r3 = 2)))) rfl) rfl ⟨rfl, trivial⟩ trivial ?_
    refine G.endOps ?_
    refine ifS hF (fun hc54 hF => ?_) (fun hc54 hF => ?_)
    · refine G.cond rfl (fun _ => ?_) (fun hx => Bool.noConfusion (hc54.symm.trans hx))
      refine G.skip ?_
      exact G.arr (J52 (decide (r3 = 2)) hF) ⟨rfl, rfl, rfl, rfl, rfl, trivial⟩ ⟨rfl, rfl, rfl, rfl, trivial⟩ rfl
    · refine G.cond rfl (fun hx => Bool.noConfusion (hc54.symm.trans hx)) (fun _ => ?_)
      refine G.seq ?_
      refine G.region ?_
      refine G.op1 (op_eqI (Ev.t 16 (bI .i64 r3)) (Ev.c _ rfl) rfl) rfl ⟨rfl, trivial⟩ trivial ?_
      refine G.op1 (op_assign (Ev.t 20 (bB (decide (r3 = 3)))) rfl) rfl ⟨rfl, trivial⟩ trivial ?_
      refine G.endOps ?_
      refine ifS hF (fun hc55 hF => ?_) (fun hc55 hF => ?_)
      · refine G.cond rfl (fun _ => ?_) (fun hx => Bool.noConfusion (hc55.symm.trans hx))
        refine G.skip ?_
        exact G.arr (J52 (decide (r3 = 3)) hF) ⟨rfl, rfl, rfl, rfl, rfl, trivial⟩ ⟨rfl, rfl, rfl, rfl, trivial⟩ rfl
      · refine G.cond rfl (fun hx => Bool.noConfusion (hc55.symm.trans hx)) (fun _ => ?_)
        refine G.seq ?_
        refine G.region ?_
        refine G.op1 (op_eqI (Ev.t 16 (bI .i64 r3)) (Ev.c _ rfl) rfl) rfl ⟨rfl, trivial⟩ trivial ?_
        refine G.op1 (op_assign (Ev.t 21 (bB (decide (r3 = 4)))) rfl) rfl ⟨rfl, trivial⟩ trivial ?_
        refine G.endOps ?_
        refine ifS hF (fun hc56 hF => ?_) (fun hc56 hF => ?_)
        · refine G.cond rfl (fun _ => ?_) (fun hx => Bool.noConfusion (hc56.symm.trans hx))
          refine G.skip ?_
          exact G.arr (J52 (decide (r3 = 4)) hF) ⟨rfl, rfl, rfl, rfl, rfl, trivial⟩ ⟨rfl, rfl, rfl, rfl, trivial⟩ rfl
        · refine G.cond rfl (fun hx => Bool.noConfusion (hc56.symm.trans hx)) (fun _ => ?_)
          refine G.seq ?_
          refine G.region ?_
          refine G.op1 (op_eqI (Ev.t 16 (bI .i64 r3)) (Ev.c _ rfl) rfl) rfl ⟨rfl, trivial⟩ trivial ?_
          refine G.op1 (op_assign (Ev.t 22 (bB (decide (r3 = 5)))) rfl) rfl ⟨rfl, trivial⟩ trivial ?_
          refine G.endOps ?_
          refine ifS hF (fun hc57 hF => ?_) (fun hc57 hF => ?_)
          · refine G.cond rfl (fun _ => ?_) (fun hx => Bool.noConfusion (hc57.symm.trans hx))
            refine G.skip ?_
            exact G.arr (J52 (decide (r3 = 5)) hF) ⟨rfl, rfl, rfl, rfl, rfl, trivial⟩ ⟨rfl, rfl, rfl, rfl, trivial⟩ rfl
          · refine G.cond rfl (fun hx => Bool.noConfusion (hc57.symm.trans hx)) (fun _ => ?_)
            refine G.seq ?_
            refine G.region ?_
            refine G.op1 (op_eqI (Ev.t 16 (bI .i64 r3)) (Ev.c _ rfl) rfl) rfl ⟨rfl, trivial⟩ trivial ?_
            refine G.op1 (op_assign (Ev.t 23 (bB (decide (r3 = 6)))) rfl) rfl ⟨rfl, trivial⟩ trivial ?_
            refine G.endOps ?_
            refine ifS hF (fun hc58 hF => ?_) (fun hc58 hF => ?_)
            · refine G.cond rfl (fun _ => ?_) (fun hx => Bool.noConfusion (hc58.symm.trans hx))
              refine G.skip ?_
              exact G.arr (J52 (decide (r3 = 6)) hF) ⟨rfl, rfl, rfl, rfl, rfl, trivial⟩ ⟨rfl, rfl, rfl, rfl, trivial⟩ rfl
            · refine G.cond rfl (fun hx => Bool.noConfusion (hc58.symm.trans hx)) (fun _ => ?_)
              refine G.region ?_
              refine G.op1 (op_eqI (Ev.t 16 (bI .i64 r3)) (Ev.c _ rfl) rfl) rfl ⟨rfl, trivial⟩ trivial ?_
              refine G.op1 (op_assign (Ev.t 24 (bB (decide (r3 = 7)))) rfl) rfl ⟨rfl, trivial⟩ trivial ?_
              refine G.endOps ?_
              exact G.arr (J52 (decide (r3 = 7)) hF) ⟨rfl, rfl, rfl, rfl, rfl, trivial⟩ ⟨rfl, rfl, rfl, rfl, trivial⟩ rfl


set_option maxRecDepth 20000 in
set_option maxHeartbeats 2000000 in
theorem ct_words_Parse (s_0 : ByteArray) (r : ((List Api_Op) × Int)) (hF : words_Parse s_0 = some r) : CtG Tryd.prog Γ0 11 [.g (.d (.v (.string s_0)))] (.tup [.d (.sl 12 (List.map encApi_Op r.1)), .d (.v (.int .i64 r.2))]) := by
  unfold words_Parse at hF
  refine CtG.intro (GL.ok _ _ _) Tryd.func11 rfl Tryd.ntmps11 rfl rfl fun M w hG => ?_
  refine G.seq ?_
  refine G.region ?_
  refine G.op1 (op_assign (Ev.n 12) rfl) rfl trivial trivial ?_
  refine G.op1 (op_assign (Ev.c _ rfl) rfl) rfl trivial trivial ?_
  refine G.endOps ?_
  refine G.seq ?_
  refine G.region ?_
  refine G.op2 (op_assignRow (E := 30) (size := 12) (k := 2004) (ex := false) rfl rfl) rfl trivial ⟨rfl, trivial⟩ ?_
  refine G.endOps ?_
  refine G.seq ?_
  refine G.seq ?_
  refine G.region ?_
  refine G.op1 (op_move (Ev.t 0 (bS s_0)) rfl) rfl ⟨rfl, trivial⟩ trivial ?_
  obtain ⟨r1, hr1, hF⟩ := bindS hF
  refine G.op1 (op_callG (sv := .one (.g (.d (.sl 1 (List.map encS r1))))) hG cf21 (ct_strings_Split s_0 (ByteArray.mk #[10]) r1 hr1) rfl (EvL.cons (Ev.t 10 (bS s_0)) (EvL.cons (Ev.c _ rfl) EvL.nil)) rfl) rfl ⟨rfl, trivial⟩ trivial ?_
  refine G.op1 (OpL.cast (op_lenD Tryd.underlying24 (Ev.t 11 (.g (.d (.sl 1 (List.map encS r1))))) rfl) (by rw [List.length_map])) rfl ⟨rfl, trivial⟩ trivial ?_
  refine G.op1 (op_move (Ev.c _ rfl) rfl) rfl trivial trivial ?_
  refine G.endOps ?_
  refine G.joinC (T := (List Api_Op)) (fun y2 => ⟨[(4, .one (.own 2004 (List.map encApi_Op y2)))], [(2004, some (.row 30 12 (List.map encApi_Op y2) false))]⟩) (fun y2 => words_Parse_k1 y2 = some r) (fun y2 hF => ?_) (fun J3 => ?_)
  · unfold words_Parse_k1 at hF
    refine G.seq ?_
    refine G.region ?_
    refine G.op1 (op_move (Ev.t 4 (.own 2004 (List.map encApi_Op y2))) rfl) rfl ⟨rfl, trivial⟩ trivial ?_
    refine G.op1 (op_assign (Ev.t 43 (.own 2004 (List.map encApi_Op y2))) rfl) rfl ⟨rfl, trivial⟩ trivial ?_
    refine G.op1 (op_assign (Ev.c _ rfl) rfl) rfl trivial trivial ?_
    refine G.endOps ?_
    refine G.view (t := 2) rfl rfl ?_
    cases hF
    exact G.ret2 Tryd.results11 (RVar.tmp 2 _) (RVar.tmp 3 _) ⟨rfl, rfl, trivial⟩ trivial
  refine G.block ?_
  refine G.keep (sl' := [(4, .one (.own 2004 (List.map encApi_Op ([] : (List Api_Op))))), (11, .one (.g (.d (.sl 1 (List.map encS r1))))), (12, .one (bI .i64 (r1.length : Int))), (13, .one (bI .i64 0))]) (hp' := [(2004, some (.row 30 12 (List.map encApi_Op ([] : (List Api_Op))) false))]) ⟨rfl, rfl, rfl, rfl, trivial⟩ ⟨rfl, trivial⟩ rfl ?_
  refine G.loopF (fun (v4 : Int × (List Api_Op)) => ⟨[(4, .one (.own 2004 (List.map encApi_Op v4.2))), (11, .one (.g (.d (.sl 1 (List.map encS r1))))), (12, .one (bI .i64 (r1.length : Int))), (13, .one (bI .i64 v4.1))], [(2004, some (.row 30 12 (List.map encApi_Op v4.2) false))]⟩) hF rfl (fun K7 again6 v4 J5 hF => ?_)
  unfold words_Parse_l2 at hF
  refine G.seq ?_
  refine G.region ?_
  refine G.op1 (op_lss (Ev.t 13 (bI .i64 v4.1)) (Ev.t 12 (bI .i64 (r1.length : Int))) rfl) rfl ⟨rfl, rfl, trivial⟩ trivial ?_
  refine G.endOps ?_
  refine G.seq ?_
  refine ifS hF (fun hc8 hF => ?_) (fun hc8 hF => ?_)
  · refine G.cond rfl (fun _ => ?_) (fun hx => Bool.noConfusion (hc8.symm.trans hx))
    refine G.skip ?_
    refine G.seq ?_
    refine G.block ?_
    refine G.seq ?_
    refine G.region ?_
    refine G.op1 (op_move (Ev.t 13 (bI .i64 v4.1)) rfl) rfl ⟨rfl, trivial⟩ trivial ?_
    obtain ⟨x9, hx9, hF⟩ := bindS hF
    refine G.op1 (op_index (cs := [.v (.string x9)]) Tryd.underlying24 ti9 (idx_ok hx9).1 (idx_get hx9 encS) (Ev.t 11 (.g (.d (.sl 1 (List.map encS r1))))) (Ev.t 13 (bI .i64 v4.1)) rfl) rfl ⟨rfl, rfl, trivial⟩ trivial ?_
    refine G.op1 (op_load1E (c := .v (.string x9)) Tryd.underlying9 rfl rfl (Ev.t 16 (.ep [.v (.string x9)])) rfl) rfl ⟨rfl, trivial⟩ trivial ?_
    refine G.op1 (op_assign (Ev.t 15 (bI .i64 v4.1)) rfl) rfl ⟨rfl, trivial⟩ trivial ?_
    refine G.op1 (op_assign (Ev.t 17 (bS x9)) rfl) rfl ⟨rfl, trivial⟩ trivial ?_
    refine G.endOps ?_
    refine G.seq ?_
    refine G.seq ?_
    refine G.region ?_
    refine G.op1 (op_move (Ev.t 6 (bS x9)) rfl) rfl ⟨rfl, trivial⟩ trivial ?_
    obtain ⟨r10, hr10, hF⟩ := bindS hF
    refine G.op1 (op_callQ (sv := .one (bB r10)) cf22 (ct_words_silent x9 r10 hr10) rfl rfl (EvQL.cons (EvQ.g (Ev.t 18 (bS x9))) EvQL.nil) rfl) rfl ⟨rfl, trivial⟩ trivial ?_
    refine G.endOps ?_
    refine ifS hF (fun hc11 hF => ?_) (fun hc11 hF => ?_)
    · refine G.cond rfl (fun _ => ?_) (fun hx => Bool.noConfusion (hc11.symm.trans hx))
      refine G.exit ?_
      refine GX.c ?_
      refine GX.bYes ?_
      refine G.region ?_
      refine G.op1 (op_add (Ev.t 13 (bI .i64 v4.1)) (Ev.c _ rfl) rfl) rfl ⟨rfl, trivial⟩ trivial ?_
      refine G.op1 (op_move (Ev.t 42 (bI .i64 (IntKind.wrap .i64 (v4.1 + 1)))) rfl) rfl ⟨rfl, trivial⟩ trivial ?_
      refine G.endOps ?_
      exact G.arr (J5 (IntKind.wrap .i64 (v4.1 + 1), v4.2) hF) ⟨rfl, rfl, rfl, rfl, trivial⟩ ⟨rfl, trivial⟩ rfl
    · refine G.cond rfl (fun hx => Bool.noConfusion (hc11.symm.trans hx)) (fun _ => ?_)
      refine G.skip ?_
      refine G.seq ?_
      refine G.region ?_
      refine G.op1 (op_move (Ev.t 6 (bS x9)) rfl) rfl ⟨rfl, trivial⟩ trivial ?_
      obtain ⟨r12, hr12, hF⟩ := bindS hF
      refine G.op1 (op_callG (sv := .tup [.g (.d (.sl 1 (List.map encS r12.1))), bB r12.2]) hG cf15 (ct_words_Words x9 r12 hr12) rfl (EvL.cons (Ev.t 21 (bS x9)) EvL.nil) rfl) rfl ⟨rfl, trivial⟩ trivial ?_
      refine G.op1 (op_moveS (t := 22) (sv := .tup [.g (.d (.sl 1 (List.map encS r12.1))), bB r12.2]) rfl) rfl ⟨rfl, trivial⟩ trivial ?_
      refine G.op1 (op_extract (l := [.g (.d (.sl 1 (List.map encS r12.1))), bB r12.2]) (c := .g (.d (.sl 1 (List.map encS r12.1)))) rfl rfl) rfl ⟨rfl, trivial⟩ trivial ?_
      refine G.op1 (op_extract (l := [.g (.d (.sl 1 (List.map encS r12.1))), bB r12.2]) (c := bB r12.2) rfl rfl) rfl ⟨rfl, trivial⟩ trivial ?_
      refine G.op1 (op_assign (Ev.t 23 (.g (.d (.sl 1 (List.map encS r12.1))))) rfl) rfl ⟨rfl, trivial⟩ trivial ?_
      refine G.op1 (op_assign (Ev.t 24 (bB r12.2)) rfl) rfl ⟨rfl, trivial⟩ trivial ?_
      refine G.endOps ?_
      refine G.seq ?_
      refine G.seq ?_
      refine G.region ?_
      refine G.op1 (op_move (Ev.t 8 (bB r12.2)) rfl) rfl ⟨rfl, trivial⟩ trivial ?_
      refine G.op1 (op_not (Ev.t 25 (bB r12.2)) rfl) rfl ⟨rfl, trivial⟩ trivial ?_
      refine G.endOps ?_
      refine ifS hF (fun hc13 hF => ?_) (fun hc13 hF => ?_)
      · refine G.cond rfl (fun _ => ?_) (fun hx => Bool.noConfusion (hc13.symm.trans hx))
        refine G.seq ?_
        refine G.region ?_
        refine G.op1 (op_move (Ev.t 5 (bI .i64 v4.1)) rfl) rfl ⟨rfl, trivial⟩ trivial ?_
        refine G.op1 (op_add (Ev.t 27 (bI .i64 v4.1)) (Ev.c _ rfl) rfl) rfl ⟨rfl, trivial⟩ trivial ?_
        refine G.op1 (op_assign (Ev.n 12) rfl) rfl trivial trivial ?_
        refine G.op1 (op_assign (Ev.t 28 (bI .i64 (IntKind.wrap .i64 (v4.1 + 1)))) rfl) rfl ⟨rfl, trivial⟩ trivial ?_
        refine G.endOps ?_
        cases hF
        exact G.ret2 Tryd.results11 (RVar.tmp 2 _) (RVar.tmp 3 _) ⟨rfl, rfl, trivial⟩ trivial
      · refine G.cond rfl (fun hx => Bool.noConfusion (hc13.symm.trans hx)) (fun _ => ?_)
        refine G.skip ?_
        refine G.seq ?_
        refine G.region ?_
        refine G.op1 (op_move (Ev.t 7 (.g (.d (.sl 1 (List.map encS r12.1))))) rfl) rfl ⟨rfl, trivial⟩ trivial ?_
        obtain ⟨r14, hr14, hF⟩ := bindS hF
        refine G.op1 (op_call (sv := .tup [.g (.agg [.v (.int .i64 r14.1.Kind), .v (.int .i64 r14.1.Client), .v (.int .i64 r14.1.Site), .v (.int .i64 r14.1.To), .v (.int .i64 r14.1.At), .v (.int .i64 r14.1.How), .v (.string r14.1.Key), .v (.string r14.1.Value), .sl 1 (List.map encS r14.1.Keys), .sl 2 (List.map encApi_Range r14.1.Row.Ranges), .sl 1 (List.map encI_i64 r14.1.Row.Owners), .sl 1 (List.map encI_i64 r14.1.Row.Parents)]), bB r14.2]) cf23 (ct_words_step r12.1 r14 hr14) rfl (EvL.cons (Ev.t 30 (.g (.d (.sl 1 (List.map encS r12.1))))) EvL.nil) rfl) rfl ⟨rfl, trivial⟩ trivial ?_
        refine G.op1 (op_moveS (t := 31) (sv := .tup [.g (.agg [.v (.int .i64 r14.1.Kind), .v (.int .i64 r14.1.Client), .v (.int .i64 r14.1.Site), .v (.int .i64 r14.1.To), .v (.int .i64 r14.1.At), .v (.int .i64 r14.1.How), .v (.string r14.1.Key), .v (.string r14.1.Value), .sl 1 (List.map encS r14.1.Keys), .sl 2 (List.map encApi_Range r14.1.Row.Ranges), .sl 1 (List.map encI_i64 r14.1.Row.Owners), .sl 1 (List.map encI_i64 r14.1.Row.Parents)]), bB r14.2]) rfl) rfl ⟨rfl, trivial⟩ trivial ?_
        refine G.op1 (op_extract (l := [.g (.agg [.v (.int .i64 r14.1.Kind), .v (.int .i64 r14.1.Client), .v (.int .i64 r14.1.Site), .v (.int .i64 r14.1.To), .v (.int .i64 r14.1.At), .v (.int .i64 r14.1.How), .v (.string r14.1.Key), .v (.string r14.1.Value), .sl 1 (List.map encS r14.1.Keys), .sl 2 (List.map encApi_Range r14.1.Row.Ranges), .sl 1 (List.map encI_i64 r14.1.Row.Owners), .sl 1 (List.map encI_i64 r14.1.Row.Parents)]), bB r14.2]) (c := .g (.agg [.v (.int .i64 r14.1.Kind), .v (.int .i64 r14.1.Client), .v (.int .i64 r14.1.Site), .v (.int .i64 r14.1.To), .v (.int .i64 r14.1.At), .v (.int .i64 r14.1.How), .v (.string r14.1.Key), .v (.string r14.1.Value), .sl 1 (List.map encS r14.1.Keys), .sl 2 (List.map encApi_Range r14.1.Row.Ranges), .sl 1 (List.map encI_i64 r14.1.Row.Owners), .sl 1 (List.map encI_i64 r14.1.Row.Parents)])) rfl rfl) rfl ⟨rfl, trivial⟩ trivial ?_
        refine G.op1 (op_extract (l := [.g (.agg [.v (.int .i64 r14.1.Kind), .v (.int .i64 r14.1.Client), .v (.int .i64 r14.1.Site), .v (.int .i64 r14.1.To), .v (.int .i64 r14.1.At), .v (.int .i64 r14.1.How), .v (.string r14.1.Key), .v (.string r14.1.Value), .sl 1 (List.map encS r14.1.Keys), .sl 2 (List.map encApi_Range r14.1.Row.Ranges), .sl 1 (List.map encI_i64 r14.1.Row.Owners), .sl 1 (List.map encI_i64 r14.1.Row.Parents)]), bB r14.2]) (c := bB r14.2) rfl rfl) rfl ⟨rfl, trivial⟩ trivial ?_
        refine G.op2 (op_alloc (k := 1009) (cs := [bI .i64 0, bI .i64 0, bI .i64 0, bI .i64 0, bI .i64 0, bI .i64 0, bS ByteArray.empty, bS ByteArray.empty, .g (.d (.sl 1 (List.map encS ([] : (List ByteArray))))), .g (.d (.sl 2 (List.map encApi_Range ([] : (List Api_Range))))), .g (.d (.sl 1 (List.map encI_i64 ([] : (List Int))))), .g (.d (.sl 1 (List.map encI_i64 ([] : (List Int)))))]) ti30 ⟨.v _ rfl, .v _ rfl, .v _ rfl, .v _ rfl, .v _ rfl, .v _ rfl, .v _ rfl, .v _ rfl, .n 1, .n 2, .n 1, .n 1, trivial⟩ rfl) rfl trivial ⟨rfl, trivial⟩ ?_
        refine G.op3 (op_storeA (cs' := [bI .i64 r14.1.Kind, bI .i64 r14.1.Client, bI .i64 r14.1.Site, bI .i64 r14.1.To, bI .i64 r14.1.At, bI .i64 r14.1.How, bS r14.1.Key, bS r14.1.Value, .g (.d (.sl 1 (List.map encS r14.1.Keys))), .g (.d (.sl 2 (List.map encApi_Range r14.1.Row.Ranges))), .g (.d (.sl 1 (List.map encI_i64 r14.1.Row.Owners))), .g (.d (.sl 1 (List.map encI_i64 r14.1.Row.Parents)))]) ti30 rfl rfl (Ev.t 9 (.ptr 1009 0)) (Ev.t 32 (.g (.agg [.v (.int .i64 r14.1.Kind), .v (.int .i64 r14.1.Client), .v (.int .i64 r14.1.Site), .v (.int .i64 r14.1.To), .v (.int .i64 r14.1.At), .v (.int .i64 r14.1.How), .v (.string r14.1.Key), .v (.string r14.1.Value), .sl 1 (List.map encS r14.1.Keys), .sl 2 (List.map encApi_Range r14.1.Row.Ranges), .sl 1 (List.map encI_i64 r14.1.Row.Owners), .sl 1 (List.map encI_i64 r14.1.Row.Parents)])))) rfl ⟨rfl, rfl, trivial⟩ ⟨rfl, trivial⟩ ?_
        refine G.op1 (op_assign (Ev.t 33 (bB r14.2)) rfl) rfl ⟨rfl, trivial⟩ trivial ?_
        refine G.endOps ?_
        refine G.seq ?_
        refine G.seq ?_
        refine G.region ?_
        refine G.op1 (op_move (Ev.t 8 (bB r14.2)) rfl) rfl ⟨rfl, trivial⟩ trivial ?_
        refine G.op1 (op_not (Ev.t 34 (bB r14.2)) rfl) rfl ⟨rfl, trivial⟩ trivial ?_
        refine G.endOps ?_
        refine ifS hF (fun hc15 hF => ?_) (fun hc15 hF => ?_)
        · refine G.cond rfl (fun _ => ?_) (fun hx => Bool.noConfusion (hc15.symm.trans hx))
          refine G.seq ?_
          refine G.region ?_
          refine G.op1 (op_move (Ev.t 5 (bI .i64 v4.1)) rfl) rfl ⟨rfl, trivial⟩ trivial ?_
          refine G.op1 (op_add (Ev.t 36 (bI .i64 v4.1)) (Ev.c _ rfl) rfl) rfl ⟨rfl, trivial⟩ trivial ?_
          refine G.op1 (op_assign (Ev.n 12) rfl) rfl trivial trivial ?_
          refine G.op1 (op_assign (Ev.t 37 (bI .i64 (IntKind.wrap .i64 (v4.1 + 1)))) rfl) rfl ⟨rfl, trivial⟩ trivial ?_
          refine G.endOps ?_
          cases hF
          exact G.ret2 Tryd.results11 (RVar.tmp 2 _) (RVar.tmp 3 _) ⟨rfl, rfl, trivial⟩ trivial
        · refine G.cond rfl (fun hx => Bool.noConfusion (hc15.symm.trans hx)) (fun _ => ?_)
          refine G.skip ?_
          refine G.region ?_
          refine G.op1 (op_move (Ev.t 4 (.own 2004 (List.map encApi_Op v4.2))) rfl) rfl ⟨rfl, trivial⟩ trivial ?_
          refine G.op1 (op_loadAP (ds := [.v (.int .i64 r14.1.Kind), .v (.int .i64 r14.1.Client), .v (.int .i64 r14.1.Site), .v (.int .i64 r14.1.To), .v (.int .i64 r14.1.At), .v (.int .i64 r14.1.How), .v (.string r14.1.Key), .v (.string r14.1.Value), .sl 1 (List.map encS r14.1.Keys), .sl 2 (List.map encApi_Range r14.1.Row.Ranges), .sl 1 (List.map encI_i64 r14.1.Row.Owners), .sl 1 (List.map encI_i64 r14.1.Row.Parents)]) Tryd.underlying30 rfl ti30 rfl (Ev.t 9 (.ptr 1009 0)) rfl) rfl ⟨rfl, trivial⟩ ⟨rfl, trivial⟩ ?_
          refine G.op1 (op_buildSlice (es := List.map encApi_Op [r14.1]) Tryd.underlying22 ti30 rfl rfl (EvP.cons (Ev.t 39 (.g (.agg [.v (.int .i64 r14.1.Kind), .v (.int .i64 r14.1.Client), .v (.int .i64 r14.1.Site), .v (.int .i64 r14.1.To), .v (.int .i64 r14.1.At), .v (.int .i64 r14.1.How), .v (.string r14.1.Key), .v (.string r14.1.Value), .sl 1 (List.map encS r14.1.Keys), .sl 2 (List.map encApi_Range r14.1.Row.Ranges), .sl 1 (List.map encI_i64 r14.1.Row.Owners), .sl 1 (List.map encI_i64 r14.1.Row.Parents)]))) EvP.nil) rfl rfl (by simp [encApi_Op]) rfl) rfl ⟨rfl, trivial⟩ trivial ?_
          obtain ⟨l16, hl16, hF⟩ := bindS hF
          refine G.op2 (op_appendO Tryd.underlying22 ti30 rfl (app_map hl16 encApi_Op) (app_b1 hl16 encApi_Op) (app_b2 hl16 encApi_Op) (Ev.t 38 (.own 2004 (List.map encApi_Op v4.2))) (Ev.t 40 (.g (.d (.sl 12 (List.map encApi_Op ([r14.1])))))) rfl) rfl ⟨rfl, rfl, trivial⟩ ⟨rfl, trivial⟩ ?_
          refine G.op1 (op_assign (Ev.t 41 (.own 2004 (List.map encApi_Op l16))) rfl) rfl ⟨rfl, trivial⟩ trivial ?_
          refine G.endOps ?_
          refine G.endBlock ?_
          refine G.region ?_
          refine G.op1 (op_add (Ev.t 13 (bI .i64 v4.1)) (Ev.c _ rfl) rfl) rfl ⟨rfl, trivial⟩ trivial ?_
          refine G.op1 (op_move (Ev.t 42 (bI .i64 (IntKind.wrap .i64 (v4.1 + 1)))) rfl) rfl ⟨rfl, trivial⟩ trivial ?_
          refine G.endOps ?_
          exact G.arr (J5 (IntKind.wrap .i64 (v4.1 + 1), l16) hF) ⟨rfl, rfl, rfl, rfl, trivial⟩ ⟨rfl, trivial⟩ rfl
  · refine G.cond rfl (fun hx => Bool.noConfusion (hc8.symm.trans hx)) (fun _ => ?_)
    refine G.exit ?_
    refine GX.c ?_
    refine GX.q ?_
    refine GX.bYes ?_
    exact G.arr (J3 v4.2 hF) ⟨rfl, trivial⟩ ⟨rfl, trivial⟩ rfl


set_option maxRecDepth 20000 in
set_option maxHeartbeats 2000000 in
theorem ct_script_Check_1 (n_0 : Int) (r : Bool) (hF : script_Check_1 n_0 = some r) : Ct Tryd.prog 29 [.g (.d (.v (.int .i64 n_0)))] (.one (.d (.v (.bool r)))) := by
  unfold script_Check_1 at hF
  refine Ct.intro Tryd.func29 rfl Tryd.ntmps29 rfl rfl fun M w => ?_
  refine G.seq ?_
  refine G.region ?_
  refine G.op1 (op_assign (Ev.c _ rfl) rfl) rfl trivial trivial ?_
  refine G.endOps ?_
  refine G.seq ?_
  refine G.region ?_
  refine G.op1 (op_move (Ev.t 0 (bI .i64 n_0)) rfl) rfl ⟨rfl, trivial⟩ trivial ?_
  refine G.op1 (op_lss (Ev.t 3 (bI .i64 n_0)) (Ev.c _ rfl) rfl) rfl ⟨rfl, trivial⟩ trivial ?_
  refine G.op1 (op_move (Ev.t 4 (bB (decide (n_0 < 0)))) rfl) rfl ⟨rfl, trivial⟩ trivial ?_
  refine ifS hF (fun hc1 hF => ?_) (fun hc1 hF => ?_)
  · refine G.known (t := 5) hc1 rfl ?_
    refine G.opN1 rfl rfl rfl rfl rfl ?_
    refine G.opN1 rfl rfl rfl rfl rfl ?_
    refine G.op1 (op_pickT (Ev.t 5 (bB true)) (Ev.c _ rfl) rfl) rfl ⟨rfl, trivial⟩ trivial ?_
    refine G.op1 (op_assign (Ev.t 8 (bB true)) rfl) rfl ⟨rfl, trivial⟩ trivial ?_
    refine G.endOps ?_
    cases hF
    exact G.ret1 Tryd.results29 (RVar.tmp 2 _) ⟨rfl, trivial⟩ trivial
  · refine G.known (t := 5) hc1 rfl ?_
    refine G.opG1 (op_move (Ev.t 0 (bI .i64 n_0)) rfl) rfl rfl rfl ⟨rfl, trivial⟩ trivial ?_
    refine G.opG1 (op_gtr (Ev.t 6 (bI .i64 n_0)) (Ev.c _ rfl) rfl) rfl rfl rfl ⟨rfl, trivial⟩ trivial ?_
    refine G.op1 (op_pickF (Ev.t 5 (bB false)) (Ev.t 7 (bB (decide (63 < n_0)))) rfl) rfl ⟨rfl, rfl, trivial⟩ trivial ?_
    refine G.op1 (op_assign (Ev.t 8 (bB (decide (63 < n_0)))) rfl) rfl ⟨rfl, trivial⟩ trivial ?_
    refine G.endOps ?_
    cases hF
    exact G.ret1 Tryd.results29 (RVar.tmp 2 _) ⟨rfl, trivial⟩ trivial


set_option maxRecDepth 20000 in
set_option maxHeartbeats 2000000 in
theorem ct_script_Check_2 (s_0 : ByteArray) (r : Bool) (hF : script_Check_2 s_0 = some r) : Ct Tryd.prog 30 [.g (.d (.v (.string s_0)))] (.one (.d (.v (.bool r)))) := by
  unfold script_Check_2 at hF
  refine Ct.intro Tryd.func30 rfl Tryd.ntmps30 rfl rfl fun M w => ?_
  refine G.seq ?_
  refine G.region ?_
  refine G.op1 (op_assign (Ev.c _ rfl) rfl) rfl trivial trivial ?_
  refine G.endOps ?_
  refine G.seq ?_
  refine G.region ?_
  refine G.op1 (op_move (Ev.t 0 (bS s_0)) rfl) rfl ⟨rfl, trivial⟩ trivial ?_
  refine G.op1 (op_lenS Tryd.underlying9 (Ev.t 3 (bS s_0)) rfl) rfl ⟨rfl, trivial⟩ trivial ?_
  refine G.op1 (op_gtr (Ev.t 4 (bI .i64 (s_0.size : Int))) (Ev.c _ rfl) rfl) rfl ⟨rfl, trivial⟩ trivial ?_
  refine G.op1 (op_assign (Ev.t 5 (bB (decide (32 < (s_0.size : Int))))) rfl) rfl ⟨rfl, trivial⟩ trivial ?_
  refine G.endOps ?_
  cases hF
  exact G.ret1 Tryd.results30 (RVar.tmp 2 _) ⟨rfl, trivial⟩ trivial


set_option maxRecDepth 20000 in
set_option maxHeartbeats 2000000 in
theorem ct_script_numbers (o_0 : Api_Op) (r : (List Int)) (hF : script_numbers o_0 = some r) : Ct Tryd.prog 32 [.g (.agg (encApi_Op o_0))] (.one (.d (.sl 1 (List.map encI_i64 r)))) := by
  unfold script_numbers at hF
  refine Ct.intro Tryd.func32 rfl Tryd.ntmps32 rfl rfl fun M w => ?_
  refine G.seq ?_
  refine G.region ?_
  refine G.op2 (op_boxA (k := 1001) (Ev.t 0 (.g (.agg [.v (.int .i64 o_0.Kind), .v (.int .i64 o_0.Client), .v (.int .i64 o_0.Site), .v (.int .i64 o_0.To), .v (.int .i64 o_0.At), .v (.int .i64 o_0.How), .v (.string o_0.Key), .v (.string o_0.Value), .sl 1 (List.map encS o_0.Keys), .sl 2 (List.map encApi_Range o_0.Row.Ranges), .sl 1 (List.map encI_i64 o_0.Row.Owners), .sl 1 (List.map encI_i64 o_0.Row.Parents)]))) rfl) rfl ⟨rfl, trivial⟩ ⟨rfl, trivial⟩ ?_
  refine G.op1 (op_assign (Ev.n 1) rfl) rfl trivial trivial ?_
  refine G.endOps ?_
  refine G.seq ?_
  refine G.region ?_
  refine G.op1 (op_fieldP (off' := 0) Tryd.underlying30 rfl ti3 (by decide) rfl (Ev.t 1 (.ptr 1001 0)) rfl) rfl ⟨rfl, trivial⟩ trivial ?_
  refine G.op1 (op_load1P (c := bI .i64 o_0.Kind) Tryd.underlying3 rfl rfl (Ev.t 3 (.ptr 1001 0)) rfl) rfl ⟨rfl, trivial⟩ ⟨rfl, trivial⟩ ?_
  refine G.op1 (op_fieldP (off' := 1) Tryd.underlying30 rfl ti3 (by decide) rfl (Ev.t 1 (.ptr 1001 0)) rfl) rfl ⟨rfl, trivial⟩ trivial ?_
  refine G.op1 (op_load1P (c := bI .i64 o_0.Client) Tryd.underlying3 rfl rfl (Ev.t 5 (.ptr 1001 1)) rfl) rfl ⟨rfl, trivial⟩ ⟨rfl, trivial⟩ ?_
  refine G.op1 (op_fieldP (off' := 2) Tryd.underlying30 rfl ti3 (by decide) rfl (Ev.t 1 (.ptr 1001 0)) rfl) rfl ⟨rfl, trivial⟩ trivial ?_
  refine G.op1 (op_load1P (c := bI .i64 o_0.Site) Tryd.underlying3 rfl rfl (Ev.t 7 (.ptr 1001 2)) rfl) rfl ⟨rfl, trivial⟩ ⟨rfl, trivial⟩ ?_
  refine G.op1 (op_fieldP (off' := 3) Tryd.underlying30 rfl ti3 (by decide) rfl (Ev.t 1 (.ptr 1001 0)) rfl) rfl ⟨rfl, trivial⟩ trivial ?_
  refine G.op1 (op_load1P (c := bI .i64 o_0.To) Tryd.underlying3 rfl rfl (Ev.t 9 (.ptr 1001 3)) rfl) rfl ⟨rfl, trivial⟩ ⟨rfl, trivial⟩ ?_
  refine G.op1 (op_fieldP (off' := 4) Tryd.underlying30 rfl ti3 (by decide) rfl (Ev.t 1 (.ptr 1001 0)) rfl) rfl ⟨rfl, trivial⟩ trivial ?_
  refine G.op1 (op_load1P (c := bI .i64 o_0.At) Tryd.underlying3 rfl rfl (Ev.t 11 (.ptr 1001 4)) rfl) rfl ⟨rfl, trivial⟩ ⟨rfl, trivial⟩ ?_
  refine G.op1 (op_fieldP (off' := 5) Tryd.underlying30 rfl ti3 (by decide) rfl (Ev.t 1 (.ptr 1001 0)) rfl) rfl ⟨rfl, trivial⟩ trivial ?_
  refine G.op1 (op_load1P (c := bI .i64 o_0.How) Tryd.underlying3 rfl rfl (Ev.t 13 (.ptr 1001 5)) rfl) rfl ⟨rfl, trivial⟩ ⟨rfl, trivial⟩ ?_
  refine G.op1 (op_buildSlice (es := List.map encI_i64 [o_0.Kind, o_0.Client, o_0.Site, o_0.To, o_0.At, o_0.How]) Tryd.underlying26 ti3 rfl rfl (EvP.cons (Ev.t 4 (bI .i64 o_0.Kind)) (EvP.cons (Ev.t 6 (bI .i64 o_0.Client)) (EvP.cons (Ev.t 8 (bI .i64 o_0.Site)) (EvP.cons (Ev.t 10 (bI .i64 o_0.To)) (EvP.cons (Ev.t 12 (bI .i64 o_0.At)) (EvP.cons (Ev.t 14 (bI .i64 o_0.How)) EvP.nil)))))) rfl rfl (by simp [encI_i64]) rfl) rfl ⟨rfl, rfl, rfl, rfl, rfl, rfl, trivial⟩ trivial ?_
  refine G.op1 (op_assign (Ev.t 15 (.g (.d (.sl 1 (List.map encI_i64 ([o_0.Kind, o_0.Client, o_0.Site, o_0.To, o_0.At, o_0.How])))))) rfl) rfl ⟨rfl, trivial⟩ trivial ?_
  refine G.endOps ?_
  cases hF
  exact G.ret1 Tryd.results32 (RVar.tmp 2 _) ⟨rfl, trivial⟩ trivial


set_option maxRecDepth 20000 in
set_option maxHeartbeats 2000000 in
theorem ct_slices_IndexFunc_string (s_0 : (List ByteArray)) (f_1 : (ByteArray → Option Bool)) (r : Int) (hF : slices_IndexFunc_string s_0 f_1 = some r) : Ct Tryd.prog 57 [.g (.d (.sl 1 (List.map encS s_0))), .sem (sem1 (fun x => .d (.v (.string x))) (fun y => .bool y) f_1)] (.one (.d (.v (.int .i64 r)))) := by
  unfold slices_IndexFunc_string at hF
  refine Ct.intro Tryd.func57 rfl Tryd.ntmps57 rfl rfl fun M w => ?_
  refine G.seq ?_
  refine G.region ?_
  refine G.op1 (op_assign (Ev.c _ rfl) rfl) rfl trivial trivial ?_
  refine G.endOps ?_
  refine G.seq ?_
  refine G.seq ?_
  refine G.region ?_
  refine G.op1 (op_move (Ev.t 0 (.g (.d (.sl 1 (List.map encS s_0))))) rfl) rfl ⟨rfl, trivial⟩ trivial ?_
  refine G.op1 (OpL.cast (op_lenD Tryd.underlying24 (Ev.t 6 (.g (.d (.sl 1 (List.map encS s_0))))) rfl) (by rw [List.length_map])) rfl ⟨rfl, trivial⟩ trivial ?_
  refine G.op1 (op_move (Ev.c _ rfl) rfl) rfl trivial trivial ?_
  refine G.endOps ?_
  refine G.joinC (T := Unit) (fun y1 => ⟨[], []⟩) (fun y1 => slices_IndexFunc_string_k1 y1 = some r) (fun y1 hF => ?_) (fun J2 => ?_)
  · unfold slices_IndexFunc_string_k1 at hF
    refine G.seq ?_
    refine G.region ?_
    refine G.op1 (op_assign (Ev.c _ rfl) rfl) rfl trivial trivial ?_
    refine G.endOps ?_
    cases hF
    exact G.ret1 Tryd.results57 (RVar.tmp 4 _) ⟨rfl, trivial⟩ trivial
  refine G.block ?_
  refine G.keep (sl' := [(0, .one (.g (.d (.sl 1 (List.map encS s_0))))), (1, .one (.sem (sem1 (fun x => .d (.v (.string x))) (fun y => .bool y) f_1))), (7, .one (bI .i64 (s_0.length : Int))), (8, .one (bI .i64 0))]) (hp' := []) ⟨rfl, rfl, rfl, rfl, trivial⟩ trivial rfl ?_
  refine G.loopF (fun (v3 : Int) => ⟨[(0, .one (.g (.d (.sl 1 (List.map encS s_0))))), (1, .one (.sem (sem1 (fun x => .d (.v (.string x))) (fun y => .bool y) f_1))), (7, .one (bI .i64 (s_0.length : Int))), (8, .one (bI .i64 v3))], []⟩) hF rfl (fun K6 again5 v3 J4 hF => ?_)
  unfold slices_IndexFunc_string_l2 at hF
  refine G.seq ?_
  refine G.region ?_
  refine G.op1 (op_lss (Ev.t 8 (bI .i64 v3)) (Ev.t 7 (bI .i64 (s_0.length : Int))) rfl) rfl ⟨rfl, rfl, trivial⟩ trivial ?_
  refine G.endOps ?_
  refine G.seq ?_
  refine ifS hF (fun hc7 hF => ?_) (fun hc7 hF => ?_)
  · refine G.cond rfl (fun _ => ?_) (fun hx => Bool.noConfusion (hc7.symm.trans hx))
    refine G.skip ?_
    refine G.seq ?_
    refine G.block ?_
    refine G.seq ?_
    refine G.region ?_
    refine G.op1 (op_move (Ev.t 8 (bI .i64 v3)) rfl) rfl ⟨rfl, trivial⟩ trivial ?_
    refine G.op1 (op_assign (Ev.t 10 (bI .i64 v3)) rfl) rfl ⟨rfl, trivial⟩ trivial ?_
    refine G.endOps ?_
    refine G.seq ?_
    refine G.region ?_
    refine G.op1 (op_move (Ev.t 1 (.sem (sem1 (fun x => .d (.v (.string x))) (fun y => .bool y) f_1))) rfl) rfl ⟨rfl, trivial⟩ trivial ?_
    refine G.op1 (op_move (Ev.t 0 (.g (.d (.sl 1 (List.map encS s_0))))) rfl) rfl ⟨rfl, trivial⟩ trivial ?_
    refine G.op1 (op_move (Ev.t 5 (bI .i64 v3)) rfl) rfl ⟨rfl, trivial⟩ trivial ?_
    obtain ⟨x8, hx8, hF⟩ := bindS hF
    refine G.op1 (op_index (cs := [.v (.string x8)]) Tryd.underlying24 ti9 (idx_ok hx8).1 (idx_get hx8 encS) (Ev.t 12 (.g (.d (.sl 1 (List.map encS s_0))))) (Ev.t 13 (bI .i64 v3)) rfl) rfl ⟨rfl, rfl, trivial⟩ trivial ?_
    refine G.op1 (op_load1E (c := .v (.string x8)) Tryd.underlying9 rfl rfl (Ev.t 14 (.ep [.v (.string x8)])) rfl) rfl ⟨rfl, trivial⟩ trivial ?_
    obtain ⟨r9, hr9, hF⟩ := bindS hF
    refine G.op1 (op_callSem (t := 11) (v := .bool r9) (Φ := sem1 (fun x => .d (.v (.string x))) (fun y => .bool y) f_1) ⟨x8, r9, rfl, hr9, rfl⟩ rfl (EvL.cons (Ev.t 15 (bS x8)) EvL.nil) rfl) rfl ⟨rfl, rfl, trivial⟩ trivial ?_
    refine G.endOps ?_
    refine ifS hF (fun hc10 hF => ?_) (fun hc10 hF => ?_)
    · refine G.cond rfl (fun _ => ?_) (fun hx => Bool.noConfusion (hc10.symm.trans hx))
      refine G.seq ?_
      refine G.region ?_
      refine G.op1 (op_move (Ev.t 5 (bI .i64 v3)) rfl) rfl ⟨rfl, trivial⟩ trivial ?_
      refine G.op1 (op_assign (Ev.t 17 (bI .i64 v3)) rfl) rfl ⟨rfl, trivial⟩ trivial ?_
      refine G.endOps ?_
      cases hF
      exact G.ret1 Tryd.results57 (RVar.tmp 4 _) ⟨rfl, trivial⟩ trivial
    · refine G.cond rfl (fun hx => Bool.noConfusion (hc10.symm.trans hx)) (fun _ => ?_)
      refine G.skip ?_
      refine G.endBlock ?_
      refine G.region ?_
      refine G.op1 (op_add (Ev.t 8 (bI .i64 v3)) (Ev.c _ rfl) rfl) rfl ⟨rfl, trivial⟩ trivial ?_
      refine G.op1 (op_move (Ev.t 18 (bI .i64 (IntKind.wrap .i64 (v3 + 1)))) rfl) rfl ⟨rfl, trivial⟩ trivial ?_
      refine G.endOps ?_
      exact G.arr (J4 (IntKind.wrap .i64 (v3 + 1)) hF) ⟨rfl, rfl, rfl, rfl, trivial⟩ trivial rfl
  · refine G.cond rfl (fun hx => Bool.noConfusion (hc7.symm.trans hx)) (fun _ => ?_)
    refine G.exit ?_
    refine GX.c ?_
    refine GX.q ?_
    refine GX.bYes ?_
    exact G.arr (J2 () hF) trivial trivial rfl


set_option maxRecDepth 20000 in
set_option maxHeartbeats 2000000 in
theorem ct_slices_ContainsFunc_string (s_0 : (List ByteArray)) (f_1 : (ByteArray → Option Bool)) (r : Bool) (hF : slices_ContainsFunc_string s_0 f_1 = some r) : Ct Tryd.prog 33 [.g (.d (.sl 1 (List.map encS s_0))), .sem (sem1 (fun x => .d (.v (.string x))) (fun y => .bool y) f_1)] (.one (.d (.v (.bool r)))) := by
  unfold slices_ContainsFunc_string at hF
  refine Ct.intro Tryd.func33 rfl Tryd.ntmps33 rfl rfl fun M w => ?_
  refine G.seq ?_
  refine G.region ?_
  refine G.op1 (op_assign (Ev.c _ rfl) rfl) rfl trivial trivial ?_
  refine G.endOps ?_
  refine G.seq ?_
  refine G.region ?_
  refine G.op1 (op_move (Ev.t 0 (.g (.d (.sl 1 (List.map encS s_0))))) rfl) rfl ⟨rfl, trivial⟩ trivial ?_
  refine G.op1 (op_move (Ev.t 1 (.sem (sem1 (fun x => .d (.v (.string x))) (fun y => .bool y) f_1))) rfl) rfl ⟨rfl, trivial⟩ trivial ?_
  obtain ⟨r1, hr1, hF⟩ := bindS hF
  refine G.op1 (op_callQ (sv := .one (bI .i64 r1)) cf57 (ct_slices_IndexFunc_string s_0 f_1 r1 hr1) rfl rfl (EvQL.cons (EvQ.g (Ev.t 5 (.g (.d (.sl 1 (List.map encS s_0)))))) (EvQL.cons (EvQ.sem (Ev.t 6 (.sem (sem1 (fun x => .d (.v (.string x))) (fun y => .bool y) f_1)))) EvQL.nil)) rfl) rfl ⟨rfl, rfl, trivial⟩ trivial ?_
  refine G.op1 (op_geq (Ev.t 7 (bI .i64 r1)) (Ev.c _ rfl) rfl) rfl ⟨rfl, trivial⟩ trivial ?_
  refine G.op1 (op_assign (Ev.t 8 (bB (decide (0 ≤ r1)))) rfl) rfl ⟨rfl, trivial⟩ trivial ?_
  refine G.endOps ?_
  cases hF
  exact G.ret1 Tryd.results33 (RVar.tmp 4 _) ⟨rfl, trivial⟩ trivial


set_option maxRecDepth 20000 in
set_option maxHeartbeats 2000000 in
theorem ct_script_empty (c_0 : Api_Row) (r : Bool) (hF : script_empty c_0 = some r) : Ct Tryd.prog 34 [.g (.agg (encApi_Row c_0))] (.one (.d (.v (.bool r)))) := by
  unfold script_empty at hF
  refine Ct.intro Tryd.func34 rfl Tryd.ntmps34 rfl rfl fun M w => ?_
  refine G.seq ?_
  refine G.region ?_
  refine G.op2 (op_boxA (k := 1001) (Ev.t 0 (.g (.agg [.sl 2 (List.map encApi_Range c_0.Ranges), .sl 1 (List.map encI_i64 c_0.Owners), .sl 1 (List.map encI_i64 c_0.Parents)]))) rfl) rfl ⟨rfl, trivial⟩ ⟨rfl, trivial⟩ ?_
  refine G.op1 (op_assign (Ev.c _ rfl) rfl) rfl trivial trivial ?_
  refine G.endOps ?_
  refine G.seq ?_
  refine G.region ?_
  refine G.op1 (op_fieldP (off' := 0) Tryd.underlying28 rfl ti25 (by decide) rfl (Ev.t 1 (.ptr 1001 0)) rfl) rfl ⟨rfl, trivial⟩ trivial ?_
  refine G.op1 (op_load1P (c := .g (.d (.sl 2 (List.map encApi_Range c_0.Ranges)))) Tryd.underlying25 rfl rfl (Ev.t 3 (.ptr 1001 0)) rfl) rfl ⟨rfl, trivial⟩ ⟨rfl, trivial⟩ ?_
  refine G.op1 (OpL.cast (op_lenD Tryd.underlying25 (Ev.t 4 (.g (.d (.sl 2 (List.map encApi_Range c_0.Ranges))))) rfl) (by rw [List.length_map])) rfl ⟨rfl, trivial⟩ trivial ?_
  refine G.op1 (op_fieldP (off' := 1) Tryd.underlying28 rfl ti26 (by decide) rfl (Ev.t 1 (.ptr 1001 0)) rfl) rfl ⟨rfl, trivial⟩ trivial ?_
  refine G.op1 (op_load1P (c := .g (.d (.sl 1 (List.map encI_i64 c_0.Owners)))) Tryd.underlying26 rfl rfl (Ev.t 6 (.ptr 1001 1)) rfl) rfl ⟨rfl, trivial⟩ ⟨rfl, trivial⟩ ?_
  refine G.op1 (OpL.cast (op_lenD Tryd.underlying26 (Ev.t 7 (.g (.d (.sl 1 (List.map encI_i64 c_0.Owners))))) rfl) (by rw [List.length_map])) rfl ⟨rfl, trivial⟩ trivial ?_
  refine G.op1 (op_add (Ev.t 5 (bI .i64 (c_0.Ranges.length : Int))) (Ev.t 8 (bI .i64 (c_0.Owners.length : Int))) rfl) rfl ⟨rfl, rfl, trivial⟩ trivial ?_
  refine G.op1 (op_fieldP (off' := 2) Tryd.underlying28 rfl ti26 (by decide) rfl (Ev.t 1 (.ptr 1001 0)) rfl) rfl ⟨rfl, trivial⟩ trivial ?_
  refine G.op1 (op_load1P (c := .g (.d (.sl 1 (List.map encI_i64 c_0.Parents)))) Tryd.underlying26 rfl rfl (Ev.t 10 (.ptr 1001 2)) rfl) rfl ⟨rfl, trivial⟩ ⟨rfl, trivial⟩ ?_
  refine G.op1 (OpL.cast (op_lenD Tryd.underlying26 (Ev.t 11 (.g (.d (.sl 1 (List.map encI_i64 c_0.Parents))))) rfl) (by rw [List.length_map])) rfl ⟨rfl, trivial⟩ trivial ?_
  refine G.op1 (op_add (Ev.t 9 (bI .i64 (IntKind.wrap .i64 ((c_0.Ranges.length : Int) + (c_0.Owners.length : Int))))) (Ev.t 12 (bI .i64 (c_0.Parents.length : Int))) rfl) rfl ⟨rfl, rfl, trivial⟩ trivial ?_
  refine G.op1 (op_eqI (Ev.t 13 (bI .i64 (IntKind.wrap .i64 ((IntKind.wrap .i64 ((c_0.Ranges.length : Int) + (c_0.Owners.length : Int))) + (c_0.Parents.length : Int))))) (Ev.c _ rfl) rfl) rfl ⟨rfl, trivial⟩ trivial ?_
  refine G.op1 (op_assign (Ev.t 14 (bB (decide ((IntKind.wrap .i64 ((IntKind.wrap .i64 ((c_0.Ranges.length : Int) + (c_0.Owners.length : Int))) + (c_0.Parents.length : Int))) = 0)))) rfl) rfl ⟨rfl, trivial⟩ trivial ?_
  refine G.endOps ?_
  cases hF
  exact G.ret1 Tryd.results34 (RVar.tmp 2 _) ⟨rfl, trivial⟩ trivial


set_option maxRecDepth 20000 in
set_option maxHeartbeats 2000000 in
theorem ct_script_Check (o_0 : Api_Op) (r : Bool) (hF : script_Check o_0 = some r) : Ct Tryd.prog 16 [.g (.agg (encApi_Op o_0))] (.one (.d (.v (.bool r)))) := by
  unfold script_Check at hF
  refine Ct.intro Tryd.func16 rfl Tryd.ntmps16 rfl rfl fun M w => ?_
  refine G.seq ?_
  refine G.region ?_
  refine G.op2 (op_boxA (k := 1001) (Ev.t 0 (.g (.agg [.v (.int .i64 o_0.Kind), .v (.int .i64 o_0.Client), .v (.int .i64 o_0.Site), .v (.int .i64 o_0.To), .v (.int .i64 o_0.At), .v (.int .i64 o_0.How), .v (.string o_0.Key), .v (.string o_0.Value), .sl 1 (List.map encS o_0.Keys), .sl 2 (List.map encApi_Range o_0.Row.Ranges), .sl 1 (List.map encI_i64 o_0.Row.Owners), .sl 1 (List.map encI_i64 o_0.Row.Parents)]))) rfl) rfl ⟨rfl, trivial⟩ ⟨rfl, trivial⟩ ?_
  refine G.op1 (op_assign (Ev.c _ rfl) rfl) rfl trivial trivial ?_
  refine G.endOps ?_
  refine G.seq ?_
  refine G.region ?_
  refine G.op1 (op_assign (Ev.f 29) rfl) rfl trivial trivial ?_
  refine G.endOps ?_
  refine G.seq ?_
  refine G.region ?_
  refine G.op1 (op_assign (Ev.f 30) rfl) rfl trivial trivial ?_
  refine G.endOps ?_
  refine G.seq ?_
  refine G.region ?_
  refine G.op1 (op_fieldP (off' := 0) Tryd.underlying30 rfl ti3 (by decide) rfl (Ev.t 1 (.ptr 1001 0)) rfl) rfl ⟨rfl, trivial⟩ trivial ?_
  refine G.op1 (op_load1P (c := bI .i64 o_0.Kind) Tryd.underlying3 rfl rfl (Ev.t 5 (.ptr 1001 0)) rfl) rfl ⟨rfl, trivial⟩ ⟨rfl, trivial⟩ ?_
  refine G.op1 (op_geq (Ev.t 6 (bI .i64 o_0.Kind)) (Ev.c _ rfl) rfl) rfl ⟨rfl, trivial⟩ trivial ?_
  refine G.op1 (op_move (Ev.t 7 (bB (decide (1 ≤ o_0.Kind)))) rfl) rfl ⟨rfl, trivial⟩ trivial ?_
  refine G.joinL (T := Bool) 4 (fun y1 => ⟨[(1, .one (.ptr 1001 0)), (3, .one (.clo 29 [])), (4, .one (.clo 30 [])), (12, .one (bB y1))], [(1001, some (.blk 30 [bI .i64 o_0.Kind, bI .i64 o_0.Client, bI .i64 o_0.Site, bI .i64 o_0.To, bI .i64 o_0.At, bI .i64 o_0.How, bS o_0.Key, bS o_0.Value, .g (.d (.sl 1 (List.map encS o_0.Keys))), .g (.d (.sl 2 (List.map encApi_Range o_0.Row.Ranges))), .g (.d (.sl 1 (List.map encI_i64 o_0.Row.Owners))), .g (.d (.sl 1 (List.map encI_i64 o_0.Row.Parents)))]))]⟩) (fun y1 => script_Check_k1 o_0 y1 = some r) (fun y1 hF => ?_) (fun J26 => ?_)
  · unfold script_Check_k1 at hF
    refine G.op1 (op_move (Ev.t 12 (bB y1)) rfl) rfl ⟨rfl, trivial⟩ trivial ?_
    refine G.joinL (T := Bool) 6 (fun y2 => ⟨[(1, .one (.ptr 1001 0)), (4, .one (.clo 30 [])), (19, .one (bB y2))], [(1001, some (.blk 30 [bI .i64 o_0.Kind, bI .i64 o_0.Client, bI .i64 o_0.Site, bI .i64 o_0.To, bI .i64 o_0.At, bI .i64 o_0.How, bS o_0.Key, bS o_0.Value, .g (.d (.sl 1 (List.map encS o_0.Keys))), .g (.d (.sl 2 (List.map encApi_Range o_0.Row.Ranges))), .g (.d (.sl 1 (List.map encI_i64 o_0.Row.Owners))), .g (.d (.sl 1 (List.map encI_i64 o_0.Row.Parents)))]))]⟩) (fun y2 => script_Check_k2 o_0 y2 = some r) (fun y2 hF => ?_) (fun J22 => ?_)
    · unfold script_Check_k2 at hF
      refine G.op1 (op_move (Ev.t 19 (bB y2)) rfl) rfl ⟨rfl, trivial⟩ trivial ?_
      refine G.joinL (T := Bool) 5 (fun y3 => ⟨[(1, .one (.ptr 1001 0)), (4, .one (.clo 30 [])), (25, .one (bB y3))], [(1001, some (.blk 30 [bI .i64 o_0.Kind, bI .i64 o_0.Client, bI .i64 o_0.Site, bI .i64 o_0.To, bI .i64 o_0.At, bI .i64 o_0.How, bS o_0.Key, bS o_0.Value, .g (.d (.sl 1 (List.map encS o_0.Keys))), .g (.d (.sl 2 (List.map encApi_Range o_0.Row.Ranges))), .g (.d (.sl 1 (List.map encI_i64 o_0.Row.Owners))), .g (.d (.sl 1 (List.map encI_i64 o_0.Row.Parents)))]))]⟩) (fun y3 => script_Check_k3 o_0 y3 = some r) (fun y3 hF => ?_) (fun J20 => ?_)
      · unfold script_Check_k3 at hF
        refine G.op1 (op_move (Ev.t 25 (bB y3)) rfl) rfl ⟨rfl, trivial⟩ trivial ?_
        refine G.joinL (T := Bool) 6 (fun y4 => ⟨[(1, .one (.ptr 1001 0)), (4, .one (.clo 30 [])), (32, .one (bB y4))], [(1001, some (.blk 30 [bI .i64 o_0.Kind, bI .i64 o_0.Client, bI .i64 o_0.Site, bI .i64 o_0.To, bI .i64 o_0.At, bI .i64 o_0.How, bS o_0.Key, bS o_0.Value, .g (.d (.sl 1 (List.map encS o_0.Keys))), .g (.d (.sl 2 (List.map encApi_Range o_0.Row.Ranges))), .g (.d (.sl 1 (List.map encI_i64 o_0.Row.Owners))), .g (.d (.sl 1 (List.map encI_i64 o_0.Row.Parents)))]))]⟩) (fun y4 => script_Check_k4 o_0 y4 = some r) (fun y4 hF => ?_) (fun J17 => ?_)
        · unfold script_Check_k4 at hF
          refine G.op1 (op_move (Ev.t 32 (bB y4)) rfl) rfl ⟨rfl, trivial⟩ trivial ?_
          refine G.joinL (T := Bool) 6 (fun y5 => ⟨[(1, .one (.ptr 1001 0)), (4, .one (.clo 30 [])), (39, .one (bB y5))], [(1001, some (.blk 30 [bI .i64 o_0.Kind, bI .i64 o_0.Client, bI .i64 o_0.Site, bI .i64 o_0.To, bI .i64 o_0.At, bI .i64 o_0.How, bS o_0.Key, bS o_0.Value, .g (.d (.sl 1 (List.map encS o_0.Keys))), .g (.d (.sl 2 (List.map encApi_Range o_0.Row.Ranges))), .g (.d (.sl 1 (List.map encI_i64 o_0.Row.Owners))), .g (.d (.sl 1 (List.map encI_i64 o_0.Row.Parents)))]))]⟩) (fun y5 => script_Check_k5 o_0 y5 = some r) (fun y5 hF => ?_) (fun J14 => ?_)
          · unfold script_Check_k5 at hF
            refine G.op1 (op_move (Ev.t 39 (bB y5)) rfl) rfl ⟨rfl, trivial⟩ trivial ?_
            refine G.joinL (T := Bool) 6 (fun y6 => ⟨[(1, .one (.ptr 1001 0)), (46, .one (bB y6))], [(1001, some (.blk 30 [bI .i64 o_0.Kind, bI .i64 o_0.Client, bI .i64 o_0.Site, bI .i64 o_0.To, bI .i64 o_0.At, bI .i64 o_0.How, bS o_0.Key, bS o_0.Value, .g (.d (.sl 1 (List.map encS o_0.Keys))), .g (.d (.sl 2 (List.map encApi_Range o_0.Row.Ranges))), .g (.d (.sl 1 (List.map encI_i64 o_0.Row.Owners))), .g (.d (.sl 1 (List.map encI_i64 o_0.Row.Parents)))]))]⟩) (fun y6 => script_Check_k6 o_0 y6 = some r) (fun y6 hF => ?_) (fun J11 => ?_)
            · unfold script_Check_k6 at hF
              refine G.op1 (op_move (Ev.t 46 (bB y6)) rfl) rfl ⟨rfl, trivial⟩ trivial ?_
              refine ifS hF (fun hc7 hF => ?_) (fun hc7 hF => ?_)
              · refine G.known (t := 47) hc7 rfl ?_
                refine G.opG1 (op_fieldP (off' := 9) Tryd.underlying30 rfl ti28 (by decide) rfl (Ev.t 1 (.ptr 1001 0)) rfl) rfl rfl rfl ⟨rfl, trivial⟩ trivial ?_
                refine G.opG1 (op_loadAP (ds := [.sl 2 (List.map encApi_Range o_0.Row.Ranges), .sl 1 (List.map encI_i64 o_0.Row.Owners), .sl 1 (List.map encI_i64 o_0.Row.Parents)]) Tryd.underlying28 rfl ti28 rfl (Ev.t 48 (.ptr 1001 9)) rfl) rfl rfl rfl ⟨rfl, trivial⟩ ⟨rfl, trivial⟩ ?_
                obtain ⟨r8, hr8, hF⟩ := bindS hF
                refine G.opG1 (op_callQ (sv := .one (bB r8)) cf34 (ct_script_empty o_0.Row r8 hr8) rfl rfl (EvQL.cons (EvQ.g (Ev.t 49 (.g (.agg [.sl 2 (List.map encApi_Range o_0.Row.Ranges), .sl 1 (List.map encI_i64 o_0.Row.Owners), .sl 1 (List.map encI_i64 o_0.Row.Parents)])))) EvQL.nil) rfl) rfl rfl rfl ⟨rfl, trivial⟩ trivial ?_
                refine G.opG1 (op_move (Ev.t 50 (bB r8)) rfl) rfl rfl rfl ⟨rfl, trivial⟩ trivial ?_
                refine ifS hF (fun hc9 hF => ?_) (fun hc9 hF => ?_)
                · refine G.known (t := 51) hc9 rfl ?_
                  refine G.opN1 rfl rfl rfl rfl rfl ?_
                  refine G.opN1 rfl rfl rfl rfl rfl ?_
                  refine G.opN1 rfl rfl rfl rfl rfl ?_
                  refine G.opN1 rfl rfl rfl rfl rfl ?_
                  refine G.opG1 (op_pickT (Ev.t 51 (bB true)) (Ev.c _ rfl) rfl) rfl rfl rfl ⟨rfl, trivial⟩ trivial ?_
                  refine G.op1 (op_pickT (Ev.t 47 (bB true)) (Ev.t 56 (bB true)) rfl) rfl ⟨rfl, rfl, trivial⟩ trivial ?_
                  refine G.op1 (op_assign (Ev.t 57 (bB true)) rfl) rfl ⟨rfl, trivial⟩ trivial ?_
                  refine G.endOps ?_
                  cases hF
                  exact G.ret1 Tryd.results16 (RVar.tmp 2 _) ⟨rfl, trivial⟩ trivial
                · refine G.known (t := 51) hc9 rfl ?_
                  refine G.opG1 (op_fieldP (off' := 9) Tryd.underlying30 rfl ti28 (by decide) rfl (Ev.t 1 (.ptr 1001 0)) rfl) rfl rfl rfl ⟨rfl, trivial⟩ trivial ?_
                  refine G.opG1 (op_loadAP (ds := [.sl 2 (List.map encApi_Range o_0.Row.Ranges), .sl 1 (List.map encI_i64 o_0.Row.Owners), .sl 1 (List.map encI_i64 o_0.Row.Parents)]) Tryd.underlying28 rfl ti28 rfl (Ev.t 52 (.ptr 1001 9)) rfl) rfl rfl rfl ⟨rfl, trivial⟩ ⟨rfl, trivial⟩ ?_
                  obtain ⟨r10, hr10, hF⟩ := bindS hF
                  refine G.opG1 (op_callQ (sv := .one (bS r10)) cf35 (ct_wire_RowBytes o_0.Row r10 hr10) rfl rfl (EvQL.cons (EvQ.g (Ev.t 53 (.g (.agg [.sl 2 (List.map encApi_Range o_0.Row.Ranges), .sl 1 (List.map encI_i64 o_0.Row.Owners), .sl 1 (List.map encI_i64 o_0.Row.Parents)])))) EvQL.nil) rfl) rfl rfl rfl ⟨rfl, trivial⟩ trivial ?_
                  refine G.opG1 (op_neS (Ev.t 54 (bS r10)) (Ev.c _ rfl) rfl) rfl rfl rfl ⟨rfl, trivial⟩ trivial ?_
                  refine G.opG1 (op_pickF (Ev.t 51 (bB false)) (Ev.t 55 (bB (!seq r10 ByteArray.empty))) rfl) rfl rfl rfl ⟨rfl, rfl, trivial⟩ trivial ?_
                  refine G.op1 (op_pickT (Ev.t 47 (bB true)) (Ev.t 56 (bB (!seq r10 ByteArray.empty))) rfl) rfl ⟨rfl, rfl, trivial⟩ trivial ?_
                  refine G.op1 (op_assign (Ev.t 57 (bB (!seq r10 ByteArray.empty))) rfl) rfl ⟨rfl, trivial⟩ trivial ?_
                  refine G.endOps ?_
                  cases hF
                  exact G.ret1 Tryd.results16 (RVar.tmp 2 _) ⟨rfl, trivial⟩ trivial
              · refine G.known (t := 47) hc7 rfl ?_
                refine G.opN1 rfl rfl rfl rfl rfl ?_
                refine G.opN1 rfl rfl rfl rfl rfl ?_
                refine G.opN1 rfl rfl rfl rfl rfl ?_
                refine G.opN1 rfl rfl rfl rfl rfl ?_
                refine G.opU rfl rfl rfl rfl ?_
                refine G.opU rfl rfl rfl rfl ?_
                refine G.opU rfl rfl rfl rfl ?_
                refine G.opU rfl rfl rfl rfl ?_
                refine G.opN1 rfl rfl rfl rfl rfl ?_
                refine G.op1 (op_pickF (Ev.t 47 (bB false)) (Ev.c _ rfl) rfl) rfl ⟨rfl, trivial⟩ trivial ?_
                refine G.op1 (op_assign (Ev.t 57 (bB false)) rfl) rfl ⟨rfl, trivial⟩ trivial ?_
                refine G.endOps ?_
                cases hF
                exact G.ret1 Tryd.results16 (RVar.tmp 2 _) ⟨rfl, trivial⟩ trivial
            refine ifS hF (fun hc12 hF => ?_) (fun hc12 hF => ?_)
            · refine G.known (t := 40) hc12 rfl ?_
              refine G.opG1 (op_move (Ev.t 4 (.clo 30 [])) rfl) rfl rfl rfl ⟨rfl, trivial⟩ trivial ?_
              refine G.opG1 (op_fieldP (off' := 7) Tryd.underlying30 rfl ti9 (by decide) rfl (Ev.t 1 (.ptr 1001 0)) rfl) rfl rfl rfl ⟨rfl, trivial⟩ trivial ?_
              refine G.opG1 (op_load1P (c := bS o_0.Value) Tryd.underlying9 rfl rfl (Ev.t 42 (.ptr 1001 7)) rfl) rfl rfl rfl ⟨rfl, trivial⟩ ⟨rfl, trivial⟩ ?_
              obtain ⟨r13, hr13, hF⟩ := bindS hF
              refine G.opG1 (op_callClo (sv := .one (bB r13)) (args := _) (gs := _) cf30 (ct_script_Check_2 o_0.Value r13 hr13) rfl rfl EvC.nil (EvQL.cons (EvQ.g (Ev.t 43 (bS o_0.Value))) EvQL.nil) rfl) rfl rfl rfl ⟨rfl, rfl, trivial⟩ trivial ?_
              refine G.opG1 (op_not (Ev.t 44 (bB r13)) rfl) rfl rfl rfl ⟨rfl, trivial⟩ trivial ?_
              refine G.op1 (op_pickT (Ev.t 40 (bB true)) (Ev.t 45 (bB (!r13))) rfl) rfl ⟨rfl, rfl, trivial⟩ trivial ?_
              exact G.arr (J11 (!r13) hF) ⟨rfl, rfl, trivial⟩ ⟨rfl, trivial⟩ rfl
            · refine G.known (t := 40) hc12 rfl ?_
              refine G.opN1 rfl rfl rfl rfl rfl ?_
              refine G.opN1 rfl rfl rfl rfl rfl ?_
              refine G.opN1 rfl rfl rfl rfl rfl ?_
              refine G.opN1 rfl rfl rfl rfl rfl ?_
              refine G.opN1 rfl rfl rfl rfl rfl ?_
              refine G.op1 (op_pickF (Ev.t 40 (bB false)) (Ev.c _ rfl) rfl) rfl ⟨rfl, trivial⟩ trivial ?_
              exact G.arr (J11 false hF) ⟨rfl, rfl, trivial⟩ ⟨rfl, trivial⟩ rfl
          refine ifS hF (fun hc15 hF => ?_) (fun hc15 hF => ?_)
          · refine G.known (t := 33) hc15 rfl ?_
            refine G.opG1 (op_move (Ev.t 4 (.clo 30 [])) rfl) rfl rfl rfl ⟨rfl, trivial⟩ trivial ?_
            refine G.opG1 (op_fieldP (off' := 6) Tryd.underlying30 rfl ti9 (by decide) rfl (Ev.t 1 (.ptr 1001 0)) rfl) rfl rfl rfl ⟨rfl, trivial⟩ trivial ?_
            refine G.opG1 (op_load1P (c := bS o_0.Key) Tryd.underlying9 rfl rfl (Ev.t 35 (.ptr 1001 6)) rfl) rfl rfl rfl ⟨rfl, trivial⟩ ⟨rfl, trivial⟩ ?_
            obtain ⟨r16, hr16, hF⟩ := bindS hF
            refine G.opG1 (op_callClo (sv := .one (bB r16)) (args := _) (gs := _) cf30 (ct_script_Check_2 o_0.Key r16 hr16) rfl rfl EvC.nil (EvQL.cons (EvQ.g (Ev.t 36 (bS o_0.Key))) EvQL.nil) rfl) rfl rfl rfl ⟨rfl, rfl, trivial⟩ trivial ?_
            refine G.opG1 (op_not (Ev.t 37 (bB r16)) rfl) rfl rfl rfl ⟨rfl, trivial⟩ trivial ?_
            refine G.op1 (op_pickT (Ev.t 33 (bB true)) (Ev.t 38 (bB (!r16))) rfl) rfl ⟨rfl, rfl, trivial⟩ trivial ?_
            exact G.arr (J14 (!r16) hF) ⟨rfl, rfl, rfl, trivial⟩ ⟨rfl, trivial⟩ rfl
          · refine G.known (t := 33) hc15 rfl ?_
            refine G.opN1 rfl rfl rfl rfl rfl ?_
            refine G.opN1 rfl rfl rfl rfl rfl ?_
            refine G.opN1 rfl rfl rfl rfl rfl ?_
            refine G.opN1 rfl rfl rfl rfl rfl ?_
            refine G.opN1 rfl rfl rfl rfl rfl ?_
            refine G.op1 (op_pickF (Ev.t 33 (bB false)) (Ev.c _ rfl) rfl) rfl ⟨rfl, trivial⟩ trivial ?_
            exact G.arr (J14 false hF) ⟨rfl, rfl, rfl, trivial⟩ ⟨rfl, trivial⟩ rfl
        refine ifS hF (fun hc18 hF => ?_) (fun hc18 hF => ?_)
        · refine G.known (t := 26) hc18 rfl ?_
          refine G.opG1 (op_fieldP (off' := 8) Tryd.underlying30 rfl ti24 (by decide) rfl (Ev.t 1 (.ptr 1001 0)) rfl) rfl rfl rfl ⟨rfl, trivial⟩ trivial ?_
          refine G.opG1 (op_load1P (c := .g (.d (.sl 1 (List.map encS o_0.Keys)))) Tryd.underlying24 rfl rfl (Ev.t 27 (.ptr 1001 8)) rfl) rfl rfl rfl ⟨rfl, trivial⟩ ⟨rfl, trivial⟩ ?_
          refine G.opG1 (op_move (Ev.t 4 (.clo 30 [])) rfl) rfl rfl rfl ⟨rfl, trivial⟩ trivial ?_
          obtain ⟨r19, hr19, hF⟩ := bindS hF
          refine G.opG1 (op_callQ (sv := .one (bB r19)) cf33 (ct_slices_ContainsFunc_string o_0.Keys (fun x0 => script_Check_2 x0) r19 hr19) rfl rfl (EvQL.cons (EvQ.g (Ev.t 28 (.g (.d (.sl 1 (List.map encS o_0.Keys)))))) (EvQL.cons (EvQ.clo (Φ := sem1 (fun x => .d (.v (.string x))) (fun y => .bool y) (fun x0 => script_Check_2 x0)) (Ev.t 29 (.clo 30 [])) EvC.nil cf30 (fun args v ⟨x0, b, h1, h2, h3⟩ => by subst h1 h3; exact ct_script_Check_2 x0 b h2)) EvQL.nil)) rfl) rfl rfl rfl ⟨rfl, rfl, trivial⟩ trivial ?_
          refine G.opG1 (op_not (Ev.t 30 (bB r19)) rfl) rfl rfl rfl ⟨rfl, trivial⟩ trivial ?_
          refine G.op1 (op_pickT (Ev.t 26 (bB true)) (Ev.t 31 (bB (!r19))) rfl) rfl ⟨rfl, rfl, trivial⟩ trivial ?_
          exact G.arr (J17 (!r19) hF) ⟨rfl, rfl, rfl, trivial⟩ ⟨rfl, trivial⟩ rfl
        · refine G.known (t := 26) hc18 rfl ?_
          refine G.opN1 rfl rfl rfl rfl rfl ?_
          refine G.opN1 rfl rfl rfl rfl rfl ?_
          refine G.opN1 rfl rfl rfl rfl rfl ?_
          refine G.opN1 rfl rfl rfl rfl rfl ?_
          refine G.opN1 rfl rfl rfl rfl rfl ?_
          refine G.op1 (op_pickF (Ev.t 26 (bB false)) (Ev.c _ rfl) rfl) rfl ⟨rfl, trivial⟩ trivial ?_
          exact G.arr (J17 false hF) ⟨rfl, rfl, rfl, trivial⟩ ⟨rfl, trivial⟩ rfl
      refine ifS hF (fun hc21 hF => ?_) (fun hc21 hF => ?_)
      · refine G.known (t := 20) hc21 rfl ?_
        refine G.opG1 (op_fieldP (off' := 8) Tryd.underlying30 rfl ti24 (by decide) rfl (Ev.t 1 (.ptr 1001 0)) rfl) rfl rfl rfl ⟨rfl, trivial⟩ trivial ?_
        refine G.opG1 (op_load1P (c := .g (.d (.sl 1 (List.map encS o_0.Keys)))) Tryd.underlying24 rfl rfl (Ev.t 21 (.ptr 1001 8)) rfl) rfl rfl rfl ⟨rfl, trivial⟩ ⟨rfl, trivial⟩ ?_
        refine G.opG1 (OpL.cast (op_lenD Tryd.underlying24 (Ev.t 22 (.g (.d (.sl 1 (List.map encS o_0.Keys))))) rfl) (by rw [List.length_map])) rfl rfl rfl ⟨rfl, trivial⟩ trivial ?_
        refine G.opG1 (op_leq (Ev.t 23 (bI .i64 (o_0.Keys.length : Int))) (Ev.c _ rfl) rfl) rfl rfl rfl ⟨rfl, trivial⟩ trivial ?_
        refine G.op1 (op_pickT (Ev.t 20 (bB true)) (Ev.t 24 (bB (decide ((o_0.Keys.length : Int) ≤ 8)))) rfl) rfl ⟨rfl, rfl, trivial⟩ trivial ?_
        exact G.arr (J20 (decide ((o_0.Keys.length : Int) ≤ 8)) hF) ⟨rfl, rfl, rfl, trivial⟩ ⟨rfl, trivial⟩ rfl
      · refine G.known (t := 20) hc21 rfl ?_
        refine G.opN1 rfl rfl rfl rfl rfl ?_
        refine G.opN1 rfl rfl rfl rfl rfl ?_
        refine G.opN1 rfl rfl rfl rfl rfl ?_
        refine G.opN1 rfl rfl rfl rfl rfl ?_
        refine G.op1 (op_pickF (Ev.t 20 (bB false)) (Ev.c _ rfl) rfl) rfl ⟨rfl, trivial⟩ trivial ?_
        exact G.arr (J20 false hF) ⟨rfl, rfl, rfl, trivial⟩ ⟨rfl, trivial⟩ rfl
    refine ifS hF (fun hc23 hF => ?_) (fun hc23 hF => ?_)
    · refine G.known (t := 13) hc23 rfl ?_
      refine G.opG1 (op_loadAP (ds := [.v (.int .i64 o_0.Kind), .v (.int .i64 o_0.Client), .v (.int .i64 o_0.Site), .v (.int .i64 o_0.To), .v (.int .i64 o_0.At), .v (.int .i64 o_0.How), .v (.string o_0.Key), .v (.string o_0.Value), .sl 1 (List.map encS o_0.Keys), .sl 2 (List.map encApi_Range o_0.Row.Ranges), .sl 1 (List.map encI_i64 o_0.Row.Owners), .sl 1 (List.map encI_i64 o_0.Row.Parents)]) Tryd.underlying30 rfl ti30 rfl (Ev.t 1 (.ptr 1001 0)) rfl) rfl rfl rfl ⟨rfl, trivial⟩ ⟨rfl, trivial⟩ ?_
      obtain ⟨r24, hr24, hF⟩ := bindS hF
      refine G.opG1 (op_call (sv := .one (.g (.d (.sl 1 (List.map encI_i64 r24))))) cf32 (ct_script_numbers o_0 r24 hr24) rfl (EvL.cons (Ev.t 14 (.g (.agg [.v (.int .i64 o_0.Kind), .v (.int .i64 o_0.Client), .v (.int .i64 o_0.Site), .v (.int .i64 o_0.To), .v (.int .i64 o_0.At), .v (.int .i64 o_0.How), .v (.string o_0.Key), .v (.string o_0.Value), .sl 1 (List.map encS o_0.Keys), .sl 2 (List.map encApi_Range o_0.Row.Ranges), .sl 1 (List.map encI_i64 o_0.Row.Owners), .sl 1 (List.map encI_i64 o_0.Row.Parents)]))) EvL.nil) rfl) rfl rfl rfl ⟨rfl, trivial⟩ trivial ?_
      refine G.opG1 (op_move (Ev.t 3 (.clo 29 [])) rfl) rfl rfl rfl ⟨rfl, trivial⟩ trivial ?_
      obtain ⟨r25, hr25, hF⟩ := bindS hF
      refine G.opG1 (op_callQ (sv := .one (bB r25)) cf31 (ct_slices_ContainsFunc_int r24 (fun x0 => script_Check_1 x0) r25 hr25) rfl rfl (EvQL.cons (EvQ.g (Ev.t 15 (.g (.d (.sl 1 (List.map encI_i64 r24)))))) (EvQL.cons (EvQ.clo (Φ := sem1 (fun x => .d (.v (.int .i64 x))) (fun y => .bool y) (fun x0 => script_Check_1 x0)) (Ev.t 16 (.clo 29 [])) EvC.nil cf29 (fun args v ⟨x0, b, h1, h2, h3⟩ => by subst h1 h3; exact ct_script_Check_1 x0 b h2)) EvQL.nil)) rfl) rfl rfl rfl ⟨rfl, rfl, trivial⟩ trivial ?_
      refine G.opG1 (op_not (Ev.t 17 (bB r25)) rfl) rfl rfl rfl ⟨rfl, trivial⟩ trivial ?_
      refine G.op1 (op_pickT (Ev.t 13 (bB true)) (Ev.t 18 (bB (!r25))) rfl) rfl ⟨rfl, rfl, trivial⟩ trivial ?_
      exact G.arr (J22 (!r25) hF) ⟨rfl, rfl, rfl, trivial⟩ ⟨rfl, trivial⟩ rfl
    · refine G.known (t := 13) hc23 rfl ?_
      refine G.opN1 rfl rfl rfl rfl rfl ?_
      refine G.opN1 rfl rfl rfl rfl rfl ?_
      refine G.opN1 rfl rfl rfl rfl rfl ?_
      refine G.opN1 rfl rfl rfl rfl rfl ?_
      refine G.opN1 rfl rfl rfl rfl rfl ?_
      refine G.op1 (op_pickF (Ev.t 13 (bB false)) (Ev.c _ rfl) rfl) rfl ⟨rfl, trivial⟩ trivial ?_
      exact G.arr (J22 false hF) ⟨rfl, rfl, rfl, trivial⟩ ⟨rfl, trivial⟩ rfl
  refine ifS hF (fun hc27 hF => ?_) (fun hc27 hF => ?_)
  · refine G.known (t := 8) hc27 rfl ?_
    refine G.opG1 (op_fieldP (off' := 0) Tryd.underlying30 rfl ti3 (by decide) rfl (Ev.t 1 (.ptr 1001 0)) rfl) rfl rfl rfl ⟨rfl, trivial⟩ trivial ?_
    refine G.opG1 (op_load1P (c := bI .i64 o_0.Kind) Tryd.underlying3 rfl rfl (Ev.t 9 (.ptr 1001 0)) rfl) rfl rfl rfl ⟨rfl, trivial⟩ ⟨rfl, trivial⟩ ?_
    refine G.opG1 (op_leq (Ev.t 10 (bI .i64 o_0.Kind)) (Ev.c _ rfl) rfl) rfl rfl rfl ⟨rfl, trivial⟩ trivial ?_
    refine G.op1 (op_pickT (Ev.t 8 (bB true)) (Ev.t 11 (bB (decide (o_0.Kind ≤ 12)))) rfl) rfl ⟨rfl, rfl, trivial⟩ trivial ?_
    exact G.arr (J26 (decide (o_0.Kind ≤ 12)) hF) ⟨rfl, rfl, rfl, rfl, trivial⟩ ⟨rfl, trivial⟩ rfl
  · refine G.known (t := 8) hc27 rfl ?_
    refine G.opN1 rfl rfl rfl rfl rfl ?_
    refine G.opN1 rfl rfl rfl rfl rfl ?_
    refine G.opN1 rfl rfl rfl rfl rfl ?_
    refine G.op1 (op_pickF (Ev.t 8 (bB false)) (Ev.c _ rfl) rfl) rfl ⟨rfl, trivial⟩ trivial ?_
    exact G.arr (J26 false hF) ⟨rfl, rfl, rfl, rfl, trivial⟩ ⟨rfl, trivial⟩ rfl


set_option maxRecDepth 20000 in
set_option maxHeartbeats 2000000 in
theorem ct_words_small (n_0 : Int) (r : ByteArray) (hF : words_small n_0 = some r) : Ct Tryd.prog 38 [.g (.d (.v (.int .i64 n_0)))] (.one (.d (.v (.string r)))) := by
  unfold words_small at hF
  refine Ct.intro Tryd.func38 rfl Tryd.ntmps38 rfl rfl fun M w => ?_
  refine G.seq ?_
  refine G.region ?_
  refine G.op1 (op_assign (Ev.c _ rfl) rfl) rfl trivial trivial ?_
  refine G.endOps ?_
  refine G.seq ?_
  refine G.seq ?_
  refine G.region ?_
  refine G.op1 (op_move (Ev.t 0 (bI .i64 n_0)) rfl) rfl ⟨rfl, trivial⟩ trivial ?_
  refine G.op1 (op_lss (Ev.t 3 (bI .i64 n_0)) (Ev.c _ rfl) rfl) rfl ⟨rfl, trivial⟩ trivial ?_
  refine G.endOps ?_
  refine ifS hF (fun hc1 hF => ?_) (fun hc1 hF => ?_)
  · refine G.cond rfl (fun _ => ?_) (fun hx => Bool.noConfusion (hc1.symm.trans hx))
    refine G.seq ?_
    refine G.region ?_
    refine G.op1 (op_move (Ev.t 0 (bI .i64 n_0)) rfl) rfl ⟨rfl, trivial⟩ trivial ?_
    refine G.op1 (op_convI Tryd.underlying3 Tryd.underlying5 (Ev.t 5 (bI .i64 n_0)) rfl) rfl ⟨rfl, trivial⟩ trivial ?_
    refine G.op1 (op_add (Ev.c _ rfl) (Ev.t 6 (bI .u8 (IntKind.wrap .u8 n_0))) rfl) rfl ⟨rfl, trivial⟩ trivial ?_
    refine G.op1 (op_buildSlice (es := List.map encI_u8 [IntKind.wrap .u8 (48 + (IntKind.wrap .u8 n_0))]) Tryd.underlying46 ti5 rfl rfl (EvP.cons (Ev.t 7 (bI .u8 (IntKind.wrap .u8 (48 + (IntKind.wrap .u8 n_0))))) EvP.nil) rfl rfl (by simp [encI_u8]) rfl) rfl ⟨rfl, trivial⟩ trivial ?_
    refine G.op1 (op_toText (ns := [IntKind.wrap .u8 (48 + (IntKind.wrap .u8 n_0))]) Tryd.underlying46 Tryd.underlying5 Tryd.underlying9 rfl (Ev.t 8 (.g (.d (.sl 1 (List.map encI_u8 ([IntKind.wrap .u8 (48 + (IntKind.wrap .u8 n_0))])))))) rfl) rfl ⟨rfl, trivial⟩ trivial ?_
    refine G.op1 (op_assign (Ev.t 9 (bS (bytesOf ([IntKind.wrap .u8 (48 + (IntKind.wrap .u8 n_0))])))) rfl) rfl ⟨rfl, trivial⟩ trivial ?_
    refine G.endOps ?_
    cases hF
    exact G.ret1 Tryd.results38 (RVar.tmp 2 _) ⟨rfl, trivial⟩ trivial
  · refine G.cond rfl (fun hx => Bool.noConfusion (hc1.symm.trans hx)) (fun _ => ?_)
    refine G.skip ?_
    refine G.seq ?_
    refine G.region ?_
    refine G.op1 (op_move (Ev.t 0 (bI .i64 n_0)) rfl) rfl ⟨rfl, trivial⟩ trivial ?_
    refine G.op1 (op_quo (by decide) (Ev.t 10 (bI .i64 n_0)) (Ev.c _ rfl) rfl) rfl ⟨rfl, trivial⟩ trivial ?_
    refine G.op1 (op_convI Tryd.underlying3 Tryd.underlying5 (Ev.t 11 (bI .i64 (IntKind.wrap .i64 (Int.tdiv n_0 10)))) rfl) rfl ⟨rfl, trivial⟩ trivial ?_
    refine G.op1 (op_add (Ev.c _ rfl) (Ev.t 12 (bI .u8 (IntKind.wrap .u8 (IntKind.wrap .i64 (Int.tdiv n_0 10))))) rfl) rfl ⟨rfl, trivial⟩ trivial ?_
    refine G.op1 (op_move (Ev.t 0 (bI .i64 n_0)) rfl) rfl ⟨rfl, trivial⟩ trivial ?_
    refine G.op1 (op_rem (by decide) (Ev.t 14 (bI .i64 n_0)) (Ev.c _ rfl) rfl) rfl ⟨rfl, trivial⟩ trivial ?_
    refine G.op1 (op_convI Tryd.underlying3 Tryd.underlying5 (Ev.t 15 (bI .i64 (Int.tmod n_0 10))) rfl) rfl ⟨rfl, trivial⟩ trivial ?_
    refine G.op1 (op_add (Ev.c _ rfl) (Ev.t 16 (bI .u8 (IntKind.wrap .u8 (Int.tmod n_0 10)))) rfl) rfl ⟨rfl, trivial⟩ trivial ?_
    refine G.op1 (op_buildSlice (es := List.map encI_u8 [IntKind.wrap .u8 (48 + (IntKind.wrap .u8 (IntKind.wrap .i64 (Int.tdiv n_0 10)))), IntKind.wrap .u8 (48 + (IntKind.wrap .u8 (Int.tmod n_0 10)))]) Tryd.underlying46 ti5 rfl rfl (EvP.cons (Ev.t 13 (bI .u8 (IntKind.wrap .u8 (48 + (IntKind.wrap .u8 (IntKind.wrap .i64 (Int.tdiv n_0 10))))))) (EvP.cons (Ev.t 17 (bI .u8 (IntKind.wrap .u8 (48 + (IntKind.wrap .u8 (Int.tmod n_0 10)))))) EvP.nil)) rfl rfl (by simp [encI_u8]) rfl) rfl ⟨rfl, rfl, trivial⟩ trivial ?_
    refine G.op1 (op_toText (ns := [IntKind.wrap .u8 (48 + (IntKind.wrap .u8 (IntKind.wrap .i64 (Int.tdiv n_0 10)))), IntKind.wrap .u8 (48 + (IntKind.wrap .u8 (Int.tmod n_0 10)))]) Tryd.underlying46 Tryd.underlying5 Tryd.underlying9 rfl (Ev.t 18 (.g (.d (.sl 1 (List.map encI_u8 ([IntKind.wrap .u8 (48 + (IntKind.wrap .u8 (IntKind.wrap .i64 (Int.tdiv n_0 10)))), IntKind.wrap .u8 (48 + (IntKind.wrap .u8 (Int.tmod n_0 10)))])))))) rfl) rfl ⟨rfl, trivial⟩ trivial ?_
    refine G.op1 (op_assign (Ev.t 19 (bS (bytesOf ([IntKind.wrap .u8 (48 + (IntKind.wrap .u8 (IntKind.wrap .i64 (Int.tdiv n_0 10)))), IntKind.wrap .u8 (48 + (IntKind.wrap .u8 (Int.tmod n_0 10)))])))) rfl) rfl ⟨rfl, trivial⟩ trivial ?_
    refine G.endOps ?_
    cases hF
    exact G.ret1 Tryd.results38 (RVar.tmp 2 _) ⟨rfl, trivial⟩ trivial


set_option maxRecDepth 20000 in
set_option maxHeartbeats 2000000 in
theorem ct_words_Quote (s_0 : ByteArray) (r : ByteArray) (hF : words_Quote s_0 = some r) : Ct Tryd.prog 14 [.g (.d (.v (.string s_0)))] (.one (.d (.v (.string r)))) := by
  unfold words_Quote at hF
  refine Ct.intro Tryd.func14 rfl Tryd.ntmps14 rfl rfl fun M w => ?_
  refine G.seq ?_
  refine G.region ?_
  refine G.op1 (op_assign (Ev.c _ rfl) rfl) rfl trivial trivial ?_
  refine G.endOps ?_
  refine G.seq ?_
  refine G.region ?_
  refine G.op2 (op_buildRowN (kk := 2005) (ex := false) (es := List.map encI_u8 [34]) Tryd.underlying46 ti5 rfl rfl rfl (EvP.cons (Ev.c _ rfl) EvP.nil) rfl rfl (by simp [encI_u8]) rfl) rfl trivial ⟨rfl, trivial⟩ ?_
  refine G.op1 (op_assign (Ev.t 5 (.own 2005 (List.map encI_u8 ([34])))) rfl) rfl ⟨rfl, trivial⟩ trivial ?_
  refine G.endOps ?_
  refine G.seq ?_
  refine G.seq ?_
  refine G.region ?_
  refine G.op1 (op_move (Ev.t 0 (bS s_0)) rfl) rfl ⟨rfl, trivial⟩ trivial ?_
  refine G.op1 (op_lenS Tryd.underlying9 (Ev.t 6 (bS s_0)) rfl) rfl ⟨rfl, trivial⟩ trivial ?_
  refine G.op1 (op_move (Ev.c _ rfl) rfl) rfl trivial trivial ?_
  refine G.endOps ?_
  refine G.joinC (T := (List Int)) (fun y1 => ⟨[(3, .one (.own 2005 (List.map encI_u8 y1)))], [(2005, some (.row 5 1 (List.map encI_u8 y1) false))]⟩) (fun y1 => words_Quote_k1 y1 = some r) (fun y1 hF => ?_) (fun J3 => ?_)
  · unfold words_Quote_k1 at hF
    refine G.seq ?_
    refine G.region ?_
    refine G.op1 (op_move (Ev.t 3 (.own 2005 (List.map encI_u8 y1))) rfl) rfl ⟨rfl, trivial⟩ trivial ?_
    refine G.op1 (op_buildSlice (es := List.map encI_u8 [34]) Tryd.underlying46 ti5 rfl rfl (EvP.cons (Ev.c _ rfl) EvP.nil) rfl rfl (by simp [encI_u8]) rfl) rfl trivial trivial ?_
    obtain ⟨l2, hl2, hF⟩ := bindS hF
    refine G.op2 (op_appendO Tryd.underlying46 ti5 rfl (app_map hl2 encI_u8) (app_b1 hl2 encI_u8) (app_b2 hl2 encI_u8) (Ev.t 35 (.own 2005 (List.map encI_u8 y1))) (Ev.t 36 (.g (.d (.sl 1 (List.map encI_u8 ([34])))))) rfl) rfl ⟨rfl, rfl, trivial⟩ ⟨rfl, trivial⟩ ?_
    refine G.view (t := 37) rfl rfl ?_
    refine G.op1 (op_toText (ns := l2) Tryd.underlying46 Tryd.underlying5 Tryd.underlying9 rfl (Ev.t 37 (.g (.d (.sl 1 (List.map encI_u8 l2))))) rfl) rfl ⟨rfl, trivial⟩ trivial ?_
    refine G.op1 (op_assign (Ev.t 38 (bS (bytesOf l2))) rfl) rfl ⟨rfl, trivial⟩ trivial ?_
    refine G.endOps ?_
    cases hF
    exact G.ret1 Tryd.results14 (RVar.tmp 2 _) ⟨rfl, trivial⟩ trivial
  refine G.block ?_
  refine G.keep (sl' := [(0, .one (bS s_0)), (3, .one (.own 2005 (List.map encI_u8 ([34])))), (7, .one (bI .i64 (s_0.size : Int))), (8, .one (bI .i64 0))]) (hp' := [(2005, some (.row 5 1 (List.map encI_u8 ([34])) false))]) ⟨rfl, rfl, rfl, rfl, trivial⟩ ⟨rfl, trivial⟩ rfl ?_
  refine G.loopF (fun (v4 : Int × (List Int)) => ⟨[(0, .one (bS s_0)), (3, .one (.own 2005 (List.map encI_u8 v4.2))), (7, .one (bI .i64 (s_0.size : Int))), (8, .one (bI .i64 v4.1))], [(2005, some (.row 5 1 (List.map encI_u8 v4.2) false))]⟩) hF rfl (fun K7 again6 v4 J5 hF => ?_)
  unfold words_Quote_l2 at hF
  refine G.seq ?_
  refine G.region ?_
  refine G.op1 (op_lss (Ev.t 8 (bI .i64 v4.1)) (Ev.t 7 (bI .i64 (s_0.size : Int))) rfl) rfl ⟨rfl, rfl, trivial⟩ trivial ?_
  refine G.endOps ?_
  refine G.seq ?_
  refine ifS hF (fun hc8 hF => ?_) (fun hc8 hF => ?_)
  · refine G.cond rfl (fun _ => ?_) (fun hx => Bool.noConfusion (hc8.symm.trans hx))
    refine G.skip ?_
    refine G.seq ?_
    refine G.block ?_
    refine G.seq ?_
    refine G.region ?_
    refine G.op1 (op_move (Ev.t 8 (bI .i64 v4.1)) rfl) rfl ⟨rfl, trivial⟩ trivial ?_
    refine G.op1 (op_assign (Ev.t 10 (bI .i64 v4.1)) rfl) rfl ⟨rfl, trivial⟩ trivial ?_
    refine G.endOps ?_
    refine G.seq ?_
    refine G.seq ?_
    refine G.region ?_
    refine G.op1 (op_move (Ev.t 0 (bS s_0)) rfl) rfl ⟨rfl, trivial⟩ trivial ?_
    refine G.op1 (op_move (Ev.t 4 (bI .i64 v4.1)) rfl) rfl ⟨rfl, trivial⟩ trivial ?_
    obtain ⟨b9, hb9, hF⟩ := bindS hF
    refine G.op1 (op_indexS Tryd.underlying9 (sidx_ok hb9).1 (sidx_ok hb9).2 (Ev.t 11 (bS s_0)) (Ev.t 12 (bI .i64 v4.1)) rfl) rfl ⟨rfl, rfl, trivial⟩ trivial ?_
    obtain ⟨r10, hr10, hF⟩ := bindS hF
    refine G.op1 (op_callQ (sv := .one (bB r10)) cf25 (ct_words_plain (b9.toNat : Int) r10 hr10) rfl rfl (EvQL.cons (EvQ.g (Ev.t 13 (bI .u8 (b9.toNat : Int)))) EvQL.nil) rfl) rfl ⟨rfl, trivial⟩ trivial ?_
    refine G.endOps ?_
    refine ifS hF (fun hc11 hF => ?_) (fun hc11 hF => ?_)
    · refine G.cond rfl (fun _ => ?_) (fun hx => Bool.noConfusion (hc11.symm.trans hx))
      refine G.seq ?_
      refine G.region ?_
      refine G.op1 (op_move (Ev.t 3 (.own 2005 (List.map encI_u8 v4.2))) rfl) rfl ⟨rfl, trivial⟩ trivial ?_
      refine G.op1 (op_move (Ev.t 0 (bS s_0)) rfl) rfl ⟨rfl, trivial⟩ trivial ?_
      refine G.op1 (op_move (Ev.t 4 (bI .i64 v4.1)) rfl) rfl ⟨rfl, trivial⟩ trivial ?_
      obtain ⟨b12, hb12, hF⟩ := bindS hF
      refine G.op1 (op_indexS Tryd.underlying9 (sidx_ok hb12).1 (sidx_ok hb12).2 (Ev.t 16 (bS s_0)) (Ev.t 17 (bI .i64 v4.1)) rfl) rfl ⟨rfl, rfl, trivial⟩ trivial ?_
      refine G.op1 (op_buildSlice (es := List.map encI_u8 [(b12.toNat : Int)]) Tryd.underlying46 ti5 rfl rfl (EvP.cons (Ev.t 18 (bI .u8 (b12.toNat : Int))) EvP.nil) rfl rfl (by simp [encI_u8]) rfl) rfl ⟨rfl, trivial⟩ trivial ?_
      obtain ⟨l13, hl13, hF⟩ := bindS hF
      refine G.op2 (op_appendO Tryd.underlying46 ti5 rfl (app_map hl13 encI_u8) (app_b1 hl13 encI_u8) (app_b2 hl13 encI_u8) (Ev.t 15 (.own 2005 (List.map encI_u8 v4.2))) (Ev.t 19 (.g (.d (.sl 1 (List.map encI_u8 ([(b12.toNat : Int)])))))) rfl) rfl ⟨rfl, rfl, trivial⟩ ⟨rfl, trivial⟩ ?_
      refine G.op1 (op_assign (Ev.t 20 (.own 2005 (List.map encI_u8 l13))) rfl) rfl ⟨rfl, trivial⟩ trivial ?_
      refine G.endOps ?_
      refine G.exit ?_
      refine GX.c ?_
      refine GX.bYes ?_
      refine G.region ?_
      refine G.op1 (op_add (Ev.t 8 (bI .i64 v4.1)) (Ev.c _ rfl) rfl) rfl ⟨rfl, trivial⟩ trivial ?_
      refine G.op1 (op_move (Ev.t 34 (bI .i64 (IntKind.wrap .i64 (v4.1 + 1)))) rfl) rfl ⟨rfl, trivial⟩ trivial ?_
      refine G.endOps ?_
      exact G.arr (J5 (IntKind.wrap .i64 (v4.1 + 1), l13) hF) ⟨rfl, rfl, rfl, rfl, trivial⟩ ⟨rfl, trivial⟩ rfl
    · refine G.cond rfl (fun hx => Bool.noConfusion (hc11.symm.trans hx)) (fun _ => ?_)
      refine G.skip ?_
      obtain ⟨b14, hb14, hF⟩ := bindS hF
      obtain ⟨b15, hb15, hF⟩ := bindS hF
      obtain ⟨b16, hb16, hF⟩ := bindS hF
      obtain ⟨b17, hb17, hF⟩ := bindS hF
      obtain ⟨l18, hl18, hF⟩ := bindS hF
      refine G.drawnI (deps := [[], [], [], [1, 2], [1, 2, 3], [1, 2, 3, 4], [], [], [6, 7], [6, 7, 8], [6, 7, 8, 9], [1, 2, 3, 4, 5, 6, 7, 8, 9, 10], [0, 1, 2, 3, 4, 5, 6, 7, 8, 9, 10, 11], [0, 1, 2, 3, 4, 5, 6, 7, 8, 9, 10, 11, 12]]) (sl' := [(0, .one (bS s_0)), (3, .one (.own 2005 (List.map encI_u8 l18))), (7, .one (bI .i64 (s_0.size : Int))), (8, .one (bI .i64 v4.1))]) (hp' := [(2005, some (.row 5 1 (List.map encI_u8 l18) false))]) (.c (oP rfl rfl (op_move (Ev.t 3 (.own 2005 (List.map encI_u8 v4.2))) rfl)) (.c (oP rfl rfl (op_move (Ev.t 0 (bS s_0)) rfl)) (.c (oP rfl rfl (op_move (Ev.t 4 (bI .i64 v4.1)) rfl)) (.c (oP rfl rfl (op_indexS Tryd.underlying9 (sidx_ok hb14).1 (sidx_ok hb14).2 (Ev.t 22 (bS s_0)) (Ev.t 23 (bI .i64 v4.1)) rfl)) (.c (oP rfl rfl (op_quo (by decide) (Ev.t 24 (bI .u8 (b14.toNat : Int))) (Ev.c _ rfl) rfl)) (.c (oP rfl rfl (op_indexS Tryd.underlying9 (sidx_ok hb15).1 (sidx_ok hb15).2 (Ev.c _ rfl) (Ev.t 25 (bI .u8 (IntKind.wrap .u8 (Int.tdiv (b14.toNat : Int) 16)))) rfl)) (.c (oP rfl rfl (op_move (Ev.t 0 (bS s_0)) rfl)) (.c (oP rfl rfl (op_move (Ev.t 4 (bI .i64 v4.1)) rfl)) (.c (oP rfl rfl (op_indexS Tryd.underlying9 (sidx_ok hb16).1 (sidx_ok hb16).2 (Ev.t 27 (bS s_0)) (Ev.t 28 (bI .i64 v4.1)) rfl)) (.c (oP rfl rfl (op_rem (by decide) (Ev.t 29 (bI .u8 (b16.toNat : Int))) (Ev.c _ rfl) rfl)) (.c (oP rfl rfl (op_indexS Tryd.underlying9 (sidx_ok hb17).1 (sidx_ok hb17).2 (Ev.c _ rfl) (Ev.t 30 (bI .u8 (Int.tmod (b16.toNat : Int) 16))) rfl)) (.c (oP rfl rfl (op_buildSlice (es := List.map encI_u8 [92, (b15.toNat : Int), (b17.toNat : Int)]) Tryd.underlying46 ti5 rfl rfl (EvP.cons (Ev.c _ rfl) (EvP.cons (Ev.t 26 (bI .u8 (b15.toNat : Int))) (EvP.cons (Ev.t 31 (bI .u8 (b17.toNat : Int))) EvP.nil))) rfl rfl (by simp [encI_u8]) rfl)) (.c (oP rfl rfl (op_appendO Tryd.underlying46 ti5 rfl (app_map hl18 encI_u8) (app_b1 hl18 encI_u8) (app_b2 hl18 encI_u8) (Ev.t 21 (.own 2005 (List.map encI_u8 v4.2))) (Ev.t 32 (.g (.d (.sl 1 (List.map encI_u8 ([92, (b15.toNat : Int), (b17.toNat : Int)])))))) rfl)) (.c (oP rfl rfl (op_assign (Ev.t 33 (.own 2005 (List.map encI_u8 l18))) rfl)) .nil)))))))))))))) follows rfl rfl rfl ⟨⟨⟨rfl, rfl⟩, trivial⟩, trivial, ⟨rfl, trivial⟩, trivial, ⟨rfl, trivial⟩, trivial, ⟨rfl, rfl, trivial⟩, trivial, ⟨rfl, trivial⟩, trivial, ⟨rfl, trivial⟩, trivial, ⟨rfl, trivial⟩, trivial, ⟨rfl, trivial⟩, trivial, ⟨rfl, rfl, trivial⟩, trivial, ⟨rfl, trivial⟩, trivial, ⟨rfl, trivial⟩, trivial, ⟨rfl, rfl, trivial⟩, trivial, ⟨rfl, rfl, trivial⟩, ⟨⟨rfl, rfl⟩, trivial⟩, ⟨rfl, trivial⟩, trivial, trivial⟩ ⟨rfl, rfl, rfl, rfl, trivial⟩ ⟨rfl, trivial⟩ rfl ?_
      refine G.endBlock ?_
      refine G.region ?_
      refine G.op1 (op_add (Ev.t 8 (bI .i64 v4.1)) (Ev.c _ rfl) rfl) rfl ⟨rfl, trivial⟩ trivial ?_
      refine G.op1 (op_move (Ev.t 34 (bI .i64 (IntKind.wrap .i64 (v4.1 + 1)))) rfl) rfl ⟨rfl, trivial⟩ trivial ?_
      refine G.endOps ?_
      exact G.arr (J5 (IntKind.wrap .i64 (v4.1 + 1), l18) hF) ⟨rfl, rfl, rfl, rfl, trivial⟩ ⟨rfl, trivial⟩ rfl
  · refine G.cond rfl (fun hx => Bool.noConfusion (hc8.symm.trans hx)) (fun _ => ?_)
    refine G.exit ?_
    refine GX.c ?_
    refine GX.q ?_
    refine GX.bYes ?_
    exact G.arr (J3 v4.2 hF) ⟨rfl, trivial⟩ ⟨rfl, trivial⟩ rfl


set_option maxHeartbeats 2000000 in
set_option maxRecDepth 1000000 in
theorem bGW93 (b n : Nat) (w : World) (hbk : w.heap[b]? = some (.cells #[.pointer (some ⟨b, 0, none⟩), .slice none 0 0] 54 (0, 0))) (hn : n ≤ 140737488355328) :
    Calls Tryd.prog 93 #[.pointer (some ⟨b, 0, none⟩), .int .i64 n] w fun e w' => e = .returned (.tuple #[]) ∧ BPost 54 5 w b none ByteArray.empty w' := by
  have hSB : (Tryd.prog.info? 5).map (·.size) = some 1 := by kernel_rfl
  have t54 := Tryd.underlying54; have a54 := Tryd.isAgg54; have z54 := Tryd.sizeOf54; have v54 := Tryd.zeroValue54; have u54 := run_underlying t54
  have t52 := Tryd.underlying52; have a52 := Tryd.isAgg52; have z52 := Tryd.sizeOf52; have v52 := Tryd.zeroValue52; have u52 := run_underlying t52
  have t46 := Tryd.underlying46; have a46 := Tryd.isAgg46; have z46 := Tryd.sizeOf46; have v46 := Tryd.zeroValue46; have u46 := run_underlying t46
  have t5 := Tryd.underlying5; have a5 := Tryd.isAgg5; have z5 := Tryd.sizeOf5; have v5 := Tryd.zeroValue5; have u5 := run_underlying t5
  have t9 := Tryd.underlying9; have a9 := Tryd.isAgg9; have z9 := Tryd.sizeOf9; have v9 := Tryd.zeroValue9; have u9 := run_underlying t9
  have t4 := Tryd.underlying4; have a4 := Tryd.isAgg4; have z4 := Tryd.sizeOf4; have v4 := Tryd.zeroValue4; have u4 := run_underlying t4
  have t3 := Tryd.underlying3; have a3 := Tryd.isAgg3; have z3 := Tryd.sizeOf3; have v3 := Tryd.zeroValue3; have u3 := run_underlying t3
  obtain ⟨cs, hrun, hle, hmax⟩ := Lib.run_makeNoZero (P := Tryd.prog) w.drew #[3] 46 5 t46 n (by omega)
  have hw : IntKind.i64.wrap (IntKind.i64.wrap 0 + (n : Int)) = n := by
    rw [IntKind.wrap_i64, IntKind.wrap_i64]
    omega
  have hcall : (callFunc 101 #[.int .i64 (IntKind.i64.wrap (IntKind.i64.wrap 0 + (n : Int)))]).run Tryd.prog w.drew = .ok (.value (.slice (some ⟨w.drew.heap.size, 0, none⟩) n cs.size)) (w.drew.drew.drew.alloc (.cells cs 5)) := by
    rw [hw, run_callFunc_extern Tryd.func101 (by kernel_rfl) (by kernel_rfl) (by kernel_rfl) (e := Extern.BytealgMakeNoZero.makeNoZero #[3] #[46]) (by kernel_rfl), hrun]
    rfl
  have hlt : b < w.heap.size := (Array.getElem?_eq_some_iff.1 hbk).1
  have c1 : w.drew.cell? ⟨b, 1, none⟩ = some (.slice none 0 0) := by
    have : w.drew.heap[b]? = _ := hbk
    rw [Lib.cell_of_heap this]; rfl
  have c2 : (w.alloc (.cells cs 5)).cell? ⟨b, 1, none⟩ = some (.slice none 0 0) := by
    have : (w.alloc (.cells cs 5)).heap[b]? = _ := (Lib.alloc_old w _ b hlt).trans hbk
    rw [Lib.cell_of_heap this]; rfl
  have f2 : (w.alloc (.cells cs 5)).frozen? ⟨b, 1, none⟩ = false := Lib.frozen_of_heap ((Lib.alloc_old w _ b hlt).trans hbk) 1
  have hcopy : ∀ W : World, (Builtin.copy_ #[46, 46] 3 #[.slice (some ⟨w.heap.size, 0, none⟩) 0 cs.size, .slice none 0 0]).run Tryd.prog W = .ok (goInt 0) W :=
    fun W => run_copy_none W 46 46 3 5 _ _ 0 cs.size 0 0 t46 hSB rfl
  have mixed : Tryd.prog.follows .mixedOrders = true := by kernel_rfl
  have hfin := grown_new (T := 54) (E := 5) (cs := cs) hbk (hmax (by unfold maxLen; omega)) (by decide)
  clear hw hlt
  go_enter Tryd.func93, Tryd.ntmps93
  go_wp2
  go_region_o
  all_goals (go_wp2; go_end0; exact ⟨rfl, hfin⟩)


set_option maxHeartbeats 2000000 in
set_option maxRecDepth 1000000 in
theorem bGR83 (n : Nat) (hn : n ≤ 140737488355328) (b : Nat) (w : World) (hbk : w.heap[b]? = some (.cells #[.pointer none, .slice none 0 0] 54 (0, 0))) :
    Calls Tryd.prog 83 #[.pointer (some ⟨b, 0, none⟩), .int .i64 n] w fun e w' => e = .returned (.tuple #[]) ∧ BPost 54 5 w b none ByteArray.empty w' := by
  have hbk1 : (w.setCell ⟨b, 0, none⟩ (.pointer (some ⟨b, 0, none⟩))).heap[b]? = some (.cells #[.pointer (some ⟨b, 0, none⟩), .slice none 0 0] 54 (0, 0)) := by
    simp [World.setCell, Array.getElem?_modify, hbk]
  have c1 : (w.setCell ⟨b, 0, none⟩ (.pointer (some ⟨b, 0, none⟩))).cell? ⟨b, 1, none⟩ = some (.slice none 0 0) := by rw [Lib.cell_of_heap hbk1]; rfl
  have t54 := Tryd.underlying54; have a54 := Tryd.isAgg54; have z54 := Tryd.sizeOf54; have v54 := Tryd.zeroValue54; have u54 := run_underlying t54
  have t52 := Tryd.underlying52; have a52 := Tryd.isAgg52; have z52 := Tryd.sizeOf52; have v52 := Tryd.zeroValue52; have u52 := run_underlying t52
  have t46 := Tryd.underlying46; have a46 := Tryd.isAgg46; have z46 := Tryd.sizeOf46; have v46 := Tryd.zeroValue46; have u46 := run_underlying t46
  have t5 := Tryd.underlying5; have a5 := Tryd.isAgg5; have z5 := Tryd.sizeOf5; have v5 := Tryd.zeroValue5; have u5 := run_underlying t5
  have t9 := Tryd.underlying9; have a9 := Tryd.isAgg9; have z9 := Tryd.sizeOf9; have v9 := Tryd.zeroValue9; have u9 := run_underlying t9
  have t4 := Tryd.underlying4; have a4 := Tryd.isAgg4; have z4 := Tryd.sizeOf4; have v4 := Tryd.zeroValue4; have u4 := run_underlying t4
  have t3 := Tryd.underlying3; have a3 := Tryd.isAgg3; have z3 := Tryd.sizeOf3; have v3 := Tryd.zeroValue3; have u3 := run_underlying t3
  have mixed : Tryd.prog.follows .mixedOrders = true := by kernel_rfl
  have c1' : (w.setCell ⟨b, 0, none⟩ (.pointer (some ⟨b, 0, none⟩))).drew.cell? ⟨b, 1, none⟩ = some (.slice none 0 0) := c1
  have hpost := bpost_fresh (E := 5) hbk
  have hpost2 := fun w' h => bpost_after (E := 5) (w' := w') hbk h
  go_enter Tryd.func83, Tryd.ntmps83
  go_wp2_with (go_at_call 42; refine (bCC42_fresh b _ w hbk).mono ?_; rintro e w' ⟨rfl, rfl⟩)
  go_region_o
  all_goals go_wp2_with (go_at_call 93; refine (bGW93 b n (w.setCell ⟨b, 0, none⟩ (.pointer (some ⟨b, 0, none⟩))).drew hbk1 hn).mono ?_; rintro e w' ⟨rfl, h1⟩)
  all_goals first
    | (go_end0; exact ⟨rfl, hpost2 _ h1⟩)
    | (go_end0; exact ⟨rfl, hpost⟩)


set_option maxRecDepth 20000 in
set_option maxHeartbeats 2000000 in
theorem ct_strings_Join (elems_0 : (List ByteArray)) (sep_1 : ByteArray) (r : ByteArray) (hF : strings_Join elems_0 sep_1 = some r) : Ct Tryd.prog 62 [.g (.d (.sl 1 (List.map encS elems_0))), .g (.d (.v (.string sep_1)))] (.one (.d (.v (.string r)))) := by
  unfold strings_Join at hF
  refine Ct.intro Tryd.func62 rfl Tryd.ntmps62 rfl rfl fun M w => ?_
  refine G.seq ?_
  refine G.region ?_
  refine G.op1 (op_assign (Ev.c _ rfl) rfl) rfl trivial trivial ?_
  refine G.endOps ?_
  refine G.seq ?_
  refine G.seq ?_
  refine G.region ?_
  refine G.op1 (op_move (Ev.t 0 (.g (.d (.sl 1 (List.map encS elems_0))))) rfl) rfl ⟨rfl, trivial⟩ trivial ?_
  refine G.op1 (OpL.cast (op_lenD Tryd.underlying24 (Ev.t 11 (.g (.d (.sl 1 (List.map encS elems_0))))) rfl) (by rw [List.length_map])) rfl ⟨rfl, trivial⟩ trivial ?_
  refine G.endOps ?_
  refine G.block ?_
  refine G.seq ?_
  refine G.region ?_
  refine G.op1 (op_eqI (Ev.t 12 (bI .i64 (elems_0.length : Int))) (Ev.c _ rfl) rfl) rfl ⟨rfl, trivial⟩ trivial ?_
  refine G.op1 (op_assign (Ev.t 14 (bB (decide ((elems_0.length : Int) = 0)))) rfl) rfl ⟨rfl, trivial⟩ trivial ?_
  refine G.endOps ?_
  refine ifS hF (fun hc1 hF => ?_) (fun hc1 hF => ?_)
  · refine G.cond rfl (fun _ => ?_) (fun hx => Bool.noConfusion (hc1.symm.trans hx))
    refine G.seq ?_
    refine G.region ?_
    refine G.op1 (op_assign (Ev.c _ rfl) rfl) rfl trivial trivial ?_
    refine G.endOps ?_
    cases hF
    exact G.ret1 Tryd.results62 (RVar.tmp 4 _) ⟨rfl, trivial⟩ trivial
  · refine G.cond rfl (fun hx => Bool.noConfusion (hc1.symm.trans hx)) (fun _ => ?_)
    refine G.seq ?_
    refine G.region ?_
    refine G.op1 (op_eqI (Ev.t 12 (bI .i64 (elems_0.length : Int))) (Ev.c _ rfl) rfl) rfl ⟨rfl, trivial⟩ trivial ?_
    refine G.op1 (op_assign (Ev.t 16 (bB (decide ((elems_0.length : Int) = 1)))) rfl) rfl ⟨rfl, trivial⟩ trivial ?_
    refine G.endOps ?_
    refine ifS hF (fun hc2 hF => ?_) (fun hc2 hF => ?_)
    · refine G.cond rfl (fun _ => ?_) (fun hx => Bool.noConfusion (hc2.symm.trans hx))
      refine G.seq ?_
      refine G.region ?_
      refine G.op1 (op_move (Ev.t 0 (.g (.d (.sl 1 (List.map encS elems_0))))) rfl) rfl ⟨rfl, trivial⟩ trivial ?_
      obtain ⟨x3, hx3, hF⟩ := bindS hF
      refine G.op1 (op_index (cs := [.v (.string x3)]) Tryd.underlying24 ti9 (idx_ok hx3).1 (idx_get hx3 encS) (Ev.t 17 (.g (.d (.sl 1 (List.map encS elems_0))))) (Ev.c _ rfl) rfl) rfl ⟨rfl, trivial⟩ trivial ?_
      refine G.op1 (op_load1E (c := .v (.string x3)) Tryd.underlying9 rfl rfl (Ev.t 18 (.ep [.v (.string x3)])) rfl) rfl ⟨rfl, trivial⟩ trivial ?_
      refine G.op1 (op_assign (Ev.t 19 (bS x3)) rfl) rfl ⟨rfl, trivial⟩ trivial ?_
      refine G.endOps ?_
      cases hF
      exact G.ret1 Tryd.results62 (RVar.tmp 4 _) ⟨rfl, trivial⟩ trivial
    · refine G.cond rfl (fun hx => Bool.noConfusion (hc2.symm.trans hx)) (fun _ => ?_)
      refine G.skip ?_
      refine G.endBlock ?_
      refine G.seq ?_
      refine G.region ?_
      refine G.op1 (op_assign (Ev.c _ rfl) rfl) rfl trivial trivial ?_
      refine G.endOps ?_
      refine G.seq ?_
      refine G.seq ?_
      refine G.region ?_
      refine G.op1 (op_move (Ev.t 1 (bS sep_1)) rfl) rfl ⟨rfl, trivial⟩ trivial ?_
      refine G.op1 (op_lenS Tryd.underlying9 (Ev.t 20 (bS sep_1)) rfl) rfl ⟨rfl, trivial⟩ trivial ?_
      refine G.op1 (op_gtr (Ev.t 21 (bI .i64 (sep_1.size : Int))) (Ev.c _ rfl) rfl) rfl ⟨rfl, trivial⟩ trivial ?_
      refine G.endOps ?_
      refine G.joinC (T := Int) (fun y4 => ⟨[(0, .one (.g (.d (.sl 1 (List.map encS elems_0))))), (1, .one (bS sep_1)), (5, .one (bI .i64 y4))], []⟩) (fun y4 => strings_Join_k1 elems_0 sep_1 y4 = some r) (fun y4 hF => ?_) (fun J31 => ?_)
      · unfold strings_Join_k1 at hF
        refine G.seq ?_
        refine G.seq ?_
        refine G.region ?_
        refine G.op1 (op_move (Ev.t 0 (.g (.d (.sl 1 (List.map encS elems_0))))) rfl) rfl ⟨rfl, trivial⟩ trivial ?_
        refine G.op1 (OpL.cast (op_lenD Tryd.underlying24 (Ev.t 39 (.g (.d (.sl 1 (List.map encS elems_0))))) rfl) (by rw [List.length_map])) rfl ⟨rfl, trivial⟩ trivial ?_
        refine G.op1 (op_move (Ev.c _ rfl) rfl) rfl trivial trivial ?_
        refine G.endOps ?_
        refine G.joinC (T := Int) (fun y5 => ⟨[(0, .one (.g (.d (.sl 1 (List.map encS elems_0))))), (1, .one (bS sep_1)), (5, .one (bI .i64 y5))], []⟩) (fun y5 => strings_Join_k2 elems_0 sep_1 y5 = some r) (fun y5 hF => ?_) (fun J21 => ?_)
        · unfold strings_Join_k2 at hF
          refine G.seq ?_
          refine G.region ?_
          refine G.op2 (op_alloc (k := 1008) (cs := [.g (.d (.v (.pointer none))), .g (.d (.v (.slice none 0 0)))]) ti54 ⟨.v _ rfl, .v _ rfl, trivial⟩ rfl) rfl trivial ⟨rfl, trivial⟩ ?_
          refine G.endOps ?_
          refine G.seq ?_
          refine G.region ?_
          refine G.op1 (op_move (Ev.t 5 (bI .i64 y5)) rfl) rfl ⟨rfl, trivial⟩ trivial ?_
          obtain ⟨hz6, hF⟩ := chkS hF
          refine G.opM (op_grow (T := 54) (E := 5) (k := 1008) (kk := 3008) cf83 (of_decide_eq_true hz6) bGR83 rfl rfl (Ev.t 8 (.ptr 1008 0)) (Ev.t 56 (bI .i64 y5)) rfl) rfl ⟨rfl, rfl, trivial⟩ ⟨rfl, rfl, trivial⟩ ?_
          refine G.endOps ?_
          refine G.seq ?_
          refine G.region ?_
          refine G.op1 (op_move (Ev.t 0 (.g (.d (.sl 1 (List.map encS elems_0))))) rfl) rfl ⟨rfl, trivial⟩ trivial ?_
          obtain ⟨x7, hx7, hF⟩ := bindS hF
          refine G.op1 (op_index (cs := [.v (.string x7)]) Tryd.underlying24 ti9 (idx_ok hx7).1 (idx_get hx7 encS) (Ev.t 58 (.g (.d (.sl 1 (List.map encS elems_0))))) (Ev.c _ rfl) rfl) rfl ⟨rfl, trivial⟩ trivial ?_
          refine G.op1 (op_load1E (c := .v (.string x7)) Tryd.underlying9 rfl rfl (Ev.t 59 (.ep [.v (.string x7)])) rfl) rfl ⟨rfl, trivial⟩ trivial ?_
          obtain ⟨r8, hr8, hF⟩ := bindS hF
          refine G.opM (op_callM (k := 1008) (h := .bld 54 5 ByteArray.empty) (h' := .bld 54 5 r8) 3008 (sv := .tup [bI .i64 (x7.size : Int), .g (.d (.v .nilIface))]) cf19 (ct_bld_WriteString ByteArray.empty x7 r8 hr8) rfl rfl (EvM.pt (Ev.t 8 (.ptr 1008 0)) (EvM.g (Ev.t 60 (bS x7)) EvM.nil)) rfl) rfl ⟨rfl, rfl, trivial⟩ ⟨rfl, rfl, trivial⟩ ?_
          refine G.endOps ?_
          refine G.seq ?_
          refine G.seq ?_
          refine G.region ?_
          refine G.op1 (op_move (Ev.t 0 (.g (.d (.sl 1 (List.map encS elems_0))))) rfl) rfl ⟨rfl, trivial⟩ trivial ?_
          obtain ⟨l9, hl9, hF⟩ := bindS hF
          refine G.op1 (op_sliceD (lo := some 1) (hi := none) Tryd.underlying24 ti9 (sub_okE hl9 encS).1 (sub_okE hl9 encS).2.1 (Int.le_refl _) (sub_okE hl9 encS).2.2 (Ev.t 62 (.g (.d (.sl 1 (List.map encS elems_0))))) (EvO.some (Ev.c _ rfl)) EvO.none rfl) rfl ⟨rfl, trivial⟩ trivial ?_
          refine G.op1 (OpL.cast (op_lenD Tryd.underlying24 (Ev.t 63 (.g (.d (.sl 1 (List.map encS l9))))) rfl) (by rw [List.length_map])) rfl ⟨rfl, trivial⟩ trivial ?_
          refine G.op1 (op_move (Ev.c _ rfl) rfl) rfl trivial trivial ?_
          refine G.endOps ?_
          refine G.joinC (T := ByteArray) (fun y10 => ⟨[(8, .one (.ptr 1008 0))], [(1008, some (.bld 54 5 3008 y10)), (3008, some (.hid true 1008))]⟩) (fun y10 => strings_Join_k3 y10 = some r) (fun y10 hF => ?_) (fun J12 => ?_)
          · unfold strings_Join_k3 at hF
            refine G.seq ?_
            refine G.region ?_
            obtain ⟨r11, hr11, hF⟩ := bindS hF
            refine G.opM (op_callM (k := 1008) (h := .bld 54 5 y10) (h' := .gone) 3008 (sv := .one (bS r11)) cf20 (ct_bld_String y10 r11 hr11) rfl rfl (EvM.pt (Ev.t 8 (.ptr 1008 0)) EvM.nil) rfl) rfl ⟨rfl, trivial⟩ ⟨rfl, rfl, trivial⟩ ?_
            refine G.op1 (op_assign (Ev.t 74 (bS r11)) rfl) rfl ⟨rfl, trivial⟩ trivial ?_
            refine G.endOps ?_
            cases hF
            exact G.ret1 Tryd.results62 (RVar.tmp 4 _) ⟨rfl, trivial⟩ trivial
          refine G.block ?_
          refine G.keep (sl' := [(1, .one (bS sep_1)), (8, .one (.ptr 1008 0)), (63, .one (.g (.d (.sl 1 (List.map encS l9))))), (64, .one (bI .i64 (l9.length : Int))), (65, .one (bI .i64 0))]) (hp' := [(1008, some (.bld 54 5 3008 r8)), (3008, some (.hid true 1008))]) ⟨rfl, rfl, rfl, rfl, rfl, trivial⟩ ⟨rfl, rfl, trivial⟩ rfl ?_
          refine G.loopF (fun (v13 : Int × ByteArray) => ⟨[(1, .one (bS sep_1)), (8, .one (.ptr 1008 0)), (63, .one (.g (.d (.sl 1 (List.map encS l9))))), (64, .one (bI .i64 (l9.length : Int))), (65, .one (bI .i64 v13.1))], [(1008, some (.bld 54 5 3008 v13.2)), (3008, some (.hid true 1008))]⟩) hF rfl (fun K16 again15 v13 J14 hF => ?_)
          unfold strings_Join_l4 at hF
          refine G.seq ?_
          refine G.region ?_
          refine G.op1 (op_lss (Ev.t 65 (bI .i64 v13.1)) (Ev.t 64 (bI .i64 (l9.length : Int))) rfl) rfl ⟨rfl, rfl, trivial⟩ trivial ?_
          refine G.endOps ?_
          refine G.seq ?_
          refine ifS hF (fun hc17 hF => ?_) (fun hc17 hF => ?_)
          · refine G.cond rfl (fun _ => ?_) (fun hx => Bool.noConfusion (hc17.symm.trans hx))
            refine G.skip ?_
            refine G.seq ?_
            refine G.block ?_
            refine G.seq ?_
            refine G.region ?_
            obtain ⟨x18, hx18, hF⟩ := bindS hF
            refine G.op1 (op_index (cs := [.v (.string x18)]) Tryd.underlying24 ti9 (idx_ok hx18).1 (idx_get hx18 encS) (Ev.t 63 (.g (.d (.sl 1 (List.map encS l9))))) (Ev.t 65 (bI .i64 v13.1)) rfl) rfl ⟨rfl, rfl, trivial⟩ trivial ?_
            refine G.op1 (op_load1E (c := .v (.string x18)) Tryd.underlying9 rfl rfl (Ev.t 67 (.ep [.v (.string x18)])) rfl) rfl ⟨rfl, trivial⟩ trivial ?_
            refine G.op1 (op_assign (Ev.t 68 (bS x18)) rfl) rfl ⟨rfl, trivial⟩ trivial ?_
            refine G.endOps ?_
            refine G.seq ?_
            refine G.region ?_
            refine G.op1 (op_move (Ev.t 1 (bS sep_1)) rfl) rfl ⟨rfl, trivial⟩ trivial ?_
            obtain ⟨r19, hr19, hF⟩ := bindS hF
            refine G.opM (op_callM (k := 1008) (h := .bld 54 5 v13.2) (h' := .bld 54 5 r19) 3008 (sv := .tup [bI .i64 (sep_1.size : Int), .g (.d (.v .nilIface))]) cf19 (ct_bld_WriteString v13.2 sep_1 r19 hr19) rfl rfl (EvM.pt (Ev.t 8 (.ptr 1008 0)) (EvM.g (Ev.t 69 (bS sep_1)) EvM.nil)) rfl) rfl ⟨rfl, rfl, trivial⟩ ⟨rfl, rfl, trivial⟩ ?_
            refine G.endOps ?_
            refine G.region ?_
            refine G.op1 (op_move (Ev.t 10 (bS x18)) rfl) rfl ⟨rfl, trivial⟩ trivial ?_
            obtain ⟨r20, hr20, hF⟩ := bindS hF
            refine G.opM (op_callM (k := 1008) (h := .bld 54 5 r19) (h' := .bld 54 5 r20) 3008 (sv := .tup [bI .i64 (x18.size : Int), .g (.d (.v .nilIface))]) cf19 (ct_bld_WriteString r19 x18 r20 hr20) rfl rfl (EvM.pt (Ev.t 8 (.ptr 1008 0)) (EvM.g (Ev.t 71 (bS x18)) EvM.nil)) rfl) rfl ⟨rfl, rfl, trivial⟩ ⟨rfl, rfl, trivial⟩ ?_
            refine G.endOps ?_
            refine G.endBlock ?_
            refine G.region ?_
            refine G.op1 (op_add (Ev.t 65 (bI .i64 v13.1)) (Ev.c _ rfl) rfl) rfl ⟨rfl, trivial⟩ trivial ?_
            refine G.op1 (op_move (Ev.t 73 (bI .i64 (IntKind.wrap .i64 (v13.1 + 1)))) rfl) rfl ⟨rfl, trivial⟩ trivial ?_
            refine G.endOps ?_
            exact G.arr (J14 (IntKind.wrap .i64 (v13.1 + 1), r20) hF) ⟨rfl, rfl, rfl, rfl, rfl, trivial⟩ ⟨rfl, rfl, trivial⟩ rfl
          · refine G.cond rfl (fun hx => Bool.noConfusion (hc17.symm.trans hx)) (fun _ => ?_)
            refine G.exit ?_
            refine GX.c ?_
            refine GX.q ?_
            refine GX.bYes ?_
            exact G.arr (J12 v13.2 hF) ⟨rfl, trivial⟩ ⟨rfl, rfl, trivial⟩ rfl
        refine G.block ?_
        refine G.keep (sl' := [(0, .one (.g (.d (.sl 1 (List.map encS elems_0))))), (1, .one (bS sep_1)), (5, .one (bI .i64 y4)), (39, .one (.g (.d (.sl 1 (List.map encS elems_0))))), (40, .one (bI .i64 (elems_0.length : Int))), (41, .one (bI .i64 0))]) (hp' := []) ⟨rfl, rfl, rfl, rfl, rfl, rfl, trivial⟩ trivial rfl ?_
        refine G.loopF (fun (v22 : Int × Int) => ⟨[(0, .one (.g (.d (.sl 1 (List.map encS elems_0))))), (1, .one (bS sep_1)), (5, .one (bI .i64 v22.1)), (39, .one (.g (.d (.sl 1 (List.map encS elems_0))))), (40, .one (bI .i64 (elems_0.length : Int))), (41, .one (bI .i64 v22.2))], []⟩) hF rfl (fun K25 again24 v22 J23 hF => ?_)
        unfold strings_Join_l5 at hF
        refine G.seq ?_
        refine G.region ?_
        refine G.op1 (op_lss (Ev.t 41 (bI .i64 v22.2)) (Ev.t 40 (bI .i64 (elems_0.length : Int))) rfl) rfl ⟨rfl, rfl, trivial⟩ trivial ?_
        refine G.endOps ?_
        refine G.seq ?_
        refine ifS hF (fun hc26 hF => ?_) (fun hc26 hF => ?_)
        · refine G.cond rfl (fun _ => ?_) (fun hx => Bool.noConfusion (hc26.symm.trans hx))
          refine G.skip ?_
          refine G.seq ?_
          refine G.block ?_
          refine G.seq ?_
          refine G.region ?_
          obtain ⟨x27, hx27, hF⟩ := bindS hF
          refine G.op1 (op_index (cs := [.v (.string x27)]) Tryd.underlying24 ti9 (idx_ok hx27).1 (idx_get hx27 encS) (Ev.t 39 (.g (.d (.sl 1 (List.map encS elems_0))))) (Ev.t 41 (bI .i64 v22.2)) rfl) rfl ⟨rfl, rfl, trivial⟩ trivial ?_
          refine G.op1 (op_load1E (c := .v (.string x27)) Tryd.underlying9 rfl rfl (Ev.t 43 (.ep [.v (.string x27)])) rfl) rfl ⟨rfl, trivial⟩ trivial ?_
          refine G.op1 (op_assign (Ev.t 44 (bS x27)) rfl) rfl ⟨rfl, trivial⟩ trivial ?_
          refine G.endOps ?_
          refine G.seq ?_
          refine G.seq ?_
          refine G.region ?_
          refine G.op1 (op_move (Ev.t 7 (bS x27)) rfl) rfl ⟨rfl, trivial⟩ trivial ?_
          refine G.op1 (op_lenS Tryd.underlying9 (Ev.t 45 (bS x27)) rfl) rfl ⟨rfl, trivial⟩ trivial ?_
          refine G.op1 (op_move (Ev.t 5 (bI .i64 v22.1)) rfl) rfl ⟨rfl, trivial⟩ trivial ?_
          refine G.op1 (op_sub (Ev.c _ rfl) (Ev.t 47 (bI .i64 v22.1)) rfl) rfl ⟨rfl, trivial⟩ trivial ?_
          refine G.op1 (op_gtr (Ev.t 46 (bI .i64 (x27.size : Int))) (Ev.t 48 (bI .i64 (IntKind.wrap .i64 (9223372036854775807 - v22.1)))) rfl) rfl ⟨rfl, rfl, trivial⟩ trivial ?_
          refine G.endOps ?_
          refine G.joinC (T := Unit) (fun y28 => ⟨[(0, .one (.g (.d (.sl 1 (List.map encS elems_0))))), (1, .one (bS sep_1)), (5, .one (bI .i64 v22.1)), (7, .one (bS x27)), (39, .one (.g (.d (.sl 1 (List.map encS elems_0))))), (40, .one (bI .i64 (elems_0.length : Int))), (41, .one (bI .i64 v22.2))], []⟩) (fun y28 => strings_Join_k6 again24 v22 x27 y28 = some r) (fun y28 hF => ?_) (fun J29 => ?_)
          · unfold strings_Join_k6 at hF
            refine G.region ?_
            refine G.op1 (op_move (Ev.t 5 (bI .i64 v22.1)) rfl) rfl ⟨rfl, trivial⟩ trivial ?_
            refine G.op1 (op_move (Ev.t 7 (bS x27)) rfl) rfl ⟨rfl, trivial⟩ trivial ?_
            refine G.op1 (op_lenS Tryd.underlying9 (Ev.t 52 (bS x27)) rfl) rfl ⟨rfl, trivial⟩ trivial ?_
            refine G.op1 (op_add (Ev.t 51 (bI .i64 v22.1)) (Ev.t 53 (bI .i64 (x27.size : Int))) rfl) rfl ⟨rfl, rfl, trivial⟩ trivial ?_
            refine G.op1 (op_assign (Ev.t 54 (bI .i64 (IntKind.wrap .i64 (v22.1 + (x27.size : Int))))) rfl) rfl ⟨rfl, trivial⟩ trivial ?_
            refine G.endOps ?_
            refine G.endBlock ?_
            refine G.region ?_
            refine G.op1 (op_add (Ev.t 41 (bI .i64 v22.2)) (Ev.c _ rfl) rfl) rfl ⟨rfl, trivial⟩ trivial ?_
            refine G.op1 (op_move (Ev.t 55 (bI .i64 (IntKind.wrap .i64 (v22.2 + 1)))) rfl) rfl ⟨rfl, trivial⟩ trivial ?_
            refine G.endOps ?_
            exact G.arr (J23 (IntKind.wrap .i64 (v22.1 + (x27.size : Int)), IntKind.wrap .i64 (v22.2 + 1)) hF) ⟨rfl, rfl, rfl, rfl, rfl, rfl, trivial⟩ trivial rfl
          refine ifS hF (fun hc30 hF => ?_) (fun hc30 hF => ?_)
          · refine G.cond rfl (fun _ => ?_) (fun hx => Bool.noConfusion (hc30.symm.trans hx))
            cases hF
          · refine G.cond rfl (fun hx => Bool.noConfusion (hc30.symm.trans hx)) (fun _ => ?_)
            refine G.skip ?_
            exact G.arr (J29 () hF) ⟨rfl, rfl, rfl, rfl, rfl, rfl, rfl, trivial⟩ trivial rfl
        · refine G.cond rfl (fun hx => Bool.noConfusion (hc26.symm.trans hx)) (fun _ => ?_)
          refine G.exit ?_
          refine GX.c ?_
          refine GX.q ?_
          refine GX.bYes ?_
          exact G.arr (J21 v22.1 hF) ⟨rfl, rfl, rfl, trivial⟩ trivial rfl
      refine ifS hF (fun hc32 hF => ?_) (fun hc32 hF => ?_)
      · refine G.cond rfl (fun _ => ?_) (fun hx => Bool.noConfusion (hc32.symm.trans hx))
        refine G.seq ?_
        refine G.seq ?_
        refine G.region ?_
        refine G.op1 (op_move (Ev.t 1 (bS sep_1)) rfl) rfl ⟨rfl, trivial⟩ trivial ?_
        refine G.op1 (op_lenS Tryd.underlying9 (Ev.t 23 (bS sep_1)) rfl) rfl ⟨rfl, trivial⟩ trivial ?_
        refine G.op1 (op_move (Ev.t 0 (.g (.d (.sl 1 (List.map encS elems_0))))) rfl) rfl ⟨rfl, trivial⟩ trivial ?_
        refine G.op1 (OpL.cast (op_lenD Tryd.underlying24 (Ev.t 25 (.g (.d (.sl 1 (List.map encS elems_0))))) rfl) (by rw [List.length_map])) rfl ⟨rfl, trivial⟩ trivial ?_
        refine G.op1 (op_sub (Ev.t 26 (bI .i64 (elems_0.length : Int))) (Ev.c _ rfl) rfl) rfl ⟨rfl, trivial⟩ trivial ?_
        obtain ⟨hz33, hF⟩ := chkS hF
        refine G.op1 (op_quo (by simpa using hz33) (Ev.c _ rfl) (Ev.t 27 (bI .i64 (IntKind.wrap .i64 ((elems_0.length : Int) - 1)))) rfl) rfl ⟨rfl, trivial⟩ trivial ?_
        refine G.op1 (op_geq (Ev.t 24 (bI .i64 (sep_1.size : Int))) (Ev.t 28 (bI .i64 (IntKind.wrap .i64 (Int.tdiv 9223372036854775807 (IntKind.wrap .i64 ((elems_0.length : Int) - 1)))))) rfl) rfl ⟨rfl, rfl, trivial⟩ trivial ?_
        refine G.endOps ?_
        refine G.joinC (T := Unit) (fun y34 => ⟨[(0, .one (.g (.d (.sl 1 (List.map encS elems_0))))), (1, .one (bS sep_1)), (5, .one (bI .i64 0))], []⟩) (fun y34 => strings_Join_k7 elems_0 sep_1 y34 = some r) (fun y34 hF => ?_) (fun J35 => ?_)
        · unfold strings_Join_k7 at hF
          refine G.region ?_
          refine G.op1 (op_move (Ev.t 5 (bI .i64 0)) rfl) rfl ⟨rfl, trivial⟩ trivial ?_
          refine G.op1 (op_move (Ev.t 1 (bS sep_1)) rfl) rfl ⟨rfl, trivial⟩ trivial ?_
          refine G.op1 (op_lenS Tryd.underlying9 (Ev.t 32 (bS sep_1)) rfl) rfl ⟨rfl, trivial⟩ trivial ?_
          refine G.op1 (op_move (Ev.t 0 (.g (.d (.sl 1 (List.map encS elems_0))))) rfl) rfl ⟨rfl, trivial⟩ trivial ?_
          refine G.op1 (OpL.cast (op_lenD Tryd.underlying24 (Ev.t 34 (.g (.d (.sl 1 (List.map encS elems_0))))) rfl) (by rw [List.length_map])) rfl ⟨rfl, trivial⟩ trivial ?_
          refine G.op1 (op_sub (Ev.t 35 (bI .i64 (elems_0.length : Int))) (Ev.c _ rfl) rfl) rfl ⟨rfl, trivial⟩ trivial ?_
          refine G.op1 (op_mul (Ev.t 33 (bI .i64 (sep_1.size : Int))) (Ev.t 36 (bI .i64 (IntKind.wrap .i64 ((elems_0.length : Int) - 1)))) rfl) rfl ⟨rfl, rfl, trivial⟩ trivial ?_
          refine G.op1 (op_add (Ev.t 31 (bI .i64 0)) (Ev.t 37 (bI .i64 (IntKind.wrap .i64 ((sep_1.size : Int) * (IntKind.wrap .i64 ((elems_0.length : Int) - 1)))))) rfl) rfl ⟨rfl, rfl, trivial⟩ trivial ?_
          refine G.op1 (op_assign (Ev.t 38 (bI .i64 (IntKind.wrap .i64 (0 + (IntKind.wrap .i64 ((sep_1.size : Int) * (IntKind.wrap .i64 ((elems_0.length : Int) - 1)))))))) rfl) rfl ⟨rfl, trivial⟩ trivial ?_
          refine G.endOps ?_
          exact G.arr (J31 (IntKind.wrap .i64 (0 + (IntKind.wrap .i64 ((sep_1.size : Int) * (IntKind.wrap .i64 ((elems_0.length : Int) - 1)))))) hF) ⟨rfl, rfl, rfl, trivial⟩ trivial rfl
        refine ifS hF (fun hc36 hF => ?_) (fun hc36 hF => ?_)
        · refine G.cond rfl (fun _ => ?_) (fun hx => Bool.noConfusion (hc36.symm.trans hx))
          cases hF
        · refine G.cond rfl (fun hx => Bool.noConfusion (hc36.symm.trans hx)) (fun _ => ?_)
          refine G.skip ?_
          exact G.arr (J35 () hF) ⟨rfl, rfl, rfl, trivial⟩ trivial rfl
      · refine G.cond rfl (fun hx => Bool.noConfusion (hc32.symm.trans hx)) (fun _ => ?_)
        refine G.skip ?_
        exact G.arr (J31 0 hF) ⟨rfl, rfl, rfl, trivial⟩ trivial rfl


set_option maxRecDepth 20000 in
set_option maxHeartbeats 2000000 in
theorem ct_words_put (line_0 : ByteArray) (words_1 : (List ByteArray)) (r : ByteArray) (hF : words_put line_0 words_1 = some r) : Ct Tryd.prog 37 [.g (.d (.v (.string line_0))), .g (.d (.sl 1 (List.map encS words_1)))] (.one (.d (.v (.string r)))) := by
  unfold words_put at hF
  refine Ct.intro Tryd.func37 rfl Tryd.ntmps37 rfl rfl fun M w => ?_
  refine G.seq ?_
  refine G.region ?_
  refine G.op1 (op_assign (Ev.c _ rfl) rfl) rfl trivial trivial ?_
  refine G.endOps ?_
  refine G.seq ?_
  refine G.region ?_
  refine G.op1 (op_move (Ev.t 0 (bS line_0)) rfl) rfl ⟨rfl, trivial⟩ trivial ?_
  refine G.op1 (op_buildSliceC (es := List.map encS [line_0]) Tryd.underlying24 ti9 rfl rfl (EvP.cons (Ev.t 5 (bS line_0)) EvP.nil) rfl rfl (by simp [encS]) rfl) rfl ⟨rfl, trivial⟩ trivial ?_
  refine G.op1 (op_move (Ev.t 1 (.g (.d (.sl 1 (List.map encS words_1))))) rfl) rfl ⟨rfl, trivial⟩ trivial ?_
  obtain ⟨l1, hl1, hF⟩ := bindS hF
  refine G.op1 (op_appendC Tryd.underlying24 ti9 rfl rfl (app_map hl1 encS) (app_b1 hl1 encS) (app_b2 hl1 encS) (Ev.t 6 (.cp 1 (List.map encS ([line_0])))) (Ev.t 7 (.g (.d (.sl 1 (List.map encS words_1))))) rfl) rfl ⟨rfl, rfl, trivial⟩ trivial ?_
  obtain ⟨r2, hr2, hF⟩ := bindS hF
  refine G.op1 (op_callQ (sv := .one (bS r2)) cf62 (ct_strings_Join l1 (ByteArray.mk #[32]) r2 hr2) rfl rfl (EvQL.cons (EvQ.g (Ev.t 8 (.g (.d (.sl 1 (List.map encS l1)))))) (EvQL.cons (EvQ.g (Ev.c _ rfl)) EvQL.nil)) rfl) rfl ⟨rfl, trivial⟩ trivial ?_
  refine G.op1 (op_assign (Ev.t 9 (bS r2)) rfl) rfl ⟨rfl, trivial⟩ trivial ?_
  refine G.endOps ?_
  cases hF
  exact G.ret1 Tryd.results37 (RVar.tmp 4 _) ⟨rfl, trivial⟩ trivial


set_option maxRecDepth 20000 in
set_option maxHeartbeats 2000000 in
theorem ct_words_rowLine (s_0 : ByteArray) (c_1 : Api_Row) (r : ByteArray) (hF : words_rowLine s_0 c_1 = some r) : Ct Tryd.prog 39 [.g (.d (.v (.string s_0))), .g (.agg (encApi_Row c_1))] (.one (.d (.v (.string r)))) := by
  unfold words_rowLine at hF
  refine Ct.intro Tryd.func39 rfl Tryd.ntmps39 rfl rfl fun M w => ?_
  refine G.seq ?_
  refine G.region ?_
  refine G.op2 (op_boxA (k := 1003) (Ev.t 1 (.g (.agg [.sl 2 (List.map encApi_Range c_1.Ranges), .sl 1 (List.map encI_i64 c_1.Owners), .sl 1 (List.map encI_i64 c_1.Parents)]))) rfl) rfl ⟨rfl, trivial⟩ ⟨rfl, trivial⟩ ?_
  refine G.op1 (op_assign (Ev.c _ rfl) rfl) rfl trivial trivial ?_
  refine G.endOps ?_
  refine G.seq ?_
  refine G.seq ?_
  refine G.region ?_
  refine G.op1 (op_fieldP (off' := 1) Tryd.underlying28 rfl ti26 (by decide) rfl (Ev.t 3 (.ptr 1003 0)) rfl) rfl ⟨rfl, trivial⟩ trivial ?_
  refine G.op1 (op_load1P (c := .g (.d (.sl 1 (List.map encI_i64 c_1.Owners)))) Tryd.underlying26 rfl rfl (Ev.t 9 (.ptr 1003 1)) rfl) rfl ⟨rfl, trivial⟩ ⟨rfl, trivial⟩ ?_
  refine G.op1 (OpL.cast (op_lenD Tryd.underlying26 (Ev.t 10 (.g (.d (.sl 1 (List.map encI_i64 c_1.Owners))))) rfl) (by rw [List.length_map])) rfl ⟨rfl, trivial⟩ trivial ?_
  refine G.op1 (op_move (Ev.c _ rfl) rfl) rfl trivial trivial ?_
  refine G.endOps ?_
  refine G.joinC (T := ByteArray) (fun y1 => ⟨[(0, .one (bS y1)), (3, .one (.ptr 1003 0))], [(1003, some (.blk 28 [.g (.d (.sl 2 (List.map encApi_Range c_1.Ranges))), .g (.d (.sl 1 (List.map encI_i64 c_1.Owners))), .g (.d (.sl 1 (List.map encI_i64 c_1.Parents)))]))]⟩) (fun y1 => words_rowLine_k1 c_1 y1 = some r) (fun y1 hF => ?_) (fun J15 => ?_)
  · unfold words_rowLine_k1 at hF
    refine G.seq ?_
    refine G.region ?_
    refine G.op1 (op_move (Ev.t 0 (bS y1)) rfl) rfl ⟨rfl, trivial⟩ trivial ?_
    refine G.op1 (op_buildSlice (es := List.map encS [(ByteArray.mk #[47])]) Tryd.underlying24 ti9 rfl rfl (EvP.cons (Ev.c _ rfl) EvP.nil) rfl rfl (by simp [encS]) rfl) rfl trivial trivial ?_
    obtain ⟨r2, hr2, hF⟩ := bindS hF
    refine G.op1 (op_callQ (sv := .one (bS r2)) cf37 (ct_words_put y1 ([(ByteArray.mk #[47])]) r2 hr2) rfl rfl (EvQL.cons (EvQ.g (Ev.t 39 (bS y1))) (EvQL.cons (EvQ.g (Ev.t 40 (.g (.d (.sl 1 (List.map encS ([(ByteArray.mk #[47])]))))))) EvQL.nil)) rfl) rfl ⟨rfl, rfl, trivial⟩ trivial ?_
    refine G.op1 (op_assign (Ev.t 41 (bS r2)) rfl) rfl ⟨rfl, trivial⟩ trivial ?_
    refine G.endOps ?_
    refine G.seq ?_
    refine G.seq ?_
    refine G.region ?_
    refine G.op1 (op_fieldP (off' := 2) Tryd.underlying28 rfl ti26 (by decide) rfl (Ev.t 3 (.ptr 1003 0)) rfl) rfl ⟨rfl, trivial⟩ trivial ?_
    refine G.op1 (op_load1P (c := .g (.d (.sl 1 (List.map encI_i64 c_1.Parents)))) Tryd.underlying26 rfl rfl (Ev.t 42 (.ptr 1003 2)) rfl) rfl ⟨rfl, trivial⟩ ⟨rfl, trivial⟩ ?_
    refine G.op1 (OpL.cast (op_lenD Tryd.underlying26 (Ev.t 43 (.g (.d (.sl 1 (List.map encI_i64 c_1.Parents))))) rfl) (by rw [List.length_map])) rfl ⟨rfl, trivial⟩ trivial ?_
    refine G.op1 (op_move (Ev.c _ rfl) rfl) rfl trivial trivial ?_
    refine G.endOps ?_
    refine G.joinC (T := ByteArray) (fun y3 => ⟨[(0, .one (bS y3))], []⟩) (fun y3 => words_rowLine_k2 y3 = some r) (fun y3 hF => ?_) (fun J4 => ?_)
    · unfold words_rowLine_k2 at hF
      refine G.seq ?_
      refine G.region ?_
      refine G.op1 (op_move (Ev.t 0 (bS y3)) rfl) rfl ⟨rfl, trivial⟩ trivial ?_
      refine G.op1 (op_assign (Ev.t 60 (bS y3)) rfl) rfl ⟨rfl, trivial⟩ trivial ?_
      refine G.endOps ?_
      cases hF
      exact G.ret1 Tryd.results39 (RVar.tmp 4 _) ⟨rfl, trivial⟩ trivial
    refine G.block ?_
    refine G.keep (sl' := [(0, .one (bS r2)), (43, .one (.g (.d (.sl 1 (List.map encI_i64 c_1.Parents))))), (44, .one (bI .i64 (c_1.Parents.length : Int))), (45, .one (bI .i64 0))]) (hp' := []) ⟨rfl, rfl, rfl, rfl, trivial⟩ trivial rfl ?_
    refine G.loopF (fun (v5 : ByteArray × Int) => ⟨[(0, .one (bS v5.1)), (43, .one (.g (.d (.sl 1 (List.map encI_i64 c_1.Parents))))), (44, .one (bI .i64 (c_1.Parents.length : Int))), (45, .one (bI .i64 v5.2))], []⟩) hF rfl (fun K8 again7 v5 J6 hF => ?_)
    unfold words_rowLine_l3 at hF
    refine G.seq ?_
    refine G.region ?_
    refine G.op1 (op_lss (Ev.t 45 (bI .i64 v5.2)) (Ev.t 44 (bI .i64 (c_1.Parents.length : Int))) rfl) rfl ⟨rfl, rfl, trivial⟩ trivial ?_
    refine G.endOps ?_
    refine G.seq ?_
    refine ifS hF (fun hc9 hF => ?_) (fun hc9 hF => ?_)
    · refine G.cond rfl (fun _ => ?_) (fun hx => Bool.noConfusion (hc9.symm.trans hx))
      refine G.skip ?_
      refine G.seq ?_
      refine G.block ?_
      refine G.seq ?_
      refine G.region ?_
      obtain ⟨x10, hx10, hF⟩ := bindS hF
      refine G.op1 (op_index (cs := [.v (.int .i64 x10)]) Tryd.underlying26 ti3 (idx_ok hx10).1 (idx_get hx10 encI_i64) (Ev.t 43 (.g (.d (.sl 1 (List.map encI_i64 c_1.Parents))))) (Ev.t 45 (bI .i64 v5.2)) rfl) rfl ⟨rfl, rfl, trivial⟩ trivial ?_
      refine G.op1 (op_load1E (c := .v (.int .i64 x10)) Tryd.underlying3 rfl rfl (Ev.t 47 (.ep [.v (.int .i64 x10)])) rfl) rfl ⟨rfl, trivial⟩ trivial ?_
      refine G.op1 (op_assign (Ev.t 48 (bI .i64 x10)) rfl) rfl ⟨rfl, trivial⟩ trivial ?_
      refine G.endOps ?_
      refine G.seq ?_
      refine G.seq ?_
      refine G.region ?_
      refine G.op1 (op_move (Ev.t 8 (bI .i64 x10)) rfl) rfl ⟨rfl, trivial⟩ trivial ?_
      refine G.op1 (op_lss (Ev.t 49 (bI .i64 x10)) (Ev.c _ rfl) rfl) rfl ⟨rfl, trivial⟩ trivial ?_
      refine G.endOps ?_
      refine ifS hF (fun hc11 hF => ?_) (fun hc11 hF => ?_)
      · refine G.cond rfl (fun _ => ?_) (fun hx => Bool.noConfusion (hc11.symm.trans hx))
        refine G.seq ?_
        refine G.region ?_
        refine G.op1 (op_move (Ev.t 0 (bS v5.1)) rfl) rfl ⟨rfl, trivial⟩ trivial ?_
        refine G.op1 (op_buildSlice (es := List.map encS [(ByteArray.mk #[45])]) Tryd.underlying24 ti9 rfl rfl (EvP.cons (Ev.c _ rfl) EvP.nil) rfl rfl (by simp [encS]) rfl) rfl trivial trivial ?_
        obtain ⟨r12, hr12, hF⟩ := bindS hF
        refine G.op1 (op_callQ (sv := .one (bS r12)) cf37 (ct_words_put v5.1 ([(ByteArray.mk #[45])]) r12 hr12) rfl rfl (EvQL.cons (EvQ.g (Ev.t 51 (bS v5.1))) (EvQL.cons (EvQ.g (Ev.t 52 (.g (.d (.sl 1 (List.map encS ([(ByteArray.mk #[45])]))))))) EvQL.nil)) rfl) rfl ⟨rfl, rfl, trivial⟩ trivial ?_
        refine G.op1 (op_assign (Ev.t 53 (bS r12)) rfl) rfl ⟨rfl, trivial⟩ trivial ?_
        refine G.endOps ?_
        refine G.exit ?_
        refine GX.c ?_
        refine GX.bYes ?_
        refine G.region ?_
        refine G.op1 (op_add (Ev.t 45 (bI .i64 v5.2)) (Ev.c _ rfl) rfl) rfl ⟨rfl, trivial⟩ trivial ?_
        refine G.op1 (op_move (Ev.t 59 (bI .i64 (IntKind.wrap .i64 (v5.2 + 1)))) rfl) rfl ⟨rfl, trivial⟩ trivial ?_
        refine G.endOps ?_
        exact G.arr (J6 (r12, IntKind.wrap .i64 (v5.2 + 1)) hF) ⟨rfl, rfl, rfl, rfl, trivial⟩ trivial rfl
      · refine G.cond rfl (fun hx => Bool.noConfusion (hc11.symm.trans hx)) (fun _ => ?_)
        refine G.skip ?_
        refine G.region ?_
        refine G.op1 (op_move (Ev.t 0 (bS v5.1)) rfl) rfl ⟨rfl, trivial⟩ trivial ?_
        refine G.op1 (op_move (Ev.t 8 (bI .i64 x10)) rfl) rfl ⟨rfl, trivial⟩ trivial ?_
        obtain ⟨r13, hr13, hF⟩ := bindS hF
        refine G.op1 (op_callQ (sv := .one (bS r13)) cf38 (ct_words_small x10 r13 hr13) rfl rfl (EvQL.cons (EvQ.g (Ev.t 55 (bI .i64 x10))) EvQL.nil) rfl) rfl ⟨rfl, trivial⟩ trivial ?_
        refine G.op1 (op_buildSlice (es := List.map encS [r13]) Tryd.underlying24 ti9 rfl rfl (EvP.cons (Ev.t 56 (bS r13)) EvP.nil) rfl rfl (by simp [encS]) rfl) rfl ⟨rfl, trivial⟩ trivial ?_
        obtain ⟨r14, hr14, hF⟩ := bindS hF
        refine G.op1 (op_callQ (sv := .one (bS r14)) cf37 (ct_words_put v5.1 ([r13]) r14 hr14) rfl rfl (EvQL.cons (EvQ.g (Ev.t 54 (bS v5.1))) (EvQL.cons (EvQ.g (Ev.t 57 (.g (.d (.sl 1 (List.map encS ([r13]))))))) EvQL.nil)) rfl) rfl ⟨rfl, rfl, trivial⟩ trivial ?_
        refine G.op1 (op_assign (Ev.t 58 (bS r14)) rfl) rfl ⟨rfl, trivial⟩ trivial ?_
        refine G.endOps ?_
        refine G.endBlock ?_
        refine G.region ?_
        refine G.op1 (op_add (Ev.t 45 (bI .i64 v5.2)) (Ev.c _ rfl) rfl) rfl ⟨rfl, trivial⟩ trivial ?_
        refine G.op1 (op_move (Ev.t 59 (bI .i64 (IntKind.wrap .i64 (v5.2 + 1)))) rfl) rfl ⟨rfl, trivial⟩ trivial ?_
        refine G.endOps ?_
        exact G.arr (J6 (r14, IntKind.wrap .i64 (v5.2 + 1)) hF) ⟨rfl, rfl, rfl, rfl, trivial⟩ trivial rfl
    · refine G.cond rfl (fun hx => Bool.noConfusion (hc9.symm.trans hx)) (fun _ => ?_)
      refine G.exit ?_
      refine GX.c ?_
      refine GX.q ?_
      refine GX.bYes ?_
      exact G.arr (J4 v5.1 hF) ⟨rfl, trivial⟩ trivial rfl
  refine G.block ?_
  refine G.keep (sl' := [(0, .one (bS s_0)), (3, .one (.ptr 1003 0)), (10, .one (.g (.d (.sl 1 (List.map encI_i64 c_1.Owners))))), (11, .one (bI .i64 (c_1.Owners.length : Int))), (12, .one (bI .i64 0))]) (hp' := [(1003, some (.blk 28 [.g (.d (.sl 2 (List.map encApi_Range c_1.Ranges))), .g (.d (.sl 1 (List.map encI_i64 c_1.Owners))), .g (.d (.sl 1 (List.map encI_i64 c_1.Parents)))]))]) ⟨rfl, rfl, rfl, rfl, rfl, trivial⟩ ⟨rfl, trivial⟩ rfl ?_
  refine G.loopF (fun (v16 : ByteArray × Int) => ⟨[(0, .one (bS v16.1)), (3, .one (.ptr 1003 0)), (10, .one (.g (.d (.sl 1 (List.map encI_i64 c_1.Owners))))), (11, .one (bI .i64 (c_1.Owners.length : Int))), (12, .one (bI .i64 v16.2))], [(1003, some (.blk 28 [.g (.d (.sl 2 (List.map encApi_Range c_1.Ranges))), .g (.d (.sl 1 (List.map encI_i64 c_1.Owners))), .g (.d (.sl 1 (List.map encI_i64 c_1.Parents)))]))]⟩) hF rfl (fun K19 again18 v16 J17 hF => ?_)
  unfold words_rowLine_l4 at hF
  refine G.seq ?_
  refine G.region ?_
  refine G.op1 (op_lss (Ev.t 12 (bI .i64 v16.2)) (Ev.t 11 (bI .i64 (c_1.Owners.length : Int))) rfl) rfl ⟨rfl, rfl, trivial⟩ trivial ?_
  refine G.endOps ?_
  refine G.seq ?_
  refine ifS hF (fun hc20 hF => ?_) (fun hc20 hF => ?_)
  · refine G.cond rfl (fun _ => ?_) (fun hx => Bool.noConfusion (hc20.symm.trans hx))
    refine G.skip ?_
    refine G.seq ?_
    refine G.block ?_
    refine G.seq ?_
    refine G.region ?_
    refine G.op1 (op_move (Ev.t 12 (bI .i64 v16.2)) rfl) rfl ⟨rfl, trivial⟩ trivial ?_
    obtain ⟨x21, hx21, hF⟩ := bindS hF
    refine G.op1 (op_index (cs := [.v (.int .i64 x21)]) Tryd.underlying26 ti3 (idx_ok hx21).1 (idx_get hx21 encI_i64) (Ev.t 10 (.g (.d (.sl 1 (List.map encI_i64 c_1.Owners))))) (Ev.t 12 (bI .i64 v16.2)) rfl) rfl ⟨rfl, rfl, trivial⟩ trivial ?_
    refine G.op1 (op_load1E (c := .v (.int .i64 x21)) Tryd.underlying3 rfl rfl (Ev.t 15 (.ep [.v (.int .i64 x21)])) rfl) rfl ⟨rfl, trivial⟩ trivial ?_
    refine G.op1 (op_assign (Ev.t 14 (bI .i64 v16.2)) rfl) rfl ⟨rfl, trivial⟩ trivial ?_
    refine G.op1 (op_assign (Ev.t 16 (bI .i64 x21)) rfl) rfl ⟨rfl, trivial⟩ trivial ?_
    refine G.endOps ?_
    refine G.seq ?_
    refine G.region ?_
    refine G.op1 (op_move (Ev.t 0 (bS v16.1)) rfl) rfl ⟨rfl, trivial⟩ trivial ?_
    refine G.op1 (op_move (Ev.t 6 (bI .i64 x21)) rfl) rfl ⟨rfl, trivial⟩ trivial ?_
    obtain ⟨r22, hr22, hF⟩ := bindS hF
    refine G.op1 (op_callQ (sv := .one (bS r22)) cf38 (ct_words_small x21 r22 hr22) rfl rfl (EvQL.cons (EvQ.g (Ev.t 18 (bI .i64 x21))) EvQL.nil) rfl) rfl ⟨rfl, trivial⟩ trivial ?_
    refine G.op1 (op_buildSlice (es := List.map encS [r22]) Tryd.underlying24 ti9 rfl rfl (EvP.cons (Ev.t 19 (bS r22)) EvP.nil) rfl rfl (by simp [encS]) rfl) rfl ⟨rfl, trivial⟩ trivial ?_
    obtain ⟨r23, hr23, hF⟩ := bindS hF
    refine G.op1 (op_callQ (sv := .one (bS r23)) cf37 (ct_words_put v16.1 ([r22]) r23 hr23) rfl rfl (EvQL.cons (EvQ.g (Ev.t 17 (bS v16.1))) (EvQL.cons (EvQ.g (Ev.t 20 (.g (.d (.sl 1 (List.map encS ([r22]))))))) EvQL.nil)) rfl) rfl ⟨rfl, rfl, trivial⟩ trivial ?_
    refine G.op1 (op_assign (Ev.t 21 (bS r23)) rfl) rfl ⟨rfl, trivial⟩ trivial ?_
    refine G.endOps ?_
    refine G.seq ?_
    refine G.region ?_
    refine G.op1 (op_move (Ev.t 5 (bI .i64 v16.2)) rfl) rfl ⟨rfl, trivial⟩ trivial ?_
    refine G.op1 (op_add (Ev.t 22 (bI .i64 v16.2)) (Ev.c _ rfl) rfl) rfl ⟨rfl, trivial⟩ trivial ?_
    refine G.op1 (op_fieldP (off' := 0) Tryd.underlying28 rfl ti25 (by decide) rfl (Ev.t 3 (.ptr 1003 0)) rfl) rfl ⟨rfl, trivial⟩ trivial ?_
    refine G.op1 (op_load1P (c := .g (.d (.sl 2 (List.map encApi_Range c_1.Ranges)))) Tryd.underlying25 rfl rfl (Ev.t 24 (.ptr 1003 0)) rfl) rfl ⟨rfl, trivial⟩ ⟨rfl, trivial⟩ ?_
    refine G.op1 (OpL.cast (op_lenD Tryd.underlying25 (Ev.t 25 (.g (.d (.sl 2 (List.map encApi_Range c_1.Ranges))))) rfl) (by rw [List.length_map])) rfl ⟨rfl, trivial⟩ trivial ?_
    refine G.op1 (op_lss (Ev.t 23 (bI .i64 (IntKind.wrap .i64 (v16.2 + 1)))) (Ev.t 26 (bI .i64 (c_1.Ranges.length : Int))) rfl) rfl ⟨rfl, rfl, trivial⟩ trivial ?_
    refine G.endOps ?_
    refine ifS hF (fun hc24 hF => ?_) (fun hc24 hF => ?_)
    · refine G.cond rfl (fun _ => ?_) (fun hx => Bool.noConfusion (hc24.symm.trans hx))
      refine G.region ?_
      refine G.op1 (op_move (Ev.t 0 (bS r23)) rfl) rfl ⟨rfl, trivial⟩ trivial ?_
      refine G.op1 (op_fieldP (off' := 0) Tryd.underlying28 rfl ti25 (by decide) rfl (Ev.t 3 (.ptr 1003 0)) rfl) rfl ⟨rfl, trivial⟩ trivial ?_
      refine G.op1 (op_load1P (c := .g (.d (.sl 2 (List.map encApi_Range c_1.Ranges)))) Tryd.underlying25 rfl rfl (Ev.t 29 (.ptr 1003 0)) rfl) rfl ⟨rfl, trivial⟩ ⟨rfl, trivial⟩ ?_
      refine G.op1 (op_move (Ev.t 5 (bI .i64 v16.2)) rfl) rfl ⟨rfl, trivial⟩ trivial ?_
      obtain ⟨x25, hx25, hF⟩ := bindS hF
      refine G.op1 (op_index (cs := [.v (.string x25.From), .v (.string x25.To)]) Tryd.underlying25 ti48 (idx_ok hx25).1 (idx_get hx25 encApi_Range) (Ev.t 30 (.g (.d (.sl 2 (List.map encApi_Range c_1.Ranges))))) (Ev.t 31 (bI .i64 v16.2)) rfl) rfl ⟨rfl, rfl, trivial⟩ trivial ?_
      refine G.op1 (op_fieldE (cs' := [.v (.string x25.To)]) Tryd.underlying48 rfl ti9 (by decide) rfl (Ev.t 32 (.ep [.v (.string x25.From), .v (.string x25.To)])) rfl) rfl ⟨rfl, trivial⟩ trivial ?_
      refine G.op1 (op_load1E (c := .v (.string x25.To)) Tryd.underlying9 rfl rfl (Ev.t 33 (.ep [.v (.string x25.To)])) rfl) rfl ⟨rfl, trivial⟩ trivial ?_
      obtain ⟨r26, hr26, hF⟩ := bindS hF
      refine G.op1 (op_callQ (sv := .one (bS r26)) cf14 (ct_words_Quote x25.To r26 hr26) rfl rfl (EvQL.cons (EvQ.g (Ev.t 34 (bS x25.To))) EvQL.nil) rfl) rfl ⟨rfl, trivial⟩ trivial ?_
      refine G.op1 (op_buildSlice (es := List.map encS [r26]) Tryd.underlying24 ti9 rfl rfl (EvP.cons (Ev.t 35 (bS r26)) EvP.nil) rfl rfl (by simp [encS]) rfl) rfl ⟨rfl, trivial⟩ trivial ?_
      obtain ⟨r27, hr27, hF⟩ := bindS hF
      refine G.op1 (op_callQ (sv := .one (bS r27)) cf37 (ct_words_put r23 ([r26]) r27 hr27) rfl rfl (EvQL.cons (EvQ.g (Ev.t 28 (bS r23))) (EvQL.cons (EvQ.g (Ev.t 36 (.g (.d (.sl 1 (List.map encS ([r26]))))))) EvQL.nil)) rfl) rfl ⟨rfl, rfl, trivial⟩ trivial ?_
      refine G.op1 (op_assign (Ev.t 37 (bS r27)) rfl) rfl ⟨rfl, trivial⟩ trivial ?_
      refine G.endOps ?_
      refine G.endBlock ?_
      refine G.region ?_
      refine G.op1 (op_add (Ev.t 12 (bI .i64 v16.2)) (Ev.c _ rfl) rfl) rfl ⟨rfl, trivial⟩ trivial ?_
      refine G.op1 (op_move (Ev.t 38 (bI .i64 (IntKind.wrap .i64 (v16.2 + 1)))) rfl) rfl ⟨rfl, trivial⟩ trivial ?_
      refine G.endOps ?_
      exact G.arr (J17 (r27, IntKind.wrap .i64 (v16.2 + 1)) hF) ⟨rfl, rfl, rfl, rfl, rfl, trivial⟩ ⟨rfl, trivial⟩ rfl
    · refine G.cond rfl (fun hx => Bool.noConfusion (hc24.symm.trans hx)) (fun _ => ?_)
      refine G.skip ?_
      refine G.endBlock ?_
      refine G.region ?_
      refine G.op1 (op_add (Ev.t 12 (bI .i64 v16.2)) (Ev.c _ rfl) rfl) rfl ⟨rfl, trivial⟩ trivial ?_
      refine G.op1 (op_move (Ev.t 38 (bI .i64 (IntKind.wrap .i64 (v16.2 + 1)))) rfl) rfl ⟨rfl, trivial⟩ trivial ?_
      refine G.endOps ?_
      exact G.arr (J17 (r23, IntKind.wrap .i64 (v16.2 + 1)) hF) ⟨rfl, rfl, rfl, rfl, rfl, trivial⟩ ⟨rfl, trivial⟩ rfl
  · refine G.cond rfl (fun hx => Bool.noConfusion (hc20.symm.trans hx)) (fun _ => ?_)
    refine G.exit ?_
    refine GX.c ?_
    refine GX.q ?_
    refine GX.bYes ?_
    exact G.arr (J15 v16.1 hF) ⟨rfl, rfl, trivial⟩ ⟨rfl, trivial⟩ rfl


set_option maxRecDepth 20000 in
set_option maxHeartbeats 2000000 in
theorem ct_words_line (o_0 : Api_Op) (r : ByteArray) (hF : words_line o_0 = some r) : Ct Tryd.prog 17 [.g (.agg (encApi_Op o_0))] (.one (.d (.v (.string r)))) := by
  unfold words_line at hF
  refine Ct.intro Tryd.func17 rfl Tryd.ntmps17 rfl rfl fun M w => ?_
  refine G.seq ?_
  refine G.region ?_
  refine G.op2 (op_boxA (k := 1001) (Ev.t 0 (.g (.agg [.v (.int .i64 o_0.Kind), .v (.int .i64 o_0.Client), .v (.int .i64 o_0.Site), .v (.int .i64 o_0.To), .v (.int .i64 o_0.At), .v (.int .i64 o_0.How), .v (.string o_0.Key), .v (.string o_0.Value), .sl 1 (List.map encS o_0.Keys), .sl 2 (List.map encApi_Range o_0.Row.Ranges), .sl 1 (List.map encI_i64 o_0.Row.Owners), .sl 1 (List.map encI_i64 o_0.Row.Parents)]))) rfl) rfl ⟨rfl, trivial⟩ ⟨rfl, trivial⟩ ?_
  refine G.op1 (op_assign (Ev.c _ rfl) rfl) rfl trivial trivial ?_
  refine G.endOps ?_
  refine G.seq ?_
  refine G.region ?_
  refine G.op1 (op_fieldP (off' := 0) Tryd.underlying30 rfl ti3 (by decide) rfl (Ev.t 1 (.ptr 1001 0)) rfl) rfl ⟨rfl, trivial⟩ trivial ?_
  refine G.op1 (op_load1P (c := bI .i64 o_0.Kind) Tryd.underlying3 rfl rfl (Ev.t 6 (.ptr 1001 0)) rfl) rfl ⟨rfl, trivial⟩ ⟨rfl, trivial⟩ ?_
  obtain ⟨r1, hr1, hF⟩ := bindS hF
  refine G.op1 (op_callQ (sv := .one (bS r1)) cf36 (ct_words_name o_0.Kind r1 hr1) rfl rfl (EvQL.cons (EvQ.g (Ev.t 7 (bI .i64 o_0.Kind))) EvQL.nil) rfl) rfl ⟨rfl, trivial⟩ trivial ?_
  refine G.op1 (op_assign (Ev.t 8 (bS r1)) rfl) rfl ⟨rfl, trivial⟩ trivial ?_
  refine G.endOps ?_
  refine G.seq ?_
  refine G.seq ?_
  refine G.region ?_
  refine G.op1 (op_fieldP (off' := 0) Tryd.underlying30 rfl ti3 (by decide) rfl (Ev.t 1 (.ptr 1001 0)) rfl) rfl ⟨rfl, trivial⟩ trivial ?_
  refine G.op1 (op_load1P (c := bI .i64 o_0.Kind) Tryd.underlying3 rfl rfl (Ev.t 9 (.ptr 1001 0)) rfl) rfl ⟨rfl, trivial⟩ ⟨rfl, trivial⟩ ?_
  refine G.endOps ?_
  refine G.joinC (T := ByteArray) (fun y2 => ⟨[(3, .one (bS y2))], []⟩) (fun y2 => words_line_k1 y2 = some r) (fun y2 hF => ?_) (fun J4 => ?_)
  · unfold words_line_k1 at hF
    refine G.seq ?_
    refine G.region ?_
    refine G.op1 (op_move (Ev.t 3 (bS y2)) rfl) rfl ⟨rfl, trivial⟩ trivial ?_
    obtain ⟨s3, hs3, hF⟩ := bindS hF
    refine G.op1 (OpL.cast (op_cat (scat_ok hs3).1 (Ev.t 120 (bS y2)) (Ev.c _ rfl) rfl) (by rw [(scat_ok hs3).2])) rfl ⟨rfl, trivial⟩ trivial ?_
    refine G.op1 (op_assign (Ev.t 121 (bS s3)) rfl) rfl ⟨rfl, trivial⟩ trivial ?_
    refine G.endOps ?_
    cases hF
    exact G.ret1 Tryd.results17 (RVar.tmp 2 _) ⟨rfl, trivial⟩ trivial
  refine G.block ?_
  refine G.seq ?_
  refine G.region ?_
  refine G.op1 (op_eqI (Ev.t 10 (bI .i64 o_0.Kind)) (Ev.c _ rfl) rfl) rfl ⟨rfl, trivial⟩ trivial ?_
  refine G.op1 (op_assign (Ev.t 12 (bB (decide (o_0.Kind = 1)))) rfl) rfl ⟨rfl, trivial⟩ trivial ?_
  refine G.endOps ?_
  refine ifS hF (fun hc5 hF => ?_) (fun hc5 hF => ?_)
  · refine G.cond rfl (fun _ => ?_) (fun hx => Bool.noConfusion (hc5.symm.trans hx))
    obtain ⟨r6, hr6, hF⟩ := bindS hF
    obtain ⟨r7, hr7, hF⟩ := bindS hF
    obtain ⟨r8, hr8, hF⟩ := bindS hF
    obtain ⟨r9, hr9, hF⟩ := bindS hF
    refine G.drawnI (deps := [[], [], [1], [1, 2], [], [4], [1, 2, 3, 4, 5], [], [7], [1, 2, 3, 4, 5, 6, 7, 8], [1, 2, 3, 4, 5, 6, 7, 8, 9], [0, 1, 2, 3, 4, 5, 6, 7, 8, 9, 10], [0, 1, 2, 3, 4, 5, 6, 7, 8, 9, 10, 11]]) (sl' := [(3, .one (bS r9))]) (hp' := []) (.c (oP rfl rfl (op_move (Ev.t 3 (bS r1)) rfl)) (.c (oP rfl rfl (op_fieldP (off' := 1) Tryd.underlying30 rfl ti3 (by decide) rfl (Ev.t 1 (.ptr 1001 0)) rfl)) (.c (oP rfl rfl (op_load1P (c := bI .i64 o_0.Client) Tryd.underlying3 rfl rfl (Ev.t 14 (.ptr 1001 1)) rfl)) (.c (oP rfl rfl (op_callQ (sv := .one (bS r6)) cf38 (ct_words_small o_0.Client r6 hr6) rfl rfl (EvQL.cons (EvQ.g (Ev.t 15 (bI .i64 o_0.Client))) EvQL.nil) rfl)) (.c (oP rfl rfl (op_fieldP (off' := 6) Tryd.underlying30 rfl ti9 (by decide) rfl (Ev.t 1 (.ptr 1001 0)) rfl)) (.c (oP rfl rfl (op_load1P (c := bS o_0.Key) Tryd.underlying9 rfl rfl (Ev.t 17 (.ptr 1001 6)) rfl)) (.c (oP rfl rfl (op_callQ (sv := .one (bS r7)) cf14 (ct_words_Quote o_0.Key r7 hr7) rfl rfl (EvQL.cons (EvQ.g (Ev.t 18 (bS o_0.Key))) EvQL.nil) rfl)) (.c (oP rfl rfl (op_fieldP (off' := 7) Tryd.underlying30 rfl ti9 (by decide) rfl (Ev.t 1 (.ptr 1001 0)) rfl)) (.c (oP rfl rfl (op_load1P (c := bS o_0.Value) Tryd.underlying9 rfl rfl (Ev.t 20 (.ptr 1001 7)) rfl)) (.c (oP rfl rfl (op_callQ (sv := .one (bS r8)) cf14 (ct_words_Quote o_0.Value r8 hr8) rfl rfl (EvQL.cons (EvQ.g (Ev.t 21 (bS o_0.Value))) EvQL.nil) rfl)) (.c (oP rfl rfl (op_buildSlice (es := List.map encS [r6, r7, r8]) Tryd.underlying24 ti9 rfl rfl (EvP.cons (Ev.t 16 (bS r6)) (EvP.cons (Ev.t 19 (bS r7)) (EvP.cons (Ev.t 22 (bS r8)) EvP.nil))) rfl rfl (by simp [encS]) rfl)) (.c (oP rfl rfl (op_callQ (sv := .one (bS r9)) cf37 (ct_words_put r1 ([r6, r7, r8]) r9 hr9) rfl rfl (EvQL.cons (EvQ.g (Ev.t 13 (bS r1))) (EvQL.cons (EvQ.g (Ev.t 23 (.g (.d (.sl 1 (List.map encS ([r6, r7, r8]))))))) EvQL.nil)) rfl)) (.c (oP rfl rfl (op_assign (Ev.t 24 (bS r9)) rfl)) .nil))))))))))))) follows rfl rfl rfl ⟨⟨⟨rfl, rfl⟩, trivial⟩, trivial, ⟨rfl, trivial⟩, trivial, ⟨rfl, trivial⟩, ⟨⟨rfl, rfl⟩, trivial⟩, ⟨rfl, trivial⟩, trivial, ⟨rfl, trivial⟩, trivial, ⟨rfl, trivial⟩, ⟨⟨rfl, rfl⟩, trivial⟩, ⟨rfl, trivial⟩, trivial, ⟨rfl, trivial⟩, trivial, ⟨rfl, trivial⟩, ⟨⟨rfl, rfl⟩, trivial⟩, ⟨rfl, trivial⟩, trivial, ⟨rfl, rfl, rfl, trivial⟩, trivial, ⟨rfl, rfl, trivial⟩, trivial, ⟨rfl, trivial⟩, trivial, trivial⟩ ⟨rfl, trivial⟩ trivial rfl ?_
    refine G.endBlock ?_
    exact G.arr (J4 r9 hF) ⟨rfl, trivial⟩ trivial rfl
  · refine G.cond rfl (fun hx => Bool.noConfusion (hc5.symm.trans hx)) (fun _ => ?_)
    refine G.seq ?_
    refine G.seq ?_
    refine G.region ?_
    refine G.op1 (op_eqI (Ev.t 10 (bI .i64 o_0.Kind)) (Ev.c _ rfl) rfl) rfl ⟨rfl, trivial⟩ trivial ?_
    refine G.op1 (op_assign (Ev.t 26 (bB (decide (o_0.Kind = 2)))) rfl) rfl ⟨rfl, trivial⟩ trivial ?_
    refine G.endOps ?_
    refine G.joinC (T := Bool) (fun y10 => ⟨[(1, .one (.ptr 1001 0)), (3, .one (bS r1)), (10, .one (bI .i64 o_0.Kind)), (25, .one (bB y10))], [(1001, some (.blk 30 [bI .i64 o_0.Kind, bI .i64 o_0.Client, bI .i64 o_0.Site, bI .i64 o_0.To, bI .i64 o_0.At, bI .i64 o_0.How, bS o_0.Key, bS o_0.Value, .g (.d (.sl 1 (List.map encS o_0.Keys))), .g (.d (.sl 2 (List.map encApi_Range o_0.Row.Ranges))), .g (.d (.sl 1 (List.map encI_i64 o_0.Row.Owners))), .g (.d (.sl 1 (List.map encI_i64 o_0.Row.Parents)))]))]⟩) (fun y10 => words_line_k2 o_0 r1 y10 = some r) (fun y10 hF => ?_) (fun J53 => ?_)
    · unfold words_line_k2 at hF
      refine ifS hF (fun hc11 hF => ?_) (fun hc11 hF => ?_)
      · refine G.cond rfl (fun _ => ?_) (fun hx => Bool.noConfusion (hc11.symm.trans hx))
        obtain ⟨r12, hr12, hF⟩ := bindS hF
        obtain ⟨r13, hr13, hF⟩ := bindS hF
        obtain ⟨r14, hr14, hF⟩ := bindS hF
        refine G.drawnI (deps := [[], [], [1], [1, 2], [], [4], [1, 2, 3, 4, 5], [1, 2, 3, 4, 5, 6], [0, 1, 2, 3, 4, 5, 6, 7], [0, 1, 2, 3, 4, 5, 6, 7, 8]]) (sl' := [(3, .one (bS r14))]) (hp' := []) (.c (oP rfl rfl (op_move (Ev.t 3 (bS r1)) rfl)) (.c (oP rfl rfl (op_fieldP (off' := 1) Tryd.underlying30 rfl ti3 (by decide) rfl (Ev.t 1 (.ptr 1001 0)) rfl)) (.c (oP rfl rfl (op_load1P (c := bI .i64 o_0.Client) Tryd.underlying3 rfl rfl (Ev.t 29 (.ptr 1001 1)) rfl)) (.c (oP rfl rfl (op_callQ (sv := .one (bS r12)) cf38 (ct_words_small o_0.Client r12 hr12) rfl rfl (EvQL.cons (EvQ.g (Ev.t 30 (bI .i64 o_0.Client))) EvQL.nil) rfl)) (.c (oP rfl rfl (op_fieldP (off' := 6) Tryd.underlying30 rfl ti9 (by decide) rfl (Ev.t 1 (.ptr 1001 0)) rfl)) (.c (oP rfl rfl (op_load1P (c := bS o_0.Key) Tryd.underlying9 rfl rfl (Ev.t 32 (.ptr 1001 6)) rfl)) (.c (oP rfl rfl (op_callQ (sv := .one (bS r13)) cf14 (ct_words_Quote o_0.Key r13 hr13) rfl rfl (EvQL.cons (EvQ.g (Ev.t 33 (bS o_0.Key))) EvQL.nil) rfl)) (.c (oP rfl rfl (op_buildSlice (es := List.map encS [r12, r13]) Tryd.underlying24 ti9 rfl rfl (EvP.cons (Ev.t 31 (bS r12)) (EvP.cons (Ev.t 34 (bS r13)) EvP.nil)) rfl rfl (by simp [encS]) rfl)) (.c (oP rfl rfl (op_callQ (sv := .one (bS r14)) cf37 (ct_words_put r1 ([r12, r13]) r14 hr14) rfl rfl (EvQL.cons (EvQ.g (Ev.t 28 (bS r1))) (EvQL.cons (EvQ.g (Ev.t 35 (.g (.d (.sl 1 (List.map encS ([r12, r13]))))))) EvQL.nil)) rfl)) (.c (oP rfl rfl (op_assign (Ev.t 36 (bS r14)) rfl)) .nil)))))))))) follows rfl rfl rfl ⟨⟨⟨rfl, rfl⟩, trivial⟩, trivial, ⟨rfl, trivial⟩, trivial, ⟨rfl, trivial⟩, ⟨⟨rfl, rfl⟩, trivial⟩, ⟨rfl, trivial⟩, trivial, ⟨rfl, trivial⟩, trivial, ⟨rfl, trivial⟩, ⟨⟨rfl, rfl⟩, trivial⟩, ⟨rfl, trivial⟩, trivial, ⟨rfl, rfl, trivial⟩, trivial, ⟨rfl, rfl, trivial⟩, trivial, ⟨rfl, trivial⟩, trivial, trivial⟩ ⟨rfl, trivial⟩ trivial rfl ?_
        refine G.endBlock ?_
        exact G.arr (J4 r14 hF) ⟨rfl, trivial⟩ trivial rfl
      · refine G.cond rfl (fun hx => Bool.noConfusion (hc11.symm.trans hx)) (fun _ => ?_)
        refine G.seq ?_
        refine G.seq ?_
        refine G.region ?_
        refine G.op1 (op_eqI (Ev.t 10 (bI .i64 o_0.Kind)) (Ev.c _ rfl) rfl) rfl ⟨rfl, trivial⟩ trivial ?_
        refine G.op1 (op_assign (Ev.t 38 (bB (decide (o_0.Kind = 4)))) rfl) rfl ⟨rfl, trivial⟩ trivial ?_
        refine G.endOps ?_
        refine G.joinC (T := Bool) (fun y15 => ⟨[(1, .one (.ptr 1001 0)), (3, .one (bS r1)), (10, .one (bI .i64 o_0.Kind)), (37, .one (bB y15))], [(1001, some (.blk 30 [bI .i64 o_0.Kind, bI .i64 o_0.Client, bI .i64 o_0.Site, bI .i64 o_0.To, bI .i64 o_0.At, bI .i64 o_0.How, bS o_0.Key, bS o_0.Value, .g (.d (.sl 1 (List.map encS o_0.Keys))), .g (.d (.sl 2 (List.map encApi_Range o_0.Row.Ranges))), .g (.d (.sl 1 (List.map encI_i64 o_0.Row.Owners))), .g (.d (.sl 1 (List.map encI_i64 o_0.Row.Parents)))]))]⟩) (fun y15 => words_line_k3 o_0 r1 y15 = some r) (fun y15 hF => ?_) (fun J51 => ?_)
        · unfold words_line_k3 at hF
          refine ifS hF (fun hc16 hF => ?_) (fun hc16 hF => ?_)
          · refine G.cond rfl (fun _ => ?_) (fun hx => Bool.noConfusion (hc16.symm.trans hx))
            refine G.region ?_
            refine G.op1 (op_move (Ev.t 3 (bS r1)) rfl) rfl ⟨rfl, trivial⟩ trivial ?_
            refine G.op1 (op_fieldP (off' := 1) Tryd.underlying30 rfl ti3 (by decide) rfl (Ev.t 1 (.ptr 1001 0)) rfl) rfl ⟨rfl, trivial⟩ trivial ?_
            refine G.op1 (op_load1P (c := bI .i64 o_0.Client) Tryd.underlying3 rfl rfl (Ev.t 41 (.ptr 1001 1)) rfl) rfl ⟨rfl, trivial⟩ ⟨rfl, trivial⟩ ?_
            obtain ⟨r17, hr17, hF⟩ := bindS hF
            refine G.op1 (op_callQ (sv := .one (bS r17)) cf38 (ct_words_small o_0.Client r17 hr17) rfl rfl (EvQL.cons (EvQ.g (Ev.t 42 (bI .i64 o_0.Client))) EvQL.nil) rfl) rfl ⟨rfl, trivial⟩ trivial ?_
            refine G.op1 (op_buildSlice (es := List.map encS [r17]) Tryd.underlying24 ti9 rfl rfl (EvP.cons (Ev.t 43 (bS r17)) EvP.nil) rfl rfl (by simp [encS]) rfl) rfl ⟨rfl, trivial⟩ trivial ?_
            obtain ⟨r18, hr18, hF⟩ := bindS hF
            refine G.op1 (op_callQ (sv := .one (bS r18)) cf37 (ct_words_put r1 ([r17]) r18 hr18) rfl rfl (EvQL.cons (EvQ.g (Ev.t 40 (bS r1))) (EvQL.cons (EvQ.g (Ev.t 44 (.g (.d (.sl 1 (List.map encS ([r17]))))))) EvQL.nil)) rfl) rfl ⟨rfl, rfl, trivial⟩ trivial ?_
            refine G.op1 (op_assign (Ev.t 45 (bS r18)) rfl) rfl ⟨rfl, trivial⟩ trivial ?_
            refine G.endOps ?_
            refine G.endBlock ?_
            exact G.arr (J4 r18 hF) ⟨rfl, trivial⟩ trivial rfl
          · refine G.cond rfl (fun hx => Bool.noConfusion (hc16.symm.trans hx)) (fun _ => ?_)
            refine G.seq ?_
            refine G.region ?_
            refine G.op1 (op_eqI (Ev.t 10 (bI .i64 o_0.Kind)) (Ev.c _ rfl) rfl) rfl ⟨rfl, trivial⟩ trivial ?_
            refine G.op1 (op_assign (Ev.t 47 (bB (decide (o_0.Kind = 5)))) rfl) rfl ⟨rfl, trivial⟩ trivial ?_
            refine G.endOps ?_
            refine ifS hF (fun hc19 hF => ?_) (fun hc19 hF => ?_)
            · refine G.cond rfl (fun _ => ?_) (fun hx => Bool.noConfusion (hc19.symm.trans hx))
              obtain ⟨r20, hr20, hF⟩ := bindS hF
              obtain ⟨r21, hr21, hF⟩ := bindS hF
              obtain ⟨r22, hr22, hF⟩ := bindS hF
              refine G.drawnI (deps := [[], [], [1], [1, 2], [], [4], [1, 2, 3, 4, 5], [1, 2, 3, 4, 5, 6], [0, 1, 2, 3, 4, 5, 6, 7], [0, 1, 2, 3, 4, 5, 6, 7, 8]]) (sl' := [(3, .one (bS r22))]) (hp' := []) (.c (oP rfl rfl (op_move (Ev.t 3 (bS r1)) rfl)) (.c (oP rfl rfl (op_fieldP (off' := 1) Tryd.underlying30 rfl ti3 (by decide) rfl (Ev.t 1 (.ptr 1001 0)) rfl)) (.c (oP rfl rfl (op_load1P (c := bI .i64 o_0.Client) Tryd.underlying3 rfl rfl (Ev.t 49 (.ptr 1001 1)) rfl)) (.c (oP rfl rfl (op_callQ (sv := .one (bS r20)) cf38 (ct_words_small o_0.Client r20 hr20) rfl rfl (EvQL.cons (EvQ.g (Ev.t 50 (bI .i64 o_0.Client))) EvQL.nil) rfl)) (.c (oP rfl rfl (op_fieldP (off' := 2) Tryd.underlying30 rfl ti3 (by decide) rfl (Ev.t 1 (.ptr 1001 0)) rfl)) (.c (oP rfl rfl (op_load1P (c := bI .i64 o_0.Site) Tryd.underlying3 rfl rfl (Ev.t 52 (.ptr 1001 2)) rfl)) (.c (oP rfl rfl (op_callQ (sv := .one (bS r21)) cf38 (ct_words_small o_0.Site r21 hr21) rfl rfl (EvQL.cons (EvQ.g (Ev.t 53 (bI .i64 o_0.Site))) EvQL.nil) rfl)) (.c (oP rfl rfl (op_buildSlice (es := List.map encS [r20, r21]) Tryd.underlying24 ti9 rfl rfl (EvP.cons (Ev.t 51 (bS r20)) (EvP.cons (Ev.t 54 (bS r21)) EvP.nil)) rfl rfl (by simp [encS]) rfl)) (.c (oP rfl rfl (op_callQ (sv := .one (bS r22)) cf37 (ct_words_put r1 ([r20, r21]) r22 hr22) rfl rfl (EvQL.cons (EvQ.g (Ev.t 48 (bS r1))) (EvQL.cons (EvQ.g (Ev.t 55 (.g (.d (.sl 1 (List.map encS ([r20, r21]))))))) EvQL.nil)) rfl)) (.c (oP rfl rfl (op_assign (Ev.t 56 (bS r22)) rfl)) .nil)))))))))) follows rfl rfl rfl ⟨⟨⟨rfl, rfl⟩, trivial⟩, trivial, ⟨rfl, trivial⟩, trivial, ⟨rfl, trivial⟩, ⟨⟨rfl, rfl⟩, trivial⟩, ⟨rfl, trivial⟩, trivial, ⟨rfl, trivial⟩, trivial, ⟨rfl, trivial⟩, ⟨⟨rfl, rfl⟩, trivial⟩, ⟨rfl, trivial⟩, trivial, ⟨rfl, rfl, trivial⟩, trivial, ⟨rfl, rfl, trivial⟩, trivial, ⟨rfl, trivial⟩, trivial, trivial⟩ ⟨rfl, trivial⟩ trivial rfl ?_
              refine G.endBlock ?_
              exact G.arr (J4 r22 hF) ⟨rfl, trivial⟩ trivial rfl
            · refine G.cond rfl (fun hx => Bool.noConfusion (hc19.symm.trans hx)) (fun _ => ?_)
              refine G.seq ?_
              refine G.region ?_
              refine G.op1 (op_eqI (Ev.t 10 (bI .i64 o_0.Kind)) (Ev.c _ rfl) rfl) rfl ⟨rfl, trivial⟩ trivial ?_
              refine G.op1 (op_assign (Ev.t 58 (bB (decide (o_0.Kind = 6)))) rfl) rfl ⟨rfl, trivial⟩ trivial ?_
              refine G.endOps ?_
              refine ifS hF (fun hc23 hF => ?_) (fun hc23 hF => ?_)
              · refine G.cond rfl (fun _ => ?_) (fun hx => Bool.noConfusion (hc23.symm.trans hx))
                refine G.seq ?_
                refine G.region ?_
                refine G.op1 (op_move (Ev.t 3 (bS r1)) rfl) rfl ⟨rfl, trivial⟩ trivial ?_
                refine G.op1 (op_fieldP (off' := 1) Tryd.underlying30 rfl ti3 (by decide) rfl (Ev.t 1 (.ptr 1001 0)) rfl) rfl ⟨rfl, trivial⟩ trivial ?_
                refine G.op1 (op_load1P (c := bI .i64 o_0.Client) Tryd.underlying3 rfl rfl (Ev.t 60 (.ptr 1001 1)) rfl) rfl ⟨rfl, trivial⟩ ⟨rfl, trivial⟩ ?_
                obtain ⟨r24, hr24, hF⟩ := bindS hF
                refine G.op1 (op_callQ (sv := .one (bS r24)) cf38 (ct_words_small o_0.Client r24 hr24) rfl rfl (EvQL.cons (EvQ.g (Ev.t 61 (bI .i64 o_0.Client))) EvQL.nil) rfl) rfl ⟨rfl, trivial⟩ trivial ?_
                refine G.op1 (op_buildSlice (es := List.map encS [r24]) Tryd.underlying24 ti9 rfl rfl (EvP.cons (Ev.t 62 (bS r24)) EvP.nil) rfl rfl (by simp [encS]) rfl) rfl ⟨rfl, trivial⟩ trivial ?_
                obtain ⟨r25, hr25, hF⟩ := bindS hF
                refine G.op1 (op_callQ (sv := .one (bS r25)) cf37 (ct_words_put r1 ([r24]) r25 hr25) rfl rfl (EvQL.cons (EvQ.g (Ev.t 59 (bS r1))) (EvQL.cons (EvQ.g (Ev.t 63 (.g (.d (.sl 1 (List.map encS ([r24]))))))) EvQL.nil)) rfl) rfl ⟨rfl, rfl, trivial⟩ trivial ?_
                refine G.op1 (op_assign (Ev.t 64 (bS r25)) rfl) rfl ⟨rfl, trivial⟩ trivial ?_
                refine G.endOps ?_
                refine G.seq ?_
                refine G.region ?_
                refine G.op1 (op_fieldP (off' := 8) Tryd.underlying30 rfl ti24 (by decide) rfl (Ev.t 1 (.ptr 1001 0)) rfl) rfl ⟨rfl, trivial⟩ trivial ?_
                refine G.op1 (op_load1P (c := .g (.d (.sl 1 (List.map encS o_0.Keys)))) Tryd.underlying24 rfl rfl (Ev.t 65 (.ptr 1001 8)) rfl) rfl ⟨rfl, trivial⟩ ⟨rfl, trivial⟩ ?_
                refine G.op1 (OpL.cast (op_lenD Tryd.underlying24 (Ev.t 66 (.g (.d (.sl 1 (List.map encS o_0.Keys))))) rfl) (by rw [List.length_map])) rfl ⟨rfl, trivial⟩ trivial ?_
                refine G.op1 (op_move (Ev.c _ rfl) rfl) rfl trivial trivial ?_
                refine G.endOps ?_
                refine G.joinC (T := ByteArray) (fun y26 => ⟨[(3, .one (bS y26))], []⟩) (fun y26 => words_line_k4 y26 = some r) (fun y26 hF => ?_) (fun J27 => ?_)
                · unfold words_line_k4 at hF
                  refine G.endBlock ?_
                  exact G.arr (J4 y26 hF) ⟨rfl, trivial⟩ trivial rfl
                refine G.block ?_
                refine G.keep (sl' := [(3, .one (bS r25)), (66, .one (.g (.d (.sl 1 (List.map encS o_0.Keys))))), (67, .one (bI .i64 (o_0.Keys.length : Int))), (68, .one (bI .i64 0))]) (hp' := []) ⟨rfl, rfl, rfl, rfl, trivial⟩ trivial rfl ?_
                refine G.loopF (fun (v28 : ByteArray × Int) => ⟨[(3, .one (bS v28.1)), (66, .one (.g (.d (.sl 1 (List.map encS o_0.Keys))))), (67, .one (bI .i64 (o_0.Keys.length : Int))), (68, .one (bI .i64 v28.2))], []⟩) hF rfl (fun K31 again30 v28 J29 hF => ?_)
                unfold words_line_l5 at hF
                refine G.seq ?_
                refine G.region ?_
                refine G.op1 (op_lss (Ev.t 68 (bI .i64 v28.2)) (Ev.t 67 (bI .i64 (o_0.Keys.length : Int))) rfl) rfl ⟨rfl, rfl, trivial⟩ trivial ?_
                refine G.endOps ?_
                refine G.seq ?_
                refine ifS hF (fun hc32 hF => ?_) (fun hc32 hF => ?_)
                · refine G.cond rfl (fun _ => ?_) (fun hx => Bool.noConfusion (hc32.symm.trans hx))
                  refine G.skip ?_
                  refine G.seq ?_
                  refine G.block ?_
                  refine G.seq ?_
                  refine G.region ?_
                  obtain ⟨x33, hx33, hF⟩ := bindS hF
                  refine G.op1 (op_index (cs := [.v (.string x33)]) Tryd.underlying24 ti9 (idx_ok hx33).1 (idx_get hx33 encS) (Ev.t 66 (.g (.d (.sl 1 (List.map encS o_0.Keys))))) (Ev.t 68 (bI .i64 v28.2)) rfl) rfl ⟨rfl, rfl, trivial⟩ trivial ?_
                  refine G.op1 (op_load1E (c := .v (.string x33)) Tryd.underlying9 rfl rfl (Ev.t 70 (.ep [.v (.string x33)])) rfl) rfl ⟨rfl, trivial⟩ trivial ?_
                  refine G.op1 (op_assign (Ev.t 71 (bS x33)) rfl) rfl ⟨rfl, trivial⟩ trivial ?_
                  refine G.endOps ?_
                  refine G.region ?_
                  refine G.op1 (op_move (Ev.t 3 (bS v28.1)) rfl) rfl ⟨rfl, trivial⟩ trivial ?_
                  refine G.op1 (op_move (Ev.t 5 (bS x33)) rfl) rfl ⟨rfl, trivial⟩ trivial ?_
                  obtain ⟨r34, hr34, hF⟩ := bindS hF
                  refine G.op1 (op_callQ (sv := .one (bS r34)) cf14 (ct_words_Quote x33 r34 hr34) rfl rfl (EvQL.cons (EvQ.g (Ev.t 73 (bS x33))) EvQL.nil) rfl) rfl ⟨rfl, trivial⟩ trivial ?_
                  refine G.op1 (op_buildSlice (es := List.map encS [r34]) Tryd.underlying24 ti9 rfl rfl (EvP.cons (Ev.t 74 (bS r34)) EvP.nil) rfl rfl (by simp [encS]) rfl) rfl ⟨rfl, trivial⟩ trivial ?_
                  obtain ⟨r35, hr35, hF⟩ := bindS hF
                  refine G.op1 (op_callQ (sv := .one (bS r35)) cf37 (ct_words_put v28.1 ([r34]) r35 hr35) rfl rfl (EvQL.cons (EvQ.g (Ev.t 72 (bS v28.1))) (EvQL.cons (EvQ.g (Ev.t 75 (.g (.d (.sl 1 (List.map encS ([r34]))))))) EvQL.nil)) rfl) rfl ⟨rfl, rfl, trivial⟩ trivial ?_
                  refine G.op1 (op_assign (Ev.t 76 (bS r35)) rfl) rfl ⟨rfl, trivial⟩ trivial ?_
                  refine G.endOps ?_
                  refine G.endBlock ?_
                  refine G.region ?_
                  refine G.op1 (op_add (Ev.t 68 (bI .i64 v28.2)) (Ev.c _ rfl) rfl) rfl ⟨rfl, trivial⟩ trivial ?_
                  refine G.op1 (op_move (Ev.t 77 (bI .i64 (IntKind.wrap .i64 (v28.2 + 1)))) rfl) rfl ⟨rfl, trivial⟩ trivial ?_
                  refine G.endOps ?_
                  exact G.arr (J29 (r35, IntKind.wrap .i64 (v28.2 + 1)) hF) ⟨rfl, rfl, rfl, rfl, trivial⟩ trivial rfl
                · refine G.cond rfl (fun hx => Bool.noConfusion (hc32.symm.trans hx)) (fun _ => ?_)
                  refine G.exit ?_
                  refine GX.c ?_
                  refine GX.q ?_
                  refine GX.bYes ?_
                  exact G.arr (J27 v28.1 hF) ⟨rfl, trivial⟩ trivial rfl
              · refine G.cond rfl (fun hx => Bool.noConfusion (hc23.symm.trans hx)) (fun _ => ?_)
                refine G.seq ?_
                refine G.region ?_
                refine G.op1 (op_eqI (Ev.t 10 (bI .i64 o_0.Kind)) (Ev.c _ rfl) rfl) rfl ⟨rfl, trivial⟩ trivial ?_
                refine G.op1 (op_assign (Ev.t 79 (bB (decide (o_0.Kind = 8)))) rfl) rfl ⟨rfl, trivial⟩ trivial ?_
                refine G.endOps ?_
                refine ifS hF (fun hc36 hF => ?_) (fun hc36 hF => ?_)
                · refine G.cond rfl (fun _ => ?_) (fun hx => Bool.noConfusion (hc36.symm.trans hx))
                  obtain ⟨r37, hr37, hF⟩ := bindS hF
                  obtain ⟨r38, hr38, hF⟩ := bindS hF
                  obtain ⟨r39, hr39, hF⟩ := bindS hF
                  obtain ⟨r40, hr40, hF⟩ := bindS hF
                  obtain ⟨r41, hr41, hF⟩ := bindS hF
                  refine G.drawnI (deps := [[], [], [1], [1, 2], [], [4], [1, 2, 3, 4, 5], [], [7], [1, 2, 3, 4, 5, 6, 7, 8], [], [10], [1, 2, 3, 4, 5, 6, 7, 8, 9, 10, 11], [1, 2, 3, 4, 5, 6, 7, 8, 9, 10, 11, 12], [0, 1, 2, 3, 4, 5, 6, 7, 8, 9, 10, 11, 12, 13], [0, 1, 2, 3, 4, 5, 6, 7, 8, 9, 10, 11, 12, 13, 14]]) (sl' := [(3, .one (bS r41))]) (hp' := []) (.c (oP rfl rfl (op_move (Ev.t 3 (bS r1)) rfl)) (.c (oP rfl rfl (op_fieldP (off' := 2) Tryd.underlying30 rfl ti3 (by decide) rfl (Ev.t 1 (.ptr 1001 0)) rfl)) (.c (oP rfl rfl (op_load1P (c := bI .i64 o_0.Site) Tryd.underlying3 rfl rfl (Ev.t 81 (.ptr 1001 2)) rfl)) (.c (oP rfl rfl (op_callQ (sv := .one (bS r37)) cf38 (ct_words_small o_0.Site r37 hr37) rfl rfl (EvQL.cons (EvQ.g (Ev.t 82 (bI .i64 o_0.Site))) EvQL.nil) rfl)) (.c (oP rfl rfl (op_fieldP (off' := 3) Tryd.underlying30 rfl ti3 (by decide) rfl (Ev.t 1 (.ptr 1001 0)) rfl)) (.c (oP rfl rfl (op_load1P (c := bI .i64 o_0.To) Tryd.underlying3 rfl rfl (Ev.t 84 (.ptr 1001 3)) rfl)) (.c (oP rfl rfl (op_callQ (sv := .one (bS r38)) cf38 (ct_words_small o_0.To r38 hr38) rfl rfl (EvQL.cons (EvQ.g (Ev.t 85 (bI .i64 o_0.To))) EvQL.nil) rfl)) (.c (oP rfl rfl (op_fieldP (off' := 4) Tryd.underlying30 rfl ti3 (by decide) rfl (Ev.t 1 (.ptr 1001 0)) rfl)) (.c (oP rfl rfl (op_load1P (c := bI .i64 o_0.At) Tryd.underlying3 rfl rfl (Ev.t 87 (.ptr 1001 4)) rfl)) (.c (oP rfl rfl (op_callQ (sv := .one (bS r39)) cf38 (ct_words_small o_0.At r39 hr39) rfl rfl (EvQL.cons (EvQ.g (Ev.t 88 (bI .i64 o_0.At))) EvQL.nil) rfl)) (.c (oP rfl rfl (op_fieldP (off' := 5) Tryd.underlying30 rfl ti3 (by decide) rfl (Ev.t 1 (.ptr 1001 0)) rfl)) (.c (oP rfl rfl (op_load1P (c := bI .i64 o_0.How) Tryd.underlying3 rfl rfl (Ev.t 90 (.ptr 1001 5)) rfl)) (.c (oP rfl rfl (op_callQ (sv := .one (bS r40)) cf38 (ct_words_small o_0.How r40 hr40) rfl rfl (EvQL.cons (EvQ.g (Ev.t 91 (bI .i64 o_0.How))) EvQL.nil) rfl)) (.c (oP rfl rfl (op_buildSlice (es := List.map encS [r37, r38, r39, r40]) Tryd.underlying24 ti9 rfl rfl (EvP.cons (Ev.t 83 (bS r37)) (EvP.cons (Ev.t 86 (bS r38)) (EvP.cons (Ev.t 89 (bS r39)) (EvP.cons (Ev.t 92 (bS r40)) EvP.nil)))) rfl rfl (by simp [encS]) rfl)) (.c (oP rfl rfl (op_callQ (sv := .one (bS r41)) cf37 (ct_words_put r1 ([r37, r38, r39, r40]) r41 hr41) rfl rfl (EvQL.cons (EvQ.g (Ev.t 80 (bS r1))) (EvQL.cons (EvQ.g (Ev.t 93 (.g (.d (.sl 1 (List.map encS ([r37, r38, r39, r40]))))))) EvQL.nil)) rfl)) (.c (oP rfl rfl (op_assign (Ev.t 94 (bS r41)) rfl)) .nil)))))))))))))))) follows rfl rfl rfl ⟨⟨⟨rfl, rfl⟩, trivial⟩, trivial, ⟨rfl, trivial⟩, trivial, ⟨rfl, trivial⟩, ⟨⟨rfl, rfl⟩, trivial⟩, ⟨rfl, trivial⟩, trivial, ⟨rfl, trivial⟩, trivial, ⟨rfl, trivial⟩, ⟨⟨rfl, rfl⟩, trivial⟩, ⟨rfl, trivial⟩, trivial, ⟨rfl, trivial⟩, trivial, ⟨rfl, trivial⟩, ⟨⟨rfl, rfl⟩, trivial⟩, ⟨rfl, trivial⟩, trivial, ⟨rfl, trivial⟩, trivial, ⟨rfl, trivial⟩, ⟨⟨rfl, rfl⟩, trivial⟩, ⟨rfl, trivial⟩, trivial, ⟨rfl, rfl, rfl, rfl, trivial⟩, trivial, ⟨rfl, rfl, trivial⟩, trivial, ⟨rfl, trivial⟩, trivial, trivial⟩ ⟨rfl, trivial⟩ trivial rfl ?_
                  refine G.endBlock ?_
                  exact G.arr (J4 r41 hF) ⟨rfl, trivial⟩ trivial rfl
                · refine G.cond rfl (fun hx => Bool.noConfusion (hc36.symm.trans hx)) (fun _ => ?_)
                  refine G.seq ?_
                  refine G.region ?_
                  refine G.op1 (op_eqI (Ev.t 10 (bI .i64 o_0.Kind)) (Ev.c _ rfl) rfl) rfl ⟨rfl, trivial⟩ trivial ?_
                  refine G.op1 (op_assign (Ev.t 96 (bB (decide (o_0.Kind = 9)))) rfl) rfl ⟨rfl, trivial⟩ trivial ?_
                  refine G.endOps ?_
                  refine ifS hF (fun hc42 hF => ?_) (fun hc42 hF => ?_)
                  · refine G.cond rfl (fun _ => ?_) (fun hx => Bool.noConfusion (hc42.symm.trans hx))
                    obtain ⟨r43, hr43, hF⟩ := bindS hF
                    obtain ⟨r44, hr44, hF⟩ := bindS hF
                    obtain ⟨r45, hr45, hF⟩ := bindS hF
                    refine G.drawnI (deps := [[], [], [1], [1, 2], [], [4], [1, 2, 3, 4, 5], [1, 2, 3, 4, 5, 6], [0, 1, 2, 3, 4, 5, 6, 7], [0, 1, 2, 3, 4, 5, 6, 7, 8]]) (sl' := [(3, .one (bS r45))]) (hp' := []) (.c (oP rfl rfl (op_move (Ev.t 3 (bS r1)) rfl)) (.c (oP rfl rfl (op_fieldP (off' := 2) Tryd.underlying30 rfl ti3 (by decide) rfl (Ev.t 1 (.ptr 1001 0)) rfl)) (.c (oP rfl rfl (op_load1P (c := bI .i64 o_0.Site) Tryd.underlying3 rfl rfl (Ev.t 98 (.ptr 1001 2)) rfl)) (.c (oP rfl rfl (op_callQ (sv := .one (bS r43)) cf38 (ct_words_small o_0.Site r43 hr43) rfl rfl (EvQL.cons (EvQ.g (Ev.t 99 (bI .i64 o_0.Site))) EvQL.nil) rfl)) (.c (oP rfl rfl (op_fieldP (off' := 3) Tryd.underlying30 rfl ti3 (by decide) rfl (Ev.t 1 (.ptr 1001 0)) rfl)) (.c (oP rfl rfl (op_load1P (c := bI .i64 o_0.To) Tryd.underlying3 rfl rfl (Ev.t 101 (.ptr 1001 3)) rfl)) (.c (oP rfl rfl (op_callQ (sv := .one (bS r44)) cf38 (ct_words_small o_0.To r44 hr44) rfl rfl (EvQL.cons (EvQ.g (Ev.t 102 (bI .i64 o_0.To))) EvQL.nil) rfl)) (.c (oP rfl rfl (op_buildSlice (es := List.map encS [r43, r44]) Tryd.underlying24 ti9 rfl rfl (EvP.cons (Ev.t 100 (bS r43)) (EvP.cons (Ev.t 103 (bS r44)) EvP.nil)) rfl rfl (by simp [encS]) rfl)) (.c (oP rfl rfl (op_callQ (sv := .one (bS r45)) cf37 (ct_words_put r1 ([r43, r44]) r45 hr45) rfl rfl (EvQL.cons (EvQ.g (Ev.t 97 (bS r1))) (EvQL.cons (EvQ.g (Ev.t 104 (.g (.d (.sl 1 (List.map encS ([r43, r44]))))))) EvQL.nil)) rfl)) (.c (oP rfl rfl (op_assign (Ev.t 105 (bS r45)) rfl)) .nil)))))))))) follows rfl rfl rfl ⟨⟨⟨rfl, rfl⟩, trivial⟩, trivial, ⟨rfl, trivial⟩, trivial, ⟨rfl, trivial⟩, ⟨⟨rfl, rfl⟩, trivial⟩, ⟨rfl, trivial⟩, trivial, ⟨rfl, trivial⟩, trivial, ⟨rfl, trivial⟩, ⟨⟨rfl, rfl⟩, trivial⟩, ⟨rfl, trivial⟩, trivial, ⟨rfl, rfl, trivial⟩, trivial, ⟨rfl, rfl, trivial⟩, trivial, ⟨rfl, trivial⟩, trivial, trivial⟩ ⟨rfl, trivial⟩ trivial rfl ?_
                    refine G.endBlock ?_
                    exact G.arr (J4 r45 hF) ⟨rfl, trivial⟩ trivial rfl
                  · refine G.cond rfl (fun hx => Bool.noConfusion (hc42.symm.trans hx)) (fun _ => ?_)
                    refine G.seq ?_
                    refine G.region ?_
                    refine G.op1 (op_eqI (Ev.t 10 (bI .i64 o_0.Kind)) (Ev.c _ rfl) rfl) rfl ⟨rfl, trivial⟩ trivial ?_
                    refine G.op1 (op_assign (Ev.t 107 (bB (decide (o_0.Kind = 10)))) rfl) rfl ⟨rfl, trivial⟩ trivial ?_
                    refine G.endOps ?_
                    refine ifS hF (fun hc46 hF => ?_) (fun hc46 hF => ?_)
                    · refine G.cond rfl (fun _ => ?_) (fun hx => Bool.noConfusion (hc46.symm.trans hx))
                      refine G.region ?_
                      refine G.op1 (op_move (Ev.t 3 (bS r1)) rfl) rfl ⟨rfl, trivial⟩ trivial ?_
                      refine G.op1 (op_fieldP (off' := 2) Tryd.underlying30 rfl ti3 (by decide) rfl (Ev.t 1 (.ptr 1001 0)) rfl) rfl ⟨rfl, trivial⟩ trivial ?_
                      refine G.op1 (op_load1P (c := bI .i64 o_0.Site) Tryd.underlying3 rfl rfl (Ev.t 109 (.ptr 1001 2)) rfl) rfl ⟨rfl, trivial⟩ ⟨rfl, trivial⟩ ?_
                      obtain ⟨r47, hr47, hF⟩ := bindS hF
                      refine G.op1 (op_callQ (sv := .one (bS r47)) cf38 (ct_words_small o_0.Site r47 hr47) rfl rfl (EvQL.cons (EvQ.g (Ev.t 110 (bI .i64 o_0.Site))) EvQL.nil) rfl) rfl ⟨rfl, trivial⟩ trivial ?_
                      refine G.op1 (op_buildSlice (es := List.map encS [r47]) Tryd.underlying24 ti9 rfl rfl (EvP.cons (Ev.t 111 (bS r47)) EvP.nil) rfl rfl (by simp [encS]) rfl) rfl ⟨rfl, trivial⟩ trivial ?_
                      obtain ⟨r48, hr48, hF⟩ := bindS hF
                      refine G.op1 (op_callQ (sv := .one (bS r48)) cf37 (ct_words_put r1 ([r47]) r48 hr48) rfl rfl (EvQL.cons (EvQ.g (Ev.t 108 (bS r1))) (EvQL.cons (EvQ.g (Ev.t 112 (.g (.d (.sl 1 (List.map encS ([r47]))))))) EvQL.nil)) rfl) rfl ⟨rfl, rfl, trivial⟩ trivial ?_
                      refine G.op1 (op_assign (Ev.t 113 (bS r48)) rfl) rfl ⟨rfl, trivial⟩ trivial ?_
                      refine G.endOps ?_
                      refine G.endBlock ?_
                      exact G.arr (J4 r48 hF) ⟨rfl, trivial⟩ trivial rfl
                    · refine G.cond rfl (fun hx => Bool.noConfusion (hc46.symm.trans hx)) (fun _ => ?_)
                      refine G.seq ?_
                      refine G.region ?_
                      refine G.op1 (op_eqI (Ev.t 10 (bI .i64 o_0.Kind)) (Ev.c _ rfl) rfl) rfl ⟨rfl, trivial⟩ trivial ?_
                      refine G.op1 (op_assign (Ev.t 115 (bB (decide (o_0.Kind = 12)))) rfl) rfl ⟨rfl, trivial⟩ trivial ?_
                      refine G.endOps ?_
                      refine ifS hF (fun hc49 hF => ?_) (fun hc49 hF => ?_)
                      · refine G.cond rfl (fun _ => ?_) (fun hx => Bool.noConfusion (hc49.symm.trans hx))
                        refine G.region ?_
                        refine G.op1 (op_move (Ev.t 3 (bS r1)) rfl) rfl ⟨rfl, trivial⟩ trivial ?_
                        refine G.op1 (op_fieldP (off' := 9) Tryd.underlying30 rfl ti28 (by decide) rfl (Ev.t 1 (.ptr 1001 0)) rfl) rfl ⟨rfl, trivial⟩ trivial ?_
                        refine G.op1 (op_loadAP (ds := [.sl 2 (List.map encApi_Range o_0.Row.Ranges), .sl 1 (List.map encI_i64 o_0.Row.Owners), .sl 1 (List.map encI_i64 o_0.Row.Parents)]) Tryd.underlying28 rfl ti28 rfl (Ev.t 117 (.ptr 1001 9)) rfl) rfl ⟨rfl, trivial⟩ ⟨rfl, trivial⟩ ?_
                        obtain ⟨r50, hr50, hF⟩ := bindS hF
                        refine G.op1 (op_callQ (sv := .one (bS r50)) cf39 (ct_words_rowLine r1 o_0.Row r50 hr50) rfl rfl (EvQL.cons (EvQ.g (Ev.t 116 (bS r1))) (EvQL.cons (EvQ.g (Ev.t 118 (.g (.agg [.sl 2 (List.map encApi_Range o_0.Row.Ranges), .sl 1 (List.map encI_i64 o_0.Row.Owners), .sl 1 (List.map encI_i64 o_0.Row.Parents)])))) EvQL.nil)) rfl) rfl ⟨rfl, rfl, trivial⟩ trivial ?_
                        refine G.op1 (op_assign (Ev.t 119 (bS r50)) rfl) rfl ⟨rfl, trivial⟩ trivial ?_
                        refine G.endOps ?_
                        refine G.endBlock ?_
                        exact G.arr (J4 r50 hF) ⟨rfl, trivial⟩ trivial rfl
                      · refine G.cond rfl (fun hx => Bool.noConfusion (hc49.symm.trans hx)) (fun _ => ?_)
                        refine G.skip ?_
                        refine G.endBlock ?_
                        exact G.arr (J4 r1 hF) ⟨rfl, trivial⟩ trivial rfl
        refine ifS hF (fun hc52 hF => ?_) (fun hc52 hF => ?_)
        · refine G.cond rfl (fun _ => ?_) (fun hx => Bool.noConfusion (hc52.symm.trans hx))
          refine G.skip ?_
          exact G.arr (J51 (decide (o_0.Kind = 4)) hF) ⟨rfl, rfl, rfl, rfl, trivial⟩ ⟨rfl, trivial⟩ rfl
        · refine G.cond rfl (fun hx => Bool.noConfusion (hc52.symm.trans hx)) (fun _ => ?_)
          refine G.region ?_
          refine G.op1 (op_eqI (Ev.t 10 (bI .i64 o_0.Kind)) (Ev.c _ rfl) rfl) rfl ⟨rfl, trivial⟩ trivial ?_
          refine G.op1 (op_assign (Ev.t 39 (bB (decide (o_0.Kind = 7)))) rfl) rfl ⟨rfl, trivial⟩ trivial ?_
          refine G.endOps ?_
          exact G.arr (J51 (decide (o_0.Kind = 7)) hF) ⟨rfl, rfl, rfl, rfl, trivial⟩ ⟨rfl, trivial⟩ rfl
    refine ifS hF (fun hc54 hF => ?_) (fun hc54 hF => ?_)
    · refine G.cond rfl (fun _ => ?_) (fun hx => Bool.noConfusion (hc54.symm.trans hx))
      refine G.skip ?_
      exact G.arr (J53 (decide (o_0.Kind = 2)) hF) ⟨rfl, rfl, rfl, rfl, trivial⟩ ⟨rfl, trivial⟩ rfl
    · refine G.cond rfl (fun hx => Bool.noConfusion (hc54.symm.trans hx)) (fun _ => ?_)
      refine G.region ?_
      refine G.op1 (op_eqI (Ev.t 10 (bI .i64 o_0.Kind)) (Ev.c _ rfl) rfl) rfl ⟨rfl, trivial⟩ trivial ?_
      refine G.op1 (op_assign (Ev.t 27 (bB (decide (o_0.Kind = 3)))) rfl) rfl ⟨rfl, trivial⟩ trivial ?_
      refine G.endOps ?_
      exact G.arr (J53 (decide (o_0.Kind = 3)) hF) ⟨rfl, rfl, rfl, rfl, trivial⟩ ⟨rfl, trivial⟩ rfl

end Go.Ark
