/- Walks, printed by a program of mine: each function of the program computes the typed function of its name. Conditions: none. -/
import Derived.Test.YtfhlilpkgodilaaGreatDoorWWordsWrites2
namespace Go.Ark
open Go Go.Ab Go.RowKit Go.Lib Go.Proofs Go.Shelf

set_option maxRecDepth 20000
set_option maxHeartbeats 2000000

theorem ct_ref24_row (w_0 : (List ByteArray)) (r : Ref24_Step) (hF : ref24_row w_0 = some r) : Ct Tryz.prog 68 [.g (.d (.sl 1 (List.map encS w_0)))] (.one (.agg (encRef24_Step r))) := by
 unfold ref24_row at hF
 refine Ct.intro Tryz.func68 rfl Tryz.ntmps68 rfl rfl fun M w => ?_
 refine sr <| q01 (op_alloc (k := 1002) (cs := [bI .i64 0, bI .i64 0, bI .i64 0, bI .i64 0, bI .i64 0, bI .i64 0, bS ByteArray.empty, bS ByteArray.empty, .g (.d (.sl 1 (List.map encS ([] : (List ByteArray))))), .g (.d (.sl 2 (List.map encApi_Range ([] : (List Api_Range))))), .g (.d (.sl 1 (List.map encI_i64 ([] : (List Int))))), .g (.d (.sl 1 (List.map encI_i64 ([] : (List Int))))), bB false]) ti71 ⟨.v _ rfl, .v _ rfl, .v _ rfl, .v _ rfl, .v _ rfl, .v _ rfl, .v _ rfl, .v _ rfl, .n 1, .n 2, .n 1, .n 1, .v _ rfl, trivial⟩ rfl) rfl <| esr <| p00 (op_build (zs := [.v (.slice none 0 0), .v (.slice none 0 0), .v (.slice none 0 0)]) (ds := [.v (.slice none 0 0), .v (.slice none 0 0), .v (.slice none 0 0)]) uU ti28 (pl28 _ uU) ⟨.v _ rfl, .v _ rfl, .v _ rfl, trivial⟩ .nil rfl rfl) <| q01 (op_alloc (k := 1003) (cs := [.g (.d (.v (.slice none 0 0))), .g (.d (.v (.slice none 0 0))), .g (.d (.v (.slice none 0 0)))]) ti28 ⟨.v _ rfl, .v _ rfl, .v _ rfl, trivial⟩ rfl) rfl <| w21 (op_storeAM ti28 rfl ev ev) rfl rfl rfl <| ?_
 refine G.rowCell (kb := 1003) (kk := 5048) (E := 39) (size := 2) (j := 0) (cs' := [.own 5048 (List.map encApi_Range ([] : List Api_Range)), .g (.d (.v (.slice none 0 0))), .g (.d (.v (.slice none 0 0)))]) rfl rfl rfl rfl rfl rfl ?_
 refine G.rowCell (kb := 1003) (kk := 5049) (E := 3) (size := 1) (j := 1) (cs' := [.own 5048 (List.map encApi_Range ([] : List Api_Range)), .own 5049 (List.map encI_i64 ([] : List Int)), .g (.d (.v (.slice none 0 0)))]) rfl rfl rfl rfl rfl rfl ?_
 refine G.rowCell (kb := 1003) (kk := 5050) (E := 3) (size := 1) (j := 2) (cs' := [.own 5048 (List.map encApi_Range ([] : List Api_Range)), .own 5049 (List.map encI_i64 ([] : List Int)), .own 5050 (List.map encI_i64 ([] : List Int))]) rfl rfl rfl rfl rfl rfl ?_
 refine esr <| ac rfl rfl <| esr <| ac rfl rfl <| eO <| sq <| ?_
 refine G.joinC (T := Int × (List Api_Range) × (List Int)) (fun y1 => ⟨[(0, .one (.g (.d (.sl 1 (List.map encS w_0))))), (2, .one (.ptr 1002 0)), (3, .one (.ptr 1003 0)), (4, oI y1.1)], [(1002, some (.blk 71 [bI .i64 0, bI .i64 0, bI .i64 0, bI .i64 0, bI .i64 0, bI .i64 0, bS ByteArray.empty, bS ByteArray.empty, .g (.d (.sl 1 (List.map encS ([] : (List ByteArray))))), .g (.d (.sl 2 (List.map encApi_Range ([] : (List Api_Range))))), .g (.d (.sl 1 (List.map encI_i64 ([] : (List Int))))), .g (.d (.sl 1 (List.map encI_i64 ([] : (List Int))))), bB false])), (1003, some (.blk 28 [.own 5048 (List.map encApi_Range y1.2.1), .own 5049 (List.map encI_i64 y1.2.2), .own 5050 (List.map encI_i64 ([] : List Int))])), (5048, some (.row 39 2 (List.map encApi_Range y1.2.1) false)), (5049, some (.row 3 1 (List.map encI_i64 y1.2.2) false)), (5050, some (.row 3 1 (List.map encI_i64 ([] : List Int)) false))]⟩) (fun y1 => ref24_row_k1 w_0 y1 = some r) (fun y1 hF => ?_) (fun J18 => ?_)
 · unfold ref24_row_k1 at hF
   refine sq <| sr <| mv rfl rfl <| av rfl rfl <| eO <| ?_
   refine G.joinC (T := (List Int)) (fun y2 => ⟨[(2, .one (.ptr 1002 0)), (3, .one (.ptr 1003 0))], [(1002, some (.blk 71 [bI .i64 0, bI .i64 0, bI .i64 0, bI .i64 0, bI .i64 0, bI .i64 0, bS ByteArray.empty, bS ByteArray.empty, .g (.d (.sl 1 (List.map encS ([] : (List ByteArray))))), .g (.d (.sl 2 (List.map encApi_Range ([] : (List Api_Range))))), .g (.d (.sl 1 (List.map encI_i64 ([] : (List Int))))), .g (.d (.sl 1 (List.map encI_i64 ([] : (List Int))))), bB false])), (1003, some (.blk 28 [.own 5048 (List.map encApi_Range y1.2.1), .own 5049 (List.map encI_i64 y1.2.2), .own 5050 (List.map encI_i64 y2)])), (5048, some (.row 39 2 (List.map encApi_Range y1.2.1) false)), (5049, some (.row 3 1 (List.map encI_i64 y1.2.2) false)), (5050, some (.row 3 1 (List.map encI_i64 y2) false))]⟩) (fun y2 => ref24_row_k2 y1 y2 = some r) (fun y2 hF => ?_) (fun J4 => ?_)
   · unfold ref24_row_k2 at hF
     refine sr <| ?_
     refine G.viewCell (kb := 1003) (j := 0) (cs' := [.g (.d (.sl 2 (List.map encApi_Range y1.2.1))), .own 5049 (List.map encI_i64 y1.2.2), .own 5050 (List.map encI_i64 y2)]) rfl rfl rfl rfl ?_
     refine G.viewCell (kb := 1003) (j := 1) (cs' := [.g (.d (.sl 2 (List.map encApi_Range y1.2.1))), .g (.d (.sl 1 (List.map encI_i64 y1.2.2))), .own 5050 (List.map encI_i64 y2)]) rfl rfl rfl rfl ?_
     refine G.viewCell (kb := 1003) (j := 2) (cs' := [.g (.d (.sl 2 (List.map encApi_Range y1.2.1))), .g (.d (.sl 1 (List.map encI_i64 y1.2.2))), .g (.d (.sl 1 (List.map encI_i64 y2)))]) rfl rfl rfl rfl ?_
     refine p11 (op_loadAP (ds := [.sl 2 (List.map encApi_Range y1.2.1), .sl 1 (List.map encI_i64 y1.2.2), .sl 1 (List.map encI_i64 y2)]) uU rfl ti28 rfl ev rfl) rfl rfl <| bn hF fun r3 hr3 hF => p10 (op_callQ cf66 (ct_ref06_RowCheck _ _ hr3) rfl rfl (.cons qe .nil) rfl) rfl <| av rfl rfl <| esr <| p11 (op_loadAP (ds := [.sl 2 (List.map encApi_Range y1.2.1), .sl 1 (List.map encI_i64 y1.2.2), .sl 1 (List.map encI_i64 y2)]) uU rfl ti28 rfl ev rfl) rfl rfl <| ?_
     refine p10 (op_build (zs := [vI 0, vI 0, vI 0, vI 0, vI 0, vI 0, vS ByteArray.empty, vS ByteArray.empty, .sl 1 (List.map encS ([] : (List ByteArray))), .sl 2 (List.map encApi_Range ([] : (List Api_Range))), .sl 1 (List.map encI_i64 ([] : (List Int))), .sl 1 (List.map encI_i64 ([] : (List Int)))]) (ds := [vI 12, vI 0, vI 0, vI 0, vI 0, vI 0, vS ByteArray.empty, vS ByteArray.empty, .sl 1 (List.map encS ([] : (List ByteArray))), .sl 2 (List.map encApi_Range y1.2.1), .sl 1 (List.map encI_i64 y1.2.2), .sl 1 (List.map encI_i64 y2)]) uU ti30 (pl30 _ uU) ⟨.v _ rfl, .v _ rfl, .v _ rfl, .v _ rfl, .v _ rfl, .v _ rfl, .v _ rfl, .v _ rfl, .n 1, .n 2, .n 1, .n 1, trivial⟩ (.cons (ec rfl) (.cons ev .nil)) rfl rfl) rfl <| mv rfl rfl <| p20 (op_build (zs := [vI 0, vI 0, vI 0, vI 0, vI 0, vI 0, vS ByteArray.empty, vS ByteArray.empty, .sl 1 (List.map encS ([] : (List ByteArray))), .sl 2 (List.map encApi_Range ([] : (List Api_Range))), .sl 1 (List.map encI_i64 ([] : (List Int))), .sl 1 (List.map encI_i64 ([] : (List Int))), vB false]) (ds := [vI 12, vI 0, vI 0, vI 0, vI 0, vI 0, vS ByteArray.empty, vS ByteArray.empty, .sl 1 (List.map encS ([] : (List ByteArray))), .sl 2 (List.map encApi_Range y1.2.1), .sl 1 (List.map encI_i64 y1.2.2), .sl 1 (List.map encI_i64 y2), vB r3]) uU ti71 (pl71 _ uU) ⟨.v _ rfl, .v _ rfl, .v _ rfl, .v _ rfl, .v _ rfl, .v _ rfl, .v _ rfl, .v _ rfl, .n 1, .n 2, .n 1, .n 1, .v _ rfl, trivial⟩ (.cons ev (.cons ev .nil)) rfl rfl) rfl rfl <| w21 (op_storeAM ti71 rfl ev ev) rfl rfl rfl <| eO <| ?_
     cases hF
     exact G.ret1 Tryz.results68 (RVar.cellA (ds := [vI 12, vI 0, vI 0, vI 0, vI 0, vI 0, vS ByteArray.empty, vS ByteArray.empty, .sl 1 (List.map encS ([] : (List ByteArray))), .sl 2 (List.map encApi_Range y1.2.1), .sl 1 (List.map encI_i64 y1.2.2), .sl 1 (List.map encI_i64 y2), vB r3]) uU rfl ti71 rfl) z1 z1
   refine bl <| ?_
   refine lF (fun (v5 : Int × (List Int)) => ⟨[(0, .one (.g (.d (.sl 1 (List.map encS w_0))))), (2, .one (.ptr 1002 0)), (3, .one (.ptr 1003 0)), (8, oI v5.1)], [(1002, some (.blk 71 [bI .i64 0, bI .i64 0, bI .i64 0, bI .i64 0, bI .i64 0, bI .i64 0, bS ByteArray.empty, bS ByteArray.empty, .g (.d (.sl 1 (List.map encS ([] : (List ByteArray))))), .g (.d (.sl 2 (List.map encApi_Range ([] : (List Api_Range))))), .g (.d (.sl 1 (List.map encI_i64 ([] : (List Int))))), .g (.d (.sl 1 (List.map encI_i64 ([] : (List Int))))), bB false])), (1003, some (.blk 28 [.own 5048 (List.map encApi_Range y1.2.1), .own 5049 (List.map encI_i64 y1.2.2), .own 5050 (List.map encI_i64 v5.2)])), (5048, some (.row 39 2 (List.map encApi_Range y1.2.1) false)), (5049, some (.row 3 1 (List.map encI_i64 y1.2.2) false)), (5050, some (.row 3 1 (List.map encI_i64 v5.2) false))]⟩) hF z4 z5 rfl (fun K8 again7 v5 J6 hF => ?_)
   unfold ref24_row_l3 at hF
   refine sq <| sr <| mv rfl rfl <| mv rfl rfl <| p10 (op_lenM uU ev rfl) rfl <| p20 (op_lss ev ev rfl) rfl rfl <| ?_
   refine eO <| ?_
   refine ifS hF (fun hc9 hF => ?_) (fun hc9 hF => ?_)
   · refine cT hc9 rfl <| sk <| sq <| bl <| sr <| mv rfl rfl <| ?_
     refine mv rfl rfl <| bn hF fun x10 hx10 hF => p20 (op_indexM hx10 uU ti9 ev ev rfl) rfl rfl <| p10 (op_load1E uU rfl rfl ev rfl) rfl <| bn hF fun r11 hr11 hF => p10 (op_callQ cf69 (ct_ref24_number _ _ hr11) rfl rfl (.cons qe .nil) rfl) rfl <| ?_
     refine av rfl rfl <| eO <| sq <| sq <| ?_
     refine G.joinC (T := Bool) (fun y12 => ⟨[(0, .one (.g (.d (.sl 1 (List.map encS w_0))))), (2, .one (.ptr 1002 0)), (3, .one (.ptr 1003 0)), (8, oI v5.1), (9, oI r11), (98, oB y12)], [(1002, some (.blk 71 [bI .i64 0, bI .i64 0, bI .i64 0, bI .i64 0, bI .i64 0, bI .i64 0, bS ByteArray.empty, bS ByteArray.empty, .g (.d (.sl 1 (List.map encS ([] : (List ByteArray))))), .g (.d (.sl 2 (List.map encApi_Range ([] : (List Api_Range))))), .g (.d (.sl 1 (List.map encI_i64 ([] : (List Int))))), .g (.d (.sl 1 (List.map encI_i64 ([] : (List Int))))), bB false])), (1003, some (.blk 28 [.own 5048 (List.map encApi_Range y1.2.1), .own 5049 (List.map encI_i64 y1.2.2), .own 5050 (List.map encI_i64 v5.2)])), (5048, some (.row 39 2 (List.map encApi_Range y1.2.1) false)), (5049, some (.row 3 1 (List.map encI_i64 y1.2.2) false)), (5050, some (.row 3 1 (List.map encI_i64 v5.2) false))]⟩) (fun y12 => ref24_row_k4 again7 v5 r11 y12 = some r) (fun y12 hF => ?_) (fun J15 => ?_)
     · unfold ref24_row_k4 at hF
       refine ifS hF (fun hc13 hF => ?_) (fun hc13 hF => ?_)
       · refine cT hc13 rfl <| sr <| p00 (op_build (zs := [vI 0, vI 0, vI 0, vI 0, vI 0, vI 0, vS ByteArray.empty, vS ByteArray.empty, .sl 1 (List.map encS ([] : (List ByteArray))), .sl 2 (List.map encApi_Range ([] : (List Api_Range))), .sl 1 (List.map encI_i64 ([] : (List Int))), .sl 1 (List.map encI_i64 ([] : (List Int))), vB false]) (ds := [vI 0, vI 0, vI 0, vI 0, vI 0, vI 0, vS ByteArray.empty, vS ByteArray.empty, .sl 1 (List.map encS ([] : (List ByteArray))), .sl 2 (List.map encApi_Range ([] : (List Api_Range))), .sl 1 (List.map encI_i64 ([] : (List Int))), .sl 1 (List.map encI_i64 ([] : (List Int))), vB false]) uU ti71 (pl71 _ uU) ⟨.v _ rfl, .v _ rfl, .v _ rfl, .v _ rfl, .v _ rfl, .v _ rfl, .v _ rfl, .v _ rfl, .n 1, .n 2, .n 1, .n 1, .v _ rfl, trivial⟩ .nil rfl rfl) <| w21 (op_storeAM ti71 rfl ev ev) rfl rfl rfl <| eO <| ?_
         cases hF
         exact G.ret1 Tryz.results68 (RVar.cellA (ds := [vI 0, vI 0, vI 0, vI 0, vI 0, vI 0, vS ByteArray.empty, vS ByteArray.empty, .sl 1 (List.map encS ([] : (List ByteArray))), .sl 2 (List.map encApi_Range ([] : (List Api_Range))), .sl 1 (List.map encI_i64 ([] : (List Int))), .sl 1 (List.map encI_i64 ([] : (List Int))), vB false]) uU rfl ti71 rfl) z1 z1
       refine cF hc13 rfl <| sk <| rg <| p10 (op_fieldP (off' := 2) uU rfl ti26 (by decide) rfl ev rfl) rfl <| p11 (op_load1P uU rfl rfl ev rfl) rfl rfl <| mv rfl rfl <| ?_
       refine p10 (op_buildSlice (es := List.map encI_i64 [r11]) uU ti3 rfl rfl (.cons ev .nil) rfl rfl (by simp [encI_i64]) rfl) rfl <| bn hF fun l14 hl14 hF => q21 (op_appendO uU ti3 rfl (app_map hl14 encI_i64) (app_b1 hl14 encI_i64) (app_b2 hl14 encI_i64) ev ev rfl) rfl rfl rfl <| p10 (op_fieldP (off' := 2) uU rfl ti26 (by decide) rfl ev rfl) rfl <| w22 (op_storeO (cs' := [.own 5048 (List.map encApi_Range y1.2.1), .own 5049 (List.map encI_i64 y1.2.2), .own 5050 (List.map encI_i64 l14)]) ti26 rfl rfl rfl ev ev) rfl rfl rfl rfl <| eO <| ?_
       refine eB <| rg <| mv rfl rfl <| p10 (op_add ev (ec rfl) rfl) rfl <| av rfl rfl <| eO <| ?_
       exact G.arr (J6 (IntKind.wrap .i64 (v5.1 + 1), l14) hF) z4 z5 rfl
     refine rg <| mv rfl rfl <| p10 (op_lss ev (ec rfl) rfl) rfl <| mv rfl rfl <| ?_
     refine ifS hF (fun hc16 hF => ?_) (fun hc16 hF => ?_)
     · refine G.known (t := 92) hc16 rfl <| g10 (op_move ev rfl) rfl rfl rfl <| g10 (op_move ev rfl) rfl rfl rfl <| bn hF fun x17 hx17 hF => g20 (op_indexM hx17 uU ti9 ev ev rfl) rfl rfl rfl rfl <| g10 (op_load1E uU rfl rfl ev rfl) rfl rfl rfl <| ?_
       refine g10 (op_neS ev (ec rfl) rfl) rfl rfl rfl <| p20 (op_pickT ev ev rfl) rfl rfl <| eO <| ?_
       exact G.arr (J15 (!seq x17 (ByteArray.mk #[45])) hF) z6 z5 rfl
     refine G.known (t := 92) hc16 rfl <| oN rfl rfl rfl <| oN rfl rfl rfl <| oN rfl rfl rfl <| oN rfl rfl rfl <| oN rfl rfl rfl <| ?_
     refine p10 (op_pickF ev (ec rfl) rfl) rfl <| eO <| ?_
     exact G.arr (J15 false hF) z6 z5 rfl
   refine cF hc9 rfl <| ex <| ?_
   refine GX.c ?_
   refine GX.q ?_
   refine xY <| ?_
   exact G.arr (J4 v5.2 hF) z2 z5 rfl
 refine bl <| ?_
 refine lF (fun (v19 : Int × ByteArray × (List Api_Range) × (List Int)) => ⟨[(0, .one (.g (.d (.sl 1 (List.map encS w_0))))), (2, .one (.ptr 1002 0)), (3, .one (.ptr 1003 0)), (4, oI v19.1), (5, oS v19.2.1)], [(1002, some (.blk 71 [bI .i64 0, bI .i64 0, bI .i64 0, bI .i64 0, bI .i64 0, bI .i64 0, bS ByteArray.empty, bS ByteArray.empty, .g (.d (.sl 1 (List.map encS ([] : (List ByteArray))))), .g (.d (.sl 2 (List.map encApi_Range ([] : (List Api_Range))))), .g (.d (.sl 1 (List.map encI_i64 ([] : (List Int))))), .g (.d (.sl 1 (List.map encI_i64 ([] : (List Int))))), bB false])), (1003, some (.blk 28 [.own 5048 (List.map encApi_Range v19.2.2.1), .own 5049 (List.map encI_i64 v19.2.2.2), .own 5050 (List.map encI_i64 ([] : List Int))])), (5048, some (.row 39 2 (List.map encApi_Range v19.2.2.1) false)), (5049, some (.row 3 1 (List.map encI_i64 v19.2.2.2) false)), (5050, some (.row 3 1 (List.map encI_i64 ([] : List Int)) false))]⟩) hF z5 z5 rfl (fun K22 again21 v19 J20 hF => ?_)
 unfold ref24_row_l5 at hF
 refine bl <| sq <| sq <| ?_
 refine G.joinC (T := Bool) (fun y23 => ⟨[(0, .one (.g (.d (.sl 1 (List.map encS w_0))))), (2, .one (.ptr 1002 0)), (3, .one (.ptr 1003 0)), (4, oI v19.1), (5, oS v19.2.1), (23, oB y23)], [(1002, some (.blk 71 [bI .i64 0, bI .i64 0, bI .i64 0, bI .i64 0, bI .i64 0, bI .i64 0, bS ByteArray.empty, bS ByteArray.empty, .g (.d (.sl 1 (List.map encS ([] : (List ByteArray))))), .g (.d (.sl 2 (List.map encApi_Range ([] : (List Api_Range))))), .g (.d (.sl 1 (List.map encI_i64 ([] : (List Int))))), .g (.d (.sl 1 (List.map encI_i64 ([] : (List Int))))), bB false])), (1003, some (.blk 28 [.own 5048 (List.map encApi_Range v19.2.2.1), .own 5049 (List.map encI_i64 v19.2.2.2), .own 5050 (List.map encI_i64 ([] : List Int))])), (5048, some (.row 39 2 (List.map encApi_Range v19.2.2.1) false)), (5049, some (.row 3 1 (List.map encI_i64 v19.2.2.2) false)), (5050, some (.row 3 1 (List.map encI_i64 ([] : List Int)) false))]⟩) (fun y23 => ref24_row_k6 w_0 again21 v19 y23 = some r) (fun y23 hF => ?_) (fun J36 => ?_)
 · unfold ref24_row_k6 at hF
   refine ifS hF (fun hc24 hF => ?_) (fun hc24 hF => ?_)
   · refine cT hc24 rfl <| sr <| p00 (op_build (zs := [vI 0, vI 0, vI 0, vI 0, vI 0, vI 0, vS ByteArray.empty, vS ByteArray.empty, .sl 1 (List.map encS ([] : (List ByteArray))), .sl 2 (List.map encApi_Range ([] : (List Api_Range))), .sl 1 (List.map encI_i64 ([] : (List Int))), .sl 1 (List.map encI_i64 ([] : (List Int))), vB false]) (ds := [vI 0, vI 0, vI 0, vI 0, vI 0, vI 0, vS ByteArray.empty, vS ByteArray.empty, .sl 1 (List.map encS ([] : (List ByteArray))), .sl 2 (List.map encApi_Range ([] : (List Api_Range))), .sl 1 (List.map encI_i64 ([] : (List Int))), .sl 1 (List.map encI_i64 ([] : (List Int))), vB false]) uU ti71 (pl71 _ uU) ⟨.v _ rfl, .v _ rfl, .v _ rfl, .v _ rfl, .v _ rfl, .v _ rfl, .v _ rfl, .v _ rfl, .n 1, .n 2, .n 1, .n 1, .v _ rfl, trivial⟩ .nil rfl rfl) <| w21 (op_storeAM ti71 rfl ev ev) rfl rfl rfl <| eO <| ?_
     cases hF
     exact G.ret1 Tryz.results68 (RVar.cellA (ds := [vI 0, vI 0, vI 0, vI 0, vI 0, vI 0, vS ByteArray.empty, vS ByteArray.empty, .sl 1 (List.map encS ([] : (List ByteArray))), .sl 2 (List.map encApi_Range ([] : (List Api_Range))), .sl 1 (List.map encI_i64 ([] : (List Int))), .sl 1 (List.map encI_i64 ([] : (List Int))), vB false]) uU rfl ti71 rfl) z1 z1
   refine cF hc24 rfl <| sk <| sq <| bn hF fun x25 hx25 hF => bn hF fun r26 hr26 hF => bn hF fun l27 hl27 hF => ?_
   refine G.drawnI (deps := [[], [0], [], [], [2, 3], [2, 3, 4], [2, 3, 4, 5], [2, 3, 4, 5, 6], [0, 1, 2, 3, 4, 5, 6, 7], [0, 1, 2, 3, 4, 5, 6, 7, 8], [0, 1, 2, 3, 4, 5, 6, 7, 8, 9]]) (sl' := [(0, .one (.g (.d (.sl 1 (List.map encS w_0))))), (2, .one (.ptr 1002 0)), (3, .one (.ptr 1003 0)), (4, oI v19.1), (5, oS v19.2.1)]) (hp' := [(1002, some (.blk 71 [bI .i64 0, bI .i64 0, bI .i64 0, bI .i64 0, bI .i64 0, bI .i64 0, bS ByteArray.empty, bS ByteArray.empty, .g (.d (.sl 1 (List.map encS ([] : (List ByteArray))))), .g (.d (.sl 2 (List.map encApi_Range ([] : (List Api_Range))))), .g (.d (.sl 1 (List.map encI_i64 ([] : (List Int))))), .g (.d (.sl 1 (List.map encI_i64 ([] : (List Int))))), bB false])), (1003, some (.blk 28 [.own 5048 (List.map encApi_Range v19.2.2.1), .own 5049 (List.map encI_i64 l27), .own 5050 (List.map encI_i64 ([] : List Int))])), (5048, some (.row 39 2 (List.map encApi_Range v19.2.2.1) false)), (5049, some (.row 3 1 (List.map encI_i64 l27) false)), (5050, some (.row 3 1 (List.map encI_i64 ([] : List Int)) false))]) (.c (oP rfl rfl (op_fieldP (off' := 1) uU rfl ti26 (by decide) rfl ev rfl)) (.c (oP rfl rfl (op_load1P uU rfl rfl ev rfl)) (.c (oP rfl rfl (op_move ev rfl)) (.c (oP rfl rfl (op_move ev rfl)) (.c (oP rfl rfl (op_indexM hx25 uU ti9 ev ev rfl)) (.c (oP rfl rfl (op_load1E uU rfl rfl ev rfl)) (.c (oP rfl rfl (op_callQ cf69 (ct_ref24_number _ _ hr26) rfl rfl (.cons qe .nil) rfl)) (.c (oP rfl rfl (op_buildSlice (es := List.map encI_i64 [r26]) uU ti3 rfl rfl (.cons ev .nil) rfl rfl (by simp [encI_i64]) rfl)) (.c (oP rfl rfl (op_appendO uU ti3 rfl (app_map hl27 encI_i64) (app_b1 hl27 encI_i64) (app_b2 hl27 encI_i64) ev ev rfl)) (.c (oP rfl rfl (op_fieldP (off' := 1) uU rfl ti26 (by decide) rfl ev rfl)) (.c (oP rfl rfl (op_storeO (cs' := [.own 5048 (List.map encApi_Range v19.2.2.1), .own 5049 (List.map encI_i64 l27), .own 5050 (List.map encI_i64 ([] : List Int))]) ti26 rfl rfl rfl ev ev)) .nil))))))))))) follows rfl rfl rfl ⟨⟨rfl, trivial⟩, trivial, ⟨rfl, trivial⟩, ⟨⟨rfl, rfl⟩, trivial⟩, ⟨rfl, trivial⟩, trivial, ⟨rfl, trivial⟩, trivial, ⟨rfl, rfl, trivial⟩, trivial, ⟨rfl, trivial⟩, trivial, ⟨rfl, trivial⟩, trivial, ⟨rfl, trivial⟩, trivial, ⟨rfl, rfl, trivial⟩, ⟨⟨rfl, rfl⟩, trivial⟩, ⟨rfl, trivial⟩, trivial, ⟨rfl, rfl, trivial⟩, ⟨⟨rfl, rfl⟩, ⟨rfl, rfl⟩, trivial⟩, trivial⟩ ⟨rfl, rfl, rfl, rfl, rfl, trivial⟩ ⟨rfl, rfl, rfl, rfl, rfl, trivial⟩ rfl ?_
   refine sr <| mv rfl rfl <| p10 (op_add ev (ec rfl) rfl) rfl <| av rfl rfl <| eO <| sq <| ?_
   refine sr <| mv rfl rfl <| mv rfl rfl <| p10 (op_lenM uU ev rfl) rfl <| p20 (op_geq ev ev rfl) rfl rfl <| eO <| ?_
   refine ifS hF (fun hc28 hF => ?_) (fun hc28 hF => ?_)
   · refine cT hc28 rfl <| sr <| p00 (op_build (zs := [vI 0, vI 0, vI 0, vI 0, vI 0, vI 0, vS ByteArray.empty, vS ByteArray.empty, .sl 1 (List.map encS ([] : (List ByteArray))), .sl 2 (List.map encApi_Range ([] : (List Api_Range))), .sl 1 (List.map encI_i64 ([] : (List Int))), .sl 1 (List.map encI_i64 ([] : (List Int))), vB false]) (ds := [vI 0, vI 0, vI 0, vI 0, vI 0, vI 0, vS ByteArray.empty, vS ByteArray.empty, .sl 1 (List.map encS ([] : (List ByteArray))), .sl 2 (List.map encApi_Range ([] : (List Api_Range))), .sl 1 (List.map encI_i64 ([] : (List Int))), .sl 1 (List.map encI_i64 ([] : (List Int))), vB false]) uU ti71 (pl71 _ uU) ⟨.v _ rfl, .v _ rfl, .v _ rfl, .v _ rfl, .v _ rfl, .v _ rfl, .v _ rfl, .v _ rfl, .n 1, .n 2, .n 1, .n 1, .v _ rfl, trivial⟩ .nil rfl rfl) <| w21 (op_storeAM ti71 rfl ev ev) rfl rfl rfl <| eO <| ?_
     cases hF
     exact G.ret1 Tryz.results68 (RVar.cellA (ds := [vI 0, vI 0, vI 0, vI 0, vI 0, vI 0, vS ByteArray.empty, vS ByteArray.empty, .sl 1 (List.map encS ([] : (List ByteArray))), .sl 2 (List.map encApi_Range ([] : (List Api_Range))), .sl 1 (List.map encI_i64 ([] : (List Int))), .sl 1 (List.map encI_i64 ([] : (List Int))), vB false]) uU rfl ti71 rfl) z1 z1
   refine cF hc28 rfl <| sk <| sq <| sr <| mv rfl rfl <| mv rfl rfl <| ?_
   refine bn hF fun x29 hx29 hF => p20 (op_indexM hx29 uU ti9 ev ev rfl) rfl rfl <| p10 (op_load1E uU rfl rfl ev rfl) rfl <| p10 (op_eqS ev (ec rfl) rfl) rfl <| eO <| ?_
   refine ifS hF (fun hc30 hF => ?_) (fun hc30 hF => ?_)
   · refine cT hc30 rfl <| sr <| p10 (op_fieldP (off' := 0) uU rfl ti25 (by decide) rfl ev rfl) rfl <| p11 (op_load1P uU rfl rfl ev rfl) rfl rfl <| mv rfl rfl <| p10 (op_build (zs := [vS ByteArray.empty, vS ByteArray.empty]) (ds := [vS v19.2.1, vS ByteArray.empty]) uU ti39 (pl39 _ uU) ⟨.v _ rfl, .v _ rfl, trivial⟩ (.cons ev .nil) rfl rfl) rfl <| ?_
     refine p10 (op_buildSlice (es := List.map encApi_Range [(Api_Range.mk v19.2.1 ByteArray.empty)]) uU ti39 rfl rfl (.cons ev .nil) rfl rfl (by simp [encApi_Range]) rfl) rfl <| bn hF fun l31 hl31 hF => q21 (op_appendO uU ti39 rfl (app_map hl31 encApi_Range) (app_b1 hl31 encApi_Range) (app_b2 hl31 encApi_Range) ev ev rfl) rfl rfl rfl <| p10 (op_fieldP (off' := 0) uU rfl ti25 (by decide) rfl ev rfl) rfl <| w22 (op_storeO (cs' := [.own 5048 (List.map encApi_Range l31), .own 5049 (List.map encI_i64 l27), .own 5050 (List.map encI_i64 ([] : List Int))]) ti25 rfl rfl rfl ev ev) rfl rfl rfl rfl <| esr <| ?_
     refine mv rfl rfl <| p10 (op_add ev (ec rfl) rfl) rfl <| av rfl rfl <| eO <| ex <| ?_
     refine GX.c ?_
     refine GX.bNo rfl ?_
     refine GX.q ?_
     refine xY <| ?_
     exact G.arr (J18 (IntKind.wrap .i64 ((IntKind.wrap .i64 (v19.1 + 1)) + 1), l31, l27) hF) z4 z5 rfl
   refine cF hc30 rfl <| sk <| sr <| mv rfl rfl <| mv rfl rfl <| bn hF fun x32 hx32 hF => ?_
   refine p20 (op_indexM hx32 uU ti9 ev ev rfl) rfl rfl <| p10 (op_load1E uU rfl rfl ev rfl) rfl <| bn hF fun r33 hr33 hF => p10 (op_callQ cf70 (ct_ref24_text _ _ hr33) rfl rfl (.cons qe .nil) rfl) rfl <| p10 (op_moveS (t := 61) (sv := .tup [bS r33.1, bB r33.2]) rfl) rfl <| p10 (op_extract rfl rfl) rfl <| ?_
   refine p10 (op_extract rfl rfl) rfl <| av rfl rfl <| av rfl rfl <| eO <| sq <| sr <| ?_
   refine mv rfl rfl <| p10 (op_not ev rfl) rfl <| eO <| ?_
   refine ifS hF (fun hc34 hF => ?_) (fun hc34 hF => ?_)
   · refine cT hc34 rfl <| sr <| p00 (op_build (zs := [vI 0, vI 0, vI 0, vI 0, vI 0, vI 0, vS ByteArray.empty, vS ByteArray.empty, .sl 1 (List.map encS ([] : (List ByteArray))), .sl 2 (List.map encApi_Range ([] : (List Api_Range))), .sl 1 (List.map encI_i64 ([] : (List Int))), .sl 1 (List.map encI_i64 ([] : (List Int))), vB false]) (ds := [vI 0, vI 0, vI 0, vI 0, vI 0, vI 0, vS ByteArray.empty, vS ByteArray.empty, .sl 1 (List.map encS ([] : (List ByteArray))), .sl 2 (List.map encApi_Range ([] : (List Api_Range))), .sl 1 (List.map encI_i64 ([] : (List Int))), .sl 1 (List.map encI_i64 ([] : (List Int))), vB false]) uU ti71 (pl71 _ uU) ⟨.v _ rfl, .v _ rfl, .v _ rfl, .v _ rfl, .v _ rfl, .v _ rfl, .v _ rfl, .v _ rfl, .n 1, .n 2, .n 1, .n 1, .v _ rfl, trivial⟩ .nil rfl rfl) <| w21 (op_storeAM ti71 rfl ev ev) rfl rfl rfl <| eO <| ?_
     cases hF
     exact G.ret1 Tryz.results68 (RVar.cellA (ds := [vI 0, vI 0, vI 0, vI 0, vI 0, vI 0, vS ByteArray.empty, vS ByteArray.empty, .sl 1 (List.map encS ([] : (List ByteArray))), .sl 2 (List.map encApi_Range ([] : (List Api_Range))), .sl 1 (List.map encI_i64 ([] : (List Int))), .sl 1 (List.map encI_i64 ([] : (List Int))), vB false]) uU rfl ti71 rfl) z1 z1
   refine cF hc34 rfl <| sk <| sr <| p10 (op_fieldP (off' := 0) uU rfl ti25 (by decide) rfl ev rfl) rfl <| p11 (op_load1P uU rfl rfl ev rfl) rfl rfl <| mv rfl rfl <| ?_
   refine mv rfl rfl <| p20 (op_build (zs := [vS ByteArray.empty, vS ByteArray.empty]) (ds := [vS v19.2.1, vS r33.1]) uU ti39 (pl39 _ uU) ⟨.v _ rfl, .v _ rfl, trivial⟩ (.cons ev (.cons ev .nil)) rfl rfl) rfl rfl <| p10 (op_buildSlice (es := List.map encApi_Range [(Api_Range.mk v19.2.1 r33.1)]) uU ti39 rfl rfl (.cons ev .nil) rfl rfl (by simp [encApi_Range]) rfl) rfl <| bn hF fun l35 hl35 hF => q21 (op_appendO uU ti39 rfl (app_map hl35 encApi_Range) (app_b1 hl35 encApi_Range) (app_b2 hl35 encApi_Range) ev ev rfl) rfl rfl rfl <| p10 (op_fieldP (off' := 0) uU rfl ti25 (by decide) rfl ev rfl) rfl <| ?_
   refine w22 (op_storeO (cs' := [.own 5048 (List.map encApi_Range l35), .own 5049 (List.map encI_i64 l27), .own 5050 (List.map encI_i64 ([] : List Int))]) ti25 rfl rfl rfl ev ev) rfl rfl rfl rfl <| esr <| mv rfl rfl <| av rfl rfl <| eO <| rg <| ?_
   refine mv rfl rfl <| p10 (op_add ev (ec rfl) rfl) rfl <| av rfl rfl <| eO <| eB <| ?_
   exact G.arr (J20 (IntKind.wrap .i64 ((IntKind.wrap .i64 (v19.1 + 1)) + 1), r33.1, l35, l27) hF) z5 z5 rfl
 refine rg <| mv rfl rfl <| mv rfl rfl <| p10 (op_lenM uU ev rfl) rfl <| p20 (op_geq ev ev rfl) rfl rfl <| mv rfl rfl <| ?_
 refine ifS hF (fun hc37 hF => ?_) (fun hc37 hF => ?_)
 · refine G.known (t := 16) hc37 rfl <| oN rfl rfl rfl <| oN rfl rfl rfl <| oN rfl rfl rfl <| oN rfl rfl rfl <| oN rfl rfl rfl <| ?_
   refine oN rfl rfl rfl <| p10 (op_pickT ev (ec rfl) rfl) rfl <| eO <| ?_
   exact G.arr (J36 true hF) z6 z5 rfl
 refine G.known (t := 16) hc37 rfl <| g10 (op_move ev rfl) rfl rfl rfl <| g10 (op_move ev rfl) rfl rfl rfl <| bn hF fun x38 hx38 hF => g20 (op_indexM hx38 uU ti9 ev ev rfl) rfl rfl rfl rfl <| g10 (op_load1E uU rfl rfl ev rfl) rfl rfl rfl <| ?_
 refine bn hF fun r39 hr39 hF => g10 (op_callQ cf69 (ct_ref24_number _ _ hr39) rfl rfl (.cons qe .nil) rfl) rfl rfl rfl <| g10 (op_lss ev (ec rfl) rfl) rfl rfl rfl <| p20 (op_pickF ev ev rfl) rfl rfl <| eO <| ?_
 exact G.arr (J36 (decide (r39 < 0)) hF) z6 z5 rfl


theorem ct_ref24_step (w_0 : (List ByteArray)) (r : Ref24_Step) (hF : ref24_step w_0 = some r) : Ct Tryz.prog 43 [.g (.d (.sl 1 (List.map encS w_0)))] (.one (.agg (encRef24_Step r))) := by
 unfold ref24_step at hF
 refine Ct.intro Tryz.func43 rfl Tryz.ntmps43 rfl rfl fun M w => ?_
 refine sr <| q01 (op_alloc (k := 1002) (cs := [bI .i64 0, bI .i64 0, bI .i64 0, bI .i64 0, bI .i64 0, bI .i64 0, bS ByteArray.empty, bS ByteArray.empty, .g (.d (.sl 1 (List.map encS ([] : (List ByteArray))))), .g (.d (.sl 2 (List.map encApi_Range ([] : (List Api_Range))))), .g (.d (.sl 1 (List.map encI_i64 ([] : (List Int))))), .g (.d (.sl 1 (List.map encI_i64 ([] : (List Int))))), bB false]) ti71 ⟨.v _ rfl, .v _ rfl, .v _ rfl, .v _ rfl, .v _ rfl, .v _ rfl, .v _ rfl, .v _ rfl, .n 1, .n 2, .n 1, .n 1, .v _ rfl, trivial⟩ rfl) rfl <| esr <| ac rfl rfl <| esr <| bn hF fun r1 hr1 hF => ?_
 refine p00 (op_call cf44 (ct_ref24_names _ hr1) rfl .nil rfl) <| q01 (op_alloc (k := 1004) (cs := dat (List.flatMap encS (List.replicate 13 ByteArray.empty))) ti73 ⟨.v _ rfl, .v _ rfl, .v _ rfl, .v _ rfl, .v _ rfl, .v _ rfl, .v _ rfl, .v _ rfl, .v _ rfl, .v _ rfl, .v _ rfl, .v _ rfl, .v _ rfl, trivial⟩ rfl) rfl <| ?_
 have hl_r1 : r1.length = 13 := by (unfold ref24_names at hr1; cases hr1; rfl)
 refine w21 (op_storeW ti73 (by rw [flat_len (size := 1) (fun _ => rfl) r1, hl_r1]) rfl ev ev) rfl rfl rfl <| eO <| sq <| sr <| ac rfl rfl <| eO <| ?_
 refine G.joinC (T := Int) (fun y2 => ⟨[(0, .one (.g (.d (.sl 1 (List.map encS w_0))))), (2, .one (.ptr 1002 0)), (3, oI y2)], [(1002, some (.blk 71 [bI .i64 0, bI .i64 0, bI .i64 0, bI .i64 0, bI .i64 0, bI .i64 0, bS ByteArray.empty, bS ByteArray.empty, .g (.d (.sl 1 (List.map encS ([] : (List ByteArray))))), .g (.d (.sl 2 (List.map encApi_Range ([] : (List Api_Range))))), .g (.d (.sl 1 (List.map encI_i64 ([] : (List Int))))), .g (.d (.sl 1 (List.map encI_i64 ([] : (List Int))))), bB false]))]⟩) (fun y2 => ref24_step_k1 w_0 y2 = some r) (fun y2 hF => ?_) (fun J74 => ?_)
 · unfold ref24_step_k1 at hF
   refine sq <| sr <| mv rfl rfl <| p10 (op_eqI ev (ec rfl) rfl) rfl <| eO <| ?_
   refine ifS hF (fun hc3 hF => ?_) (fun hc3 hF => ?_)
   · refine cT hc3 rfl <| sr <| mv rfl rfl <| bn hF fun l4 hl4 hF => p10 (op_sliceD (lo := some 1) (hi := none) uU ti9 (sub_okE hl4 encS).1 (sub_okE hl4 encS).2.1 (Int.le_refl _) (sub_okE hl4 encS).2.2 ev (.some (ec rfl)) .none rfl) rfl <| bn hF fun r5 hr5 hF => ?_
     refine p10 (op_call cf68 (ct_ref24_row _ _ hr5) rfl (.cons ev .nil) rfl) rfl <| w21 (op_storeAM ti71 rfl ev ev) rfl rfl rfl <| eO <| ?_
     have hF := Option.some.inj hF; subst hF
     exact G.ret1 Tryz.results43 (RVar.cellA (ds := [vI r5.O.Kind, vI r5.O.Client, vI r5.O.Site, vI r5.O.To, vI r5.O.At, vI r5.O.How, vS r5.O.Key, vS r5.O.Value, .sl 1 (List.map encS r5.O.Keys), .sl 2 (List.map encApi_Range r5.O.Row.Ranges), .sl 1 (List.map encI_i64 r5.O.Row.Owners), .sl 1 (List.map encI_i64 r5.O.Row.Parents), vB r5.Is]) uU rfl ti71 rfl) z1 z1
   refine cF hc3 rfl <| sk <| sr <| p00 (op_buildA (zs := [vI 0, vI 0, vI 0, vI 0, vI 0, vI 0, vI 0, vI 0, vI 0, vI 0, vI 0, vI 0, vI 0]) (ds := List.flatMap encI_i64 [0, 1, 1, 1, 1, 2, 1, 1, 4, 2, 1, 0, 0]) uU ti97 ti3 ⟨.v _ rfl, .v _ rfl, .v _ rfl, .v _ rfl, .v _ rfl, .v _ rfl, .v _ rfl, .v _ rfl, .v _ rfl, .v _ rfl, .v _ rfl, .v _ rfl, .v _ rfl, trivial⟩ (.cons (ec rfl) (.cons (ec rfl) (.cons (ec rfl) (.cons (ec rfl) (.cons (ec rfl) (.cons (ec rfl) (.cons (ec rfl) (.cons (ec rfl) (.cons (ec rfl) (.cons (ec rfl) (.cons (ec rfl) (.cons (ec rfl) (.cons (ec rfl) .nil))))))))))))) rfl rfl) <| q01 (op_alloc (k := 1006) (cs := dat (List.flatMap encI_i64 (List.replicate 13 0))) ti97 ⟨.v _ rfl, .v _ rfl, .v _ rfl, .v _ rfl, .v _ rfl, .v _ rfl, .v _ rfl, .v _ rfl, .v _ rfl, .v _ rfl, .v _ rfl, .v _ rfl, .v _ rfl, trivial⟩ rfl) rfl <| w21 (op_storeA (ds := List.flatMap encI_i64 ([0, 1, 1, 1, 1, 2, 1, 1, 4, 2, 1, 0, 0])) (cs' := dat (List.flatMap encI_i64 ([0, 1, 1, 1, 1, 2, 1, 1, 4, 2, 1, 0, 0]))) ti97 rfl rfl ev ev) rfl rfl rfl <| ?_
   refine esr <| p00 (op_buildA (zs := [vI 0, vI 0, vI 0, vI 0, vI 0, vI 0, vI 0, vI 0, vI 0, vI 0, vI 0, vI 0, vI 0]) (ds := List.flatMap encI_i64 [0, 2, 1, 1, 0, 0, 0, 0, 0, 0, 0, 0, 0]) uU ti97 ti3 ⟨.v _ rfl, .v _ rfl, .v _ rfl, .v _ rfl, .v _ rfl, .v _ rfl, .v _ rfl, .v _ rfl, .v _ rfl, .v _ rfl, .v _ rfl, .v _ rfl, .v _ rfl, trivial⟩ (.cons (ec rfl) (.cons (ec rfl) (.cons (ec rfl) (.cons (ec rfl) (.cons (ec rfl) (.cons (ec rfl) (.cons (ec rfl) (.cons (ec rfl) (.cons (ec rfl) (.cons (ec rfl) (.cons (ec rfl) (.cons (ec rfl) (.cons (ec rfl) .nil))))))))))))) rfl rfl) <| q01 (op_alloc (k := 1007) (cs := dat (List.flatMap encI_i64 (List.replicate 13 0))) ti97 ⟨.v _ rfl, .v _ rfl, .v _ rfl, .v _ rfl, .v _ rfl, .v _ rfl, .v _ rfl, .v _ rfl, .v _ rfl, .v _ rfl, .v _ rfl, .v _ rfl, .v _ rfl, trivial⟩ rfl) rfl <| w21 (op_storeA (ds := List.flatMap encI_i64 ([0, 2, 1, 1, 0, 0, 0, 0, 0, 0, 0, 0, 0])) (cs' := dat (List.flatMap encI_i64 ([0, 2, 1, 1, 0, 0, 0, 0, 0, 0, 0, 0, 0]))) ti97 rfl rfl ev ev) rfl rfl rfl <| eO <| sq <| ?_
   refine sq <| ?_
   refine G.joinC (T := Bool) (fun y6 => ⟨[(0, .one (.g (.d (.sl 1 (List.map encS w_0))))), (2, .one (.ptr 1002 0)), (3, oI y2), (6, .one (.ptr 1006 0)), (62, oB y6)], [(1002, some (.blk 71 [bI .i64 0, bI .i64 0, bI .i64 0, bI .i64 0, bI .i64 0, bI .i64 0, bS ByteArray.empty, bS ByteArray.empty, .g (.d (.sl 1 (List.map encS ([] : (List ByteArray))))), .g (.d (.sl 2 (List.map encApi_Range ([] : (List Api_Range))))), .g (.d (.sl 1 (List.map encI_i64 ([] : (List Int))))), .g (.d (.sl 1 (List.map encI_i64 ([] : (List Int))))), bB false])), (1006, some (.blk 97 (dat (List.flatMap encI_i64 ([0, 1, 1, 1, 1, 2, 1, 1, 4, 2, 1, 0, 0])))))]⟩) (fun y6 => ref24_step_k2 w_0 y2 y6 = some r) (fun y6 hF => ?_) (fun J66 => ?_)
   · unfold ref24_step_k2 at hF
     refine ifS hF (fun hc7 hF => ?_) (fun hc7 hF => ?_)
     · refine cT hc7 rfl <| sr <| p00 (op_build (zs := [vI 0, vI 0, vI 0, vI 0, vI 0, vI 0, vS ByteArray.empty, vS ByteArray.empty, .sl 1 (List.map encS ([] : (List ByteArray))), .sl 2 (List.map encApi_Range ([] : (List Api_Range))), .sl 1 (List.map encI_i64 ([] : (List Int))), .sl 1 (List.map encI_i64 ([] : (List Int))), vB false]) (ds := [vI 0, vI 0, vI 0, vI 0, vI 0, vI 0, vS ByteArray.empty, vS ByteArray.empty, .sl 1 (List.map encS ([] : (List ByteArray))), .sl 2 (List.map encApi_Range ([] : (List Api_Range))), .sl 1 (List.map encI_i64 ([] : (List Int))), .sl 1 (List.map encI_i64 ([] : (List Int))), vB false]) uU ti71 (pl71 _ uU) ⟨.v _ rfl, .v _ rfl, .v _ rfl, .v _ rfl, .v _ rfl, .v _ rfl, .v _ rfl, .v _ rfl, .n 1, .n 2, .n 1, .n 1, .v _ rfl, trivial⟩ .nil rfl rfl) <| w21 (op_storeAM ti71 rfl ev ev) rfl rfl rfl <| eO <| ?_
       cases hF
       exact G.ret1 Tryz.results43 (RVar.cellA (ds := [vI 0, vI 0, vI 0, vI 0, vI 0, vI 0, vS ByteArray.empty, vS ByteArray.empty, .sl 1 (List.map encS ([] : (List ByteArray))), .sl 2 (List.map encApi_Range ([] : (List Api_Range))), .sl 1 (List.map encI_i64 ([] : (List Int))), .sl 1 (List.map encI_i64 ([] : (List Int))), vB false]) uU rfl ti71 rfl) z1 z1
     refine cF hc7 rfl <| sk <| sr <| q01 (op_alloc (k := 1008) (cs := dat (List.flatMap encI_i64 (List.replicate 4 0))) ti98 ⟨.v _ rfl, .v _ rfl, .v _ rfl, .v _ rfl, trivial⟩ rfl) rfl <| eO <| sq <| ?_
     refine sr <| ac rfl rfl <| eO <| ?_
     refine G.joinC (T := (List Int)) (fun y8 => ⟨[(0, .one (.g (.d (.sl 1 (List.map encS w_0))))), (2, .one (.ptr 1002 0)), (3, oI y2), (6, .one (.ptr 1006 0)), (8, .one (.ptr 1008 0))], [(1002, some (.blk 71 [bI .i64 0, bI .i64 0, bI .i64 0, bI .i64 0, bI .i64 0, bI .i64 0, bS ByteArray.empty, bS ByteArray.empty, .g (.d (.sl 1 (List.map encS ([] : (List ByteArray))))), .g (.d (.sl 2 (List.map encApi_Range ([] : (List Api_Range))))), .g (.d (.sl 1 (List.map encI_i64 ([] : (List Int))))), .g (.d (.sl 1 (List.map encI_i64 ([] : (List Int))))), bB false])), (1006, some (.blk 97 (dat (List.flatMap encI_i64 ([0, 1, 1, 1, 1, 2, 1, 1, 4, 2, 1, 0, 0]))))), (1008, some (.blk 98 (dat (List.flatMap encI_i64 y8))))]⟩) (fun y8 => ref24_step_k3 w_0 y2 y8 = some r) (fun y8 hF => ?_) (fun J53 => ?_)
     · unfold ref24_step_k3 at hF
       refine sr <| q01 (op_assignRow (E := 9) (size := 1) (k := 2010) (ex := false) rfl rfl) rfl <| eO <| sq <| sr <| mv rfl rfl <| ?_
       refine bn hF fun x9 hx9 hF => p20 (op_indexA uU ti3 (aidx_ok hx9).1 (aidx_ok hx9).2.1 ev ev rfl) rfl rfl <| p11 (op_load1P uU rfl (arr_at1 hx9 (fun _ => rfl) rfl) ev rfl) rfl rfl <| p10 (op_add (ec rfl) ev rfl) rfl <| av rfl rfl <| eO <| ?_
       refine G.joinC (T := (List ByteArray)) (fun y10 => ⟨[(2, .one (.ptr 1002 0)), (3, oI y2), (8, .one (.ptr 1008 0)), (10, .one (.own 2010 (List.map encS y10)))], [(1002, some (.blk 71 [bI .i64 0, bI .i64 0, bI .i64 0, bI .i64 0, bI .i64 0, bI .i64 0, bS ByteArray.empty, bS ByteArray.empty, .g (.d (.sl 1 (List.map encS ([] : (List ByteArray))))), .g (.d (.sl 2 (List.map encApi_Range ([] : (List Api_Range))))), .g (.d (.sl 1 (List.map encI_i64 ([] : (List Int))))), .g (.d (.sl 1 (List.map encI_i64 ([] : (List Int))))), bB false])), (1008, some (.blk 98 (dat (List.flatMap encI_i64 y8)))), (2010, some (.row 9 1 (List.map encS y10) false))]⟩) (fun y10 => ref24_step_k4 y2 y8 y10 = some r) (fun y10 hF => ?_) (fun J43 => ?_)
       · unfold ref24_step_k4 at hF
         refine sr <| mv rfl rfl <| p10 (op_build (zs := [vI 0, vI 0, vI 0, vI 0, vI 0, vI 0, vS ByteArray.empty, vS ByteArray.empty, .sl 1 (List.map encS ([] : (List ByteArray))), .sl 2 (List.map encApi_Range ([] : (List Api_Range))), .sl 1 (List.map encI_i64 ([] : (List Int))), .sl 1 (List.map encI_i64 ([] : (List Int)))]) (ds := [vI y2, vI 0, vI 0, vI 0, vI 0, vI 0, vS ByteArray.empty, vS ByteArray.empty, .sl 1 (List.map encS ([] : (List ByteArray))), .sl 2 (List.map encApi_Range ([] : (List Api_Range))), .sl 1 (List.map encI_i64 ([] : (List Int))), .sl 1 (List.map encI_i64 ([] : (List Int)))]) uU ti30 (pl30 _ uU) ⟨.v _ rfl, .v _ rfl, .v _ rfl, .v _ rfl, .v _ rfl, .v _ rfl, .v _ rfl, .v _ rfl, .n 1, .n 2, .n 1, .n 1, trivial⟩ (.cons ev .nil) rfl rfl) rfl <| q01 (op_alloc (k := 1014) (cs := [bI .i64 0, bI .i64 0, bI .i64 0, bI .i64 0, bI .i64 0, bI .i64 0, bS ByteArray.empty, bS ByteArray.empty, .g (.d (.sl 1 (List.map encS ([] : (List ByteArray))))), .g (.d (.sl 2 (List.map encApi_Range ([] : (List Api_Range))))), .g (.d (.sl 1 (List.map encI_i64 ([] : (List Int))))), .g (.d (.sl 1 (List.map encI_i64 ([] : (List Int)))))]) ti30 ⟨.v _ rfl, .v _ rfl, .v _ rfl, .v _ rfl, .v _ rfl, .v _ rfl, .v _ rfl, .v _ rfl, .n 1, .n 2, .n 1, .n 1, trivial⟩ rfl) rfl <| w21 (op_storeAM ti30 rfl ev ev) rfl rfl rfl <| eO <| ?_
         refine sq <| sr <| mv rfl rfl <| eO <| bl <| sr <| ?_
         refine p10 (op_eqI ev (ec rfl) rfl) rfl <| av rfl rfl <| eO <| ?_
         refine G.joinC (T := Int × Int × Int × Int × Int × ByteArray × ByteArray × (List ByteArray)) (fun y11 => ⟨[(2, .one (.ptr 1002 0)), (14, .one (.ptr 1014 0))], [(1002, some (.blk 71 [bI .i64 0, bI .i64 0, bI .i64 0, bI .i64 0, bI .i64 0, bI .i64 0, bS ByteArray.empty, bS ByteArray.empty, .g (.d (.sl 1 (List.map encS ([] : (List ByteArray))))), .g (.d (.sl 2 (List.map encApi_Range ([] : (List Api_Range))))), .g (.d (.sl 1 (List.map encI_i64 ([] : (List Int))))), .g (.d (.sl 1 (List.map encI_i64 ([] : (List Int))))), bB false])), (1014, some (.blk 30 [bI .i64 y2, bI .i64 y11.1, bI .i64 y11.2.1, bI .i64 y11.2.2.1, bI .i64 y11.2.2.2.1, bI .i64 y11.2.2.2.2.1, bS y11.2.2.2.2.2.1, bS y11.2.2.2.2.2.2.1, .g (.d (.sl 1 (List.map encS y11.2.2.2.2.2.2.2))), .g (.d (.sl 2 (List.map encApi_Range ([] : (List Api_Range))))), .g (.d (.sl 1 (List.map encI_i64 ([] : (List Int))))), .g (.d (.sl 1 (List.map encI_i64 ([] : (List Int)))))]))]⟩) (fun y11 => ref24_step_k5 y2 y11 = some r) (fun y11 hF => ?_) (fun J12 => ?_)
         · unfold ref24_step_k5 at hF
           refine eB <| sr <| p11 (op_loadAP (ds := [vI y2, vI y11.1, vI y11.2.1, vI y11.2.2.1, vI y11.2.2.2.1, vI y11.2.2.2.2.1, vS y11.2.2.2.2.2.1, vS y11.2.2.2.2.2.2.1, .sl 1 (List.map encS y11.2.2.2.2.2.2.2), .sl 2 (List.map encApi_Range ([] : (List Api_Range))), .sl 1 (List.map encI_i64 ([] : (List Int))), .sl 1 (List.map encI_i64 ([] : (List Int)))]) uU rfl ti30 rfl ev rfl) rfl rfl <| p10 (op_fieldP (off' := 8) uU rfl ti24 (by decide) rfl ev rfl) rfl <| p11 (op_load1P uU rfl rfl ev rfl) rfl rfl <| p10 (op_lenM uU ev rfl) rfl <| ?_
           refine p10 (op_leq ev (ec rfl) rfl) rfl <| p20 (op_build (zs := [vI 0, vI 0, vI 0, vI 0, vI 0, vI 0, vS ByteArray.empty, vS ByteArray.empty, .sl 1 (List.map encS ([] : (List ByteArray))), .sl 2 (List.map encApi_Range ([] : (List Api_Range))), .sl 1 (List.map encI_i64 ([] : (List Int))), .sl 1 (List.map encI_i64 ([] : (List Int))), vB false]) (ds := [vI y2, vI y11.1, vI y11.2.1, vI y11.2.2.1, vI y11.2.2.2.1, vI y11.2.2.2.2.1, vS y11.2.2.2.2.2.1, vS y11.2.2.2.2.2.2.1, .sl 1 (List.map encS y11.2.2.2.2.2.2.2), .sl 2 (List.map encApi_Range ([] : (List Api_Range))), .sl 1 (List.map encI_i64 ([] : (List Int))), .sl 1 (List.map encI_i64 ([] : (List Int))), vB (decide ((y11.2.2.2.2.2.2.2.length : Int) ≤ 8))]) uU ti71 (pl71 _ uU) ⟨.v _ rfl, .v _ rfl, .v _ rfl, .v _ rfl, .v _ rfl, .v _ rfl, .v _ rfl, .v _ rfl, .n 1, .n 2, .n 1, .n 1, .v _ rfl, trivial⟩ (.cons ev (.cons ev .nil)) rfl rfl) rfl rfl <| w21 (op_storeAM ti71 rfl ev ev) rfl rfl rfl <| eO <| ?_
           cases hF
           exact G.ret1 Tryz.results43 (RVar.cellA (ds := [vI y2, vI y11.1, vI y11.2.1, vI y11.2.2.1, vI y11.2.2.2.1, vI y11.2.2.2.2.1, vS y11.2.2.2.2.2.1, vS y11.2.2.2.2.2.2.1, .sl 1 (List.map encS y11.2.2.2.2.2.2.2), .sl 2 (List.map encApi_Range ([] : (List Api_Range))), .sl 1 (List.map encI_i64 ([] : (List Int))), .sl 1 (List.map encI_i64 ([] : (List Int))), vB (decide ((y11.2.2.2.2.2.2.2.length : Int) ≤ 8))]) uU rfl ti71 rfl) z1 z1
         refine ifS hF (fun hc13 hF => ?_) (fun hc13 hF => ?_)
         · refine cT hc13 rfl <| sr <| bn hF fun x14 hx14 hF => p10 (op_indexA uU ti3 (aidx_ok hx14).1 (aidx_ok hx14).2.1 ev (ec rfl) rfl) rfl <| p11 (op_load1P uU rfl (arr_at1 hx14 (fun _ => rfl) rfl) ev rfl) rfl rfl <| p10 (op_fieldP (off' := 1) uU rfl ti3 (by decide) rfl ev rfl) rfl <| ?_
           refine w21 (op_store1M sgd ti3 rfl ev ev) rfl rfl rfl <| esr <| mv rfl rfl <| ?_
           refine G.view (t := 117) rfl rfl ?_
           refine bn hF fun x15 hx15 hF => p10 (op_indexM hx15 uU ti9 ev (ec rfl) rfl) rfl <| p10 (op_load1E uU rfl rfl ev rfl) rfl <| p10 (op_fieldP (off' := 6) uU rfl ti9 (by decide) rfl ev rfl) rfl <| w21 (op_store1M sgd ti9 rfl ev ev) rfl rfl rfl <| eO <| ?_
           refine rg <| mv rfl rfl <| ?_
           refine G.view (t := 121) rfl rfl ?_
           refine bn hF fun x16 hx16 hF => p10 (op_indexM hx16 uU ti9 ev (ec rfl) rfl) rfl <| p10 (op_load1E uU rfl rfl ev rfl) rfl <| p10 (op_fieldP (off' := 7) uU rfl ti9 (by decide) rfl ev rfl) rfl <| w21 (op_store1M sgd ti9 rfl ev ev) rfl rfl rfl <| eO <| ?_
           exact G.arr (J12 (x14, 0, 0, 0, 0, x15, x16, ([] : (List ByteArray))) hF) z2 z2 rfl
         refine cF hc13 rfl <| sq <| sr <| p10 (op_eqI ev (ec rfl) rfl) rfl <| av rfl rfl <| eO <| ?_
         refine G.joinC (T := Bool) (fun y17 => ⟨[(2, .one (.ptr 1002 0)), (8, .one (.ptr 1008 0)), (10, .one (.own 2010 (List.map encS y10))), (14, .one (.ptr 1014 0)), (111, oI y2), (125, oB y17)], [(1002, some (.blk 71 [bI .i64 0, bI .i64 0, bI .i64 0, bI .i64 0, bI .i64 0, bI .i64 0, bS ByteArray.empty, bS ByteArray.empty, .g (.d (.sl 1 (List.map encS ([] : (List ByteArray))))), .g (.d (.sl 2 (List.map encApi_Range ([] : (List Api_Range))))), .g (.d (.sl 1 (List.map encI_i64 ([] : (List Int))))), .g (.d (.sl 1 (List.map encI_i64 ([] : (List Int))))), bB false])), (1008, some (.blk 98 (dat (List.flatMap encI_i64 y8)))), (1014, some (.blk 30 [bI .i64 y2, bI .i64 0, bI .i64 0, bI .i64 0, bI .i64 0, bI .i64 0, bS ByteArray.empty, bS ByteArray.empty, .g (.d (.sl 1 (List.map encS ([] : (List ByteArray))))), .g (.d (.sl 2 (List.map encApi_Range ([] : (List Api_Range))))), .g (.d (.sl 1 (List.map encI_i64 ([] : (List Int))))), .g (.d (.sl 1 (List.map encI_i64 ([] : (List Int)))))])), (2010, some (.row 9 1 (List.map encS y10) false))]⟩) (fun y17 => ref24_step_k6 y2 y8 y10 y17 = some r) (fun y17 hF => ?_) (fun J41 => ?_)
         · unfold ref24_step_k6 at hF
           refine ifS hF (fun hc18 hF => ?_) (fun hc18 hF => ?_)
           · refine cT hc18 rfl <| sr <| bn hF fun x19 hx19 hF => p10 (op_indexA uU ti3 (aidx_ok hx19).1 (aidx_ok hx19).2.1 ev (ec rfl) rfl) rfl <| p11 (op_load1P uU rfl (arr_at1 hx19 (fun _ => rfl) rfl) ev rfl) rfl rfl <| p10 (op_fieldP (off' := 1) uU rfl ti3 (by decide) rfl ev rfl) rfl <| ?_
             refine w21 (op_store1M sgd ti3 rfl ev ev) rfl rfl rfl <| eO <| rg <| mv rfl rfl <| ?_
             refine G.view (t := 131) rfl rfl ?_
             refine bn hF fun x20 hx20 hF => p10 (op_indexM hx20 uU ti9 ev (ec rfl) rfl) rfl <| p10 (op_load1E uU rfl rfl ev rfl) rfl <| p10 (op_fieldP (off' := 6) uU rfl ti9 (by decide) rfl ev rfl) rfl <| w21 (op_store1M sgd ti9 rfl ev ev) rfl rfl rfl <| eO <| ?_
             exact G.arr (J12 (x19, 0, 0, 0, 0, x20, ByteArray.empty, ([] : (List ByteArray))) hF) z2 z2 rfl
           refine cF hc18 rfl <| sq <| sr <| p10 (op_eqI ev (ec rfl) rfl) rfl <| av rfl rfl <| eO <| ?_
           refine G.joinC (T := Bool) (fun y21 => ⟨[(2, .one (.ptr 1002 0)), (8, .one (.ptr 1008 0)), (10, .one (.own 2010 (List.map encS y10))), (14, .one (.ptr 1014 0)), (111, oI y2), (135, oB y21)], [(1002, some (.blk 71 [bI .i64 0, bI .i64 0, bI .i64 0, bI .i64 0, bI .i64 0, bI .i64 0, bS ByteArray.empty, bS ByteArray.empty, .g (.d (.sl 1 (List.map encS ([] : (List ByteArray))))), .g (.d (.sl 2 (List.map encApi_Range ([] : (List Api_Range))))), .g (.d (.sl 1 (List.map encI_i64 ([] : (List Int))))), .g (.d (.sl 1 (List.map encI_i64 ([] : (List Int))))), bB false])), (1008, some (.blk 98 (dat (List.flatMap encI_i64 y8)))), (1014, some (.blk 30 [bI .i64 y2, bI .i64 0, bI .i64 0, bI .i64 0, bI .i64 0, bI .i64 0, bS ByteArray.empty, bS ByteArray.empty, .g (.d (.sl 1 (List.map encS ([] : (List ByteArray))))), .g (.d (.sl 2 (List.map encApi_Range ([] : (List Api_Range))))), .g (.d (.sl 1 (List.map encI_i64 ([] : (List Int))))), .g (.d (.sl 1 (List.map encI_i64 ([] : (List Int)))))])), (2010, some (.row 9 1 (List.map encS y10) false))]⟩) (fun y21 => ref24_step_k7 y2 y8 y10 y21 = some r) (fun y21 hF => ?_) (fun J39 => ?_)
           · unfold ref24_step_k7 at hF
             refine ifS hF (fun hc22 hF => ?_) (fun hc22 hF => ?_)
             · refine cT hc22 rfl <| rg <| bn hF fun x23 hx23 hF => p10 (op_indexA uU ti3 (aidx_ok hx23).1 (aidx_ok hx23).2.1 ev (ec rfl) rfl) rfl <| p11 (op_load1P uU rfl (arr_at1 hx23 (fun _ => rfl) rfl) ev rfl) rfl rfl <| p10 (op_fieldP (off' := 1) uU rfl ti3 (by decide) rfl ev rfl) rfl <| ?_
               refine w21 (op_store1M sgd ti3 rfl ev ev) rfl rfl rfl <| eO <| ?_
               exact G.arr (J12 (x23, 0, 0, 0, 0, ByteArray.empty, ByteArray.empty, ([] : (List ByteArray))) hF) z2 z2 rfl
             refine cF hc22 rfl <| sr <| p10 (op_eqI ev (ec rfl) rfl) rfl <| av rfl rfl <| eO <| ?_
             refine ifS hF (fun hc24 hF => ?_) (fun hc24 hF => ?_)
             · refine cT hc24 rfl <| sr <| bn hF fun x25 hx25 hF => p10 (op_indexA uU ti3 (aidx_ok hx25).1 (aidx_ok hx25).2.1 ev (ec rfl) rfl) rfl <| p11 (op_load1P uU rfl (arr_at1 hx25 (fun _ => rfl) rfl) ev rfl) rfl rfl <| p10 (op_fieldP (off' := 1) uU rfl ti3 (by decide) rfl ev rfl) rfl <| ?_
               refine w21 (op_store1M sgd ti3 rfl ev ev) rfl rfl rfl <| eO <| rg <| bn hF fun x26 hx26 hF => p10 (op_indexA uU ti3 (aidx_ok hx26).1 (aidx_ok hx26).2.1 ev (ec rfl) rfl) rfl <| p11 (op_load1P uU rfl (arr_at1 hx26 (fun _ => rfl) rfl) ev rfl) rfl rfl <| ?_
               refine p10 (op_fieldP (off' := 2) uU rfl ti3 (by decide) rfl ev rfl) rfl <| w21 (op_store1M sgd ti3 rfl ev ev) rfl rfl rfl <| eO <| ?_
               exact G.arr (J12 (x25, x26, 0, 0, 0, ByteArray.empty, ByteArray.empty, ([] : (List ByteArray))) hF) z2 z2 rfl
             refine cF hc24 rfl <| sr <| p10 (op_eqI ev (ec rfl) rfl) rfl <| av rfl rfl <| eO <| ?_
             refine ifS hF (fun hc27 hF => ?_) (fun hc27 hF => ?_)
             · refine cT hc27 rfl <| sr <| bn hF fun x28 hx28 hF => p10 (op_indexA uU ti3 (aidx_ok hx28).1 (aidx_ok hx28).2.1 ev (ec rfl) rfl) rfl <| p11 (op_load1P uU rfl (arr_at1 hx28 (fun _ => rfl) rfl) ev rfl) rfl rfl <| p10 (op_fieldP (off' := 1) uU rfl ti3 (by decide) rfl ev rfl) rfl <| ?_
               refine w21 (op_store1M sgd ti3 rfl ev ev) rfl rfl rfl <| eO <| rg <| mv rfl rfl <| p10 (op_fieldP (off' := 8) uU rfl ti24 (by decide) rfl ev rfl) rfl <| ?_
               refine G.view (t := 154) rfl rfl ?_
               refine w21 (op_store1M sgd ti24 rfl ev ev) rfl rfl rfl <| eO <| ?_
               exact G.arr (J12 (x28, 0, 0, 0, 0, ByteArray.empty, ByteArray.empty, y10) hF) z2 z2 rfl
             refine cF hc27 rfl <| sr <| p10 (op_eqI ev (ec rfl) rfl) rfl <| av rfl rfl <| eO <| ?_
             refine ifS hF (fun hc29 hF => ?_) (fun hc29 hF => ?_)
             · refine cT hc29 rfl <| sr <| bn hF fun x30 hx30 hF => p10 (op_indexA uU ti3 (aidx_ok hx30).1 (aidx_ok hx30).2.1 ev (ec rfl) rfl) rfl <| p11 (op_load1P uU rfl (arr_at1 hx30 (fun _ => rfl) rfl) ev rfl) rfl rfl <| p10 (op_fieldP (off' := 2) uU rfl ti3 (by decide) rfl ev rfl) rfl <| ?_
               refine w21 (op_store1M sgd ti3 rfl ev ev) rfl rfl rfl <| esr <| bn hF fun x31 hx31 hF => p10 (op_indexA uU ti3 (aidx_ok hx31).1 (aidx_ok hx31).2.1 ev (ec rfl) rfl) rfl <| p11 (op_load1P uU rfl (arr_at1 hx31 (fun _ => rfl) rfl) ev rfl) rfl rfl <| p10 (op_fieldP (off' := 3) uU rfl ti3 (by decide) rfl ev rfl) rfl <| ?_
               refine w21 (op_store1M sgd ti3 rfl ev ev) rfl rfl rfl <| esr <| bn hF fun x32 hx32 hF => p10 (op_indexA uU ti3 (aidx_ok hx32).1 (aidx_ok hx32).2.1 ev (ec rfl) rfl) rfl <| p11 (op_load1P uU rfl (arr_at1 hx32 (fun _ => rfl) rfl) ev rfl) rfl rfl <| p10 (op_fieldP (off' := 4) uU rfl ti3 (by decide) rfl ev rfl) rfl <| ?_
               refine w21 (op_store1M sgd ti3 rfl ev ev) rfl rfl rfl <| eO <| rg <| bn hF fun x33 hx33 hF => p10 (op_indexA uU ti3 (aidx_ok hx33).1 (aidx_ok hx33).2.1 ev (ec rfl) rfl) rfl <| p11 (op_load1P uU rfl (arr_at1 hx33 (fun _ => rfl) rfl) ev rfl) rfl rfl <| ?_
               refine p10 (op_fieldP (off' := 5) uU rfl ti3 (by decide) rfl ev rfl) rfl <| w21 (op_store1M sgd ti3 rfl ev ev) rfl rfl rfl <| eO <| ?_
               exact G.arr (J12 (0, x30, x31, x32, x33, ByteArray.empty, ByteArray.empty, ([] : (List ByteArray))) hF) z2 z2 rfl
             refine cF hc29 rfl <| sr <| p10 (op_eqI ev (ec rfl) rfl) rfl <| av rfl rfl <| eO <| ?_
             refine ifS hF (fun hc34 hF => ?_) (fun hc34 hF => ?_)
             · refine cT hc34 rfl <| sr <| bn hF fun x35 hx35 hF => p10 (op_indexA uU ti3 (aidx_ok hx35).1 (aidx_ok hx35).2.1 ev (ec rfl) rfl) rfl <| p11 (op_load1P uU rfl (arr_at1 hx35 (fun _ => rfl) rfl) ev rfl) rfl rfl <| p10 (op_fieldP (off' := 2) uU rfl ti3 (by decide) rfl ev rfl) rfl <| ?_
               refine w21 (op_store1M sgd ti3 rfl ev ev) rfl rfl rfl <| eO <| rg <| bn hF fun x36 hx36 hF => p10 (op_indexA uU ti3 (aidx_ok hx36).1 (aidx_ok hx36).2.1 ev (ec rfl) rfl) rfl <| p11 (op_load1P uU rfl (arr_at1 hx36 (fun _ => rfl) rfl) ev rfl) rfl rfl <| ?_
               refine p10 (op_fieldP (off' := 3) uU rfl ti3 (by decide) rfl ev rfl) rfl <| w21 (op_store1M sgd ti3 rfl ev ev) rfl rfl rfl <| eO <| ?_
               exact G.arr (J12 (0, x35, x36, 0, 0, ByteArray.empty, ByteArray.empty, ([] : (List ByteArray))) hF) z2 z2 rfl
             refine cF hc34 rfl <| sr <| p10 (op_eqI ev (ec rfl) rfl) rfl <| av rfl rfl <| eO <| ?_
             refine ifS hF (fun hc37 hF => ?_) (fun hc37 hF => ?_)
             · refine cT hc37 rfl <| rg <| bn hF fun x38 hx38 hF => p10 (op_indexA uU ti3 (aidx_ok hx38).1 (aidx_ok hx38).2.1 ev (ec rfl) rfl) rfl <| p11 (op_load1P uU rfl (arr_at1 hx38 (fun _ => rfl) rfl) ev rfl) rfl rfl <| p10 (op_fieldP (off' := 2) uU rfl ti3 (by decide) rfl ev rfl) rfl <| ?_
               refine w21 (op_store1M sgd ti3 rfl ev ev) rfl rfl rfl <| eO <| ?_
               exact G.arr (J12 (0, x38, 0, 0, 0, ByteArray.empty, ByteArray.empty, ([] : (List ByteArray))) hF) z2 z2 rfl
             refine cF hc37 rfl <| sk <| ?_
             exact G.arr (J12 (0, 0, 0, 0, 0, ByteArray.empty, ByteArray.empty, ([] : (List ByteArray))) hF) z2 z2 rfl
           refine ifS hF (fun hc40 hF => ?_) (fun hc40 hF => ?_)
           · refine cT hc40 rfl <| sk <| ?_
             exact G.arr (J39 (decide (y2 = 4)) hF) z6 z4 (by simp only [wellId, List.all_cons, List.all_nil, HE.ids, ids_dat]; rfl)
           refine cF hc40 rfl <| rg <| p10 (op_eqI ev (ec rfl) rfl) rfl <| av rfl rfl <| eO <| ?_
           exact G.arr (J39 (decide (y2 = 7)) hF) z6 z4 (by simp only [wellId, List.all_cons, List.all_nil, HE.ids, ids_dat]; rfl)
         refine ifS hF (fun hc42 hF => ?_) (fun hc42 hF => ?_)
         · refine cT hc42 rfl <| sk <| ?_
           exact G.arr (J41 (decide (y2 = 2)) hF) z6 z4 (by simp only [wellId, List.all_cons, List.all_nil, HE.ids, ids_dat]; rfl)
         refine cF hc42 rfl <| rg <| p10 (op_eqI ev (ec rfl) rfl) rfl <| av rfl rfl <| eO <| ?_
         exact G.arr (J41 (decide (y2 = 3)) hF) z6 z4 (by simp only [wellId, List.all_cons, List.all_nil, HE.ids, ids_dat]; rfl)
       refine bl <| ?_
       refine lF (fun (v44 : Int × (List ByteArray)) => ⟨[(0, .one (.g (.d (.sl 1 (List.map encS w_0))))), (2, .one (.ptr 1002 0)), (3, oI y2), (8, .one (.ptr 1008 0)), (10, .one (.own 2010 (List.map encS v44.2))), (11, oI v44.1)], [(1002, some (.blk 71 [bI .i64 0, bI .i64 0, bI .i64 0, bI .i64 0, bI .i64 0, bI .i64 0, bS ByteArray.empty, bS ByteArray.empty, .g (.d (.sl 1 (List.map encS ([] : (List ByteArray))))), .g (.d (.sl 2 (List.map encApi_Range ([] : (List Api_Range))))), .g (.d (.sl 1 (List.map encI_i64 ([] : (List Int))))), .g (.d (.sl 1 (List.map encI_i64 ([] : (List Int))))), bB false])), (1008, some (.blk 98 (dat (List.flatMap encI_i64 y8)))), (2010, some (.row 9 1 (List.map encS v44.2) false))]⟩) hF z6 z3 (by simp only [wellId, List.all_cons, List.all_nil, HE.ids, ids_dat]; rfl) (fun K47 again46 v44 J45 hF => ?_)
       unfold ref24_step_l8 at hF
       refine sq <| sr <| mv rfl rfl <| mv rfl rfl <| p10 (op_lenM uU ev rfl) rfl <| p20 (op_lss ev ev rfl) rfl rfl <| ?_
       refine eO <| ?_
       refine ifS hF (fun hc48 hF => ?_) (fun hc48 hF => ?_)
       · refine cT hc48 rfl <| sk <| sq <| bl <| sr <| mv rfl rfl <| ?_
         refine mv rfl rfl <| bn hF fun x49 hx49 hF => p20 (op_indexM hx49 uU ti9 ev ev rfl) rfl rfl <| p10 (op_load1E uU rfl rfl ev rfl) rfl <| bn hF fun r50 hr50 hF => p10 (op_callQ cf70 (ct_ref24_text _ _ hr50) rfl rfl (.cons qe .nil) rfl) rfl <| ?_
         refine p10 (op_moveS (t := 99) (sv := .tup [bS r50.1, bB r50.2]) rfl) rfl <| p10 (op_extract rfl rfl) rfl <| p10 (op_extract rfl rfl) rfl <| av rfl rfl <| av rfl rfl <| eO <| ?_
         refine sq <| sr <| mv rfl rfl <| p10 (op_not ev rfl) rfl <| eO <| ?_
         refine ifS hF (fun hc51 hF => ?_) (fun hc51 hF => ?_)
         · refine cT hc51 rfl <| sr <| p00 (op_build (zs := [vI 0, vI 0, vI 0, vI 0, vI 0, vI 0, vS ByteArray.empty, vS ByteArray.empty, .sl 1 (List.map encS ([] : (List ByteArray))), .sl 2 (List.map encApi_Range ([] : (List Api_Range))), .sl 1 (List.map encI_i64 ([] : (List Int))), .sl 1 (List.map encI_i64 ([] : (List Int))), vB false]) (ds := [vI 0, vI 0, vI 0, vI 0, vI 0, vI 0, vS ByteArray.empty, vS ByteArray.empty, .sl 1 (List.map encS ([] : (List ByteArray))), .sl 2 (List.map encApi_Range ([] : (List Api_Range))), .sl 1 (List.map encI_i64 ([] : (List Int))), .sl 1 (List.map encI_i64 ([] : (List Int))), vB false]) uU ti71 (pl71 _ uU) ⟨.v _ rfl, .v _ rfl, .v _ rfl, .v _ rfl, .v _ rfl, .v _ rfl, .v _ rfl, .v _ rfl, .n 1, .n 2, .n 1, .n 1, .v _ rfl, trivial⟩ .nil rfl rfl) <| w21 (op_storeAM ti71 rfl ev ev) rfl rfl rfl <| eO <| ?_
           cases hF
           exact G.ret1 Tryz.results43 (RVar.cellA (ds := [vI 0, vI 0, vI 0, vI 0, vI 0, vI 0, vS ByteArray.empty, vS ByteArray.empty, .sl 1 (List.map encS ([] : (List ByteArray))), .sl 2 (List.map encApi_Range ([] : (List Api_Range))), .sl 1 (List.map encI_i64 ([] : (List Int))), .sl 1 (List.map encI_i64 ([] : (List Int))), vB false]) uU rfl ti71 rfl) z1 z1
         refine cF hc51 rfl <| sk <| rg <| mv rfl rfl <| mv rfl rfl <| p10 (op_buildSlice (es := List.map encS [r50.1]) uU ti9 rfl rfl (.cons ev .nil) rfl rfl (by simp [encS]) rfl) rfl <| ?_
         refine bn hF fun l52 hl52 hF => q21 (op_appendO uU ti9 rfl (app_map hl52 encS) (app_b1 hl52 encS) (app_b2 hl52 encS) ev ev rfl) rfl rfl rfl <| av rfl rfl <| eO <| eB <| rg <| ?_
         refine mv rfl rfl <| p10 (op_add ev (ec rfl) rfl) rfl <| av rfl rfl <| eO <| ?_
         exact G.arr (J45 (IntKind.wrap .i64 (v44.1 + 1), l52) hF) z6 z3 (by simp only [wellId, List.all_cons, List.all_nil, HE.ids, ids_dat]; rfl)
       refine cF hc48 rfl <| ex <| ?_
       refine GX.c ?_
       refine GX.q ?_
       refine xY <| ?_
       exact G.arr (J43 v44.2 hF) z4 z3 (by simp only [wellId, List.all_cons, List.all_nil, HE.ids, ids_dat]; rfl)
     refine bl <| ?_
     refine lF (fun (v54 : Int × (List Int)) => ⟨[(0, .one (.g (.d (.sl 1 (List.map encS w_0))))), (2, .one (.ptr 1002 0)), (3, oI y2), (6, .one (.ptr 1006 0)), (8, .one (.ptr 1008 0)), (9, oI v54.1)], [(1002, some (.blk 71 [bI .i64 0, bI .i64 0, bI .i64 0, bI .i64 0, bI .i64 0, bI .i64 0, bS ByteArray.empty, bS ByteArray.empty, .g (.d (.sl 1 (List.map encS ([] : (List ByteArray))))), .g (.d (.sl 2 (List.map encApi_Range ([] : (List Api_Range))))), .g (.d (.sl 1 (List.map encI_i64 ([] : (List Int))))), .g (.d (.sl 1 (List.map encI_i64 ([] : (List Int))))), bB false])), (1006, some (.blk 97 (dat (List.flatMap encI_i64 ([0, 1, 1, 1, 1, 2, 1, 1, 4, 2, 1, 0, 0]))))), (1008, some (.blk 98 (dat (List.flatMap encI_i64 v54.2))))]⟩) hF z6 z3 (by simp only [wellId, List.all_cons, List.all_nil, HE.ids, ids_dat]; rfl) (fun K57 again56 v54 J55 hF => ?_)
     unfold ref24_step_l9 at hF
     refine sq <| sr <| mv rfl rfl <| mv rfl rfl <| bn hF fun x58 hx58 hF => p20 (op_indexA uU ti3 (aidx_ok hx58).1 (aidx_ok hx58).2.1 ev ev rfl) rfl rfl <| ?_
     refine p11 (op_load1P uU rfl (arr_at1 hx58 (fun _ => rfl) rfl) ev rfl) rfl rfl <| p20 (op_lss ev ev rfl) rfl rfl <| eO <| ?_
     refine ifS hF (fun hc59 hF => ?_) (fun hc59 hF => ?_)
     · refine cT hc59 rfl <| sk <| sq <| bl <| sr <| mv rfl rfl <| ?_
       refine mv rfl rfl <| mv rfl rfl <| p10 (op_add (ec rfl) ev rfl) rfl <| bn hF fun x60 hx60 hF => p20 (op_indexM hx60 uU ti9 ev ev rfl) rfl rfl <| p10 (op_load1E uU rfl rfl ev rfl) rfl <| ?_
       refine bn hF fun r61 hr61 hF => p10 (op_callQ cf69 (ct_ref24_number _ _ hr61) rfl rfl (.cons qe .nil) rfl) rfl <| bn hF fun x62 hx62 hF => p20 (op_indexA uU ti3 (aidx_ok hx62).1 (aidx_ok hx62).2.1 ev ev rfl) rfl rfl <| bn hF fun a63 ha63 hF => w21 (op_store1 (c := bI .i64 r61) trivial ti3 (arr_lt1 ha63 (fun _ => rfl)) (arr_set (enc := encI_i64) ha63 (fun _ => rfl)) ev ev) rfl rfl rfl <| ?_
       refine esr <| mv rfl rfl <| bn hF fun x64 hx64 hF => p20 (op_indexA uU ti3 (aidx_ok hx64).1 (aidx_ok hx64).2.1 ev ev rfl) rfl rfl <| p11 (op_load1P uU rfl (arr_at1 hx64 (fun _ => rfl) rfl) ev rfl) rfl rfl <| p10 (op_lss ev (ec rfl) rfl) rfl <| ?_
       refine eO <| ?_
       refine ifS hF (fun hc65 hF => ?_) (fun hc65 hF => ?_)
       · refine cT hc65 rfl <| sr <| p00 (op_build (zs := [vI 0, vI 0, vI 0, vI 0, vI 0, vI 0, vS ByteArray.empty, vS ByteArray.empty, .sl 1 (List.map encS ([] : (List ByteArray))), .sl 2 (List.map encApi_Range ([] : (List Api_Range))), .sl 1 (List.map encI_i64 ([] : (List Int))), .sl 1 (List.map encI_i64 ([] : (List Int))), vB false]) (ds := [vI 0, vI 0, vI 0, vI 0, vI 0, vI 0, vS ByteArray.empty, vS ByteArray.empty, .sl 1 (List.map encS ([] : (List ByteArray))), .sl 2 (List.map encApi_Range ([] : (List Api_Range))), .sl 1 (List.map encI_i64 ([] : (List Int))), .sl 1 (List.map encI_i64 ([] : (List Int))), vB false]) uU ti71 (pl71 _ uU) ⟨.v _ rfl, .v _ rfl, .v _ rfl, .v _ rfl, .v _ rfl, .v _ rfl, .v _ rfl, .v _ rfl, .n 1, .n 2, .n 1, .n 1, .v _ rfl, trivial⟩ .nil rfl rfl) <| w21 (op_storeAM ti71 rfl ev ev) rfl rfl rfl <| eO <| ?_
         cases hF
         exact G.ret1 Tryz.results43 (RVar.cellA (ds := [vI 0, vI 0, vI 0, vI 0, vI 0, vI 0, vS ByteArray.empty, vS ByteArray.empty, .sl 1 (List.map encS ([] : (List ByteArray))), .sl 2 (List.map encApi_Range ([] : (List Api_Range))), .sl 1 (List.map encI_i64 ([] : (List Int))), .sl 1 (List.map encI_i64 ([] : (List Int))), vB false]) uU rfl ti71 rfl) z1 z1
       refine cF hc65 rfl <| sk <| eB <| rg <| mv rfl rfl <| p10 (op_add ev (ec rfl) rfl) rfl <| ?_
       refine av rfl rfl <| eO <| ?_
       exact G.arr (J55 (IntKind.wrap .i64 (v54.1 + 1), a63) hF) z6 z3 (by simp only [wellId, List.all_cons, List.all_nil, HE.ids, ids_dat]; rfl)
     refine cF hc59 rfl <| ex <| ?_
     refine GX.c ?_
     refine GX.q ?_
     refine xY <| ?_
     exact G.arr (J53 v54.2 hF) z5 z3 (by simp only [wellId, List.all_cons, List.all_nil, HE.ids, ids_dat]; rfl)
   refine ifS hF (fun hc67 hF => ?_) (fun hc67 hF => ?_)
   · refine G.drawnI (deps := ([] :: [0] :: [0, 1] :: [0, 1, 2] :: [0, 1, 2, 3] :: [0, 1, 2, 3, 4] :: [0, 1, 2, 3, 4, 5] :: [0, 1, 2, 3, 4, 5, 6] :: [0, 1, 2, 3, 4, 5] :: [0, 1, 2, 3, 4, 5, 8] :: [0, 1, 2, 3, 4, 5, 8, 9] :: [0, 1, 2, 3, 4, 5, 8, 9, 10] :: [0, 1, 2, 3, 4, 5] :: [0, 1, 2, 3, 4, 5, 12] :: [0, 1, 2, 3, 4, 5, 12, 13] :: [0, 1, 2, 3, 4, 5, 8, 9, 10, 11, 12, 13, 14] :: [0, 1, 2, 3, 4, 5, 6, 7, 8, 9, 10, 11, 12, 13, 14, 15] :: [0, 1, 2, 3, 4, 5, 6, 7, 8, 9, 10, 11, 12, 13, 14, 15, 16] :: [0, 1, 2, 3, 4, 5, 6, 7, 8, 9, 10, 11, 12, 13, 14, 15, 16, 17] :: [0, 1, 2, 3, 4, 5, 6, 7, 8, 9, 10, 11, 12, 13, 14, 15, 16, 17, 18] :: [0, 1, 2, 3, 4, 5, 6, 7, 8, 9, 10, 11, 12, 13, 14, 15, 16, 17, 18, 19] :: (0 :: 1 :: 2 :: 3 :: 4 :: 5 :: 6 :: 7 :: 8 :: 9 :: 10 :: 11 :: 12 :: 13 :: 14 :: 15 :: 16 :: 17 :: 18 :: 19 :: 20 :: []) :: [0, 1, 2, 3, 4, 5, 6, 7, 8, 9, 10, 11, 12, 13, 14, 15, 16, 17, 18, 19] :: (0 :: 1 :: 2 :: 3 :: 4 :: 5 :: 6 :: 7 :: 8 :: 9 :: 10 :: 11 :: 12 :: 13 :: 14 :: 15 :: 16 :: 17 :: 18 :: 19 :: 22 :: []) :: (0 :: 1 :: 2 :: 3 :: 4 :: 5 :: 6 :: 7 :: 8 :: 9 :: 10 :: 11 :: 12 :: 13 :: 14 :: 15 :: 16 :: 17 :: 18 :: 19 :: 22 :: 23 :: []) :: (0 :: 1 :: 2 :: 3 :: 4 :: 5 :: 6 :: 7 :: 8 :: 9 :: 10 :: 11 :: 12 :: 13 :: 14 :: 15 :: 16 :: 17 :: 18 :: 19 :: 22 :: 23 :: 24 :: []) :: (0 :: 1 :: 2 :: 3 :: 4 :: 5 :: 6 :: 7 :: 8 :: 9 :: 10 :: 11 :: 12 :: 13 :: 14 :: 15 :: 16 :: 17 :: 18 :: 19 :: 20 :: 21 :: 22 :: 23 :: 24 :: 25 :: []) :: (0 :: 1 :: 2 :: 3 :: 4 :: 5 :: 6 :: 7 :: 8 :: 9 :: 10 :: 11 :: 12 :: 13 :: 14 :: 15 :: 16 :: 17 :: 18 :: 19 :: 20 :: 21 :: 22 :: 23 :: 24 :: 25 :: 26 :: []) :: [])) (sl' := [(0, .one (.g (.d (.sl 1 (List.map encS w_0))))), (2, .one (.ptr 1002 0)), (3, oI y2), (6, .one (.ptr 1006 0)), (62, oB true)]) (hp' := [(1002, some (.blk 71 [bI .i64 0, bI .i64 0, bI .i64 0, bI .i64 0, bI .i64 0, bI .i64 0, bS ByteArray.empty, bS ByteArray.empty, .g (.d (.sl 1 (List.map encS ([] : (List ByteArray))))), .g (.d (.sl 2 (List.map encApi_Range ([] : (List Api_Range))))), .g (.d (.sl 1 (List.map encI_i64 ([] : (List Int))))), .g (.d (.sl 1 (List.map encI_i64 ([] : (List Int))))), bB false])), (1006, some (.blk 97 (dat (List.flatMap encI_i64 ([0, 1, 1, 1, 1, 2, 1, 1, 4, 2, 1, 0, 0])))))]) (.c (oP rfl rfl (op_move ev rfl)) (.c (oP rfl rfl (OpL.cast (op_eqI ev (ec rfl) rfl) (congrArg (fun b => bB b) hc67))) (.c (oP rfl rfl (op_move ev rfl)) (.c (OpW.no rfl rfl rfl rfl rfl) (.c (OpW.no rfl rfl rfl rfl rfl) (.c (OpW.no rfl rfl rfl rfl rfl) (.c (OpW.un rfl rfl rfl rfl) (.c (OpW.un rfl rfl rfl rfl) (.c (OpW.un rfl rfl rfl rfl) (.c (OpW.un rfl rfl rfl rfl) (.c (OpW.un rfl rfl rfl rfl) (.c (OpW.un rfl rfl rfl rfl) (.c (OpW.un rfl rfl rfl rfl) (.c (OpW.un rfl rfl rfl rfl) (.c (OpW.un rfl rfl rfl rfl) (.c (OpW.un rfl rfl rfl rfl) (.c (OpW.un rfl rfl rfl rfl) (.c (OpW.no rfl rfl rfl rfl rfl) (.c (oP rfl rfl (op_pickT ev (ec rfl) rfl)) (.c (oP rfl rfl (op_move ev rfl)) (.c (OpW.no rfl rfl rfl rfl rfl) (.c (OpW.no rfl rfl rfl rfl rfl) (.c (OpW.no rfl rfl rfl rfl rfl) (.c (OpW.no rfl rfl rfl rfl rfl) (.c (OpW.no rfl rfl rfl rfl rfl) (.c (OpW.no rfl rfl rfl rfl rfl) (.c (OpW.no rfl rfl rfl rfl rfl) (.c (oP rfl rfl (op_pickT ev (ec rfl) rfl)) .nil)))))))))))))))))))))))))))) follows rfl rfl rfl ⟨⟨rfl, trivial⟩, trivial, ⟨rfl, trivial⟩, trivial, ⟨rfl, trivial⟩, trivial, ⟨rfl, trivial⟩, trivial, ⟨rfl, trivial⟩, trivial, ⟨rfl, trivial⟩, trivial, ⟨rfl, trivial⟩, trivial, ⟨rfl, trivial⟩, trivial, ⟨rfl, trivial⟩, trivial, ⟨rfl, trivial⟩, trivial, ⟨rfl, trivial⟩, trivial, ⟨rfl, trivial⟩, trivial, ⟨rfl, trivial⟩, trivial, ⟨rfl, trivial⟩, trivial, ⟨rfl, trivial⟩, trivial, ⟨rfl, trivial⟩, trivial, ⟨rfl, trivial⟩, trivial, ⟨rfl, trivial⟩, trivial, ⟨rfl, trivial⟩, trivial, ⟨rfl, trivial⟩, trivial, ⟨rfl, trivial⟩, trivial, ⟨rfl, trivial⟩, trivial, ⟨rfl, trivial⟩, trivial, ⟨rfl, trivial⟩, trivial, ⟨rfl, trivial⟩, trivial, ⟨rfl, trivial⟩, trivial, ⟨rfl, trivial⟩, trivial, ⟨rfl, trivial⟩, trivial, trivial⟩ ⟨rfl, rfl, rfl, rfl, rfl, trivial⟩ ⟨rfl, rfl, trivial⟩ (by simp only [wellId, List.all_cons, List.all_nil, HE.ids, ids_dat]; rfl) ?_
     exact G.arr (J66 true hF) z5 z2 (by simp only [wellId, List.all_cons, List.all_nil, HE.ids, ids_dat]; rfl)
   refine ifS hF (fun hc68 hF => ?_) (fun hc68 hF => ?_)
   · refine bn hF fun x69 hx69 hF => bn hF fun x70 hx70 hF => ?_
     refine ifS hF (fun hc71 hF => ?_) (fun hc71 hF => ?_)
     · refine G.drawnI (deps := ([] :: [0] :: [0, 1] :: [0, 1, 2] :: [0, 1, 2, 3] :: [0, 1, 2, 3, 4] :: [0, 1, 2, 3, 4, 5] :: [0, 1, 2, 3, 4, 5, 6] :: [0, 1, 2, 3, 4, 5] :: [0, 1, 2, 3, 4, 5, 8] :: [0, 1, 2, 3, 4, 5, 8, 9] :: [0, 1, 2, 3, 4, 5, 8, 9, 10] :: [0, 1, 2, 3, 4, 5] :: [0, 1, 2, 3, 4, 5, 12] :: [0, 1, 2, 3, 4, 5, 12, 13] :: [0, 1, 2, 3, 4, 5, 8, 9, 10, 11, 12, 13, 14] :: [0, 1, 2, 3, 4, 5, 6, 7, 8, 9, 10, 11, 12, 13, 14, 15] :: [0, 1, 2, 3, 4, 5, 6, 7, 8, 9, 10, 11, 12, 13, 14, 15, 16] :: [0, 1, 2, 3, 4, 5, 6, 7, 8, 9, 10, 11, 12, 13, 14, 15, 16, 17] :: [0, 1, 2, 3, 4, 5, 6, 7, 8, 9, 10, 11, 12, 13, 14, 15, 16, 17, 18] :: [0, 1, 2, 3, 4, 5, 6, 7, 8, 9, 10, 11, 12, 13, 14, 15, 16, 17, 18, 19] :: (0 :: 1 :: 2 :: 3 :: 4 :: 5 :: 6 :: 7 :: 8 :: 9 :: 10 :: 11 :: 12 :: 13 :: 14 :: 15 :: 16 :: 17 :: 18 :: 19 :: 20 :: []) :: [0, 1, 2, 3, 4, 5, 6, 7, 8, 9, 10, 11, 12, 13, 14, 15, 16, 17, 18, 19] :: (0 :: 1 :: 2 :: 3 :: 4 :: 5 :: 6 :: 7 :: 8 :: 9 :: 10 :: 11 :: 12 :: 13 :: 14 :: 15 :: 16 :: 17 :: 18 :: 19 :: 22 :: []) :: (0 :: 1 :: 2 :: 3 :: 4 :: 5 :: 6 :: 7 :: 8 :: 9 :: 10 :: 11 :: 12 :: 13 :: 14 :: 15 :: 16 :: 17 :: 18 :: 19 :: 22 :: 23 :: []) :: (0 :: 1 :: 2 :: 3 :: 4 :: 5 :: 6 :: 7 :: 8 :: 9 :: 10 :: 11 :: 12 :: 13 :: 14 :: 15 :: 16 :: 17 :: 18 :: 19 :: 22 :: 23 :: 24 :: []) :: (0 :: 1 :: 2 :: 3 :: 4 :: 5 :: 6 :: 7 :: 8 :: 9 :: 10 :: 11 :: 12 :: 13 :: 14 :: 15 :: 16 :: 17 :: 18 :: 19 :: 20 :: 21 :: 22 :: 23 :: 24 :: 25 :: []) :: (0 :: 1 :: 2 :: 3 :: 4 :: 5 :: 6 :: 7 :: 8 :: 9 :: 10 :: 11 :: 12 :: 13 :: 14 :: 15 :: 16 :: 17 :: 18 :: 19 :: 20 :: 21 :: 22 :: 23 :: 24 :: 25 :: 26 :: []) :: [])) (sl' := [(0, .one (.g (.d (.sl 1 (List.map encS w_0))))), (2, .one (.ptr 1002 0)), (3, oI y2), (6, .one (.ptr 1006 0)), (62, oB true)]) (hp' := [(1002, some (.blk 71 [bI .i64 0, bI .i64 0, bI .i64 0, bI .i64 0, bI .i64 0, bI .i64 0, bS ByteArray.empty, bS ByteArray.empty, .g (.d (.sl 1 (List.map encS ([] : (List ByteArray))))), .g (.d (.sl 2 (List.map encApi_Range ([] : (List Api_Range))))), .g (.d (.sl 1 (List.map encI_i64 ([] : (List Int))))), .g (.d (.sl 1 (List.map encI_i64 ([] : (List Int))))), bB false])), (1006, some (.blk 97 (dat (List.flatMap encI_i64 ([0, 1, 1, 1, 1, 2, 1, 1, 4, 2, 1, 0, 0])))))]) (.c (oP rfl rfl (op_move ev rfl)) (.c (oP rfl rfl (OpL.cast (op_eqI ev (ec rfl) rfl) (congrArg (fun b => bB b) hc67))) (.c (oP rfl rfl (op_move ev rfl)) (.c (oY rfl rfl rfl (op_move ev rfl)) (.c (oY rfl rfl rfl (OpL.cast (op_neI ev (ec rfl) rfl) (congrArg (fun b => bB b) hc68))) (.c (oY rfl rfl rfl (op_move ev rfl)) (.c (oY rfl rfl rfl (op_move ev rfl)) (.c (oY rfl rfl rfl (op_lenM uU ev rfl)) (.c (oY rfl rfl rfl (op_move ev rfl)) (.c (oY rfl rfl rfl (op_indexA uU ti3 (aidx_ok hx69).1 (aidx_ok hx69).2.1 ev ev rfl)) (.c (oY rfl rfl rfl (op_load1P uU rfl (arr_at1 hx69 (fun _ => rfl) rfl) ev rfl)) (.c (oY rfl rfl rfl (op_add (ec rfl) ev rfl)) (.c (oY rfl rfl rfl (op_move ev rfl)) (.c (oY rfl rfl rfl (op_indexA uU ti3 (aidx_ok hx70).1 (aidx_ok hx70).2.1 ev ev rfl)) (.c (oY rfl rfl rfl (op_load1P uU rfl (arr_at1 hx70 (fun _ => rfl) rfl) ev rfl)) (.c (oY rfl rfl rfl (op_add ev ev rfl)) (.c (oY rfl rfl rfl (OpL.cast (op_neI ev ev rfl) (congrArg (fun b => bB b) hc71))) (.c (oY rfl rfl rfl (op_pickT ev ev rfl)) (.c (oP rfl rfl (op_pickF ev ev rfl)) (.c (oP rfl rfl (op_move ev rfl)) (.c (OpW.no rfl rfl rfl rfl rfl) (.c (OpW.no rfl rfl rfl rfl rfl) (.c (OpW.no rfl rfl rfl rfl rfl) (.c (OpW.no rfl rfl rfl rfl rfl) (.c (OpW.no rfl rfl rfl rfl rfl) (.c (OpW.no rfl rfl rfl rfl rfl) (.c (OpW.no rfl rfl rfl rfl rfl) (.c (oP rfl rfl (op_pickT ev (ec rfl) rfl)) .nil)))))))))))))))))))))))))))) follows rfl rfl rfl ⟨⟨rfl, trivial⟩, trivial, ⟨rfl, trivial⟩, trivial, ⟨rfl, trivial⟩, trivial, ⟨rfl, rfl, trivial⟩, trivial, ⟨rfl, rfl, trivial⟩, trivial, ⟨rfl, rfl, trivial⟩, trivial, ⟨rfl, rfl, trivial⟩, trivial, ⟨rfl, rfl, trivial⟩, trivial, ⟨rfl, rfl, trivial⟩, trivial, ⟨rfl, rfl, rfl, trivial⟩, trivial, ⟨rfl, rfl, trivial⟩, ⟨⟨rfl, rfl⟩, trivial⟩, ⟨rfl, rfl, trivial⟩, trivial, ⟨rfl, rfl, trivial⟩, trivial, ⟨rfl, rfl, rfl, trivial⟩, trivial, ⟨rfl, rfl, trivial⟩, ⟨⟨rfl, rfl⟩, trivial⟩, ⟨rfl, rfl, rfl, trivial⟩, trivial, ⟨rfl, rfl, rfl, trivial⟩, trivial, ⟨rfl, rfl, rfl, trivial⟩, trivial, ⟨rfl, rfl, trivial⟩, trivial, ⟨rfl, trivial⟩, trivial, ⟨rfl, trivial⟩, trivial, ⟨rfl, trivial⟩, trivial, ⟨rfl, trivial⟩, trivial, ⟨rfl, trivial⟩, trivial, ⟨rfl, trivial⟩, trivial, ⟨rfl, trivial⟩, trivial, ⟨rfl, trivial⟩, trivial, ⟨rfl, trivial⟩, trivial, trivial⟩ ⟨rfl, rfl, rfl, rfl, rfl, trivial⟩ ⟨rfl, rfl, trivial⟩ (by simp only [wellId, List.all_cons, List.all_nil, HE.ids, ids_dat]; rfl) ?_
       exact G.arr (J66 true hF) z5 z2 (by simp only [wellId, List.all_cons, List.all_nil, HE.ids, ids_dat]; rfl)
     refine bn hF fun x72 hx72 hF => ?_
     refine G.drawnI (deps := ([] :: [0] :: [0, 1] :: [0, 1, 2] :: [0, 1, 2, 3] :: [0, 1, 2, 3, 4] :: [0, 1, 2, 3, 4, 5] :: [0, 1, 2, 3, 4, 5, 6] :: [0, 1, 2, 3, 4, 5] :: [0, 1, 2, 3, 4, 5, 8] :: [0, 1, 2, 3, 4, 5, 8, 9] :: [0, 1, 2, 3, 4, 5, 8, 9, 10] :: [0, 1, 2, 3, 4, 5] :: [0, 1, 2, 3, 4, 5, 12] :: [0, 1, 2, 3, 4, 5, 12, 13] :: [0, 1, 2, 3, 4, 5, 8, 9, 10, 11, 12, 13, 14] :: [0, 1, 2, 3, 4, 5, 6, 7, 8, 9, 10, 11, 12, 13, 14, 15] :: [0, 1, 2, 3, 4, 5, 6, 7, 8, 9, 10, 11, 12, 13, 14, 15, 16] :: [0, 1, 2, 3, 4, 5, 6, 7, 8, 9, 10, 11, 12, 13, 14, 15, 16, 17] :: [0, 1, 2, 3, 4, 5, 6, 7, 8, 9, 10, 11, 12, 13, 14, 15, 16, 17, 18] :: [0, 1, 2, 3, 4, 5, 6, 7, 8, 9, 10, 11, 12, 13, 14, 15, 16, 17, 18, 19] :: (0 :: 1 :: 2 :: 3 :: 4 :: 5 :: 6 :: 7 :: 8 :: 9 :: 10 :: 11 :: 12 :: 13 :: 14 :: 15 :: 16 :: 17 :: 18 :: 19 :: 20 :: []) :: [0, 1, 2, 3, 4, 5, 6, 7, 8, 9, 10, 11, 12, 13, 14, 15, 16, 17, 18, 19] :: (0 :: 1 :: 2 :: 3 :: 4 :: 5 :: 6 :: 7 :: 8 :: 9 :: 10 :: 11 :: 12 :: 13 :: 14 :: 15 :: 16 :: 17 :: 18 :: 19 :: 22 :: []) :: (0 :: 1 :: 2 :: 3 :: 4 :: 5 :: 6 :: 7 :: 8 :: 9 :: 10 :: 11 :: 12 :: 13 :: 14 :: 15 :: 16 :: 17 :: 18 :: 19 :: 22 :: 23 :: []) :: (0 :: 1 :: 2 :: 3 :: 4 :: 5 :: 6 :: 7 :: 8 :: 9 :: 10 :: 11 :: 12 :: 13 :: 14 :: 15 :: 16 :: 17 :: 18 :: 19 :: 22 :: 23 :: 24 :: []) :: (0 :: 1 :: 2 :: 3 :: 4 :: 5 :: 6 :: 7 :: 8 :: 9 :: 10 :: 11 :: 12 :: 13 :: 14 :: 15 :: 16 :: 17 :: 18 :: 19 :: 20 :: 21 :: 22 :: 23 :: 24 :: 25 :: []) :: (0 :: 1 :: 2 :: 3 :: 4 :: 5 :: 6 :: 7 :: 8 :: 9 :: 10 :: 11 :: 12 :: 13 :: 14 :: 15 :: 16 :: 17 :: 18 :: 19 :: 20 :: 21 :: 22 :: 23 :: 24 :: 25 :: 26 :: []) :: [])) (sl' := [(0, .one (.g (.d (.sl 1 (List.map encS w_0))))), (2, .one (.ptr 1002 0)), (3, oI y2), (6, .one (.ptr 1006 0)), (62, oB (decide ((w_0.length : Int) < (IntKind.wrap .i64 (1 + x72)))))]) (hp' := [(1002, some (.blk 71 [bI .i64 0, bI .i64 0, bI .i64 0, bI .i64 0, bI .i64 0, bI .i64 0, bS ByteArray.empty, bS ByteArray.empty, .g (.d (.sl 1 (List.map encS ([] : (List ByteArray))))), .g (.d (.sl 2 (List.map encApi_Range ([] : (List Api_Range))))), .g (.d (.sl 1 (List.map encI_i64 ([] : (List Int))))), .g (.d (.sl 1 (List.map encI_i64 ([] : (List Int))))), bB false])), (1006, some (.blk 97 (dat (List.flatMap encI_i64 ([0, 1, 1, 1, 1, 2, 1, 1, 4, 2, 1, 0, 0])))))]) (.c (oP rfl rfl (op_move ev rfl)) (.c (oP rfl rfl (OpL.cast (op_eqI ev (ec rfl) rfl) (congrArg (fun b => bB b) hc67))) (.c (oP rfl rfl (op_move ev rfl)) (.c (oY rfl rfl rfl (op_move ev rfl)) (.c (oY rfl rfl rfl (OpL.cast (op_neI ev (ec rfl) rfl) (congrArg (fun b => bB b) hc68))) (.c (oY rfl rfl rfl (op_move ev rfl)) (.c (oY rfl rfl rfl (op_move ev rfl)) (.c (oY rfl rfl rfl (op_lenM uU ev rfl)) (.c (oY rfl rfl rfl (op_move ev rfl)) (.c (oY rfl rfl rfl (op_indexA uU ti3 (aidx_ok hx69).1 (aidx_ok hx69).2.1 ev ev rfl)) (.c (oY rfl rfl rfl (op_load1P uU rfl (arr_at1 hx69 (fun _ => rfl) rfl) ev rfl)) (.c (oY rfl rfl rfl (op_add (ec rfl) ev rfl)) (.c (oY rfl rfl rfl (op_move ev rfl)) (.c (oY rfl rfl rfl (op_indexA uU ti3 (aidx_ok hx70).1 (aidx_ok hx70).2.1 ev ev rfl)) (.c (oY rfl rfl rfl (op_load1P uU rfl (arr_at1 hx70 (fun _ => rfl) rfl) ev rfl)) (.c (oY rfl rfl rfl (op_add ev ev rfl)) (.c (oY rfl rfl rfl (OpL.cast (op_neI ev ev rfl) (congrArg (fun b => bB b) hc71))) (.c (oY rfl rfl rfl (op_pickT ev ev rfl)) (.c (oP rfl rfl (op_pickF ev ev rfl)) (.c (oP rfl rfl (op_move ev rfl)) (.c (oY rfl rfl rfl (op_move ev rfl)) (.c (oY rfl rfl rfl (op_lenM uU ev rfl)) (.c (oY rfl rfl rfl (op_move ev rfl)) (.c (oY rfl rfl rfl (op_indexA uU ti3 (aidx_ok hx72).1 (aidx_ok hx72).2.1 ev ev rfl)) (.c (oY rfl rfl rfl (op_load1P uU rfl (arr_at1 hx72 (fun _ => rfl) rfl) ev rfl)) (.c (oY rfl rfl rfl (op_add (ec rfl) ev rfl)) (.c (oY rfl rfl rfl (op_lss ev ev rfl)) (.c (oP rfl rfl (op_pickF ev ev rfl)) .nil)))))))))))))))))))))))))))) follows rfl rfl rfl ⟨⟨rfl, trivial⟩, trivial, ⟨rfl, trivial⟩, trivial, ⟨rfl, trivial⟩, trivial, ⟨rfl, rfl, trivial⟩, trivial, ⟨rfl, rfl, trivial⟩, trivial, ⟨rfl, rfl, trivial⟩, trivial, ⟨rfl, rfl, trivial⟩, trivial, ⟨rfl, rfl, trivial⟩, trivial, ⟨rfl, rfl, trivial⟩, trivial, ⟨rfl, rfl, rfl, trivial⟩, trivial, ⟨rfl, rfl, trivial⟩, ⟨⟨rfl, rfl⟩, trivial⟩, ⟨rfl, rfl, trivial⟩, trivial, ⟨rfl, rfl, trivial⟩, trivial, ⟨rfl, rfl, rfl, trivial⟩, trivial, ⟨rfl, rfl, trivial⟩, ⟨⟨rfl, rfl⟩, trivial⟩, ⟨rfl, rfl, rfl, trivial⟩, trivial, ⟨rfl, rfl, rfl, trivial⟩, trivial, ⟨rfl, rfl, rfl, trivial⟩, trivial, ⟨rfl, rfl, trivial⟩, trivial, ⟨rfl, trivial⟩, trivial, ⟨rfl, rfl, trivial⟩, trivial, ⟨rfl, rfl, trivial⟩, trivial, ⟨rfl, rfl, trivial⟩, trivial, ⟨rfl, rfl, rfl, trivial⟩, trivial, ⟨rfl, rfl, trivial⟩, ⟨⟨rfl, rfl⟩, trivial⟩, ⟨rfl, rfl, trivial⟩, trivial, ⟨rfl, rfl, rfl, trivial⟩, trivial, ⟨rfl, rfl, trivial⟩, trivial, trivial⟩ ⟨rfl, rfl, rfl, rfl, rfl, trivial⟩ ⟨rfl, rfl, trivial⟩ (by simp only [wellId, List.all_cons, List.all_nil, HE.ids, ids_dat]; rfl) ?_
     exact G.arr (J66 (decide ((w_0.length : Int) < (IntKind.wrap .i64 (1 + x72)))) hF) z5 z2 (by simp only [wellId, List.all_cons, List.all_nil, HE.ids, ids_dat]; rfl)
   refine bn hF fun x73 hx73 hF => ?_
   refine G.drawnI (deps := ([] :: [0] :: [0, 1] :: [0, 1, 2] :: [0, 1, 2, 3] :: [0, 1, 2, 3, 4] :: [0, 1, 2, 3, 4, 5] :: [0, 1, 2, 3, 4, 5, 6] :: [0, 1, 2, 3, 4, 5] :: [0, 1, 2, 3, 4, 5, 8] :: [0, 1, 2, 3, 4, 5, 8, 9] :: [0, 1, 2, 3, 4, 5, 8, 9, 10] :: [0, 1, 2, 3, 4, 5] :: [0, 1, 2, 3, 4, 5, 12] :: [0, 1, 2, 3, 4, 5, 12, 13] :: [0, 1, 2, 3, 4, 5, 8, 9, 10, 11, 12, 13, 14] :: [0, 1, 2, 3, 4, 5, 6, 7, 8, 9, 10, 11, 12, 13, 14, 15] :: [0, 1, 2, 3, 4, 5, 6, 7, 8, 9, 10, 11, 12, 13, 14, 15, 16] :: [0, 1, 2, 3, 4, 5, 6, 7, 8, 9, 10, 11, 12, 13, 14, 15, 16, 17] :: [0, 1, 2, 3, 4, 5, 6, 7, 8, 9, 10, 11, 12, 13, 14, 15, 16, 17, 18] :: [0, 1, 2, 3, 4, 5, 6, 7, 8, 9, 10, 11, 12, 13, 14, 15, 16, 17, 18, 19] :: (0 :: 1 :: 2 :: 3 :: 4 :: 5 :: 6 :: 7 :: 8 :: 9 :: 10 :: 11 :: 12 :: 13 :: 14 :: 15 :: 16 :: 17 :: 18 :: 19 :: 20 :: []) :: [0, 1, 2, 3, 4, 5, 6, 7, 8, 9, 10, 11, 12, 13, 14, 15, 16, 17, 18, 19] :: (0 :: 1 :: 2 :: 3 :: 4 :: 5 :: 6 :: 7 :: 8 :: 9 :: 10 :: 11 :: 12 :: 13 :: 14 :: 15 :: 16 :: 17 :: 18 :: 19 :: 22 :: []) :: (0 :: 1 :: 2 :: 3 :: 4 :: 5 :: 6 :: 7 :: 8 :: 9 :: 10 :: 11 :: 12 :: 13 :: 14 :: 15 :: 16 :: 17 :: 18 :: 19 :: 22 :: 23 :: []) :: (0 :: 1 :: 2 :: 3 :: 4 :: 5 :: 6 :: 7 :: 8 :: 9 :: 10 :: 11 :: 12 :: 13 :: 14 :: 15 :: 16 :: 17 :: 18 :: 19 :: 22 :: 23 :: 24 :: []) :: (0 :: 1 :: 2 :: 3 :: 4 :: 5 :: 6 :: 7 :: 8 :: 9 :: 10 :: 11 :: 12 :: 13 :: 14 :: 15 :: 16 :: 17 :: 18 :: 19 :: 20 :: 21 :: 22 :: 23 :: 24 :: 25 :: []) :: (0 :: 1 :: 2 :: 3 :: 4 :: 5 :: 6 :: 7 :: 8 :: 9 :: 10 :: 11 :: 12 :: 13 :: 14 :: 15 :: 16 :: 17 :: 18 :: 19 :: 20 :: 21 :: 22 :: 23 :: 24 :: 25 :: 26 :: []) :: [])) (sl' := [(0, .one (.g (.d (.sl 1 (List.map encS w_0))))), (2, .one (.ptr 1002 0)), (3, oI y2), (6, .one (.ptr 1006 0)), (62, oB (decide ((w_0.length : Int) < (IntKind.wrap .i64 (1 + x73)))))]) (hp' := [(1002, some (.blk 71 [bI .i64 0, bI .i64 0, bI .i64 0, bI .i64 0, bI .i64 0, bI .i64 0, bS ByteArray.empty, bS ByteArray.empty, .g (.d (.sl 1 (List.map encS ([] : (List ByteArray))))), .g (.d (.sl 2 (List.map encApi_Range ([] : (List Api_Range))))), .g (.d (.sl 1 (List.map encI_i64 ([] : (List Int))))), .g (.d (.sl 1 (List.map encI_i64 ([] : (List Int))))), bB false])), (1006, some (.blk 97 (dat (List.flatMap encI_i64 ([0, 1, 1, 1, 1, 2, 1, 1, 4, 2, 1, 0, 0])))))]) (.c (oP rfl rfl (op_move ev rfl)) (.c (oP rfl rfl (OpL.cast (op_eqI ev (ec rfl) rfl) (congrArg (fun b => bB b) hc67))) (.c (oP rfl rfl (op_move ev rfl)) (.c (oY rfl rfl rfl (op_move ev rfl)) (.c (oY rfl rfl rfl (OpL.cast (op_neI ev (ec rfl) rfl) (congrArg (fun b => bB b) hc68))) (.c (oY rfl rfl rfl (op_move ev rfl)) (.c (OpW.no rfl rfl rfl rfl rfl) (.c (OpW.no rfl rfl rfl rfl rfl) (.c (OpW.no rfl rfl rfl rfl rfl) (.c (OpW.no rfl rfl rfl rfl rfl) (.c (OpW.no rfl rfl rfl rfl rfl) (.c (OpW.no rfl rfl rfl rfl rfl) (.c (OpW.no rfl rfl rfl rfl rfl) (.c (OpW.no rfl rfl rfl rfl rfl) (.c (OpW.no rfl rfl rfl rfl rfl) (.c (OpW.no rfl rfl rfl rfl rfl) (.c (OpW.no rfl rfl rfl rfl rfl) (.c (oY rfl rfl rfl (op_pickF ev (ec rfl) rfl)) (.c (oP rfl rfl (op_pickF ev ev rfl)) (.c (oP rfl rfl (op_move ev rfl)) (.c (oY rfl rfl rfl (op_move ev rfl)) (.c (oY rfl rfl rfl (op_lenM uU ev rfl)) (.c (oY rfl rfl rfl (op_move ev rfl)) (.c (oY rfl rfl rfl (op_indexA uU ti3 (aidx_ok hx73).1 (aidx_ok hx73).2.1 ev ev rfl)) (.c (oY rfl rfl rfl (op_load1P uU rfl (arr_at1 hx73 (fun _ => rfl) rfl) ev rfl)) (.c (oY rfl rfl rfl (op_add (ec rfl) ev rfl)) (.c (oY rfl rfl rfl (op_lss ev ev rfl)) (.c (oP rfl rfl (op_pickF ev ev rfl)) .nil)))))))))))))))))))))))))))) follows rfl rfl rfl ⟨⟨rfl, trivial⟩, trivial, ⟨rfl, trivial⟩, trivial, ⟨rfl, trivial⟩, trivial, ⟨rfl, rfl, trivial⟩, trivial, ⟨rfl, rfl, trivial⟩, trivial, ⟨rfl, rfl, trivial⟩, trivial, ⟨rfl, trivial⟩, trivial, ⟨rfl, trivial⟩, trivial, ⟨rfl, trivial⟩, trivial, ⟨rfl, trivial⟩, trivial, ⟨rfl, trivial⟩, trivial, ⟨rfl, trivial⟩, trivial, ⟨rfl, trivial⟩, trivial, ⟨rfl, trivial⟩, trivial, ⟨rfl, trivial⟩, trivial, ⟨rfl, trivial⟩, trivial, ⟨rfl, trivial⟩, trivial, ⟨rfl, rfl, trivial⟩, trivial, ⟨rfl, rfl, trivial⟩, trivial, ⟨rfl, trivial⟩, trivial, ⟨rfl, rfl, trivial⟩, trivial, ⟨rfl, rfl, trivial⟩, trivial, ⟨rfl, rfl, trivial⟩, trivial, ⟨rfl, rfl, rfl, trivial⟩, trivial, ⟨rfl, rfl, trivial⟩, ⟨⟨rfl, rfl⟩, trivial⟩, ⟨rfl, rfl, trivial⟩, trivial, ⟨rfl, rfl, rfl, trivial⟩, trivial, ⟨rfl, rfl, trivial⟩, trivial, trivial⟩ ⟨rfl, rfl, rfl, rfl, rfl, trivial⟩ ⟨rfl, rfl, trivial⟩ (by simp only [wellId, List.all_cons, List.all_nil, HE.ids, ids_dat]; rfl) ?_
   exact G.arr (J66 (decide ((w_0.length : Int) < (IntKind.wrap .i64 (1 + x73)))) hF) z5 z2 (by simp only [wellId, List.all_cons, List.all_nil, HE.ids, ids_dat]; rfl)
 refine bl <| ?_
 refine lF (fun (v75 : Int × Int) => ⟨[(0, .one (.g (.d (.sl 1 (List.map encS w_0))))), (2, .one (.ptr 1002 0)), (3, oI v75.1), (4, .one (.ptr 1004 0)), (5, oI v75.2)], [(1002, some (.blk 71 [bI .i64 0, bI .i64 0, bI .i64 0, bI .i64 0, bI .i64 0, bI .i64 0, bS ByteArray.empty, bS ByteArray.empty, .g (.d (.sl 1 (List.map encS ([] : (List ByteArray))))), .g (.d (.sl 2 (List.map encApi_Range ([] : (List Api_Range))))), .g (.d (.sl 1 (List.map encI_i64 ([] : (List Int))))), .g (.d (.sl 1 (List.map encI_i64 ([] : (List Int))))), bB false])), (1004, some (.blk 73 (dat (List.flatMap encS r1))))]⟩) hF z5 z2 (by simp only [wellId, List.all_cons, List.all_nil, HE.ids, ids_dat]; rfl) (fun K78 again77 v75 J76 hF => ?_)
 unfold ref24_step_l10 at hF
 refine sq <| sr <| mv rfl rfl <| p10 (op_lss ev (ec rfl) rfl) rfl <| eO <| ?_
 refine ifS hF (fun hc79 hF => ?_) (fun hc79 hF => ?_)
 · refine cT hc79 rfl <| sk <| sq <| bl <| sq <| bn hF fun x80 hx80 hF => ?_
   refine bn hF fun x81 hx81 hF => ?_
   refine G.drawnI (deps := [[], [0], [0, 1], [], [3], [3, 4], [0, 1, 2, 3, 4, 5]]) (sl' := [(0, .one (.g (.d (.sl 1 (List.map encS w_0))))), (2, .one (.ptr 1002 0)), (3, oI v75.1), (4, .one (.ptr 1004 0)), (5, oI v75.2), (26, oB (seq x80 x81))]) (hp' := [(1002, some (.blk 71 [bI .i64 0, bI .i64 0, bI .i64 0, bI .i64 0, bI .i64 0, bI .i64 0, bS ByteArray.empty, bS ByteArray.empty, .g (.d (.sl 1 (List.map encS ([] : (List ByteArray))))), .g (.d (.sl 2 (List.map encApi_Range ([] : (List Api_Range))))), .g (.d (.sl 1 (List.map encI_i64 ([] : (List Int))))), .g (.d (.sl 1 (List.map encI_i64 ([] : (List Int))))), bB false])), (1004, some (.blk 73 (dat (List.flatMap encS r1))))]) (.c (oP rfl rfl (op_move ev rfl)) (.c (oP rfl rfl (op_indexM hx80 uU ti9 ev (ec rfl) rfl)) (.c (oP rfl rfl (op_load1E uU rfl rfl ev rfl)) (.c (oP rfl rfl (op_move ev rfl)) (.c (oP rfl rfl (op_indexA uU ti9 (aidx_ok hx81).1 (aidx_ok hx81).2.1 ev ev rfl)) (.c (oP rfl rfl (op_load1P uU rfl (arr_at1 hx81 (fun _ => rfl) rfl) ev rfl)) (.c (oP rfl rfl (op_eqS ev ev rfl)) .nil))))))) follows rfl rfl rfl ⟨⟨rfl, trivial⟩, trivial, ⟨rfl, trivial⟩, trivial, ⟨rfl, trivial⟩, trivial, ⟨rfl, trivial⟩, trivial, ⟨rfl, rfl, trivial⟩, trivial, ⟨rfl, trivial⟩, ⟨⟨rfl, rfl⟩, trivial⟩, ⟨rfl, rfl, trivial⟩, trivial, trivial⟩ ⟨rfl, rfl, rfl, rfl, rfl, rfl, trivial⟩ ⟨rfl, rfl, trivial⟩ (by simp only [wellId, List.all_cons, List.all_nil, HE.ids, ids_dat]; rfl) ?_
   refine ifS hF (fun hc82 hF => ?_) (fun hc82 hF => ?_)
   · refine cT hc82 rfl <| rg <| mv rfl rfl <| av rfl rfl <| eO <| eB <| ?_
     refine rg <| mv rfl rfl <| p10 (op_add ev (ec rfl) rfl) rfl <| av rfl rfl <| eO <| ?_
     exact G.arr (J76 (v75.2, IntKind.wrap .i64 (v75.2 + 1)) hF) z5 z2 (by simp only [wellId, List.all_cons, List.all_nil, HE.ids, ids_dat]; rfl)
   refine cF hc82 rfl <| sk <| eB <| rg <| mv rfl rfl <| p10 (op_add ev (ec rfl) rfl) rfl <| ?_
   refine av rfl rfl <| eO <| ?_
   exact G.arr (J76 (v75.1, IntKind.wrap .i64 (v75.2 + 1)) hF) z5 z2 (by simp only [wellId, List.all_cons, List.all_nil, HE.ids, ids_dat]; rfl)
 refine cF hc79 rfl <| ex <| ?_
 refine GX.c ?_
 refine GX.q ?_
 refine xY <| ?_
 exact G.arr (J74 v75.1 hF) z3 z1 rfl


theorem ct_ref24_Parse (s_0 : ByteArray) (r : ((List Api_Op) × Int)) (hF : ref24_Parse s_0 = some r) : Ct Tryz.prog 16 [.g (.d (vS s_0))] (.tup [.d (.sl 12 (List.map encApi_Op r.1)), .d (vI r.2)]) := by
 unfold ref24_Parse at hF
 refine Ct.intro Tryz.func16 rfl Tryz.ntmps16 rfl rfl fun M w => ?_
 refine sr <| p00 (op_assign (Ev.n 12) rfl) <| ac rfl rfl <| esr <| q01 (op_assignRow (E := 30) (size := 12) (k := 2004) (ex := false) rfl rfl) rfl <| esr <| ?_
 refine mv rfl rfl <| bn hF fun r1 hr1 hF => p10 (op_call cf40 (ct_ref24_lines _ _ hr1) rfl (.cons ev .nil) rfl) rfl <| av rfl rfl <| eO <| sq <| ?_
 refine sr <| ac rfl rfl <| eO <| ?_
 refine G.joinC (T := (List Api_Op)) (fun y2 => ⟨[(4, .one (.own 2004 (List.map encApi_Op y2)))], [(2004, some (.row 30 12 (List.map encApi_Op y2) false))]⟩) (fun y2 => ref24_Parse_k1 y2 = some r) (fun y2 hF => ?_) (fun J3 => ?_)
 · unfold ref24_Parse_k1 at hF
   refine sr <| mv rfl rfl <| av rfl rfl <| ac rfl rfl <| eO <| ?_
   refine G.view (t := 2) rfl rfl ?_
   cases hF
   exact G.ret2 Tryz.results16 (RVar.tmp 2 _) (RVar.tmp 3 _) z2 trivial
 refine bl <| ?_
 refine lF (fun (v4 : Int × (List Api_Op)) => ⟨[(4, .one (.own 2004 (List.map encApi_Op v4.2))), (5, .one (.g (.d (.sl 1 (List.map encS r1))))), (6, oI v4.1)], [(2004, some (.row 30 12 (List.map encApi_Op v4.2) false))]⟩) hF z3 z1 rfl (fun K7 again6 v4 J5 hF => ?_)
 unfold ref24_Parse_l2 at hF
 refine sq <| sr <| mv rfl rfl <| mv rfl rfl <| p10 (op_lenM uU ev rfl) rfl <| p20 (op_lss ev ev rfl) rfl rfl <| ?_
 refine eO <| ?_
 refine ifS hF (fun hc8 hF => ?_) (fun hc8 hF => ?_)
 · refine cT hc8 rfl <| sk <| sq <| bl <| sr <| mv rfl rfl <| ?_
   refine mv rfl rfl <| bn hF fun x9 hx9 hF => p20 (op_indexM hx9 uU ti9 ev ev rfl) rfl rfl <| p10 (op_load1E uU rfl rfl ev rfl) rfl <| bn hF fun r10 hr10 hF => p10 (op_callQ cf41 (ct_ref24_silent _ _ hr10) rfl rfl (.cons qe .nil) rfl) rfl <| ?_
   refine av rfl rfl <| eO <| sq <| sr <| mv rfl rfl <| eO <| ?_
   refine ifS hF (fun hc11 hF => ?_) (fun hc11 hF => ?_)
   · refine cT hc11 rfl <| ex <| ?_
     refine GX.c ?_
     refine xY <| rg <| mv rfl rfl <| p10 (op_add ev (ec rfl) rfl) rfl <| av rfl rfl <| eO <| ?_
     exact G.arr (J5 (IntKind.wrap .i64 (v4.1 + 1), v4.2) hF) z3 z1 rfl
   refine cF hc11 rfl <| sk <| sr <| mv rfl rfl <| mv rfl rfl <| bn hF fun x12 hx12 hF => ?_
   refine p20 (op_indexM hx12 uU ti9 ev ev rfl) rfl rfl <| p10 (op_load1E uU rfl rfl ev rfl) rfl <| bn hF fun r13 hr13 hF => p10 (op_call cf42 (ct_ref24_Words _ _ hr13) rfl (.cons ev .nil) rfl) rfl <| p10 (op_moveS (t := 30) (sv := .tup [.g (.d (.sl 1 (List.map encS r13.1))), bB r13.2]) rfl) rfl <| p10 (op_extract rfl rfl) rfl <| ?_
   refine p10 (op_extract rfl rfl) rfl <| av rfl rfl <| av rfl rfl <| eO <| sq <| sr <| ?_
   refine mv rfl rfl <| p10 (op_not ev rfl) rfl <| eO <| ?_
   refine ifS hF (fun hc14 hF => ?_) (fun hc14 hF => ?_)
   · refine cT hc14 rfl <| sr <| mv rfl rfl <| p10 (op_add ev (ec rfl) rfl) rfl <| p00 (op_assign (Ev.n 12) rfl) <| av rfl rfl <| ?_
     refine eO <| ?_
     cases hF
     exact G.ret2 Tryz.results16 (RVar.tmp 2 _) (RVar.tmp 3 _) z2 trivial
   refine cF hc14 rfl <| sk <| sr <| mv rfl rfl <| bn hF fun r15 hr15 hF => p10 (op_call cf43 (ct_ref24_step _ _ hr15) rfl (.cons ev .nil) rfl) rfl <| ?_
   refine q01 (op_alloc (k := 1010) (cs := [bI .i64 0, bI .i64 0, bI .i64 0, bI .i64 0, bI .i64 0, bI .i64 0, bS ByteArray.empty, bS ByteArray.empty, .g (.d (.sl 1 (List.map encS ([] : (List ByteArray))))), .g (.d (.sl 2 (List.map encApi_Range ([] : (List Api_Range))))), .g (.d (.sl 1 (List.map encI_i64 ([] : (List Int))))), .g (.d (.sl 1 (List.map encI_i64 ([] : (List Int))))), bB false]) ti71 ⟨.v _ rfl, .v _ rfl, .v _ rfl, .v _ rfl, .v _ rfl, .v _ rfl, .v _ rfl, .v _ rfl, .n 1, .n 2, .n 1, .n 1, .v _ rfl, trivial⟩ rfl) rfl <| w21 (op_storeAM ti71 rfl ev ev) rfl rfl rfl <| eO <| sq <| sr <| p10 (op_fieldP (off' := 12) uU rfl ti4 (by decide) rfl ev rfl) rfl <| ?_
   refine p11 (op_load1P uU rfl rfl ev rfl) rfl rfl <| p10 (op_not ev rfl) rfl <| eO <| ?_
   refine ifS hF (fun hc16 hF => ?_) (fun hc16 hF => ?_)
   · refine cT hc16 rfl <| sr <| mv rfl rfl <| p10 (op_add ev (ec rfl) rfl) rfl <| p00 (op_assign (Ev.n 12) rfl) <| av rfl rfl <| ?_
     refine eO <| ?_
     cases hF
     exact G.ret2 Tryz.results16 (RVar.tmp 2 _) (RVar.tmp 3 _) z2 trivial
   refine cF hc16 rfl <| sk <| rg <| mv rfl rfl <| p10 (op_fieldP (off' := 0) uU rfl ti30 (by decide) rfl ev rfl) rfl <| p11 (op_loadAP (ds := [vI r15.O.Kind, vI r15.O.Client, vI r15.O.Site, vI r15.O.To, vI r15.O.At, vI r15.O.How, vS r15.O.Key, vS r15.O.Value, .sl 1 (List.map encS r15.O.Keys), .sl 2 (List.map encApi_Range r15.O.Row.Ranges), .sl 1 (List.map encI_i64 r15.O.Row.Owners), .sl 1 (List.map encI_i64 r15.O.Row.Parents)]) uU rfl ti30 rfl ev rfl) rfl rfl <| ?_
   refine p10 (op_buildSlice (es := List.map encApi_Op [r15.O]) uU ti30 rfl rfl (.cons ev .nil) rfl rfl (by simp [encApi_Op]) rfl) rfl <| bn hF fun l17 hl17 hF => q21 (op_appendO uU ti30 rfl (app_map hl17 encApi_Op) (app_b1 hl17 encApi_Op) (app_b2 hl17 encApi_Op) ev ev rfl) rfl rfl rfl <| av rfl rfl <| eO <| eB <| ?_
   refine rg <| mv rfl rfl <| p10 (op_add ev (ec rfl) rfl) rfl <| av rfl rfl <| eO <| ?_
   exact G.arr (J5 (IntKind.wrap .i64 (v4.1 + 1), l17) hF) z3 z1 rfl
 refine cF hc8 rfl <| ex <| ?_
 refine GX.c ?_
 refine GX.q ?_
 refine xY <| ?_
 exact G.arr (J3 v4.2 hF) z1 z1 rfl


theorem ct_ref01_Number_b (again0 : Int → Option ByteArray) (ih : ∀ (n_0 : Int) (r : ByteArray), again0 n_0 = some r → Ct Tryz.prog 72 [.g (.d (.v (.int .u64 n_0)))] (.one (.d (vS r)))) (n_0 : Int) (r : ByteArray) (hF : ref01_Number_b again0 n_0 = some r) : Ct Tryz.prog 72 [.g (.d (.v (.int .u64 n_0)))] (.one (.d (vS r))) := by
  unfold ref01_Number_b at hF
  refine Ct.intro Tryz.func72 rfl Tryz.ntmps72 rfl rfl fun M w => ?_
  refine G.seq ?_
  refine G.region ?_
  refine G.op1 (op_assign (Ev.c _ rfl) rfl) rfl trivial trivial ?_
  refine G.endOps ?_
  refine G.seq ?_
  refine G.seq ?_
  refine G.region ?_
  refine G.op1 (op_move (Ev.t 0 (bI .u64 n_0)) rfl) rfl ⟨rfl, trivial⟩ trivial ?_
  refine G.op1 (op_lss (Ev.t 3 (bI .u64 n_0)) (Ev.c _ rfl) rfl) rfl ⟨rfl, trivial⟩ trivial ?_
  refine G.endOps ?_
  refine ifS hF (fun hc1 hF => ?_) (fun hc1 hF => ?_)
  · refine G.cond rfl (fun _ => ?_) (fun hx => Bool.noConfusion (hc1.symm.trans hx))
    refine G.seq ?_
    refine G.region ?_
    refine G.op1 (op_move (Ev.t 0 (bI .u64 n_0)) rfl) rfl ⟨rfl, trivial⟩ trivial ?_
    refine G.op1 (op_convI Tryz.underlying89 Tryz.underlying5 (Ev.t 5 (bI .u64 n_0)) rfl) rfl ⟨rfl, trivial⟩ trivial ?_
    refine G.op1 (op_buildSlice (es := List.map encI_u8 [IntKind.wrap .u8 n_0]) Tryz.underlying43 ti5 rfl rfl (EvP.cons (Ev.t 6 (bI .u8 (IntKind.wrap .u8 n_0))) EvP.nil) rfl rfl (by simp [encI_u8]) rfl) rfl ⟨rfl, trivial⟩ trivial ?_
    refine G.op1 (op_toText (ns := [IntKind.wrap .u8 n_0]) Tryz.underlying43 Tryz.underlying5 Tryz.underlying9 rfl (Ev.t 7 (.g (.d (.sl 1 (List.map encI_u8 ([IntKind.wrap .u8 n_0])))))) rfl) rfl ⟨rfl, trivial⟩ trivial ?_
    refine G.op1 (op_assign (Ev.t 8 (bS (bytesOf ([IntKind.wrap .u8 n_0])))) rfl) rfl ⟨rfl, trivial⟩ trivial ?_
    refine G.endOps ?_
    cases hF
    exact G.ret1 Tryz.results72 (RVar.tmp 2 _) ⟨rfl, trivial⟩ trivial
  · refine G.cond rfl (fun hx => Bool.noConfusion (hc1.symm.trans hx)) (fun _ => ?_)
    refine G.skip ?_
    refine G.seq ?_
    obtain ⟨r2, hr2, hF⟩ := bindS hF
    obtain ⟨s3, hs3, hF⟩ := bindS hF
    refine G.drawnI (deps := [[], [0], [0, 1], [0, 1, 2], [0, 1, 2, 3], [0, 1, 2, 3, 4], [], [6], [6, 7], [0, 1, 2, 3, 4, 5, 6, 7, 8], [0, 1, 2, 3, 4, 5, 6, 7, 8, 9]]) (sl' := [(2, oS s3)]) (hp' := []) (.c (oP rfl rfl (op_move (Ev.t 0 (bI .u64 n_0)) rfl)) (.c (oP rfl rfl (op_rem (by decide) (Ev.t 9 (bI .u64 n_0)) (Ev.c _ rfl) rfl)) (.c (oP rfl rfl (op_add (Ev.c _ rfl) (Ev.t 10 (bI .u64 (Int.tmod n_0 128))) rfl)) (.c (oP rfl rfl (op_convI Tryz.underlying89 Tryz.underlying5 (Ev.t 11 (bI .u64 (IntKind.wrap .u64 (128 + (Int.tmod n_0 128))))) rfl)) (.c (oP rfl rfl (op_buildSlice (es := List.map encI_u8 [IntKind.wrap .u8 (IntKind.wrap .u64 (128 + (Int.tmod n_0 128)))]) Tryz.underlying43 ti5 rfl rfl (EvP.cons (Ev.t 12 (bI .u8 (IntKind.wrap .u8 (IntKind.wrap .u64 (128 + (Int.tmod n_0 128)))))) EvP.nil) rfl rfl (by simp [encI_u8]) rfl)) (.c (oP rfl rfl (op_toText (ns := [IntKind.wrap .u8 (IntKind.wrap .u64 (128 + (Int.tmod n_0 128)))]) Tryz.underlying43 Tryz.underlying5 Tryz.underlying9 rfl (Ev.t 13 (.g (.d (.sl 1 (List.map encI_u8 ([IntKind.wrap .u8 (IntKind.wrap .u64 (128 + (Int.tmod n_0 128)))])))))) rfl)) (.c (oP rfl rfl (op_move (Ev.t 0 (bI .u64 n_0)) rfl)) (.c (oP rfl rfl (op_quo (by decide) (Ev.t 15 (bI .u64 n_0)) (Ev.c _ rfl) rfl)) (.c (oP rfl rfl (op_call (sv := oS r2) cf72 (ih (IntKind.wrap .u64 (Int.tdiv n_0 128)) r2 hr2) rfl (EvL.cons (Ev.t 16 (bI .u64 (IntKind.wrap .u64 (Int.tdiv n_0 128)))) EvL.nil) rfl)) (.c (oP rfl rfl (OpL.cast (op_cat (scat_ok hs3).1 (Ev.t 14 (bS (bytesOf ([IntKind.wrap .u8 (IntKind.wrap .u64 (128 + (Int.tmod n_0 128)))])))) (Ev.t 17 (bS r2)) rfl) (by rw [(scat_ok hs3).2]))) (.c (oP rfl rfl (op_assign (Ev.t 18 (bS s3)) rfl)) .nil))))))))))) follows rfl rfl rfl ⟨⟨rfl, trivial⟩, trivial, ⟨rfl, trivial⟩, trivial, ⟨rfl, trivial⟩, trivial, ⟨rfl, trivial⟩, trivial, ⟨rfl, trivial⟩, trivial, ⟨rfl, trivial⟩, trivial, ⟨rfl, trivial⟩, trivial, ⟨rfl, trivial⟩, trivial, ⟨rfl, trivial⟩, trivial, ⟨rfl, rfl, trivial⟩, trivial, ⟨rfl, trivial⟩, trivial, trivial⟩ ⟨rfl, trivial⟩ trivial rfl ?_
    cases hF
    exact G.ret1 Tryz.results72 (RVar.tmp 2 _) ⟨rfl, trivial⟩ trivial
theorem ct_ref01_Number_n : ∀ (n : Nat) (n_0 : Int) (r : ByteArray), loopF (fun again0 v0 => ref01_Number_b again0 v0) n n_0 = some r → Ct Tryz.prog 72 [.g (.d (.v (.int .u64 n_0)))] (.one (.d (vS r)))
  | 0, _,  _, h => (by cases h)
  | n + 1, n_0,  r, h => ct_ref01_Number_b _ (fun n_0 r h => ct_ref01_Number_n n n_0 r h) n_0 r h
theorem ct_ref01_Number (n_0 : Int) (r : ByteArray) (hF : ref01_Number n_0 = some r) : Ct Tryz.prog 72 [.g (.d (.v (.int .u64 n_0)))] (.one (.d (vS r))) := ct_ref01_Number_n FU n_0 r hF


theorem ct_ref01_Text (s_0 : ByteArray) (r : ByteArray) (hF : ref01_Text s_0 = some r) : Ct Tryz.prog 73 [.g (.d (vS s_0))] (.one (.d (vS r))) := by
 unfold ref01_Text at hF
 refine Ct.intro Tryz.func73 rfl Tryz.ntmps73 rfl rfl fun M w => ?_
 refine sr <| ac rfl rfl <| esr <| mv rfl rfl <| p10 (op_lenS uU ev rfl) rfl <| p10 (op_convI uU uU ev rfl) rfl <| ?_
 refine bn hF fun r1 hr1 hF => p10 (op_callQ cf72 (ct_ref01_Number _ _ hr1) rfl rfl (.cons qe .nil) rfl) rfl <| mv rfl rfl <| bn hF fun s2 hs2 hF => p20 (op_catM hs2 ev ev rfl) rfl rfl <| av rfl rfl <| ?_
 refine eO <| ?_
 cases hF
 exact G.ret1 Tryz.results73 (RVar.tmp 2 _) z1 trivial


theorem ct_ref06_RowBytes (c_0 : Api_Row) (r : ByteArray) (hF : ref06_RowBytes c_0 = some r) : Ct Tryz.prog 74 [.g (.agg (encApi_Row c_0))] (.one (.d (vS r))) := by
 unfold ref06_RowBytes at hF
 refine Ct.intro Tryz.func74 rfl Tryz.ntmps74 rfl rfl fun M w => ?_
 refine sr <| q11 (op_boxA (k := 1001) ev rfl) rfl rfl <| ac rfl rfl <| esr <| p10 (op_fieldP (off' := 0) uU rfl ti25 (by decide) rfl ev rfl) rfl <| p11 (op_load1P uU rfl rfl ev rfl) rfl rfl <| ?_
 refine p10 (op_lenM uU ev rfl) rfl <| av rfl rfl <| esr <| mv rfl rfl <| p10 (op_convI uU uU ev rfl) rfl <| bn hF fun r1 hr1 hF => ?_
 refine p10 (op_callQ cf72 (ct_ref01_Number _ _ hr1) rfl rfl (.cons qe .nil) rfl) rfl <| av rfl rfl <| eO <| sq <| sr <| ac rfl rfl <| ?_
 refine eO <| ?_
 refine G.joinC (T := ByteArray) (fun y2 => ⟨[(1, .one (.ptr 1001 0)), (3, oI (c_0.Ranges.length : Int)), (4, oS y2)], [(1001, some (.blk 28 [.g (.d (.sl 2 (List.map encApi_Range c_0.Ranges))), .g (.d (.sl 1 (List.map encI_i64 c_0.Owners))), .g (.d (.sl 1 (List.map encI_i64 c_0.Parents)))]))]⟩) (fun y2 => ref06_RowBytes_k1 c_0 y2 = some r) (fun y2 hF => ?_) (fun J25 => ?_)
 · unfold ref06_RowBytes_k1 at hF
   refine sq <| sr <| ac rfl rfl <| eO <| ?_
   refine G.joinC (T := ByteArray) (fun y3 => ⟨[(1, .one (.ptr 1001 0)), (4, oS y3)], [(1001, some (.blk 28 [.g (.d (.sl 2 (List.map encApi_Range c_0.Ranges))), .g (.d (.sl 1 (List.map encI_i64 c_0.Owners))), .g (.d (.sl 1 (List.map encI_i64 c_0.Parents)))]))]⟩) (fun y3 => ref06_RowBytes_k2 c_0 y3 = some r) (fun y3 hF => ?_) (fun J16 => ?_)
   · unfold ref06_RowBytes_k2 at hF
     refine sr <| mv rfl rfl <| p10 (op_fieldP (off' := 2) uU rfl ti26 (by decide) rfl ev rfl) rfl <| p11 (op_load1P uU rfl rfl ev rfl) rfl rfl <| p10 (op_lenM uU ev rfl) rfl <| p10 (op_convI uU uU ev rfl) rfl <| ?_
     refine bn hF fun r4 hr4 hF => p10 (op_callQ cf72 (ct_ref01_Number _ _ hr4) rfl rfl (.cons qe .nil) rfl) rfl <| bn hF fun s5 hs5 hF => p20 (op_catM hs5 ev ev rfl) rfl rfl <| av rfl rfl <| eO <| ?_
     refine sq <| sr <| ac rfl rfl <| eO <| ?_
     refine G.joinC (T := ByteArray) (fun y6 => ⟨[(4, oS y6)], []⟩) (fun y6 => ref06_RowBytes_k3 y6 = some r) (fun y6 hF => ?_) (fun J7 => ?_)
     · unfold ref06_RowBytes_k3 at hF
       refine sr <| mv rfl rfl <| av rfl rfl <| eO <| ?_
       cases hF
       exact G.ret1 Tryz.results74 (RVar.tmp 2 _) z1 trivial
     refine bl <| ?_
     refine lF (fun (v8 : ByteArray × Int) => ⟨[(1, .one (.ptr 1001 0)), (4, oS v8.1), (7, oI v8.2)], [(1001, some (.blk 28 [.g (.d (.sl 2 (List.map encApi_Range c_0.Ranges))), .g (.d (.sl 1 (List.map encI_i64 c_0.Owners))), .g (.d (.sl 1 (List.map encI_i64 c_0.Parents)))]))]⟩) hF z3 z1 rfl (fun K11 again10 v8 J9 hF => ?_)
     unfold ref06_RowBytes_l4 at hF
     refine sq <| sr <| mv rfl rfl <| p10 (op_fieldP (off' := 2) uU rfl ti26 (by decide) rfl ev rfl) rfl <| p11 (op_load1P uU rfl rfl ev rfl) rfl rfl <| p10 (op_lenM uU ev rfl) rfl <| ?_
     refine p20 (op_lss ev ev rfl) rfl rfl <| eO <| ?_
     refine ifS hF (fun hc12 hF => ?_) (fun hc12 hF => ?_)
     · refine cT hc12 rfl <| sk <| sq <| bl <| rg <| mv rfl rfl <| ?_
       refine p10 (op_fieldP (off' := 2) uU rfl ti26 (by decide) rfl ev rfl) rfl <| p11 (op_load1P uU rfl rfl ev rfl) rfl rfl <| mv rfl rfl <| bn hF fun x13 hx13 hF => p20 (op_indexM hx13 uU ti3 ev ev rfl) rfl rfl <| p10 (op_load1E uU rfl rfl ev rfl) rfl <| ?_
       refine p10 (op_add ev (ec rfl) rfl) rfl <| p10 (op_convI uU uU ev rfl) rfl <| bn hF fun r14 hr14 hF => p10 (op_callQ cf72 (ct_ref01_Number _ _ hr14) rfl rfl (.cons qe .nil) rfl) rfl <| bn hF fun s15 hs15 hF => p20 (op_catM hs15 ev ev rfl) rfl rfl <| ?_
       refine av rfl rfl <| eO <| eB <| rg <| mv rfl rfl <| p10 (op_add ev (ec rfl) rfl) rfl <| ?_
       refine av rfl rfl <| eO <| ?_
       exact G.arr (J9 (s15, IntKind.wrap .i64 (v8.2 + 1)) hF) z3 z1 rfl
     refine cF hc12 rfl <| ex <| ?_
     refine GX.c ?_
     refine GX.q ?_
     refine xY <| ?_
     exact G.arr (J7 v8.1 hF) z1 trivial rfl
   refine bl <| ?_
   refine lF (fun (v17 : ByteArray × Int) => ⟨[(1, .one (.ptr 1001 0)), (3, oI (c_0.Ranges.length : Int)), (4, oS v17.1), (6, oI v17.2)], [(1001, some (.blk 28 [.g (.d (.sl 2 (List.map encApi_Range c_0.Ranges))), .g (.d (.sl 1 (List.map encI_i64 c_0.Owners))), .g (.d (.sl 1 (List.map encI_i64 c_0.Parents)))]))]⟩) hF z4 z1 rfl (fun K20 again19 v17 J18 hF => ?_)
   unfold ref06_RowBytes_l5 at hF
   refine sq <| sr <| mv rfl rfl <| mv rfl rfl <| p20 (op_lss ev ev rfl) rfl rfl <| eO <| ?_
   refine ifS hF (fun hc21 hF => ?_) (fun hc21 hF => ?_)
   · refine cT hc21 rfl <| sk <| sq <| bl <| rg <| mv rfl rfl <| ?_
     refine p10 (op_fieldP (off' := 1) uU rfl ti26 (by decide) rfl ev rfl) rfl <| p11 (op_load1P uU rfl rfl ev rfl) rfl rfl <| mv rfl rfl <| bn hF fun x22 hx22 hF => p20 (op_indexM hx22 uU ti3 ev ev rfl) rfl rfl <| p10 (op_load1E uU rfl rfl ev rfl) rfl <| ?_
     refine p10 (op_convI uU uU ev rfl) rfl <| bn hF fun r23 hr23 hF => p10 (op_callQ cf72 (ct_ref01_Number _ _ hr23) rfl rfl (.cons qe .nil) rfl) rfl <| bn hF fun s24 hs24 hF => p20 (op_catM hs24 ev ev rfl) rfl rfl <| av rfl rfl <| ?_
     refine eO <| eB <| rg <| mv rfl rfl <| p10 (op_add ev (ec rfl) rfl) rfl <| av rfl rfl <| ?_
     refine eO <| ?_
     exact G.arr (J18 (s24, IntKind.wrap .i64 (v17.2 + 1)) hF) z4 z1 rfl
   refine cF hc21 rfl <| ex <| ?_
   refine GX.c ?_
   refine GX.q ?_
   refine xY <| ?_
   exact G.arr (J16 v17.1 hF) z2 z1 rfl
 refine bl <| ?_
 refine lF (fun (v26 : ByteArray × Int) => ⟨[(1, .one (.ptr 1001 0)), (3, oI (c_0.Ranges.length : Int)), (4, oS v26.1), (5, oI v26.2)], [(1001, some (.blk 28 [.g (.d (.sl 2 (List.map encApi_Range c_0.Ranges))), .g (.d (.sl 1 (List.map encI_i64 c_0.Owners))), .g (.d (.sl 1 (List.map encI_i64 c_0.Parents)))]))]⟩) hF z4 z1 rfl (fun K29 again28 v26 J27 hF => ?_)
 unfold ref06_RowBytes_l6 at hF
 refine sq <| sr <| mv rfl rfl <| p10 (op_add ev (ec rfl) rfl) rfl <| mv rfl rfl <| p20 (op_lss ev ev rfl) rfl rfl <| ?_
 refine eO <| ?_
 refine ifS hF (fun hc30 hF => ?_) (fun hc30 hF => ?_)
 · refine cT hc30 rfl <| sk <| sq <| bl <| rg <| mv rfl rfl <| ?_
   refine p10 (op_fieldP (off' := 0) uU rfl ti25 (by decide) rfl ev rfl) rfl <| p11 (op_load1P uU rfl rfl ev rfl) rfl rfl <| mv rfl rfl <| bn hF fun x31 hx31 hF => p20 (op_indexM hx31 uU ti39 ev ev rfl) rfl rfl <| p10 (op_fieldE uU rfl ti9 (by decide) rfl ev rfl) rfl <| ?_
   refine p10 (op_load1E uU rfl rfl ev rfl) rfl <| bn hF fun r32 hr32 hF => p10 (op_callQ cf73 (ct_ref01_Text _ _ hr32) rfl rfl (.cons qe .nil) rfl) rfl <| bn hF fun s33 hs33 hF => p20 (op_catM hs33 ev ev rfl) rfl rfl <| av rfl rfl <| ?_
   refine eO <| eB <| rg <| mv rfl rfl <| p10 (op_add ev (ec rfl) rfl) rfl <| av rfl rfl <| ?_
   refine eO <| ?_
   exact G.arr (J27 (s33, IntKind.wrap .i64 (v26.2 + 1)) hF) z4 z1 rfl
 refine cF hc30 rfl <| ex <| ?_
 refine GX.c ?_
 refine GX.q ?_
 refine xY <| ?_
 exact G.arr (J25 v26.1 hF) z3 z1 rfl


theorem ct_ref22_one (o_0 : Api_Op) (r : ByteArray) (hF : ref22_one o_0 = some r) : Ct Tryz.prog 47 [.g (.agg (encApi_Op o_0))] (.one (.d (vS r))) := by
 unfold ref22_one at hF
 refine Ct.intro Tryz.func47 rfl Tryz.ntmps47 rfl rfl fun M w => ?_
 refine sr <| q11 (op_boxA (k := 1001) ev rfl) rfl rfl <| ac rfl rfl <| esr <| p10 (op_fieldP (off' := 0) uU rfl ti3 (by decide) rfl ev rfl) rfl <| p11 (op_load1P uU rfl rfl ev rfl) rfl rfl <| ?_
 refine p10 (op_fieldP (off' := 1) uU rfl ti3 (by decide) rfl ev rfl) rfl <| p11 (op_load1P uU rfl rfl ev rfl) rfl rfl <| p10 (op_fieldP (off' := 2) uU rfl ti3 (by decide) rfl ev rfl) rfl <| p11 (op_load1P uU rfl rfl ev rfl) rfl rfl <| p10 (op_fieldP (off' := 3) uU rfl ti3 (by decide) rfl ev rfl) rfl <| p11 (op_load1P uU rfl rfl ev rfl) rfl rfl <| ?_
 refine p10 (op_fieldP (off' := 4) uU rfl ti3 (by decide) rfl ev rfl) rfl <| p11 (op_load1P uU rfl rfl ev rfl) rfl rfl <| p10 (op_fieldP (off' := 5) uU rfl ti3 (by decide) rfl ev rfl) rfl <| p11 (op_load1P uU rfl rfl ev rfl) rfl rfl <| ?_
 refine G.op1 (op_buildA (zs := [vI 0, vI 0, vI 0, vI 0, vI 0, vI 0]) (ds := List.flatMap encI_i64 [o_0.Kind, o_0.Client, o_0.Site, o_0.To, o_0.At, o_0.How]) uU ti101 ti3 ⟨.v _ rfl, .v _ rfl, .v _ rfl, .v _ rfl, .v _ rfl, .v _ rfl, trivial⟩ (.cons ev (.cons ev (.cons ev (.cons ev (.cons ev (.cons ev .nil)))))) rfl rfl) rfl z6 trivial ?_
 refine q01 (op_alloc (k := 1003) (cs := dat (List.flatMap encI_i64 (List.replicate 6 0))) ti101 ⟨.v _ rfl, .v _ rfl, .v _ rfl, .v _ rfl, .v _ rfl, .v _ rfl, trivial⟩ rfl) rfl <| w21 (op_storeA (ds := List.flatMap encI_i64 ([o_0.Kind, o_0.Client, o_0.Site, o_0.To, o_0.At, o_0.How])) (cs' := dat (List.flatMap encI_i64 ([o_0.Kind, o_0.Client, o_0.Site, o_0.To, o_0.At, o_0.How]))) ti101 rfl rfl ev ev) rfl rfl rfl <| esr <| ac rfl rfl <| eO <| sq <| ?_
 refine sr <| ac rfl rfl <| eO <| ?_
 refine G.joinC (T := ByteArray) (fun y1 => ⟨[(1, .one (.ptr 1001 0)), (4, oS y1)], [(1001, some (.blk 30 [bI .i64 o_0.Kind, bI .i64 o_0.Client, bI .i64 o_0.Site, bI .i64 o_0.To, bI .i64 o_0.At, bI .i64 o_0.How, bS o_0.Key, bS o_0.Value, .g (.d (.sl 1 (List.map encS o_0.Keys))), .g (.d (.sl 2 (List.map encApi_Range o_0.Row.Ranges))), .g (.d (.sl 1 (List.map encI_i64 o_0.Row.Owners))), .g (.d (.sl 1 (List.map encI_i64 o_0.Row.Parents)))]))]⟩) (fun y1 => ref22_one_k1 o_0 y1 = some r) (fun y1 hF => ?_) (fun J24 => ?_)
 · unfold ref22_one_k1 at hF
   refine sq <| bn hF fun r2 hr2 hF => bn hF fun s3 hs3 hF => bn hF fun r4 hr4 hF => bn hF fun s5 hs5 hF => bn hF fun r6 hr6 hF => ?_
   refine bn hF fun s7 hs7 hF => ?_
   refine G.drawnI (deps := [[], [], [1], [1, 2], [0, 1, 2, 3], [], [5], [1, 2, 3, 5, 6], [0, 1, 2, 3, 4, 5, 6, 7], [], [9], [9, 10], [9, 10, 11], [1, 2, 3, 5, 6, 7, 9, 10, 11, 12], [0, 1, 2, 3, 4, 5, 6, 7, 8, 9, 10, 11, 12, 13], [0, 1, 2, 3, 4, 5, 6, 7, 8, 9, 10, 11, 12, 13, 14]]) (sl' := [(1, .one (.ptr 1001 0)), (4, oS s7)]) (hp' := [(1001, some (.blk 30 [bI .i64 o_0.Kind, bI .i64 o_0.Client, bI .i64 o_0.Site, bI .i64 o_0.To, bI .i64 o_0.At, bI .i64 o_0.How, bS o_0.Key, bS o_0.Value, .g (.d (.sl 1 (List.map encS o_0.Keys))), .g (.d (.sl 2 (List.map encApi_Range o_0.Row.Ranges))), .g (.d (.sl 1 (List.map encI_i64 o_0.Row.Owners))), .g (.d (.sl 1 (List.map encI_i64 o_0.Row.Parents)))]))]) (.c (oP rfl rfl (op_move ev rfl)) (.c (oP rfl rfl (op_fieldP (off' := 6) uU rfl ti9 (by decide) rfl ev rfl)) (.c (oP rfl rfl (op_load1P uU rfl rfl ev rfl)) (.c (oP rfl rfl (op_callQ cf73 (ct_ref01_Text _ _ hr2) rfl rfl (.cons qe .nil) rfl)) (.c (oP rfl rfl (op_catM hs3 ev ev rfl)) (.c (oP rfl rfl (op_fieldP (off' := 7) uU rfl ti9 (by decide) rfl ev rfl)) (.c (oP rfl rfl (op_load1P uU rfl rfl ev rfl)) (.c (oP rfl rfl (op_callQ cf73 (ct_ref01_Text _ _ hr4) rfl rfl (.cons qe .nil) rfl)) (.c (oP rfl rfl (op_catM hs5 ev ev rfl)) (.c (oP rfl rfl (op_fieldP (off' := 8) uU rfl ti24 (by decide) rfl ev rfl)) (.c (oP rfl rfl (op_load1P uU rfl rfl ev rfl)) (.c (oP rfl rfl (op_lenM uU ev rfl)) (.c (oP rfl rfl (op_convI uU uU ev rfl)) (.c (oP rfl rfl (op_callQ cf72 (ct_ref01_Number _ _ hr6) rfl rfl (.cons qe .nil) rfl)) (.c (oP rfl rfl (op_catM hs7 ev ev rfl)) (.c (oP rfl rfl (op_assign ev rfl)) .nil)))))))))))))))) follows rfl rfl rfl ⟨⟨⟨rfl, rfl⟩, trivial⟩, trivial, ⟨rfl, trivial⟩, trivial, ⟨rfl, trivial⟩, ⟨⟨rfl, rfl⟩, trivial⟩, ⟨rfl, trivial⟩, trivial, ⟨rfl, rfl, trivial⟩, trivial, ⟨rfl, trivial⟩, trivial, ⟨rfl, trivial⟩, ⟨⟨rfl, rfl⟩, trivial⟩, ⟨rfl, trivial⟩, trivial, ⟨rfl, rfl, trivial⟩, trivial, ⟨rfl, trivial⟩, trivial, ⟨rfl, trivial⟩, ⟨⟨rfl, rfl⟩, trivial⟩, ⟨rfl, trivial⟩, trivial, ⟨rfl, trivial⟩, trivial, ⟨rfl, trivial⟩, trivial, ⟨rfl, rfl, trivial⟩, trivial, ⟨rfl, trivial⟩, trivial, trivial⟩ ⟨rfl, rfl, trivial⟩ ⟨rfl, trivial⟩ rfl ?_
   refine sq <| sr <| ac rfl rfl <| eO <| ?_
   refine G.joinC (T := ByteArray) (fun y8 => ⟨[(1, .one (.ptr 1001 0)), (4, oS y8)], [(1001, some (.blk 30 [bI .i64 o_0.Kind, bI .i64 o_0.Client, bI .i64 o_0.Site, bI .i64 o_0.To, bI .i64 o_0.At, bI .i64 o_0.How, bS o_0.Key, bS o_0.Value, .g (.d (.sl 1 (List.map encS o_0.Keys))), .g (.d (.sl 2 (List.map encApi_Range o_0.Row.Ranges))), .g (.d (.sl 1 (List.map encI_i64 o_0.Row.Owners))), .g (.d (.sl 1 (List.map encI_i64 o_0.Row.Parents)))]))]⟩) (fun y8 => ref22_one_k2 o_0 y8 = some r) (fun y8 hF => ?_) (fun J15 => ?_)
   · unfold ref22_one_k2 at hF
     refine sq <| sr <| p10 (op_fieldP (off' := 9) uU rfl ti28 (by decide) rfl ev rfl) rfl <| p10 (op_fieldP (off' := 9) uU rfl ti25 (by decide) rfl ev rfl) rfl <| p11 (op_load1P uU rfl rfl ev rfl) rfl rfl <| p10 (op_lenM uU ev rfl) rfl <| ?_
     refine p10 (op_eqI ev (ec rfl) rfl) rfl <| eO <| ?_
     refine ifS hF (fun hc9 hF => ?_) (fun hc9 hF => ?_)
     · refine cT hc9 rfl <| sr <| mv rfl rfl <| bn hF fun r10 hr10 hF => p00 (op_callQ cf73 (ct_ref01_Text _ _ hr10) rfl rfl (.cons (.g (ec rfl)) .nil) rfl) <| bn hF fun s11 hs11 hF => ?_
       refine p20 (op_catM hs11 ev ev rfl) rfl rfl <| av rfl rfl <| eO <| ?_
       cases hF
       exact G.ret1 Tryz.results47 (RVar.tmp 2 _) z1 trivial
     refine cF hc9 rfl <| sk <| sr <| mv rfl rfl <| p10 (op_fieldP (off' := 9) uU rfl ti28 (by decide) rfl ev rfl) rfl <| p11 (op_loadAP (ds := [.sl 2 (List.map encApi_Range o_0.Row.Ranges), .sl 1 (List.map encI_i64 o_0.Row.Owners), .sl 1 (List.map encI_i64 o_0.Row.Parents)]) uU rfl ti28 rfl ev rfl) rfl rfl <| ?_
     refine bn hF fun r12 hr12 hF => p10 (op_callQ cf74 (ct_ref06_RowBytes _ _ hr12) rfl rfl (.cons qe .nil) rfl) rfl <| bn hF fun r13 hr13 hF => p10 (op_callQ cf73 (ct_ref01_Text _ _ hr13) rfl rfl (.cons qe .nil) rfl) rfl <| bn hF fun s14 hs14 hF => p20 (op_catM hs14 ev ev rfl) rfl rfl <| ?_
     refine av rfl rfl <| eO <| ?_
     cases hF
     exact G.ret1 Tryz.results47 (RVar.tmp 2 _) z1 trivial
   refine bl <| ?_
   refine lF (fun (v16 : ByteArray × Int) => ⟨[(1, .one (.ptr 1001 0)), (4, oS v16.1), (6, oI v16.2)], [(1001, some (.blk 30 [bI .i64 o_0.Kind, bI .i64 o_0.Client, bI .i64 o_0.Site, bI .i64 o_0.To, bI .i64 o_0.At, bI .i64 o_0.How, bS o_0.Key, bS o_0.Value, .g (.d (.sl 1 (List.map encS o_0.Keys))), .g (.d (.sl 2 (List.map encApi_Range o_0.Row.Ranges))), .g (.d (.sl 1 (List.map encI_i64 o_0.Row.Owners))), .g (.d (.sl 1 (List.map encI_i64 o_0.Row.Parents)))]))]⟩) hF z3 z1 rfl (fun K19 again18 v16 J17 hF => ?_)
   unfold ref22_one_l3 at hF
   refine sq <| sr <| mv rfl rfl <| p10 (op_fieldP (off' := 8) uU rfl ti24 (by decide) rfl ev rfl) rfl <| p11 (op_load1P uU rfl rfl ev rfl) rfl rfl <| p10 (op_lenM uU ev rfl) rfl <| ?_
   refine p20 (op_lss ev ev rfl) rfl rfl <| eO <| ?_
   refine ifS hF (fun hc20 hF => ?_) (fun hc20 hF => ?_)
   · refine cT hc20 rfl <| sk <| sq <| bl <| rg <| mv rfl rfl <| ?_
     refine p10 (op_fieldP (off' := 8) uU rfl ti24 (by decide) rfl ev rfl) rfl <| p11 (op_load1P uU rfl rfl ev rfl) rfl rfl <| mv rfl rfl <| bn hF fun x21 hx21 hF => p20 (op_indexM hx21 uU ti9 ev ev rfl) rfl rfl <| p10 (op_load1E uU rfl rfl ev rfl) rfl <| ?_
     refine bn hF fun r22 hr22 hF => p10 (op_callQ cf73 (ct_ref01_Text _ _ hr22) rfl rfl (.cons qe .nil) rfl) rfl <| bn hF fun s23 hs23 hF => p20 (op_catM hs23 ev ev rfl) rfl rfl <| av rfl rfl <| eO <| ?_
     refine eB <| rg <| mv rfl rfl <| p10 (op_add ev (ec rfl) rfl) rfl <| av rfl rfl <| eO <| ?_
     exact G.arr (J17 (s23, IntKind.wrap .i64 (v16.2 + 1)) hF) z3 z1 rfl
   refine cF hc20 rfl <| ex <| ?_
   refine GX.c ?_
   refine GX.q ?_
   refine xY <| ?_
   exact G.arr (J15 v16.1 hF) z2 z1 rfl
 refine bl <| ?_
 refine lF (fun (v25 : ByteArray × Int) => ⟨[(1, .one (.ptr 1001 0)), (3, .one (.ptr 1003 0)), (4, oS v25.1), (5, oI v25.2)], [(1001, some (.blk 30 [bI .i64 o_0.Kind, bI .i64 o_0.Client, bI .i64 o_0.Site, bI .i64 o_0.To, bI .i64 o_0.At, bI .i64 o_0.How, bS o_0.Key, bS o_0.Value, .g (.d (.sl 1 (List.map encS o_0.Keys))), .g (.d (.sl 2 (List.map encApi_Range o_0.Row.Ranges))), .g (.d (.sl 1 (List.map encI_i64 o_0.Row.Owners))), .g (.d (.sl 1 (List.map encI_i64 o_0.Row.Parents)))])), (1003, some (.blk 101 (dat (List.flatMap encI_i64 ([o_0.Kind, o_0.Client, o_0.Site, o_0.To, o_0.At, o_0.How])))))]⟩) hF z4 z2 (by simp only [wellId, List.all_cons, List.all_nil, HE.ids, ids_dat]; rfl) (fun K28 again27 v25 J26 hF => ?_)
 unfold ref22_one_l4 at hF
 refine sq <| sr <| mv rfl rfl <| p10 (op_lss ev (ec rfl) rfl) rfl <| eO <| ?_
 refine ifS hF (fun hc29 hF => ?_) (fun hc29 hF => ?_)
 · refine cT hc29 rfl <| sk <| sq <| bl <| rg <| mv rfl rfl <| ?_
   refine mv rfl rfl <| bn hF fun x30 hx30 hF => p20 (op_indexA uU ti3 (aidx_ok hx30).1 (aidx_ok hx30).2.1 ev ev rfl) rfl rfl <| p11 (op_load1P uU rfl (arr_at1 hx30 (fun _ => rfl) rfl) ev rfl) rfl rfl <| p10 (op_convI uU uU ev rfl) rfl <| bn hF fun r31 hr31 hF => ?_
   refine p10 (op_callQ cf72 (ct_ref01_Number _ _ hr31) rfl rfl (.cons qe .nil) rfl) rfl <| bn hF fun s32 hs32 hF => p20 (op_catM hs32 ev ev rfl) rfl rfl <| av rfl rfl <| eO <| eB <| ?_
   refine rg <| mv rfl rfl <| p10 (op_add ev (ec rfl) rfl) rfl <| av rfl rfl <| eO <| ?_
   exact G.arr (J26 (s32, IntKind.wrap .i64 (v25.2 + 1)) hF) z4 z2 (by simp only [wellId, List.all_cons, List.all_nil, HE.ids, ids_dat]; rfl)
 refine cF hc29 rfl <| ex <| ?_
 refine GX.c ?_
 refine GX.q ?_
 refine xY <| ?_
 exact G.arr (J24 v25.1 hF) z2 z1 rfl


theorem ct_ref22_SameOp (a_0 : Api_Op) (b_1 : Api_Op) (r : Bool) (hF : ref22_SameOp a_0 b_1 = some r) : Ct Tryz.prog 18 [.g (.agg (encApi_Op a_0)), .g (.agg (encApi_Op b_1))] (.one (.d (vB r))) := by
 unfold ref22_SameOp at hF
 refine Ct.intro Tryz.func18 rfl Tryz.ntmps18 rfl rfl fun M w => ?_
 refine sr <| q11 (op_boxA (k := 1002) ev rfl) rfl rfl <| q11 (op_boxA (k := 1003) ev rfl) rfl rfl <| ac rfl rfl <| esr <| p11 (op_loadAP (ds := [vI a_0.Kind, vI a_0.Client, vI a_0.Site, vI a_0.To, vI a_0.At, vI a_0.How, vS a_0.Key, vS a_0.Value, .sl 1 (List.map encS a_0.Keys), .sl 2 (List.map encApi_Range a_0.Row.Ranges), .sl 1 (List.map encI_i64 a_0.Row.Owners), .sl 1 (List.map encI_i64 a_0.Row.Parents)]) uU rfl ti30 rfl ev rfl) rfl rfl <| ?_
 refine bn hF fun r1 hr1 hF => p10 (op_callQ cf47 (ct_ref22_one _ _ hr1) rfl rfl (.cons qe .nil) rfl) rfl <| av rfl rfl <| esr <| p11 (op_loadAP (ds := [vI b_1.Kind, vI b_1.Client, vI b_1.Site, vI b_1.To, vI b_1.At, vI b_1.How, vS b_1.Key, vS b_1.Value, .sl 1 (List.map encS b_1.Keys), .sl 2 (List.map encApi_Range b_1.Row.Ranges), .sl 1 (List.map encI_i64 b_1.Row.Owners), .sl 1 (List.map encI_i64 b_1.Row.Parents)]) uU rfl ti30 rfl ev rfl) rfl rfl <| bn hF fun r2 hr2 hF => ?_
 refine p10 (op_callQ cf47 (ct_ref22_one _ _ hr2) rfl rfl (.cons qe .nil) rfl) rfl <| av rfl rfl <| esr <| mv rfl rfl <| mv rfl rfl <| p20 (op_eqS ev ev rfl) rfl rfl <| ?_
 refine av rfl rfl <| eO <| ?_
 cases hF
 exact G.ret1 Tryz.results18 (RVar.tmp 4 _) z1 trivial


theorem ct_ref24_Check (o_0 : Api_Op) (r : Bool) (hF : ref24_Check o_0 = some r) : Ct Tryz.prog 7 [.g (.agg (encApi_Op o_0))] (.one (.d (vB r))) := by
 unfold ref24_Check at hF
 refine Ct.intro Tryz.func7 rfl Tryz.ntmps7 rfl rfl fun M w => ?_
 refine sr <| q11 (op_boxA (k := 1001) ev rfl) rfl rfl <| ac rfl rfl <| esr <| p11 (op_loadAP (ds := [vI o_0.Kind, vI o_0.Client, vI o_0.Site, vI o_0.To, vI o_0.At, vI o_0.How, vS o_0.Key, vS o_0.Value, .sl 1 (List.map encS o_0.Keys), .sl 2 (List.map encApi_Range o_0.Row.Ranges), .sl 1 (List.map encI_i64 o_0.Row.Owners), .sl 1 (List.map encI_i64 o_0.Row.Parents)]) uU rfl ti30 rfl ev rfl) rfl rfl <| bn hF fun r1 hr1 hF => ?_
 refine p10 (op_callQ cf15 (ct_ref22_Check _ _ hr1) rfl rfl (.cons qe .nil) rfl) rfl <| av rfl rfl <| eO <| sq <| sr <| mv rfl rfl <| ?_
 refine p10 (op_not ev rfl) rfl <| eO <| ?_
 refine ifS hF (fun hc2 hF => ?_) (fun hc2 hF => ?_)
 · refine cT hc2 rfl <| sr <| ac rfl rfl <| eO <| ?_
   cases hF
   exact G.ret1 Tryz.results7 (RVar.tmp 2 _) z1 trivial
 refine cF hc2 rfl <| sk <| sq <| sq <| ?_
 refine G.joinC (T := Bool) (fun y3 => ⟨[(1, .one (.ptr 1001 0)), (31, oB y3)], [(1001, some (.blk 30 [bI .i64 o_0.Kind, bI .i64 o_0.Client, bI .i64 o_0.Site, bI .i64 o_0.To, bI .i64 o_0.At, bI .i64 o_0.How, bS o_0.Key, bS o_0.Value, .g (.d (.sl 1 (List.map encS o_0.Keys))), .g (.d (.sl 2 (List.map encApi_Range o_0.Row.Ranges))), .g (.d (.sl 1 (List.map encI_i64 o_0.Row.Owners))), .g (.d (.sl 1 (List.map encI_i64 o_0.Row.Parents)))]))]⟩) (fun y3 => ref24_Check_k1 o_0 y3 = some r) (fun y3 hF => ?_) (fun J11 => ?_)
 · unfold ref24_Check_k1 at hF
   refine ifS hF (fun hc4 hF => ?_) (fun hc4 hF => ?_)
   · refine cT hc4 rfl <| sr <| ac rfl rfl <| eO <| ?_
     cases hF
     exact G.ret1 Tryz.results7 (RVar.tmp 2 _) z1 trivial
   refine cF hc4 rfl <| sk <| sr <| p11 (op_loadAP (ds := [vI o_0.Kind, vI o_0.Client, vI o_0.Site, vI o_0.To, vI o_0.At, vI o_0.How, vS o_0.Key, vS o_0.Value, .sl 1 (List.map encS o_0.Keys), .sl 2 (List.map encApi_Range o_0.Row.Ranges), .sl 1 (List.map encI_i64 o_0.Row.Owners), .sl 1 (List.map encI_i64 o_0.Row.Parents)]) uU rfl ti30 rfl ev rfl) rfl rfl <| bn hF fun r5 hr5 hF => p10 (op_callQ cf17 (ct_ref24_line _ _ hr5) rfl rfl (.cons qe .nil) rfl) rfl <| ?_
   refine bn hF fun r6 hr6 hF => p10 (op_call cf16 (ct_ref24_Parse _ _ hr6) rfl (.cons ev .nil) rfl) rfl <| p10 (op_moveS (t := 35) (sv := .tup [.g (.d (.sl 12 (List.map encApi_Op r6.1))), bI .i64 r6.2]) rfl) rfl <| p10 (op_extract rfl rfl) rfl <| p10 (op_extract rfl rfl) rfl <| av rfl rfl <| ?_
   refine av rfl rfl <| eO <| sq <| ?_
   refine ifS hF (fun hc7 hF => ?_) (fun hc7 hF => ?_)
   · refine ifS hF (fun hc8 hF => ?_) (fun hc8 hF => ?_)
     · refine bn hF fun x9 hx9 hF => bn hF fun r10 hr10 hF => ?_
       refine G.drawnI (deps := [[], [0], [0, 1], [0, 1, 2], [0, 1, 2, 3], [0, 1, 2, 3, 4], [0, 1, 2, 3, 4, 5], [0, 1, 2, 3, 4, 5, 6], [0, 1, 2, 3, 4, 5, 6, 7], [0, 1, 2, 3, 4, 5, 6, 7, 8], [0, 1, 2, 3, 4, 5, 6, 7, 8, 9], [0, 1, 2, 3, 4, 5, 6, 7], [0, 1, 2, 3, 4, 5, 6, 7, 8, 9, 10, 11], [0, 1, 2, 3, 4, 5, 6, 7, 8, 9, 10, 11, 12], [0, 1, 2, 3, 4, 5, 6, 7, 8, 9, 10, 11, 12, 13]]) (sl' := [(2, oB r10)]) (hp' := []) (.c (oP rfl rfl (op_move ev rfl)) (.c (oP rfl rfl (OpL.cast (op_eqI ev (ec rfl) rfl) (congrArg (fun b => bB b) hc7))) (.c (oP rfl rfl (op_move ev rfl)) (.c (oY rfl rfl rfl (op_move ev rfl)) (.c (oY rfl rfl rfl (op_lenM uU ev rfl)) (.c (oY rfl rfl rfl (OpL.cast (op_eqI ev (ec rfl) rfl) (congrArg (fun b => bB b) hc8))) (.c (oP rfl rfl (op_pickT ev ev rfl)) (.c (oP rfl rfl (op_move ev rfl)) (.c (oY rfl rfl rfl (op_move ev rfl)) (.c (oY rfl rfl rfl (op_indexM hx9 uU ti30 ev (ec rfl) rfl)) (.c (oY rfl rfl rfl (op_loadAE (ds := [vI x9.Kind, vI x9.Client, vI x9.Site, vI x9.To, vI x9.At, vI x9.How, vS x9.Key, vS x9.Value, .sl 1 (List.map encS x9.Keys), .sl 2 (List.map encApi_Range x9.Row.Ranges), .sl 1 (List.map encI_i64 x9.Row.Owners), .sl 1 (List.map encI_i64 x9.Row.Parents)]) uU rfl ti30 rfl ev rfl)) (.c (oY rfl rfl rfl (op_loadAP (ds := [vI o_0.Kind, vI o_0.Client, vI o_0.Site, vI o_0.To, vI o_0.At, vI o_0.How, vS o_0.Key, vS o_0.Value, .sl 1 (List.map encS o_0.Keys), .sl 2 (List.map encApi_Range o_0.Row.Ranges), .sl 1 (List.map encI_i64 o_0.Row.Owners), .sl 1 (List.map encI_i64 o_0.Row.Parents)]) uU rfl ti30 rfl ev rfl)) (.c (oY rfl rfl rfl (op_callQ cf18 (ct_ref22_SameOp _ _ _ hr10) rfl rfl (.cons qe (.cons qe .nil)) rfl)) (.c (oP rfl rfl (op_pickT ev ev rfl)) (.c (oP rfl rfl (op_assign ev rfl)) .nil))))))))))))))) follows rfl rfl rfl ⟨⟨rfl, trivial⟩, trivial, ⟨rfl, trivial⟩, trivial, ⟨rfl, trivial⟩, trivial, ⟨rfl, rfl, trivial⟩, trivial, ⟨rfl, rfl, trivial⟩, trivial, ⟨rfl, rfl, trivial⟩, trivial, ⟨rfl, rfl, trivial⟩, trivial, ⟨rfl, trivial⟩, trivial, ⟨rfl, rfl, trivial⟩, trivial, ⟨rfl, rfl, trivial⟩, trivial, ⟨rfl, rfl, trivial⟩, trivial, ⟨rfl, rfl, trivial⟩, ⟨⟨rfl, rfl⟩, trivial⟩, ⟨rfl, rfl, rfl, trivial⟩, trivial, ⟨rfl, rfl, trivial⟩, trivial, ⟨rfl, trivial⟩, trivial, trivial⟩ ⟨rfl, trivial⟩ trivial rfl ?_
       cases hF
       exact G.ret1 Tryz.results7 (RVar.tmp 2 _) z1 trivial
     refine G.drawnI (deps := [[], [0], [0, 1], [0, 1, 2], [0, 1, 2, 3], [0, 1, 2, 3, 4], [0, 1, 2, 3, 4, 5], [0, 1, 2, 3, 4, 5, 6], [0, 1, 2, 3, 4, 5, 6, 7], [0, 1, 2, 3, 4, 5, 6, 7, 8], [0, 1, 2, 3, 4, 5, 6, 7, 8, 9], [0, 1, 2, 3, 4, 5, 6, 7], [0, 1, 2, 3, 4, 5, 6, 7, 8, 9, 10, 11], [0, 1, 2, 3, 4, 5, 6, 7, 8, 9, 10, 11, 12], [0, 1, 2, 3, 4, 5, 6, 7, 8, 9, 10, 11, 12, 13]]) (sl' := [(2, oB false)]) (hp' := []) (.c (oP rfl rfl (op_move ev rfl)) (.c (oP rfl rfl (OpL.cast (op_eqI ev (ec rfl) rfl) (congrArg (fun b => bB b) hc7))) (.c (oP rfl rfl (op_move ev rfl)) (.c (oY rfl rfl rfl (op_move ev rfl)) (.c (oY rfl rfl rfl (op_lenM uU ev rfl)) (.c (oY rfl rfl rfl (OpL.cast (op_eqI ev (ec rfl) rfl) (congrArg (fun b => bB b) hc8))) (.c (oP rfl rfl (op_pickT ev ev rfl)) (.c (oP rfl rfl (op_move ev rfl)) (.c (OpW.no rfl rfl rfl rfl rfl) (.c (OpW.no rfl rfl rfl rfl rfl) (.c (OpW.no rfl rfl rfl rfl rfl) (.c (OpW.no rfl rfl rfl rfl rfl) (.c (OpW.no rfl rfl rfl rfl rfl) (.c (oP rfl rfl (op_pickF ev (ec rfl) rfl)) (.c (oP rfl rfl (op_assign ev rfl)) .nil))))))))))))))) follows rfl rfl rfl ⟨⟨rfl, trivial⟩, trivial, ⟨rfl, trivial⟩, trivial, ⟨rfl, trivial⟩, trivial, ⟨rfl, rfl, trivial⟩, trivial, ⟨rfl, rfl, trivial⟩, trivial, ⟨rfl, rfl, trivial⟩, trivial, ⟨rfl, rfl, trivial⟩, trivial, ⟨rfl, trivial⟩, trivial, ⟨rfl, trivial⟩, trivial, ⟨rfl, trivial⟩, trivial, ⟨rfl, trivial⟩, trivial, ⟨rfl, trivial⟩, trivial, ⟨rfl, trivial⟩, trivial, ⟨rfl, trivial⟩, trivial, ⟨rfl, trivial⟩, trivial, trivial⟩ ⟨rfl, trivial⟩ trivial rfl ?_
     cases hF
     exact G.ret1 Tryz.results7 (RVar.tmp 2 _) z1 trivial
   refine G.drawnI (deps := [[], [0], [0, 1], [0, 1, 2], [0, 1, 2, 3], [0, 1, 2, 3, 4], [0, 1, 2, 3, 4, 5], [0, 1, 2, 3, 4, 5, 6], [0, 1, 2, 3, 4, 5, 6, 7], [0, 1, 2, 3, 4, 5, 6, 7, 8], [0, 1, 2, 3, 4, 5, 6, 7, 8, 9], [0, 1, 2, 3, 4, 5, 6, 7], [0, 1, 2, 3, 4, 5, 6, 7, 8, 9, 10, 11], [0, 1, 2, 3, 4, 5, 6, 7, 8, 9, 10, 11, 12], [0, 1, 2, 3, 4, 5, 6, 7, 8, 9, 10, 11, 12, 13]]) (sl' := [(2, oB false)]) (hp' := []) (.c (oP rfl rfl (op_move ev rfl)) (.c (oP rfl rfl (OpL.cast (op_eqI ev (ec rfl) rfl) (congrArg (fun b => bB b) hc7))) (.c (oP rfl rfl (op_move ev rfl)) (.c (OpW.no rfl rfl rfl rfl rfl) (.c (OpW.no rfl rfl rfl rfl rfl) (.c (OpW.no rfl rfl rfl rfl rfl) (.c (oP rfl rfl (op_pickF ev (ec rfl) rfl)) (.c (oP rfl rfl (op_move ev rfl)) (.c (OpW.no rfl rfl rfl rfl rfl) (.c (OpW.no rfl rfl rfl rfl rfl) (.c (OpW.no rfl rfl rfl rfl rfl) (.c (OpW.no rfl rfl rfl rfl rfl) (.c (OpW.no rfl rfl rfl rfl rfl) (.c (oP rfl rfl (op_pickF ev (ec rfl) rfl)) (.c (oP rfl rfl (op_assign ev rfl)) .nil))))))))))))))) follows rfl rfl rfl ⟨⟨rfl, trivial⟩, trivial, ⟨rfl, trivial⟩, trivial, ⟨rfl, trivial⟩, trivial, ⟨rfl, trivial⟩, trivial, ⟨rfl, trivial⟩, trivial, ⟨rfl, trivial⟩, trivial, ⟨rfl, trivial⟩, trivial, ⟨rfl, trivial⟩, trivial, ⟨rfl, trivial⟩, trivial, ⟨rfl, trivial⟩, trivial, ⟨rfl, trivial⟩, trivial, ⟨rfl, trivial⟩, trivial, ⟨rfl, trivial⟩, trivial, ⟨rfl, trivial⟩, trivial, ⟨rfl, trivial⟩, trivial, trivial⟩ ⟨rfl, trivial⟩ trivial rfl ?_
   cases hF
   exact G.ret1 Tryz.results7 (RVar.tmp 2 _) z1 trivial
 refine rg <| p10 (op_fieldP (off' := 0) uU rfl ti3 (by decide) rfl ev rfl) rfl <| p11 (op_load1P uU rfl rfl ev rfl) rfl rfl <| p10 (op_eqI ev (ec rfl) rfl) rfl <| mv rfl rfl <| ?_
 refine G.joinL (T := Bool) 6 (fun y12 => ⟨[(1, .one (.ptr 1001 0)), (19, oB y12)], [(1001, some (.blk 30 [bI .i64 o_0.Kind, bI .i64 o_0.Client, bI .i64 o_0.Site, bI .i64 o_0.To, bI .i64 o_0.At, bI .i64 o_0.How, bS o_0.Key, bS o_0.Value, .g (.d (.sl 1 (List.map encS o_0.Keys))), .g (.d (.sl 2 (List.map encApi_Range o_0.Row.Ranges))), .g (.d (.sl 1 (List.map encI_i64 o_0.Row.Owners))), .g (.d (.sl 1 (List.map encI_i64 o_0.Row.Parents)))]))]⟩) (fun y12 => ref24_Check_k2 o_0 y12 = some r) (fun y12 hF => ?_) (fun J15 => ?_)
 · unfold ref24_Check_k2 at hF
   refine mv rfl rfl <| ?_
   refine ifS hF (fun hc13 hF => ?_) (fun hc13 hF => ?_)
   · refine G.known (t := 20) hc13 rfl <| oN rfl rfl rfl <| oN rfl rfl rfl <| oN rfl rfl rfl <| oN rfl rfl rfl <| ?_
     refine G.opU rfl rfl rfl rfl ?_
     refine G.opU rfl rfl rfl rfl ?_
     refine G.opU rfl rfl rfl rfl ?_
     refine G.opU rfl rfl rfl rfl ?_
     refine G.opU rfl rfl rfl rfl ?_
     refine oN rfl rfl rfl <| p10 (op_pickT ev (ec rfl) rfl) rfl <| eO <| ?_
     exact G.arr (J11 true hF) z2 z1 rfl
   refine G.known (t := 20) hc13 rfl <| g10 (op_fieldP (off' := 0) uU rfl ti3 (by decide) rfl ev rfl) rfl rfl rfl <| g11 (op_load1P uU rfl rfl ev rfl) rfl rfl rfl rfl <| g10 (op_neI ev (ec rfl) rfl) rfl rfl rfl <| g10 (op_move ev rfl) rfl rfl rfl <| ?_
   refine ifS hF (fun hc14 hF => ?_) (fun hc14 hF => ?_)
   · refine G.known (t := 24) hc14 rfl <| g10 (op_fieldP (off' := 9) uU rfl ti28 (by decide) rfl ev rfl) rfl rfl rfl <| g10 (op_fieldP (off' := 9) uU rfl ti25 (by decide) rfl ev rfl) rfl rfl rfl <| g11 (op_load1P uU rfl rfl ev rfl) rfl rfl rfl rfl <| g10 (op_lenM uU ev rfl) rfl rfl rfl <| g10 (op_gtr ev (ec rfl) rfl) rfl rfl rfl <| ?_
     refine g20 (op_pickT ev ev rfl) rfl rfl rfl rfl <| p20 (op_pickF ev ev rfl) rfl rfl <| eO <| ?_
     exact G.arr (J11 (decide (0 < (o_0.Row.Ranges.length : Int))) hF) z2 z1 rfl
   refine G.known (t := 24) hc14 rfl <| oN rfl rfl rfl <| oN rfl rfl rfl <| oN rfl rfl rfl <| oN rfl rfl rfl <| oN rfl rfl rfl <| ?_
   refine g10 (op_pickF ev (ec rfl) rfl) rfl rfl rfl <| p20 (op_pickF ev ev rfl) rfl rfl <| eO <| ?_
   exact G.arr (J11 false hF) z2 z1 rfl
 refine ifS hF (fun hc16 hF => ?_) (fun hc16 hF => ?_)
 · refine G.known (t := 13) hc16 rfl <| g10 (op_fieldP (off' := 9) uU rfl ti28 (by decide) rfl ev rfl) rfl rfl rfl <| g10 (op_fieldP (off' := 9) uU rfl ti25 (by decide) rfl ev rfl) rfl rfl rfl <| g11 (op_load1P uU rfl rfl ev rfl) rfl rfl rfl rfl <| g10 (op_lenM uU ev rfl) rfl rfl rfl <| g10 (op_eqI ev (ec rfl) rfl) rfl rfl rfl <| ?_
   refine p20 (op_pickT ev ev rfl) rfl rfl <| ?_
   exact G.arr (J15 (decide ((o_0.Row.Ranges.length : Int) = 0)) hF) z2 z1 rfl
 refine G.known (t := 13) hc16 rfl <| oN rfl rfl rfl <| oN rfl rfl rfl <| oN rfl rfl rfl <| oN rfl rfl rfl <| oN rfl rfl rfl <| ?_
 refine p10 (op_pickF ev (ec rfl) rfl) rfl <| ?_
 exact G.arr (J15 false hF) z2 z1 rfl


theorem ct_ref24_Text (l_0 : (List Api_Op)) (r : ByteArray) (hF : ref24_Text l_0 = some r) : Ct Tryz.prog 9 [.g (.d (.sl 12 (List.map encApi_Op l_0)))] (.one (.d (vS r))) := by
 unfold ref24_Text at hF
 refine Ct.intro Tryz.func9 rfl Tryz.ntmps9 rfl rfl fun M w => ?_
 refine sr <| ac rfl rfl <| esr <| ac rfl rfl <| eO <| sq <| ?_
 refine sr <| ac rfl rfl <| eO <| ?_
 refine G.joinC (T := ByteArray) (fun y1 => ⟨[(3, oS y1)], []⟩) (fun y1 => ref24_Text_k1 y1 = some r) (fun y1 hF => ?_) (fun J2 => ?_)
 · unfold ref24_Text_k1 at hF
   refine sr <| mv rfl rfl <| av rfl rfl <| eO <| ?_
   cases hF
   exact G.ret1 Tryz.results9 (RVar.tmp 2 _) z1 trivial
 refine bl <| ?_
 refine lF (fun (v3 : ByteArray × Int) => ⟨[(0, .one (.g (.d (.sl 12 (List.map encApi_Op l_0))))), (3, oS v3.1), (4, oI v3.2)], []⟩) hF z3 trivial rfl (fun K6 again5 v3 J4 hF => ?_)
 unfold ref24_Text_l2 at hF
 refine sq <| sr <| mv rfl rfl <| mv rfl rfl <| p10 (op_lenM uU ev rfl) rfl <| p20 (op_lss ev ev rfl) rfl rfl <| ?_
 refine eO <| ?_
 refine ifS hF (fun hc7 hF => ?_) (fun hc7 hF => ?_)
 · refine cT hc7 rfl <| sk <| sq <| bl <| sr <| mv rfl rfl <| ?_
   refine mv rfl rfl <| bn hF fun x8 hx8 hF => p20 (op_indexM hx8 uU ti30 ev ev rfl) rfl rfl <| p10 (op_loadAE (ds := [vI x8.Kind, vI x8.Client, vI x8.Site, vI x8.To, vI x8.At, vI x8.How, vS x8.Key, vS x8.Value, .sl 1 (List.map encS x8.Keys), .sl 2 (List.map encApi_Range x8.Row.Ranges), .sl 1 (List.map encI_i64 x8.Row.Owners), .sl 1 (List.map encI_i64 x8.Row.Parents)]) uU rfl ti30 rfl ev rfl) rfl <| bn hF fun r9 hr9 hF => p10 (op_callQ cf7 (ct_ref24_Check _ _ hr9) rfl rfl (.cons qe .nil) rfl) rfl <| ?_
   refine av rfl rfl <| eO <| sq <| sr <| mv rfl rfl <| p10 (op_not ev rfl) rfl <| ?_
   refine eO <| ?_
   refine ifS hF (fun hc10 hF => ?_) (fun hc10 hF => ?_)
   · refine cT hc10 rfl <| sr <| ac rfl rfl <| eO <| ?_
     cases hF
     exact G.ret1 Tryz.results9 (RVar.tmp 2 _) z1 trivial
   refine cF hc10 rfl <| sk <| rg <| mv rfl rfl <| mv rfl rfl <| mv rfl rfl <| ?_
   refine bn hF fun x11 hx11 hF => p20 (op_indexM hx11 uU ti30 ev ev rfl) rfl rfl <| p10 (op_loadAE (ds := [vI x11.Kind, vI x11.Client, vI x11.Site, vI x11.To, vI x11.At, vI x11.How, vS x11.Key, vS x11.Value, .sl 1 (List.map encS x11.Keys), .sl 2 (List.map encApi_Range x11.Row.Ranges), .sl 1 (List.map encI_i64 x11.Row.Owners), .sl 1 (List.map encI_i64 x11.Row.Parents)]) uU rfl ti30 rfl ev rfl) rfl <| bn hF fun r12 hr12 hF => p10 (op_callQ cf17 (ct_ref24_line _ _ hr12) rfl rfl (.cons qe .nil) rfl) rfl <| bn hF fun s13 hs13 hF => ?_
   refine p20 (op_catM hs13 ev ev rfl) rfl rfl <| av rfl rfl <| eO <| eB <| rg <| mv rfl rfl <| ?_
   refine p10 (op_add ev (ec rfl) rfl) rfl <| av rfl rfl <| eO <| ?_
   exact G.arr (J4 (s13, IntKind.wrap .i64 (v3.2 + 1)) hF) z3 trivial rfl
 refine cF hc7 rfl <| ex <| ?_
 refine GX.c ?_
 refine GX.q ?_
 refine xY <| ?_
 exact G.arr (J2 v3.1 hF) z1 trivial rfl


theorem ct_law24_WordsWrites (l_0 : (List Api_Op)) (r : Bool) (hF : law24_WordsWrites l_0 = some r) : CtG Tryz.prog Γ0 3 [.g (.d (.sl 12 (List.map encApi_Op l_0)))] (.one (.d (vB r))) := by
 unfold law24_WordsWrites at hF
 refine CtG.intro (GL.ok _ _ _) Tryz.func3 rfl Tryz.ntmps3 rfl rfl fun M w hG => ?_
 refine sr <| ac rfl rfl <| esr <| bn hF fun r1 hr1 hF => p00 (op_callQG hG cf4 (ct_law24_awake _ hr1) rfl rfl .nil rfl) <| av rfl rfl <| ?_
 refine esr <| q01 (op_assignRow (E := 30) (size := 12) (k := 2004) (ex := false) rfl rfl) rfl <| eO <| sq <| sr <| ac rfl rfl <| ?_
 refine eO <| ?_
 refine G.joinC (T := (List Api_Op)) (fun y2 => ⟨[(3, oB r1), (4, .one (.own 2004 (List.map encApi_Op y2)))], [(2004, some (.row 30 12 (List.map encApi_Op y2) false))]⟩) (fun y2 => law24_WordsWrites_k1 r1 y2 = some r) (fun y2 hF => ?_) (fun J6 => ?_)
 · unfold law24_WordsWrites_k1 at hF
   refine sr <| mv rfl rfl <| mv rfl rfl <| ?_
   refine ifS hF (fun hc3 hF => ?_) (fun hc3 hF => ?_)
   · refine G.known (t := 33) hc3 rfl <| g10 (op_move ev rfl) rfl rfl rfl <| bn hF fun r4 hr4 hF => g11 (op_callQG hG cf8 (ct_words_Text _ _ hr4) rfl rfl (.cons (.own ev) .nil) rfl) rfl rfl rfl rfl <| g10 (op_move ev rfl) rfl rfl rfl <| bn hF fun r5 hr5 hF => ?_
     refine g11 (op_callQ cf9 (ct_ref24_Text _ _ hr5) rfl rfl (.cons (.own ev) .nil) rfl) rfl rfl rfl rfl <| g20 (op_eqS ev ev rfl) rfl rfl rfl rfl <| p20 (op_pickT ev ev rfl) rfl rfl <| av rfl rfl <| eO <| ?_
     cases hF
     exact G.ret1 Tryz.results3 (RVar.tmp 2 _) z1 trivial
   refine G.known (t := 33) hc3 rfl <| oN rfl rfl rfl <| oN rfl rfl rfl <| oN rfl rfl rfl <| oN rfl rfl rfl <| oN rfl rfl rfl <| ?_
   refine p10 (op_pickF ev (ec rfl) rfl) rfl <| av rfl rfl <| eO <| ?_
   cases hF
   exact G.ret1 Tryz.results3 (RVar.tmp 2 _) z1 trivial
 refine bl <| ?_
 refine lF (fun (v7 : Int × (List Api_Op)) => ⟨[(0, .one (.g (.d (.sl 12 (List.map encApi_Op l_0))))), (3, oB r1), (4, .one (.own 2004 (List.map encApi_Op v7.2))), (5, oI v7.1)], [(2004, some (.row 30 12 (List.map encApi_Op v7.2) false))]⟩) hF z4 z1 rfl (fun K10 again9 v7 J8 hF => ?_)
 unfold law24_WordsWrites_l2 at hF
 refine sq <| sq <| ?_
 refine G.joinC (T := Bool) (fun y11 => ⟨[(0, .one (.g (.d (.sl 12 (List.map encApi_Op l_0))))), (3, oB r1), (4, .one (.own 2004 (List.map encApi_Op v7.2))), (5, oI v7.1), (15, oB y11)], [(2004, some (.row 30 12 (List.map encApi_Op v7.2) false))]⟩) (fun y11 => law24_WordsWrites_k3 l_0 r1 again9 v7 y11 = some r) (fun y11 hF => ?_) (fun J19 => ?_)
 · unfold law24_WordsWrites_k3 at hF
   refine ifS hF (fun hc12 hF => ?_) (fun hc12 hF => ?_)
   · refine cT hc12 rfl <| sk <| sq <| bl <| sr <| mv rfl rfl <| ?_
     refine mv rfl rfl <| bn hF fun x13 hx13 hF => p20 (op_indexM hx13 uU ti30 ev ev rfl) rfl rfl <| p10 (op_loadAE (ds := [vI x13.Kind, vI x13.Client, vI x13.Site, vI x13.To, vI x13.At, vI x13.How, vS x13.Key, vS x13.Value, .sl 1 (List.map encS x13.Keys), .sl 2 (List.map encApi_Range x13.Row.Ranges), .sl 1 (List.map encI_i64 x13.Row.Owners), .sl 1 (List.map encI_i64 x13.Row.Parents)]) uU rfl ti30 rfl ev rfl) rfl <| bn hF fun r14 hr14 hF => p10 (op_call cf5 (ct_law24_few _ _ hr14) rfl (.cons ev .nil) rfl) rfl <| ?_
     refine q01 (op_alloc (k := 1006) (cs := [bI .i64 0, bI .i64 0, bI .i64 0, bI .i64 0, bI .i64 0, bI .i64 0, bS ByteArray.empty, bS ByteArray.empty, .g (.d (.sl 1 (List.map encS ([] : (List ByteArray))))), .g (.d (.sl 2 (List.map encApi_Range ([] : (List Api_Range))))), .g (.d (.sl 1 (List.map encI_i64 ([] : (List Int))))), .g (.d (.sl 1 (List.map encI_i64 ([] : (List Int)))))]) ti30 ⟨.v _ rfl, .v _ rfl, .v _ rfl, .v _ rfl, .v _ rfl, .v _ rfl, .v _ rfl, .v _ rfl, .n 1, .n 2, .n 1, .n 1, trivial⟩ rfl) rfl <| w21 (op_storeAM ti30 rfl ev ev) rfl rfl rfl <| eO <| sq <| sq <| bn hF fun r15 hr15 hF => ?_
     refine bn hF fun r16 hr16 hF => ?_
     refine G.drawnI (deps := [[], [0], [], [0, 1, 2], [0, 1, 2, 3]]) (sl' := [(0, .one (.g (.d (.sl 12 (List.map encApi_Op l_0))))), (3, oB r1), (4, .one (.own 2004 (List.map encApi_Op v7.2))), (5, oI v7.1), (6, .one (.ptr 1006 0)), (27, oB (!(r15 == r16)))]) (hp' := [(1006, some (.blk 30 [bI .i64 r14.Kind, bI .i64 r14.Client, bI .i64 r14.Site, bI .i64 r14.To, bI .i64 r14.At, bI .i64 r14.How, bS r14.Key, bS r14.Value, .g (.d (.sl 1 (List.map encS r14.Keys))), .g (.d (.sl 2 (List.map encApi_Range r14.Row.Ranges))), .g (.d (.sl 1 (List.map encI_i64 r14.Row.Owners))), .g (.d (.sl 1 (List.map encI_i64 r14.Row.Parents)))])), (2004, some (.row 30 12 (List.map encApi_Op v7.2) false))]) (.c (oP rfl rfl (op_loadAP (ds := [vI r14.Kind, vI r14.Client, vI r14.Site, vI r14.To, vI r14.At, vI r14.How, vS r14.Key, vS r14.Value, .sl 1 (List.map encS r14.Keys), .sl 2 (List.map encApi_Range r14.Row.Ranges), .sl 1 (List.map encI_i64 r14.Row.Owners), .sl 1 (List.map encI_i64 r14.Row.Parents)]) uU rfl ti30 rfl ev rfl)) (.c (oP rfl rfl (op_callQG hG cf6 (ct_words_Check _ _ hr15) rfl rfl (.cons qe .nil) rfl)) (.c (oP rfl rfl (op_loadAP (ds := [vI r14.Kind, vI r14.Client, vI r14.Site, vI r14.To, vI r14.At, vI r14.How, vS r14.Key, vS r14.Value, .sl 1 (List.map encS r14.Keys), .sl 2 (List.map encApi_Range r14.Row.Ranges), .sl 1 (List.map encI_i64 r14.Row.Owners), .sl 1 (List.map encI_i64 r14.Row.Parents)]) uU rfl ti30 rfl ev rfl)) (.c (oP rfl rfl (op_callQ cf7 (ct_ref24_Check _ _ hr16) rfl rfl (.cons qe .nil) rfl)) (.c (oP rfl rfl (op_neB uU ev ev rfl)) .nil))))) follows rfl rfl rfl ⟨⟨rfl, trivial⟩, ⟨⟨rfl, rfl⟩, trivial⟩, ⟨rfl, trivial⟩, trivial, ⟨rfl, trivial⟩, ⟨⟨rfl, rfl⟩, trivial⟩, ⟨rfl, trivial⟩, trivial, ⟨rfl, rfl, trivial⟩, trivial, trivial⟩ ⟨rfl, rfl, rfl, rfl, rfl, rfl, trivial⟩ ⟨rfl, rfl, trivial⟩ rfl ?_
     refine ifS hF (fun hc17 hF => ?_) (fun hc17 hF => ?_)
     · refine cT hc17 rfl <| sr <| ac rfl rfl <| eO <| ?_
       cases hF
       exact G.ret1 Tryz.results3 (RVar.tmp 2 _) z1 trivial
     refine cF hc17 rfl <| sk <| rg <| mv rfl rfl <| p11 (op_loadAP (ds := [vI r14.Kind, vI r14.Client, vI r14.Site, vI r14.To, vI r14.At, vI r14.How, vS r14.Key, vS r14.Value, .sl 1 (List.map encS r14.Keys), .sl 2 (List.map encApi_Range r14.Row.Ranges), .sl 1 (List.map encI_i64 r14.Row.Owners), .sl 1 (List.map encI_i64 r14.Row.Parents)]) uU rfl ti30 rfl ev rfl) rfl rfl <| p10 (op_buildSlice (es := List.map encApi_Op [r14]) uU ti30 rfl rfl (.cons ev .nil) rfl rfl (by simp [encApi_Op]) rfl) rfl <| ?_
     refine bn hF fun l18 hl18 hF => q21 (op_appendO uU ti30 rfl (app_map hl18 encApi_Op) (app_b1 hl18 encApi_Op) (app_b2 hl18 encApi_Op) ev ev rfl) rfl rfl rfl <| av rfl rfl <| eO <| eB <| rg <| ?_
     refine mv rfl rfl <| p10 (op_add ev (ec rfl) rfl) rfl <| av rfl rfl <| eO <| ?_
     exact G.arr (J8 (IntKind.wrap .i64 (v7.1 + 1), l18) hF) z4 z1 rfl
   refine cF hc12 rfl <| ex <| ?_
   refine GX.c ?_
   refine GX.q ?_
   refine xY <| ?_
   exact G.arr (J6 v7.2 hF) z2 z1 rfl
 refine rg <| mv rfl rfl <| mv rfl rfl <| p10 (op_lenM uU ev rfl) rfl <| p20 (op_lss ev ev rfl) rfl rfl <| mv rfl rfl <| ?_
 refine ifS hF (fun hc20 hF => ?_) (fun hc20 hF => ?_)
 · refine G.known (t := 12) hc20 rfl <| g10 (op_move ev rfl) rfl rfl rfl <| g10 (op_lss ev (ec rfl) rfl) rfl rfl rfl <| p20 (op_pickT ev ev rfl) rfl rfl <| eO <| ?_
   exact G.arr (J19 (decide (v7.1 < 5)) hF) z5 z1 rfl
 refine G.known (t := 12) hc20 rfl <| oN rfl rfl rfl <| oN rfl rfl rfl <| p10 (op_pickF ev (ec rfl) rfl) rfl <| eO <| ?_
 exact G.arr (J19 false hF) z5 z1 rfl


end Go.Ark
