/- Walks, printed by a program of mine: each function of the program computes the typed function of its name. Conditions: none. -/
import Derived.Test.YtfhlilpkgodilaaGreatDoorWWordsWrites1
namespace Go.Ark
open Go Go.Ab Go.RowKit Go.Lib Go.Proofs Go.Shelf

set_option maxRecDepth 20000
set_option maxHeartbeats 2000000

theorem ct_script_Bytes (l_0 : (List Api_Op)) (r : ByteArray) (hF : script_Bytes l_0 = some r) : Ct Tryz.prog 37 [.g (.d (.sl 12 (List.map encApi_Op l_0)))] (.one (.d (vS r))) := by
 unfold script_Bytes at hF
 refine Ct.intro Tryz.func37 rfl Tryz.ntmps37 rfl rfl fun M w => ?_
 refine sr <| ac rfl rfl <| esr <| ?_
 refine G.opM (op_allocB (T := 45) (E := 5) (k := 1003) (kk := 3003) ti45 rfl rfl rfl) rfl trivial z2 ?_
 refine esr <| mv rfl rfl <| p10 (op_lenM uU ev rfl) rfl <| p10 (op_convI uU uU ev rfl) rfl <| bn hF fun r1 hr1 hF => p10 (op_callQ cf61 (ct_vary_Number _ _ hr1) rfl rfl (.cons qe .nil) rfl) rfl <| ?_
 refine bn hF fun r2 hr2 hF => ?_
 refine G.opM (op_callM (k := 1003) (h := .bld 45 5 ByteArray.empty) (h' := .bld 45 5 r2) 3003 (sv := .tup [bI .i64 (r1.size : Int), .g (.d (.v .nilIface))]) cf19 (ct_bld_WriteString _ _ _ hr2) rfl rfl (.pt ev (.g ev .nil)) rfl) rfl z2 z2 ?_
 refine eO <| sq <| sr <| mv rfl rfl <| p10 (op_lenM uU ev rfl) rfl <| p00 (op_move (ec rfl) rfl) <| ?_
 refine eO <| ?_
 refine G.joinC (T := ByteArray) (fun y3 => ⟨[(3, .one (.ptr 1003 0))], [(1003, some (.bld 45 5 3003 y3)), (3003, some (.hid true 1003))]⟩) (fun y3 => script_Bytes_k1 y3 = some r) (fun y3 hF => ?_) (fun J5 => ?_)
 · unfold script_Bytes_k1 at hF
   refine sr <| bn hF fun r4 hr4 hF => ?_
   refine G.opM (op_callM (k := 1003) (h := .bld 45 5 y3) (h' := .gone) 3003 (sv := oS r4) cf20 (ct_bld_String _ _ hr4) rfl rfl (.pt ev .nil) rfl) rfl z1 z2 ?_
   refine av rfl rfl <| eO <| ?_
   cases hF
   exact G.ret1 Tryz.results37 (RVar.tmp 2 _) z1 trivial
 refine bl <| ?_
 refine lF (fun (v6 : Int × ByteArray) => ⟨[(3, .one (.ptr 1003 0)), (16, .one (.g (.d (.sl 12 (List.map encApi_Op l_0))))), (17, oI (l_0.length : Int)), (18, oI v6.1)], [(1003, some (.bld 45 5 3003 v6.2)), (3003, some (.hid true 1003))]⟩) hF z4 z2 rfl (fun K9 again8 v6 J7 hF => ?_)
 unfold script_Bytes_l2 at hF
 refine sr <| p20 (op_lss ev ev rfl) rfl rfl <| eO <| sq <| ?_
 refine ifS hF (fun hc10 hF => ?_) (fun hc10 hF => ?_)
 · refine cT hc10 rfl <| sk <| sq <| ?_
   refine G.joinC (T := ByteArray) (fun y11 => ⟨[(3, .one (.ptr 1003 0)), (16, .one (.g (.d (.sl 12 (List.map encApi_Op l_0))))), (17, oI (l_0.length : Int)), (18, oI v6.1)], [(1003, some (.bld 45 5 3003 y11)), (3003, some (.hid true 1003))]⟩) (fun y11 => script_Bytes_k3 again8 v6 y11 = some r) (fun y11 hF => ?_) (fun J12 => ?_)
   · unfold script_Bytes_k3 at hF
     refine rg <| p10 (op_add ev (ec rfl) rfl) rfl <| mv rfl rfl <| eO <| ?_
     exact G.arr (J7 (IntKind.wrap .i64 (v6.1 + 1), y11) hF) z4 z2 rfl
   refine bl <| sr <| bn hF fun x13 hx13 hF => p20 (op_indexM hx13 uU ti30 ev ev rfl) rfl rfl <| p10 (op_loadAE (ds := [vI x13.Kind, vI x13.Client, vI x13.Site, vI x13.To, vI x13.At, vI x13.How, vS x13.Key, vS x13.Value, .sl 1 (List.map encS x13.Keys), .sl 2 (List.map encApi_Range x13.Row.Ranges), .sl 1 (List.map encI_i64 x13.Row.Owners), .sl 1 (List.map encI_i64 x13.Row.Parents)]) uU rfl ti30 rfl ev rfl) rfl <| q01 (op_alloc (k := 1005) (cs := [bI .i64 0, bI .i64 0, bI .i64 0, bI .i64 0, bI .i64 0, bI .i64 0, bS ByteArray.empty, bS ByteArray.empty, .g (.d (.sl 1 (List.map encS ([] : (List ByteArray))))), .g (.d (.sl 2 (List.map encApi_Range ([] : (List Api_Range))))), .g (.d (.sl 1 (List.map encI_i64 ([] : (List Int))))), .g (.d (.sl 1 (List.map encI_i64 ([] : (List Int)))))]) ti30 ⟨.v _ rfl, .v _ rfl, .v _ rfl, .v _ rfl, .v _ rfl, .v _ rfl, .v _ rfl, .v _ rfl, .n 1, .n 2, .n 1, .n 1, trivial⟩ rfl) rfl <| ?_
   refine w21 (op_storeAM ti30 rfl ev ev) rfl rfl rfl <| eO <| sq <| sr <| p11 (op_loadAP (ds := [vI x13.Kind, vI x13.Client, vI x13.Site, vI x13.To, vI x13.At, vI x13.How, vS x13.Key, vS x13.Value, .sl 1 (List.map encS x13.Keys), .sl 2 (List.map encApi_Range x13.Row.Ranges), .sl 1 (List.map encI_i64 x13.Row.Owners), .sl 1 (List.map encI_i64 x13.Row.Parents)]) uU rfl ti30 rfl ev rfl) rfl rfl <| bn hF fun r14 hr14 hF => ?_
   refine p10 (op_callQ cf12 (ct_script_Check _ _ hr14) rfl rfl (.cons qe .nil) rfl) rfl <| p10 (op_not ev rfl) rfl <| eO <| ?_
   refine ifS hF (fun hc15 hF => ?_) (fun hc15 hF => ?_)
   · refine cT hc15 rfl <| sr <| ac rfl rfl <| eO <| ?_
     cases hF
     exact G.ret1 Tryz.results37 (RVar.tmp 2 _) z1 trivial
   refine cF hc15 rfl <| sk <| sq <| sr <| p11 (op_loadAP (ds := [vI x13.Kind, vI x13.Client, vI x13.Site, vI x13.To, vI x13.At, vI x13.How, vS x13.Key, vS x13.Value, .sl 1 (List.map encS x13.Keys), .sl 2 (List.map encApi_Range x13.Row.Ranges), .sl 1 (List.map encI_i64 x13.Row.Owners), .sl 1 (List.map encI_i64 x13.Row.Parents)]) uU rfl ti30 rfl ev rfl) rfl rfl <| bn hF fun r16 hr16 hF => ?_
   refine p10 (op_call cf28 (ct_script_numbers _ _ hr16) rfl (.cons ev .nil) rfl) rfl <| p10 (op_lenM uU ev rfl) rfl <| p00 (op_move (ec rfl) rfl) <| eO <| ?_
   refine G.joinC (T := ByteArray) (fun y17 => ⟨[(3, .one (.ptr 1003 0)), (5, .one (.ptr 1005 0)), (16, .one (.g (.d (.sl 12 (List.map encApi_Op l_0))))), (17, oI (l_0.length : Int)), (18, oI v6.1)], [(1003, some (.bld 45 5 3003 y17)), (1005, some (.blk 30 [bI .i64 x13.Kind, bI .i64 x13.Client, bI .i64 x13.Site, bI .i64 x13.To, bI .i64 x13.At, bI .i64 x13.How, bS x13.Key, bS x13.Value, .g (.d (.sl 1 (List.map encS x13.Keys))), .g (.d (.sl 2 (List.map encApi_Range x13.Row.Ranges))), .g (.d (.sl 1 (List.map encI_i64 x13.Row.Owners))), .g (.d (.sl 1 (List.map encI_i64 x13.Row.Parents)))])), (3003, some (.hid true 1003))]⟩) (fun y17 => script_Bytes_k4 again8 v6 x13 y17 = some r) (fun y17 hF => ?_) (fun J41 => ?_)
   · unfold script_Bytes_k4 at hF
     refine sq <| bn hF fun r18 hr18 hF => bn hF fun r19 hr19 hF => bn hF fun s20 hs20 hF => bn hF fun r21 hr21 hF => bn hF fun s22 hs22 hF => ?_
     refine bn hF fun r23 hr23 hF => ?_
     refine G.drawnI (deps := [[], [0], [0, 1], [], [3], [0, 1, 2, 3, 4], [0, 1, 2, 3, 4, 5], [], [7], [7, 8], [7, 8, 9], [0, 1, 2, 3, 4, 5, 7, 8, 9, 10], [0, 1, 2, 3, 4, 5, 6, 7, 8, 9, 10, 11], [0, 1, 2, 3, 4, 5, 6, 7, 8, 9, 10, 11, 12]]) (sl' := [(3, .one (.ptr 1003 0)), (5, .one (.ptr 1005 0)), (16, .one (.g (.d (.sl 12 (List.map encApi_Op l_0))))), (17, oI (l_0.length : Int)), (18, oI v6.1)]) (hp' := [(1003, some (.bld 45 5 3003 r23)), (1005, some (.blk 30 [bI .i64 x13.Kind, bI .i64 x13.Client, bI .i64 x13.Site, bI .i64 x13.To, bI .i64 x13.At, bI .i64 x13.How, bS x13.Key, bS x13.Value, .g (.d (.sl 1 (List.map encS x13.Keys))), .g (.d (.sl 2 (List.map encApi_Range x13.Row.Ranges))), .g (.d (.sl 1 (List.map encI_i64 x13.Row.Owners))), .g (.d (.sl 1 (List.map encI_i64 x13.Row.Parents)))])), (3003, some (.hid true 1003))]) (.c (oP rfl rfl (op_fieldP (off' := 6) uU rfl ti9 (by decide) rfl ev rfl)) (.c (oP rfl rfl (op_load1P uU rfl rfl ev rfl)) (.c (oP rfl rfl (op_callQ cf62 (ct_vary_Text _ _ hr18) rfl rfl (.cons qe .nil) rfl)) (.c (oP rfl rfl (op_fieldP (off' := 7) uU rfl ti9 (by decide) rfl ev rfl)) (.c (oP rfl rfl (op_load1P uU rfl rfl ev rfl)) (.c (oP rfl rfl (op_callQ cf62 (ct_vary_Text _ _ hr19) rfl rfl (.cons qe .nil) rfl)) (.c (oP rfl rfl (op_catM hs20 ev ev rfl)) (.c (oP rfl rfl (op_fieldP (off' := 8) uU rfl ti24 (by decide) rfl ev rfl)) (.c (oP rfl rfl (op_load1P uU rfl rfl ev rfl)) (.c (oP rfl rfl (op_lenM uU ev rfl)) (.c (oP rfl rfl (op_convI uU uU ev rfl)) (.c (oP rfl rfl (op_callQ cf61 (ct_vary_Number _ _ hr21) rfl rfl (.cons qe .nil) rfl)) (.c (oP rfl rfl (op_catM hs22 ev ev rfl)) (.c (oP rfl rfl (op_callM (k := 1003) (h := .bld 45 5 y17) (h' := .bld 45 5 r23) 3003 (sv := .tup [bI .i64 (s22.size : Int), .g (.d (.v .nilIface))]) cf19 (ct_bld_WriteString _ _ _ hr23) rfl rfl (.pt ev (.g ev .nil)) rfl)) .nil)))))))))))))) follows rfl rfl rfl ⟨⟨rfl, trivial⟩, trivial, ⟨rfl, trivial⟩, ⟨⟨rfl, rfl⟩, trivial⟩, ⟨rfl, trivial⟩, trivial, ⟨rfl, trivial⟩, trivial, ⟨rfl, trivial⟩, ⟨⟨rfl, rfl⟩, trivial⟩, ⟨rfl, trivial⟩, trivial, ⟨rfl, rfl, trivial⟩, trivial, ⟨rfl, trivial⟩, trivial, ⟨rfl, trivial⟩, ⟨⟨rfl, rfl⟩, trivial⟩, ⟨rfl, trivial⟩, trivial, ⟨rfl, trivial⟩, trivial, ⟨rfl, trivial⟩, trivial, ⟨rfl, rfl, trivial⟩, trivial, ⟨rfl, rfl, trivial⟩, ⟨⟨rfl, rfl⟩, ⟨rfl, rfl⟩, trivial⟩, trivial⟩ ⟨rfl, rfl, rfl, rfl, rfl, trivial⟩ ⟨rfl, rfl, rfl, trivial⟩ rfl ?_
     refine sq <| sr <| p10 (op_fieldP (off' := 8) uU rfl ti24 (by decide) rfl ev rfl) rfl <| p11 (op_load1P uU rfl rfl ev rfl) rfl rfl <| p10 (op_lenM uU ev rfl) rfl <| p00 (op_move (ec rfl) rfl) <| ?_
     refine eO <| ?_
     refine G.joinC (T := ByteArray) (fun y24 => ⟨[(3, .one (.ptr 1003 0)), (5, .one (.ptr 1005 0)), (16, .one (.g (.d (.sl 12 (List.map encApi_Op l_0))))), (17, oI (l_0.length : Int)), (18, oI v6.1)], [(1003, some (.bld 45 5 3003 y24)), (1005, some (.blk 30 [bI .i64 x13.Kind, bI .i64 x13.Client, bI .i64 x13.Site, bI .i64 x13.To, bI .i64 x13.At, bI .i64 x13.How, bS x13.Key, bS x13.Value, .g (.d (.sl 1 (List.map encS x13.Keys))), .g (.d (.sl 2 (List.map encApi_Range x13.Row.Ranges))), .g (.d (.sl 1 (List.map encI_i64 x13.Row.Owners))), .g (.d (.sl 1 (List.map encI_i64 x13.Row.Parents)))])), (3003, some (.hid true 1003))]⟩) (fun y24 => script_Bytes_k5 again8 v6 x13 y24 = some r) (fun y24 hF => ?_) (fun J32 => ?_)
     · unfold script_Bytes_k5 at hF
       refine sr <| ac rfl rfl <| eO <| sq <| sr <| p10 (op_fieldP (off' := 9) uU rfl ti28 (by decide) rfl ev rfl) rfl <| ?_
       refine p11 (op_loadAP (ds := [.sl 2 (List.map encApi_Range x13.Row.Ranges), .sl 1 (List.map encI_i64 x13.Row.Owners), .sl 1 (List.map encI_i64 x13.Row.Parents)]) uU rfl ti28 rfl ev rfl) rfl rfl <| bn hF fun r25 hr25 hF => p10 (op_callQ cf30 (ct_script_empty _ _ hr25) rfl rfl (.cons qe .nil) rfl) rfl <| p10 (op_not ev rfl) rfl <| eO <| ?_
       refine ifS hF (fun hc26 hF => ?_) (fun hc26 hF => ?_)
       · refine cT hc26 rfl <| rg <| p10 (op_fieldP (off' := 9) uU rfl ti28 (by decide) rfl ev rfl) rfl <| p11 (op_loadAP (ds := [.sl 2 (List.map encApi_Range x13.Row.Ranges), .sl 1 (List.map encI_i64 x13.Row.Owners), .sl 1 (List.map encI_i64 x13.Row.Parents)]) uU rfl ti28 rfl ev rfl) rfl rfl <| bn hF fun r27 hr27 hF => p10 (op_callQ cf31 (ct_wire_RowBytes _ _ hr27) rfl rfl (.cons qe .nil) rfl) rfl <| ?_
         refine av rfl rfl <| eO <| rg <| mv rfl rfl <| bn hF fun r28 hr28 hF => p10 (op_callQ cf62 (ct_vary_Text _ _ hr28) rfl rfl (.cons qe .nil) rfl) rfl <| ?_
         refine bn hF fun r29 hr29 hF => ?_
         refine G.opM (op_callM (k := 1003) (h := .bld 45 5 y24) (h' := .bld 45 5 r29) 3003 (sv := .tup [bI .i64 (r28.size : Int), .g (.d (.v .nilIface))]) cf19 (ct_bld_WriteString _ _ _ hr29) rfl rfl (.pt ev (.g ev .nil)) rfl) rfl z2 z2 ?_
         refine eO <| eB <| ?_
         exact G.arr (J12 r29 hF) z4 z2 rfl
       refine cF hc26 rfl <| sk <| rg <| mv rfl rfl <| bn hF fun r30 hr30 hF => p10 (op_callQ cf62 (ct_vary_Text _ _ hr30) rfl rfl (.cons qe .nil) rfl) rfl <| ?_
       refine bn hF fun r31 hr31 hF => ?_
       refine G.opM (op_callM (k := 1003) (h := .bld 45 5 y24) (h' := .bld 45 5 r31) 3003 (sv := .tup [bI .i64 (r30.size : Int), .g (.d (.v .nilIface))]) cf19 (ct_bld_WriteString _ _ _ hr31) rfl rfl (.pt ev (.g ev .nil)) rfl) rfl z2 z2 ?_
       refine eO <| eB <| ?_
       exact G.arr (J12 r31 hF) z4 z2 rfl
     refine bl <| ?_
     refine lF (fun (v33 : Int × ByteArray) => ⟨[(3, .one (.ptr 1003 0)), (5, .one (.ptr 1005 0)), (16, .one (.g (.d (.sl 12 (List.map encApi_Op l_0))))), (17, oI (l_0.length : Int)), (18, oI v6.1), (52, .one (.g (.d (.sl 1 (List.map encS x13.Keys))))), (53, oI (x13.Keys.length : Int)), (54, oI v33.1)], [(1003, some (.bld 45 5 3003 v33.2)), (1005, some (.blk 30 [bI .i64 x13.Kind, bI .i64 x13.Client, bI .i64 x13.Site, bI .i64 x13.To, bI .i64 x13.At, bI .i64 x13.How, bS x13.Key, bS x13.Value, .g (.d (.sl 1 (List.map encS x13.Keys))), .g (.d (.sl 2 (List.map encApi_Range x13.Row.Ranges))), .g (.d (.sl 1 (List.map encI_i64 x13.Row.Owners))), .g (.d (.sl 1 (List.map encI_i64 x13.Row.Parents)))])), (3003, some (.hid true 1003))]⟩) hF z8 z3 rfl (fun K36 again35 v33 J34 hF => ?_)
     unfold script_Bytes_l6 at hF
     refine sr <| p20 (op_lss ev ev rfl) rfl rfl <| eO <| sq <| ?_
     refine ifS hF (fun hc37 hF => ?_) (fun hc37 hF => ?_)
     · refine cT hc37 rfl <| sk <| sq <| bl <| sr <| bn hF fun x38 hx38 hF => ?_
       refine p20 (op_indexM hx38 uU ti9 ev ev rfl) rfl rfl <| p10 (op_load1E uU rfl rfl ev rfl) rfl <| av rfl rfl <| eO <| rg <| mv rfl rfl <| ?_
       refine bn hF fun r39 hr39 hF => p10 (op_callQ cf62 (ct_vary_Text _ _ hr39) rfl rfl (.cons qe .nil) rfl) rfl <| bn hF fun r40 hr40 hF => ?_
       refine G.opM (op_callM (k := 1003) (h := .bld 45 5 v33.2) (h' := .bld 45 5 r40) 3003 (sv := .tup [bI .i64 (r39.size : Int), .g (.d (.v .nilIface))]) cf19 (ct_bld_WriteString _ _ _ hr40) rfl rfl (.pt ev (.g ev .nil)) rfl) rfl z2 z2 ?_
       refine eO <| eB <| rg <| p10 (op_add ev (ec rfl) rfl) rfl <| mv rfl rfl <| eO <| ?_
       exact G.arr (J34 (IntKind.wrap .i64 (v33.1 + 1), r40) hF) z8 z3 rfl
     refine cF hc37 rfl <| ex <| ?_
     refine GX.c ?_
     refine GX.q ?_
     refine xY <| ?_
     exact G.arr (J32 v33.2 hF) z5 z3 rfl
   refine bl <| ?_
   refine lF (fun (v42 : Int × ByteArray) => ⟨[(3, .one (.ptr 1003 0)), (5, .one (.ptr 1005 0)), (16, .one (.g (.d (.sl 12 (List.map encApi_Op l_0))))), (17, oI (l_0.length : Int)), (18, oI v6.1), (26, .one (.g (.d (.sl 1 (List.map encI_i64 r16))))), (27, oI (r16.length : Int)), (28, oI v42.1)], [(1003, some (.bld 45 5 3003 v42.2)), (1005, some (.blk 30 [bI .i64 x13.Kind, bI .i64 x13.Client, bI .i64 x13.Site, bI .i64 x13.To, bI .i64 x13.At, bI .i64 x13.How, bS x13.Key, bS x13.Value, .g (.d (.sl 1 (List.map encS x13.Keys))), .g (.d (.sl 2 (List.map encApi_Range x13.Row.Ranges))), .g (.d (.sl 1 (List.map encI_i64 x13.Row.Owners))), .g (.d (.sl 1 (List.map encI_i64 x13.Row.Parents)))])), (3003, some (.hid true 1003))]⟩) hF z8 z3 rfl (fun K45 again44 v42 J43 hF => ?_)
   unfold script_Bytes_l7 at hF
   refine sr <| p20 (op_lss ev ev rfl) rfl rfl <| eO <| sq <| ?_
   refine ifS hF (fun hc46 hF => ?_) (fun hc46 hF => ?_)
   · refine cT hc46 rfl <| sk <| sq <| bl <| sr <| bn hF fun x47 hx47 hF => ?_
     refine p20 (op_indexM hx47 uU ti3 ev ev rfl) rfl rfl <| p10 (op_load1E uU rfl rfl ev rfl) rfl <| av rfl rfl <| eO <| rg <| mv rfl rfl <| ?_
     refine p10 (op_convI uU uU ev rfl) rfl <| bn hF fun r48 hr48 hF => p10 (op_callQ cf61 (ct_vary_Number _ _ hr48) rfl rfl (.cons qe .nil) rfl) rfl <| bn hF fun r49 hr49 hF => ?_
     refine G.opM (op_callM (k := 1003) (h := .bld 45 5 v42.2) (h' := .bld 45 5 r49) 3003 (sv := .tup [bI .i64 (r48.size : Int), .g (.d (.v .nilIface))]) cf19 (ct_bld_WriteString _ _ _ hr49) rfl rfl (.pt ev (.g ev .nil)) rfl) rfl z2 z2 ?_
     refine eO <| eB <| rg <| p10 (op_add ev (ec rfl) rfl) rfl <| mv rfl rfl <| eO <| ?_
     exact G.arr (J43 (IntKind.wrap .i64 (v42.1 + 1), r49) hF) z8 z3 rfl
   refine cF hc46 rfl <| ex <| ?_
   refine GX.c ?_
   refine GX.q ?_
   refine xY <| ?_
   exact G.arr (J41 v42.2 hF) z5 z3 rfl
 refine cF hc10 rfl <| ex <| ?_
 refine GX.c ?_
 refine GX.q ?_
 refine xY <| ?_
 exact G.arr (J5 v6.2 hF) z1 z2 rfl


theorem ct_slices_Equal_string (s1_0 : (List ByteArray)) (s2_1 : (List ByteArray)) (r : Bool) (hF : slices_Equal_string s1_0 s2_1 = some r) : Ct Tryz.prog 38 [.g (.d (.sl 1 (List.map encS s1_0))), .g (.d (.sl 1 (List.map encS s2_1)))] (.one (.d (vB r))) := by
 unfold slices_Equal_string at hF
 refine Ct.intro Tryz.func38 rfl Tryz.ntmps38 rfl rfl fun M w => ?_
 refine sr <| ac rfl rfl <| eO <| sq <| sr <| mv rfl rfl <| ?_
 refine p10 (op_lenM uU ev rfl) rfl <| mv rfl rfl <| p10 (op_lenM uU ev rfl) rfl <| p20 (op_neI ev ev rfl) rfl rfl <| eO <| ?_
 refine ifS hF (fun hc1 hF => ?_) (fun hc1 hF => ?_)
 · refine cT hc1 rfl <| sr <| ac rfl rfl <| eO <| ?_
   cases hF
   exact G.ret1 Tryz.results38 (RVar.tmp 4 _) z1 trivial
 refine cF hc1 rfl <| sk <| sq <| sr <| mv rfl rfl <| p10 (op_lenM uU ev rfl) rfl <| ?_
 refine p00 (op_move (ec rfl) rfl) <| eO <| ?_
 refine G.joinC (T := Unit) (fun y2 => ⟨[], []⟩) (fun y2 => slices_Equal_string_k1 y2 = some r) (fun y2 hF => ?_) (fun J3 => ?_)
 · unfold slices_Equal_string_k1 at hF
   refine sr <| ac rfl rfl <| eO <| ?_
   cases hF
   exact G.ret1 Tryz.results38 (RVar.tmp 4 _) z1 trivial
 refine bl <| ?_
 refine lF (fun (v4 : Int) => ⟨[(0, .one (.g (.d (.sl 1 (List.map encS s1_0))))), (1, .one (.g (.d (.sl 1 (List.map encS s2_1))))), (12, oI (s1_0.length : Int)), (13, oI v4)], []⟩) hF z4 trivial rfl (fun K7 again6 v4 J5 hF => ?_)
 unfold slices_Equal_string_l2 at hF
 refine sr <| p20 (op_lss ev ev rfl) rfl rfl <| eO <| sq <| ?_
 refine ifS hF (fun hc8 hF => ?_) (fun hc8 hF => ?_)
 · refine cT hc8 rfl <| sk <| sq <| bl <| sr <| mv rfl rfl <| ?_
   refine av rfl rfl <| eO <| sq <| bn hF fun x9 hx9 hF => bn hF fun x10 hx10 hF => ?_
   refine G.drawnI (deps := [[], [], [0, 1], [0, 1, 2], [], [], [4, 5], [4, 5, 6], [0, 1, 2, 3, 4, 5, 6, 7]]) (sl' := [(0, .one (.g (.d (.sl 1 (List.map encS s1_0))))), (1, .one (.g (.d (.sl 1 (List.map encS s2_1))))), (12, oI (s1_0.length : Int)), (13, oI v4), (24, oB (!seq x9 x10))]) (hp' := []) (.c (oP rfl rfl (op_move ev rfl)) (.c (oP rfl rfl (op_move ev rfl)) (.c (oP rfl rfl (op_indexM hx9 uU ti9 ev ev rfl)) (.c (oP rfl rfl (op_load1E uU rfl rfl ev rfl)) (.c (oP rfl rfl (op_move ev rfl)) (.c (oP rfl rfl (op_move ev rfl)) (.c (oP rfl rfl (op_indexM hx10 uU ti9 ev ev rfl)) (.c (oP rfl rfl (op_load1E uU rfl rfl ev rfl)) (.c (oP rfl rfl (op_neS ev ev rfl)) .nil))))))))) follows rfl rfl rfl ⟨⟨rfl, trivial⟩, trivial, ⟨rfl, trivial⟩, trivial, ⟨rfl, rfl, trivial⟩, trivial, ⟨rfl, trivial⟩, trivial, ⟨rfl, trivial⟩, trivial, ⟨rfl, trivial⟩, trivial, ⟨rfl, rfl, trivial⟩, trivial, ⟨rfl, trivial⟩, trivial, ⟨rfl, rfl, trivial⟩, trivial, trivial⟩ ⟨rfl, rfl, rfl, rfl, rfl, trivial⟩ trivial rfl ?_
   refine ifS hF (fun hc11 hF => ?_) (fun hc11 hF => ?_)
   · refine cT hc11 rfl <| sr <| ac rfl rfl <| eO <| ?_
     cases hF
     exact G.ret1 Tryz.results38 (RVar.tmp 4 _) z1 trivial
   refine cF hc11 rfl <| sk <| eB <| rg <| p10 (op_add ev (ec rfl) rfl) rfl <| mv rfl rfl <| ?_
   refine eO <| ?_
   exact G.arr (J5 (IntKind.wrap .i64 (v4 + 1)) hF) z4 trivial rfl
 refine cF hc8 rfl <| ex <| ?_
 refine GX.c ?_
 refine GX.q ?_
 refine xY <| ?_
 exact G.arr (J3 () hF) trivial trivial rfl


theorem ct_words_same (a_0 : Api_Op) (b_1 : Api_Op) (r : Bool) (hF : words_same a_0 b_1 = some r) : Ct Tryz.prog 14 [.g (.agg (encApi_Op a_0)), .g (.agg (encApi_Op b_1))] (.one (.d (vB r))) := by
 unfold words_same at hF
 refine Ct.intro Tryz.func14 rfl Tryz.ntmps14 rfl rfl fun M w => ?_
 refine sr <| q11 (op_boxA (k := 1002) ev rfl) rfl rfl <| q11 (op_boxA (k := 1003) ev rfl) rfl rfl <| ac rfl rfl <| eO <| sq <| ?_
 refine bn hF fun r1 hr1 hF => bn hF fun r2 hr2 hF => ?_
 refine ifS hF (fun hc3 hF => ?_) (fun hc3 hF => ?_)
 · refine bn hF fun r4 hr4 hF => ?_
   refine G.drawnI (deps := [[], [0], [0, 1], [], [3], [0, 1, 2, 3, 4], [0, 1, 2, 3, 4, 5], [0, 1, 2, 3, 4, 5, 6], [0, 1, 2, 3, 4, 5, 6, 7], [0, 1, 2, 3, 4, 5, 6, 7, 8], [0, 1, 2, 3, 4, 5, 6, 7], [0, 1, 2, 3, 4, 5, 6, 7, 10], [0, 1, 2, 3, 4, 5, 6, 7, 8, 9, 10, 11], [0, 1, 2, 3, 4, 5, 6, 7, 8, 9, 10, 11, 12], [0, 1, 2, 3, 4, 5, 6, 7, 8, 9, 10, 11, 12, 13]]) (sl' := [(4, oB r4)]) (hp' := []) (.c (oP rfl rfl (op_loadAP (ds := [vI a_0.Kind, vI a_0.Client, vI a_0.Site, vI a_0.To, vI a_0.At, vI a_0.How, vS a_0.Key, vS a_0.Value, .sl 1 (List.map encS a_0.Keys), .sl 2 (List.map encApi_Range a_0.Row.Ranges), .sl 1 (List.map encI_i64 a_0.Row.Owners), .sl 1 (List.map encI_i64 a_0.Row.Parents)]) uU rfl ti30 rfl ev rfl)) (.c (oP rfl rfl (op_buildSlice (es := List.map encApi_Op [a_0]) uU ti30 rfl rfl (.cons ev .nil) rfl rfl (by simp [encApi_Op]) rfl)) (.c (oP rfl rfl (op_callQ cf37 (ct_script_Bytes _ _ hr1) rfl rfl (.cons qe .nil) rfl)) (.c (oP rfl rfl (op_loadAP (ds := [vI b_1.Kind, vI b_1.Client, vI b_1.Site, vI b_1.To, vI b_1.At, vI b_1.How, vS b_1.Key, vS b_1.Value, .sl 1 (List.map encS b_1.Keys), .sl 2 (List.map encApi_Range b_1.Row.Ranges), .sl 1 (List.map encI_i64 b_1.Row.Owners), .sl 1 (List.map encI_i64 b_1.Row.Parents)]) uU rfl ti30 rfl ev rfl)) (.c (oP rfl rfl (op_buildSlice (es := List.map encApi_Op [b_1]) uU ti30 rfl rfl (.cons ev .nil) rfl rfl (by simp [encApi_Op]) rfl)) (.c (oP rfl rfl (op_callQ cf37 (ct_script_Bytes _ _ hr2) rfl rfl (.cons qe .nil) rfl)) (.c (oP rfl rfl (OpL.cast (op_eqS ev ev rfl) (congrArg (fun b => bB b) hc3))) (.c (oP rfl rfl (op_move ev rfl)) (.c (oY rfl rfl rfl (op_fieldP (off' := 8) uU rfl ti24 (by decide) rfl ev rfl)) (.c (oY rfl rfl rfl (op_load1P uU rfl rfl ev rfl)) (.c (oY rfl rfl rfl (op_fieldP (off' := 8) uU rfl ti24 (by decide) rfl ev rfl)) (.c (oY rfl rfl rfl (op_load1P uU rfl rfl ev rfl)) (.c (oY rfl rfl rfl (op_callQ cf38 (ct_slices_Equal_string _ _ _ hr4) rfl rfl (.cons qe (.cons qe .nil)) rfl)) (.c (oP rfl rfl (op_pickT ev ev rfl)) (.c (oP rfl rfl (op_assign ev rfl)) .nil))))))))))))))) follows rfl rfl rfl ⟨⟨rfl, trivial⟩, ⟨⟨rfl, rfl⟩, trivial⟩, ⟨rfl, trivial⟩, trivial, ⟨rfl, trivial⟩, trivial, ⟨rfl, trivial⟩, ⟨⟨rfl, rfl⟩, trivial⟩, ⟨rfl, trivial⟩, trivial, ⟨rfl, trivial⟩, trivial, ⟨rfl, rfl, trivial⟩, trivial, ⟨rfl, trivial⟩, trivial, ⟨rfl, rfl, trivial⟩, trivial, ⟨rfl, rfl, trivial⟩, ⟨⟨rfl, rfl⟩, trivial⟩, ⟨rfl, rfl, trivial⟩, trivial, ⟨rfl, rfl, trivial⟩, ⟨⟨rfl, rfl⟩, trivial⟩, ⟨rfl, rfl, rfl, trivial⟩, trivial, ⟨rfl, rfl, trivial⟩, trivial, ⟨rfl, trivial⟩, trivial, trivial⟩ ⟨rfl, trivial⟩ trivial rfl ?_
   cases hF
   exact G.ret1 Tryz.results14 (RVar.tmp 4 _) z1 trivial
 refine G.drawnI (deps := [[], [0], [0, 1], [], [3], [0, 1, 2, 3, 4], [0, 1, 2, 3, 4, 5], [0, 1, 2, 3, 4, 5, 6], [0, 1, 2, 3, 4, 5, 6, 7], [0, 1, 2, 3, 4, 5, 6, 7, 8], [0, 1, 2, 3, 4, 5, 6, 7], [0, 1, 2, 3, 4, 5, 6, 7, 10], [0, 1, 2, 3, 4, 5, 6, 7, 8, 9, 10, 11], [0, 1, 2, 3, 4, 5, 6, 7, 8, 9, 10, 11, 12], [0, 1, 2, 3, 4, 5, 6, 7, 8, 9, 10, 11, 12, 13]]) (sl' := [(4, oB false)]) (hp' := []) (.c (oP rfl rfl (op_loadAP (ds := [vI a_0.Kind, vI a_0.Client, vI a_0.Site, vI a_0.To, vI a_0.At, vI a_0.How, vS a_0.Key, vS a_0.Value, .sl 1 (List.map encS a_0.Keys), .sl 2 (List.map encApi_Range a_0.Row.Ranges), .sl 1 (List.map encI_i64 a_0.Row.Owners), .sl 1 (List.map encI_i64 a_0.Row.Parents)]) uU rfl ti30 rfl ev rfl)) (.c (oP rfl rfl (op_buildSlice (es := List.map encApi_Op [a_0]) uU ti30 rfl rfl (.cons ev .nil) rfl rfl (by simp [encApi_Op]) rfl)) (.c (oP rfl rfl (op_callQ cf37 (ct_script_Bytes _ _ hr1) rfl rfl (.cons qe .nil) rfl)) (.c (oP rfl rfl (op_loadAP (ds := [vI b_1.Kind, vI b_1.Client, vI b_1.Site, vI b_1.To, vI b_1.At, vI b_1.How, vS b_1.Key, vS b_1.Value, .sl 1 (List.map encS b_1.Keys), .sl 2 (List.map encApi_Range b_1.Row.Ranges), .sl 1 (List.map encI_i64 b_1.Row.Owners), .sl 1 (List.map encI_i64 b_1.Row.Parents)]) uU rfl ti30 rfl ev rfl)) (.c (oP rfl rfl (op_buildSlice (es := List.map encApi_Op [b_1]) uU ti30 rfl rfl (.cons ev .nil) rfl rfl (by simp [encApi_Op]) rfl)) (.c (oP rfl rfl (op_callQ cf37 (ct_script_Bytes _ _ hr2) rfl rfl (.cons qe .nil) rfl)) (.c (oP rfl rfl (OpL.cast (op_eqS ev ev rfl) (congrArg (fun b => bB b) hc3))) (.c (oP rfl rfl (op_move ev rfl)) (.c (OpW.no rfl rfl rfl rfl rfl) (.c (OpW.no rfl rfl rfl rfl rfl) (.c (OpW.no rfl rfl rfl rfl rfl) (.c (OpW.no rfl rfl rfl rfl rfl) (.c (OpW.no rfl rfl rfl rfl rfl) (.c (oP rfl rfl (op_pickF ev (ec rfl) rfl)) (.c (oP rfl rfl (op_assign ev rfl)) .nil))))))))))))))) follows rfl rfl rfl ⟨⟨rfl, trivial⟩, ⟨⟨rfl, rfl⟩, trivial⟩, ⟨rfl, trivial⟩, trivial, ⟨rfl, trivial⟩, trivial, ⟨rfl, trivial⟩, ⟨⟨rfl, rfl⟩, trivial⟩, ⟨rfl, trivial⟩, trivial, ⟨rfl, trivial⟩, trivial, ⟨rfl, rfl, trivial⟩, trivial, ⟨rfl, trivial⟩, trivial, ⟨rfl, trivial⟩, trivial, ⟨rfl, trivial⟩, trivial, ⟨rfl, trivial⟩, trivial, ⟨rfl, trivial⟩, trivial, ⟨rfl, trivial⟩, trivial, ⟨rfl, trivial⟩, trivial, ⟨rfl, trivial⟩, trivial, trivial⟩ ⟨rfl, trivial⟩ trivial rfl ?_
 cases hF
 exact G.ret1 Tryz.results14 (RVar.tmp 4 _) z1 trivial


theorem ct_words_Check (o_0 : Api_Op) (r : Bool) (hF : words_Check o_0 = some r) : CtG Tryz.prog Γ0 6 [.g (.agg (encApi_Op o_0))] (.one (.d (vB r))) := by
 unfold words_Check at hF
 refine CtG.intro (GL.ok _ _ _) Tryz.func6 rfl Tryz.ntmps6 rfl rfl fun M w hG => ?_
 refine sr <| q11 (op_boxA (k := 1001) ev rfl) rfl rfl <| ac rfl rfl <| esr <| p10 (op_fieldP (off' := 9) uU rfl ti28 (by decide) rfl ev rfl) rfl <| p10 (op_fieldP (off' := 9) uU rfl ti25 (by decide) rfl ev rfl) rfl <| ?_
 refine p11 (op_load1P uU rfl rfl ev rfl) rfl rfl <| p10 (op_lenM uU ev rfl) rfl <| p10 (op_eqI ev (ec rfl) rfl) rfl <| av rfl rfl <| eO <| sq <| ?_
 refine sq <| ?_
 refine G.joinC (T := Bool) (fun y1 => ⟨[(1, .one (.ptr 1001 0)), (20, oB y1)], [(1001, some (.blk 30 [bI .i64 o_0.Kind, bI .i64 o_0.Client, bI .i64 o_0.Site, bI .i64 o_0.To, bI .i64 o_0.At, bI .i64 o_0.How, bS o_0.Key, bS o_0.Value, .g (.d (.sl 1 (List.map encS o_0.Keys))), .g (.d (.sl 2 (List.map encApi_Range o_0.Row.Ranges))), .g (.d (.sl 1 (List.map encI_i64 o_0.Row.Owners))), .g (.d (.sl 1 (List.map encI_i64 o_0.Row.Parents)))]))]⟩) (fun y1 => words_Check_k1 o_0 y1 = some r) (fun y1 hF => ?_) (fun J9 => ?_)
 · unfold words_Check_k1 at hF
   refine ifS hF (fun hc2 hF => ?_) (fun hc2 hF => ?_)
   · refine cT hc2 rfl <| sr <| ac rfl rfl <| eO <| ?_
     cases hF
     exact G.ret1 Tryz.results6 (RVar.tmp 2 _) z1 trivial
   refine cF hc2 rfl <| sk <| sr <| p11 (op_loadAP (ds := [vI o_0.Kind, vI o_0.Client, vI o_0.Site, vI o_0.To, vI o_0.At, vI o_0.How, vS o_0.Key, vS o_0.Value, .sl 1 (List.map encS o_0.Keys), .sl 2 (List.map encApi_Range o_0.Row.Ranges), .sl 1 (List.map encI_i64 o_0.Row.Owners), .sl 1 (List.map encI_i64 o_0.Row.Parents)]) uU rfl ti30 rfl ev rfl) rfl rfl <| bn hF fun r3 hr3 hF => p10 (op_callQ cf13 (ct_words_line _ _ hr3) rfl rfl (.cons qe .nil) rfl) rfl <| ?_
   refine bn hF fun r4 hr4 hF => p10 (op_callG hG cf10 (ct_words_Parse _ _ hr4) rfl (.cons ev .nil) rfl) rfl <| p10 (op_moveS (t := 24) (sv := .tup [.g (.d (.sl 12 (List.map encApi_Op r4.1))), bI .i64 r4.2]) rfl) rfl <| p10 (op_extract rfl rfl) rfl <| p10 (op_extract rfl rfl) rfl <| av rfl rfl <| ?_
   refine av rfl rfl <| eO <| sq <| ?_
   refine ifS hF (fun hc5 hF => ?_) (fun hc5 hF => ?_)
   · refine ifS hF (fun hc6 hF => ?_) (fun hc6 hF => ?_)
     · refine bn hF fun x7 hx7 hF => bn hF fun r8 hr8 hF => ?_
       refine G.drawnI (deps := [[], [0], [0, 1], [0, 1, 2], [0, 1, 2, 3], [0, 1, 2, 3, 4], [0, 1, 2, 3, 4, 5], [0, 1, 2, 3, 4, 5, 6], [0, 1, 2, 3, 4, 5, 6, 7], [0, 1, 2, 3, 4, 5, 6, 7, 8], [0, 1, 2, 3, 4, 5, 6, 7, 8, 9], [0, 1, 2, 3, 4, 5, 6, 7], [0, 1, 2, 3, 4, 5, 6, 7, 8, 9, 10, 11], [0, 1, 2, 3, 4, 5, 6, 7, 8, 9, 10, 11, 12], [0, 1, 2, 3, 4, 5, 6, 7, 8, 9, 10, 11, 12, 13]]) (sl' := [(2, oB r8)]) (hp' := []) (.c (oP rfl rfl (op_move ev rfl)) (.c (oP rfl rfl (OpL.cast (op_eqI ev (ec rfl) rfl) (congrArg (fun b => bB b) hc5))) (.c (oP rfl rfl (op_move ev rfl)) (.c (oY rfl rfl rfl (op_move ev rfl)) (.c (oY rfl rfl rfl (op_lenM uU ev rfl)) (.c (oY rfl rfl rfl (OpL.cast (op_eqI ev (ec rfl) rfl) (congrArg (fun b => bB b) hc6))) (.c (oP rfl rfl (op_pickT ev ev rfl)) (.c (oP rfl rfl (op_move ev rfl)) (.c (oY rfl rfl rfl (op_move ev rfl)) (.c (oY rfl rfl rfl (op_indexM hx7 uU ti30 ev (ec rfl) rfl)) (.c (oY rfl rfl rfl (op_loadAE (ds := [vI x7.Kind, vI x7.Client, vI x7.Site, vI x7.To, vI x7.At, vI x7.How, vS x7.Key, vS x7.Value, .sl 1 (List.map encS x7.Keys), .sl 2 (List.map encApi_Range x7.Row.Ranges), .sl 1 (List.map encI_i64 x7.Row.Owners), .sl 1 (List.map encI_i64 x7.Row.Parents)]) uU rfl ti30 rfl ev rfl)) (.c (oY rfl rfl rfl (op_loadAP (ds := [vI o_0.Kind, vI o_0.Client, vI o_0.Site, vI o_0.To, vI o_0.At, vI o_0.How, vS o_0.Key, vS o_0.Value, .sl 1 (List.map encS o_0.Keys), .sl 2 (List.map encApi_Range o_0.Row.Ranges), .sl 1 (List.map encI_i64 o_0.Row.Owners), .sl 1 (List.map encI_i64 o_0.Row.Parents)]) uU rfl ti30 rfl ev rfl)) (.c (oY rfl rfl rfl (op_callQ cf14 (ct_words_same _ _ _ hr8) rfl rfl (.cons qe (.cons qe .nil)) rfl)) (.c (oP rfl rfl (op_pickT ev ev rfl)) (.c (oP rfl rfl (op_assign ev rfl)) .nil))))))))))))))) follows rfl rfl rfl ⟨⟨rfl, trivial⟩, trivial, ⟨rfl, trivial⟩, trivial, ⟨rfl, trivial⟩, trivial, ⟨rfl, rfl, trivial⟩, trivial, ⟨rfl, rfl, trivial⟩, trivial, ⟨rfl, rfl, trivial⟩, trivial, ⟨rfl, rfl, trivial⟩, trivial, ⟨rfl, trivial⟩, trivial, ⟨rfl, rfl, trivial⟩, trivial, ⟨rfl, rfl, trivial⟩, trivial, ⟨rfl, rfl, trivial⟩, trivial, ⟨rfl, rfl, trivial⟩, ⟨⟨rfl, rfl⟩, trivial⟩, ⟨rfl, rfl, rfl, trivial⟩, trivial, ⟨rfl, rfl, trivial⟩, trivial, ⟨rfl, trivial⟩, trivial, trivial⟩ ⟨rfl, trivial⟩ trivial rfl ?_
       cases hF
       exact G.ret1 Tryz.results6 (RVar.tmp 2 _) z1 trivial
     refine G.drawnI (deps := [[], [0], [0, 1], [0, 1, 2], [0, 1, 2, 3], [0, 1, 2, 3, 4], [0, 1, 2, 3, 4, 5], [0, 1, 2, 3, 4, 5, 6], [0, 1, 2, 3, 4, 5, 6, 7], [0, 1, 2, 3, 4, 5, 6, 7, 8], [0, 1, 2, 3, 4, 5, 6, 7, 8, 9], [0, 1, 2, 3, 4, 5, 6, 7], [0, 1, 2, 3, 4, 5, 6, 7, 8, 9, 10, 11], [0, 1, 2, 3, 4, 5, 6, 7, 8, 9, 10, 11, 12], [0, 1, 2, 3, 4, 5, 6, 7, 8, 9, 10, 11, 12, 13]]) (sl' := [(2, oB false)]) (hp' := []) (.c (oP rfl rfl (op_move ev rfl)) (.c (oP rfl rfl (OpL.cast (op_eqI ev (ec rfl) rfl) (congrArg (fun b => bB b) hc5))) (.c (oP rfl rfl (op_move ev rfl)) (.c (oY rfl rfl rfl (op_move ev rfl)) (.c (oY rfl rfl rfl (op_lenM uU ev rfl)) (.c (oY rfl rfl rfl (OpL.cast (op_eqI ev (ec rfl) rfl) (congrArg (fun b => bB b) hc6))) (.c (oP rfl rfl (op_pickT ev ev rfl)) (.c (oP rfl rfl (op_move ev rfl)) (.c (OpW.no rfl rfl rfl rfl rfl) (.c (OpW.no rfl rfl rfl rfl rfl) (.c (OpW.no rfl rfl rfl rfl rfl) (.c (OpW.no rfl rfl rfl rfl rfl) (.c (OpW.no rfl rfl rfl rfl rfl) (.c (oP rfl rfl (op_pickF ev (ec rfl) rfl)) (.c (oP rfl rfl (op_assign ev rfl)) .nil))))))))))))))) follows rfl rfl rfl ⟨⟨rfl, trivial⟩, trivial, ⟨rfl, trivial⟩, trivial, ⟨rfl, trivial⟩, trivial, ⟨rfl, rfl, trivial⟩, trivial, ⟨rfl, rfl, trivial⟩, trivial, ⟨rfl, rfl, trivial⟩, trivial, ⟨rfl, rfl, trivial⟩, trivial, ⟨rfl, trivial⟩, trivial, ⟨rfl, trivial⟩, trivial, ⟨rfl, trivial⟩, trivial, ⟨rfl, trivial⟩, trivial, ⟨rfl, trivial⟩, trivial, ⟨rfl, trivial⟩, trivial, ⟨rfl, trivial⟩, trivial, ⟨rfl, trivial⟩, trivial, trivial⟩ ⟨rfl, trivial⟩ trivial rfl ?_
     cases hF
     exact G.ret1 Tryz.results6 (RVar.tmp 2 _) z1 trivial
   refine G.drawnI (deps := [[], [0], [0, 1], [0, 1, 2], [0, 1, 2, 3], [0, 1, 2, 3, 4], [0, 1, 2, 3, 4, 5], [0, 1, 2, 3, 4, 5, 6], [0, 1, 2, 3, 4, 5, 6, 7], [0, 1, 2, 3, 4, 5, 6, 7, 8], [0, 1, 2, 3, 4, 5, 6, 7, 8, 9], [0, 1, 2, 3, 4, 5, 6, 7], [0, 1, 2, 3, 4, 5, 6, 7, 8, 9, 10, 11], [0, 1, 2, 3, 4, 5, 6, 7, 8, 9, 10, 11, 12], [0, 1, 2, 3, 4, 5, 6, 7, 8, 9, 10, 11, 12, 13]]) (sl' := [(2, oB false)]) (hp' := []) (.c (oP rfl rfl (op_move ev rfl)) (.c (oP rfl rfl (OpL.cast (op_eqI ev (ec rfl) rfl) (congrArg (fun b => bB b) hc5))) (.c (oP rfl rfl (op_move ev rfl)) (.c (OpW.no rfl rfl rfl rfl rfl) (.c (OpW.no rfl rfl rfl rfl rfl) (.c (OpW.no rfl rfl rfl rfl rfl) (.c (oP rfl rfl (op_pickF ev (ec rfl) rfl)) (.c (oP rfl rfl (op_move ev rfl)) (.c (OpW.no rfl rfl rfl rfl rfl) (.c (OpW.no rfl rfl rfl rfl rfl) (.c (OpW.no rfl rfl rfl rfl rfl) (.c (OpW.no rfl rfl rfl rfl rfl) (.c (OpW.no rfl rfl rfl rfl rfl) (.c (oP rfl rfl (op_pickF ev (ec rfl) rfl)) (.c (oP rfl rfl (op_assign ev rfl)) .nil))))))))))))))) follows rfl rfl rfl ⟨⟨rfl, trivial⟩, trivial, ⟨rfl, trivial⟩, trivial, ⟨rfl, trivial⟩, trivial, ⟨rfl, trivial⟩, trivial, ⟨rfl, trivial⟩, trivial, ⟨rfl, trivial⟩, trivial, ⟨rfl, trivial⟩, trivial, ⟨rfl, trivial⟩, trivial, ⟨rfl, trivial⟩, trivial, ⟨rfl, trivial⟩, trivial, ⟨rfl, trivial⟩, trivial, ⟨rfl, trivial⟩, trivial, ⟨rfl, trivial⟩, trivial, ⟨rfl, trivial⟩, trivial, ⟨rfl, trivial⟩, trivial, trivial⟩ ⟨rfl, trivial⟩ trivial rfl ?_
   cases hF
   exact G.ret1 Tryz.results6 (RVar.tmp 2 _) z1 trivial
 refine rg <| p11 (op_loadAP (ds := [vI o_0.Kind, vI o_0.Client, vI o_0.Site, vI o_0.To, vI o_0.At, vI o_0.How, vS o_0.Key, vS o_0.Value, .sl 1 (List.map encS o_0.Keys), .sl 2 (List.map encApi_Range o_0.Row.Ranges), .sl 1 (List.map encI_i64 o_0.Row.Owners), .sl 1 (List.map encI_i64 o_0.Row.Parents)]) uU rfl ti30 rfl ev rfl) rfl rfl <| bn hF fun r10 hr10 hF => p10 (op_callQ cf12 (ct_script_Check _ _ hr10) rfl rfl (.cons qe .nil) rfl) rfl <| p10 (op_not ev rfl) rfl <| mv rfl rfl <| ?_
 refine ifS hF (fun hc11 hF => ?_) (fun hc11 hF => ?_)
 · refine G.known (t := 14) hc11 rfl <| oN rfl rfl rfl <| oN rfl rfl rfl <| oN rfl rfl rfl <| oN rfl rfl rfl <| oN rfl rfl rfl <| ?_
   refine p10 (op_pickT ev (ec rfl) rfl) rfl <| eO <| ?_
   exact G.arr (J9 true hF) z2 z1 rfl
 refine G.known (t := 14) hc11 rfl <| g10 (op_move ev rfl) rfl rfl rfl <| g10 (op_fieldP (off' := 0) uU rfl ti3 (by decide) rfl ev rfl) rfl rfl rfl <| g11 (op_load1P uU rfl rfl ev rfl) rfl rfl rfl rfl <| g10 (op_eqI ev (ec rfl) rfl) rfl rfl rfl <| g20 (op_eqB uU ev ev rfl) rfl rfl rfl rfl <| ?_
 refine p20 (op_pickF ev ev rfl) rfl rfl <| eO <| ?_
 exact G.arr (J9 ((decide ((o_0.Row.Ranges.length : Int) = 0)) == (decide (o_0.Kind = 12))) hF) z2 z1 rfl


theorem ct_words_Text (l_0 : (List Api_Op)) (r : ByteArray) (hF : words_Text l_0 = some r) : CtG Tryz.prog Γ0 8 [.g (.d (.sl 12 (List.map encApi_Op l_0)))] (.one (.d (vS r))) := by
 unfold words_Text at hF
 refine CtG.intro (GL.ok _ _ _) Tryz.func8 rfl Tryz.ntmps8 rfl rfl fun M w hG => ?_
 refine sr <| ac rfl rfl <| esr <| ?_
 refine G.opM (op_allocB (T := 45) (E := 5) (k := 1003) (kk := 3003) ti45 rfl rfl rfl) rfl trivial z2 ?_
 refine eO <| sq <| sr <| mv rfl rfl <| p10 (op_lenM uU ev rfl) rfl <| p00 (op_move (ec rfl) rfl) <| ?_
 refine eO <| ?_
 refine G.joinC (T := ByteArray) (fun y1 => ⟨[(3, .one (.ptr 1003 0))], [(1003, some (.bld 45 5 3003 y1)), (3003, some (.hid true 1003))]⟩) (fun y1 => words_Text_k1 y1 = some r) (fun y1 hF => ?_) (fun J3 => ?_)
 · unfold words_Text_k1 at hF
   refine sr <| bn hF fun r2 hr2 hF => ?_
   refine G.opM (op_callM (k := 1003) (h := .bld 45 5 y1) (h' := .gone) 3003 (sv := oS r2) cf20 (ct_bld_String _ _ hr2) rfl rfl (.pt ev .nil) rfl) rfl z1 z2 ?_
   refine av rfl rfl <| eO <| ?_
   cases hF
   exact G.ret1 Tryz.results8 (RVar.tmp 2 _) z1 trivial
 refine bl <| ?_
 refine lF (fun (v4 : Int × ByteArray) => ⟨[(3, .one (.ptr 1003 0)), (6, .one (.g (.d (.sl 12 (List.map encApi_Op l_0))))), (7, oI (l_0.length : Int)), (8, oI v4.1)], [(1003, some (.bld 45 5 3003 v4.2)), (3003, some (.hid true 1003))]⟩) hF z4 z2 rfl (fun K7 again6 v4 J5 hF => ?_)
 unfold words_Text_l2 at hF
 refine sr <| p20 (op_lss ev ev rfl) rfl rfl <| eO <| sq <| ?_
 refine ifS hF (fun hc8 hF => ?_) (fun hc8 hF => ?_)
 · refine cT hc8 rfl <| sk <| sq <| bl <| sr <| bn hF fun x9 hx9 hF => ?_
   refine p20 (op_indexM hx9 uU ti30 ev ev rfl) rfl rfl <| p10 (op_loadAE (ds := [vI x9.Kind, vI x9.Client, vI x9.Site, vI x9.To, vI x9.At, vI x9.How, vS x9.Key, vS x9.Value, .sl 1 (List.map encS x9.Keys), .sl 2 (List.map encApi_Range x9.Row.Ranges), .sl 1 (List.map encI_i64 x9.Row.Owners), .sl 1 (List.map encI_i64 x9.Row.Parents)]) uU rfl ti30 rfl ev rfl) rfl <| q01 (op_alloc (k := 1005) (cs := [bI .i64 0, bI .i64 0, bI .i64 0, bI .i64 0, bI .i64 0, bI .i64 0, bS ByteArray.empty, bS ByteArray.empty, .g (.d (.sl 1 (List.map encS ([] : (List ByteArray))))), .g (.d (.sl 2 (List.map encApi_Range ([] : (List Api_Range))))), .g (.d (.sl 1 (List.map encI_i64 ([] : (List Int))))), .g (.d (.sl 1 (List.map encI_i64 ([] : (List Int)))))]) ti30 ⟨.v _ rfl, .v _ rfl, .v _ rfl, .v _ rfl, .v _ rfl, .v _ rfl, .v _ rfl, .v _ rfl, .n 1, .n 2, .n 1, .n 1, trivial⟩ rfl) rfl <| w21 (op_storeAM ti30 rfl ev ev) rfl rfl rfl <| eO <| sq <| ?_
   refine sr <| p11 (op_loadAP (ds := [vI x9.Kind, vI x9.Client, vI x9.Site, vI x9.To, vI x9.At, vI x9.How, vS x9.Key, vS x9.Value, .sl 1 (List.map encS x9.Keys), .sl 2 (List.map encApi_Range x9.Row.Ranges), .sl 1 (List.map encI_i64 x9.Row.Owners), .sl 1 (List.map encI_i64 x9.Row.Parents)]) uU rfl ti30 rfl ev rfl) rfl rfl <| bn hF fun r10 hr10 hF => p10 (op_callQG hG cf6 (ct_words_Check _ _ hr10) rfl rfl (.cons qe .nil) rfl) rfl <| p10 (op_not ev rfl) rfl <| eO <| ?_
   refine ifS hF (fun hc11 hF => ?_) (fun hc11 hF => ?_)
   · refine cT hc11 rfl <| sr <| ac rfl rfl <| eO <| ?_
     cases hF
     exact G.ret1 Tryz.results8 (RVar.tmp 2 _) z1 trivial
   refine cF hc11 rfl <| sk <| rg <| p11 (op_loadAP (ds := [vI x9.Kind, vI x9.Client, vI x9.Site, vI x9.To, vI x9.At, vI x9.How, vS x9.Key, vS x9.Value, .sl 1 (List.map encS x9.Keys), .sl 2 (List.map encApi_Range x9.Row.Ranges), .sl 1 (List.map encI_i64 x9.Row.Owners), .sl 1 (List.map encI_i64 x9.Row.Parents)]) uU rfl ti30 rfl ev rfl) rfl rfl <| bn hF fun r12 hr12 hF => p10 (op_callQ cf13 (ct_words_line _ _ hr12) rfl rfl (.cons qe .nil) rfl) rfl <| ?_
   refine bn hF fun r13 hr13 hF => ?_
   refine G.opM (op_callM (k := 1003) (h := .bld 45 5 v4.2) (h' := .bld 45 5 r13) 3003 (sv := .tup [bI .i64 (r12.size : Int), .g (.d (.v .nilIface))]) cf19 (ct_bld_WriteString _ _ _ hr13) rfl rfl (.pt ev (.g ev .nil)) rfl) rfl z2 z2 ?_
   refine eO <| eB <| rg <| p10 (op_add ev (ec rfl) rfl) rfl <| mv rfl rfl <| eO <| ?_
   exact G.arr (J5 (IntKind.wrap .i64 (v4.1 + 1), r13) hF) z4 z2 rfl
 refine cF hc8 rfl <| ex <| ?_
 refine GX.c ?_
 refine GX.q ?_
 refine xY <| ?_
 exact G.arr (J3 v4.2 hF) z1 z2 rfl


theorem ct_law24_awake (r : Bool) (hF : law24_awake = some r) : CtG Tryz.prog Γ0 4 [] (.one (.d (vB r))) := by
 unfold law24_awake at hF
 refine CtG.intro (GL.ok _ _ _) Tryz.func4 rfl Tryz.ntmps4 rfl rfl fun M w hG => ?_
 refine sr <| ac rfl rfl <| esr <| bn hF fun r1 hr1 hF => p00 (op_callG hG cf10 (ct_words_Parse _ _ hr1) rfl (.cons (ec rfl) .nil) rfl) <| p10 (op_moveS (t := 4) (sv := .tup [.g (.d (.sl 12 (List.map encApi_Op r1.1))), bI .i64 r1.2]) rfl) rfl <| ?_
 refine p10 (op_extract rfl rfl) rfl <| p10 (op_extract rfl rfl) rfl <| av rfl rfl <| av rfl rfl <| esr <| mv rfl rfl <| ?_
 refine p10 (op_eqI ev (ec rfl) rfl) rfl <| mv rfl rfl <| ?_
 refine G.joinL (T := Bool) 4 (fun y2 => ⟨[(1, .one (.g (.d (.sl 12 (List.map encApi_Op r1.1))))), (13, oB y2)], []⟩) (fun y2 => law24_awake_k1 r1 y2 = some r) (fun y2 hF => ?_) (fun J18 => ?_)
 · unfold law24_awake_k1 at hF
   refine mv rfl rfl <| ?_
   refine G.joinL (T := Bool) 6 (fun y3 => ⟨[(1, .one (.g (.d (.sl 12 (List.map encApi_Op r1.1))))), (20, oB y3)], []⟩) (fun y3 => law24_awake_k2 r1 y3 = some r) (fun y3 hF => ?_) (fun J15 => ?_)
   · unfold law24_awake_k2 at hF
     refine mv rfl rfl <| ?_
     refine G.joinL (T := Bool) 6 (fun y4 => ⟨[(1, .one (.g (.d (.sl 12 (List.map encApi_Op r1.1))))), (27, oB y4)], []⟩) (fun y4 => law24_awake_k3 r1 y4 = some r) (fun y4 hF => ?_) (fun J12 => ?_)
     · unfold law24_awake_k3 at hF
       refine mv rfl rfl <| ?_
       refine G.joinL (T := Bool) 5 (fun y5 => ⟨[(1, .one (.g (.d (.sl 12 (List.map encApi_Op r1.1))))), (33, oB y5)], []⟩) (fun y5 => law24_awake_k4 r1 y5 = some r) (fun y5 hF => ?_) (fun J8 => ?_)
       · unfold law24_awake_k4 at hF
         refine mv rfl rfl <| ?_
         refine ifS hF (fun hc6 hF => ?_) (fun hc6 hF => ?_)
         · refine G.known (t := 34) hc6 rfl <| g10 (op_move ev rfl) rfl rfl rfl <| bn hF fun r7 hr7 hF => g10 (op_callQG hG cf8 (ct_words_Text _ _ hr7) rfl rfl (.cons qe .nil) rfl) rfl rfl rfl <| g10 (op_eqS ev (ec rfl) rfl) rfl rfl rfl <| p20 (op_pickT ev ev rfl) rfl rfl <| ?_
           refine av rfl rfl <| eO <| ?_
           cases hF
           exact G.ret1 Tryz.results4 (RVar.tmp 0 _) z1 trivial
         refine G.known (t := 34) hc6 rfl <| oN rfl rfl rfl <| oN rfl rfl rfl <| oN rfl rfl rfl <| p10 (op_pickF ev (ec rfl) rfl) rfl <| av rfl rfl <| ?_
         refine eO <| ?_
         cases hF
         exact G.ret1 Tryz.results4 (RVar.tmp 0 _) z1 trivial
       refine ifS hF (fun hc9 hF => ?_) (fun hc9 hF => ?_)
       · refine G.known (t := 28) hc9 rfl <| g10 (op_move ev rfl) rfl rfl rfl <| bn hF fun x10 hx10 hF => g10 (op_indexM hx10 uU ti30 ev (ec rfl) rfl) rfl rfl rfl <| g10 (op_loadAE (ds := [vI x10.Kind, vI x10.Client, vI x10.Site, vI x10.To, vI x10.At, vI x10.How, vS x10.Key, vS x10.Value, .sl 1 (List.map encS x10.Keys), .sl 2 (List.map encApi_Range x10.Row.Ranges), .sl 1 (List.map encI_i64 x10.Row.Owners), .sl 1 (List.map encI_i64 x10.Row.Parents)]) uU rfl ti30 rfl ev rfl) rfl rfl rfl <| bn hF fun r11 hr11 hF => ?_
         refine g10 (op_callQG hG cf6 (ct_words_Check _ _ hr11) rfl rfl (.cons qe .nil) rfl) rfl rfl rfl <| p20 (op_pickT ev ev rfl) rfl rfl <| ?_
         exact G.arr (J8 r11 hF) z2 trivial rfl
       refine G.known (t := 28) hc9 rfl <| oN rfl rfl rfl <| oN rfl rfl rfl <| oN rfl rfl rfl <| oN rfl rfl rfl <| p10 (op_pickF ev (ec rfl) rfl) rfl <| ?_
       exact G.arr (J8 false hF) z2 trivial rfl
     refine ifS hF (fun hc13 hF => ?_) (fun hc13 hF => ?_)
     · refine G.known (t := 21) hc13 rfl <| g10 (op_move ev rfl) rfl rfl rfl <| bn hF fun x14 hx14 hF => g10 (op_indexM hx14 uU ti30 ev (ec rfl) rfl) rfl rfl rfl <| g10 (op_fieldE uU rfl ti9 (by decide) rfl ev rfl) rfl rfl rfl <| g10 (op_load1E uU rfl rfl ev rfl) rfl rfl rfl <| ?_
       refine g10 (op_eqS ev (ec rfl) rfl) rfl rfl rfl <| p20 (op_pickT ev ev rfl) rfl rfl <| ?_
       exact G.arr (J12 (seq x14.Value (ByteArray.mk #[120, 10])) hF) z2 trivial rfl
     refine G.known (t := 21) hc13 rfl <| oN rfl rfl rfl <| oN rfl rfl rfl <| oN rfl rfl rfl <| oN rfl rfl rfl <| oN rfl rfl rfl <| ?_
     refine p10 (op_pickF ev (ec rfl) rfl) rfl <| ?_
     exact G.arr (J12 false hF) z2 trivial rfl
   refine ifS hF (fun hc16 hF => ?_) (fun hc16 hF => ?_)
   · refine G.known (t := 14) hc16 rfl <| g10 (op_move ev rfl) rfl rfl rfl <| bn hF fun x17 hx17 hF => g10 (op_indexM hx17 uU ti30 ev (ec rfl) rfl) rfl rfl rfl <| g10 (op_fieldE uU rfl ti9 (by decide) rfl ev rfl) rfl rfl rfl <| g10 (op_load1E uU rfl rfl ev rfl) rfl rfl rfl <| ?_
     refine g10 (op_eqS ev (ec rfl) rfl) rfl rfl rfl <| p20 (op_pickT ev ev rfl) rfl rfl <| ?_
     exact G.arr (J15 (seq x17.Key (ByteArray.mk #[97])) hF) z2 trivial rfl
   refine G.known (t := 14) hc16 rfl <| oN rfl rfl rfl <| oN rfl rfl rfl <| oN rfl rfl rfl <| oN rfl rfl rfl <| oN rfl rfl rfl <| ?_
   refine p10 (op_pickF ev (ec rfl) rfl) rfl <| ?_
   exact G.arr (J15 false hF) z2 trivial rfl
 refine ifS hF (fun hc19 hF => ?_) (fun hc19 hF => ?_)
 · refine G.known (t := 9) hc19 rfl <| g10 (op_move ev rfl) rfl rfl rfl <| g10 (op_lenM uU ev rfl) rfl rfl rfl <| g10 (op_eqI ev (ec rfl) rfl) rfl rfl rfl <| p20 (op_pickT ev ev rfl) rfl rfl <| ?_
   exact G.arr (J18 (decide ((r1.1.length : Int) = 1)) hF) z2 trivial rfl
 refine G.known (t := 9) hc19 rfl <| oN rfl rfl rfl <| oN rfl rfl rfl <| oN rfl rfl rfl <| p10 (op_pickF ev (ec rfl) rfl) rfl <| ?_
 exact G.arr (J18 false hF) z2 trivial rfl


theorem ct_law24_short (s_0 : ByteArray) (n_1 : Int) (r : ByteArray) (hF : law24_short s_0 n_1 = some r) : Ct Tryz.prog 11 [.g (.d (vS s_0)), .g (.d (vI n_1))] (.one (.d (vS r))) := by
 unfold law24_short at hF
 refine Ct.intro Tryz.func11 rfl Tryz.ntmps11 rfl rfl fun M w => ?_
 refine sr <| ac rfl rfl <| eO <| sq <| sr <| mv rfl rfl <| ?_
 refine p10 (op_lenS uU ev rfl) rfl <| mv rfl rfl <| p20 (op_gtr ev ev rfl) rfl rfl <| eO <| ?_
 refine ifS hF (fun hc1 hF => ?_) (fun hc1 hF => ?_)
 · refine cT hc1 rfl <| sr <| mv rfl rfl <| mv rfl rfl <| bn hF fun s2 hs2 hF => p20 (op_sliceM .none (.some ev) hs2 uU ev rfl) rfl rfl <| ?_
   refine av rfl rfl <| eO <| ?_
   cases hF
   exact G.ret1 Tryz.results11 (RVar.tmp 4 _) z1 trivial
 refine cF hc1 rfl <| sk <| sr <| mv rfl rfl <| av rfl rfl <| eO <| ?_
 cases hF
 exact G.ret1 Tryz.results11 (RVar.tmp 4 _) z1 trivial


theorem ct_law24_few (o_0 : Api_Op) (r : Api_Op) (hF : law24_few o_0 = some r) : Ct Tryz.prog 5 [.g (.agg (encApi_Op o_0))] (.one (.agg (encApi_Op r))) := by
 unfold law24_few at hF
 refine Ct.intro Tryz.func5 rfl Tryz.ntmps5 rfl rfl fun M w => ?_
 refine sr <| q11 (op_boxA (k := 1001) ev rfl) rfl rfl <| q01 (op_alloc (k := 1002) (cs := [bI .i64 0, bI .i64 0, bI .i64 0, bI .i64 0, bI .i64 0, bI .i64 0, bS ByteArray.empty, bS ByteArray.empty, .g (.d (.sl 1 (List.map encS ([] : (List ByteArray))))), .g (.d (.sl 2 (List.map encApi_Range ([] : (List Api_Range))))), .g (.d (.sl 1 (List.map encI_i64 ([] : (List Int))))), .g (.d (.sl 1 (List.map encI_i64 ([] : (List Int)))))]) ti30 ⟨.v _ rfl, .v _ rfl, .v _ rfl, .v _ rfl, .v _ rfl, .v _ rfl, .v _ rfl, .v _ rfl, .n 1, .n 2, .n 1, .n 1, trivial⟩ rfl) rfl <| eO <| sq <| sr <| ?_
 refine p10 (op_fieldP (off' := 8) uU rfl ti24 (by decide) rfl ev rfl) rfl <| p11 (op_load1P uU rfl rfl ev rfl) rfl rfl <| p10 (op_lenM uU ev rfl) rfl <| p10 (op_gtr ev (ec rfl) rfl) rfl <| eO <| ?_
 refine G.joinC (T := (List ByteArray)) (fun y1 => ⟨[(1, .one (.ptr 1001 0)), (2, .one (.ptr 1002 0))], [(1001, some (.blk 30 [bI .i64 o_0.Kind, bI .i64 o_0.Client, bI .i64 o_0.Site, bI .i64 o_0.To, bI .i64 o_0.At, bI .i64 o_0.How, bS o_0.Key, bS o_0.Value, .g (.d (.sl 1 (List.map encS y1))), .g (.d (.sl 2 (List.map encApi_Range o_0.Row.Ranges))), .g (.d (.sl 1 (List.map encI_i64 o_0.Row.Owners))), .g (.d (.sl 1 (List.map encI_i64 o_0.Row.Parents)))])), (1002, some (.blk 30 [bI .i64 0, bI .i64 0, bI .i64 0, bI .i64 0, bI .i64 0, bI .i64 0, bS ByteArray.empty, bS ByteArray.empty, .g (.d (.sl 1 (List.map encS ([] : (List ByteArray))))), .g (.d (.sl 2 (List.map encApi_Range ([] : (List Api_Range))))), .g (.d (.sl 1 (List.map encI_i64 ([] : (List Int))))), .g (.d (.sl 1 (List.map encI_i64 ([] : (List Int)))))]))]⟩) (fun y1 => law24_few_k1 o_0 y1 = some r) (fun y1 hF => ?_) (fun J35 => ?_)
 · unfold law24_few_k1 at hF
   refine sr <| q01 (op_assignRow (E := 9) (size := 1) (k := 2003) (ex := false) rfl rfl) rfl <| eO <| sq <| sr <| ac rfl rfl <| ?_
   refine eO <| ?_
   refine G.joinC (T := (List ByteArray)) (fun y2 => ⟨[(1, .one (.ptr 1001 0)), (2, .one (.ptr 1002 0)), (3, .one (.own 2003 (List.map encS y2)))], [(1001, some (.blk 30 [bI .i64 o_0.Kind, bI .i64 o_0.Client, bI .i64 o_0.Site, bI .i64 o_0.To, bI .i64 o_0.At, bI .i64 o_0.How, bS o_0.Key, bS o_0.Value, .g (.d (.sl 1 (List.map encS y1))), .g (.d (.sl 2 (List.map encApi_Range o_0.Row.Ranges))), .g (.d (.sl 1 (List.map encI_i64 o_0.Row.Owners))), .g (.d (.sl 1 (List.map encI_i64 o_0.Row.Parents)))])), (1002, some (.blk 30 [bI .i64 0, bI .i64 0, bI .i64 0, bI .i64 0, bI .i64 0, bI .i64 0, bS ByteArray.empty, bS ByteArray.empty, .g (.d (.sl 1 (List.map encS ([] : (List ByteArray))))), .g (.d (.sl 2 (List.map encApi_Range ([] : (List Api_Range))))), .g (.d (.sl 1 (List.map encI_i64 ([] : (List Int))))), .g (.d (.sl 1 (List.map encI_i64 ([] : (List Int)))))])), (2003, some (.row 9 1 (List.map encS y2) false))]⟩) (fun y2 => law24_few_k2 o_0 y2 = some r) (fun y2 hF => ?_) (fun J26 => ?_)
   · unfold law24_few_k2 at hF
     refine sr <| mv rfl rfl <| p10 (op_fieldP (off' := 8) uU rfl ti24 (by decide) rfl ev rfl) rfl <| ?_
     refine G.view (t := 31) rfl rfl ?_
     refine w21 (op_store1M sgd ti24 rfl ev ev) rfl rfl rfl <| esr <| p10 (op_fieldP (off' := 6) uU rfl ti9 (by decide) rfl ev rfl) rfl <| p11 (op_load1P uU rfl rfl ev rfl) rfl rfl <| bn hF fun r3 hr3 hF => p10 (op_callQ cf11 (ct_law24_short _ _ _ hr3) rfl rfl (.cons qe (.cons (.g (ec rfl)) .nil)) rfl) rfl <| ?_
     refine p10 (op_fieldP (off' := 6) uU rfl ti9 (by decide) rfl ev rfl) rfl <| w21 (op_store1M sgd ti9 rfl ev ev) rfl rfl rfl <| esr <| p10 (op_fieldP (off' := 7) uU rfl ti9 (by decide) rfl ev rfl) rfl <| p11 (op_load1P uU rfl rfl ev rfl) rfl rfl <| bn hF fun r4 hr4 hF => ?_
     refine p10 (op_callQ cf11 (ct_law24_short _ _ _ hr4) rfl rfl (.cons qe (.cons (.g (ec rfl)) .nil)) rfl) rfl <| p10 (op_fieldP (off' := 7) uU rfl ti9 (by decide) rfl ev rfl) rfl <| w21 (op_store1M sgd ti9 rfl ev ev) rfl rfl rfl <| esr <| q01 (op_assignRow (E := 39) (size := 2) (k := 2005) (ex := false) rfl rfl) rfl <| eO <| ?_
     refine sq <| sr <| ac rfl rfl <| eO <| ?_
     refine G.joinC (T := (List Api_Range)) (fun y5 => ⟨[(1, .one (.ptr 1001 0)), (2, .one (.ptr 1002 0)), (5, .one (.own 2005 (List.map encApi_Range y5)))], [(1001, some (.blk 30 [bI .i64 o_0.Kind, bI .i64 o_0.Client, bI .i64 o_0.Site, bI .i64 o_0.To, bI .i64 o_0.At, bI .i64 o_0.How, bS r3, bS r4, .g (.d (.sl 1 (List.map encS y2))), .g (.d (.sl 2 (List.map encApi_Range o_0.Row.Ranges))), .g (.d (.sl 1 (List.map encI_i64 o_0.Row.Owners))), .g (.d (.sl 1 (List.map encI_i64 o_0.Row.Parents)))])), (1002, some (.blk 30 [bI .i64 0, bI .i64 0, bI .i64 0, bI .i64 0, bI .i64 0, bI .i64 0, bS ByteArray.empty, bS ByteArray.empty, .g (.d (.sl 1 (List.map encS ([] : (List ByteArray))))), .g (.d (.sl 2 (List.map encApi_Range ([] : (List Api_Range))))), .g (.d (.sl 1 (List.map encI_i64 ([] : (List Int))))), .g (.d (.sl 1 (List.map encI_i64 ([] : (List Int)))))])), (2005, some (.row 39 2 (List.map encApi_Range y5) false))]⟩) (fun y5 => law24_few_k3 o_0 y2 r3 r4 y5 = some r) (fun y5 hF => ?_) (fun J12 => ?_)
     · unfold law24_few_k3 at hF
       refine sr <| mv rfl rfl <| p10 (op_fieldP (off' := 9) uU rfl ti28 (by decide) rfl ev rfl) rfl <| p10 (op_fieldP (off' := 9) uU rfl ti25 (by decide) rfl ev rfl) rfl <| ?_
       refine G.view (t := 73) rfl rfl ?_
       refine w21 (op_store1M sgd ti25 rfl ev ev) rfl rfl rfl <| eO <| sq <| sr <| p10 (op_fieldP (off' := 9) uU rfl ti28 (by decide) rfl ev rfl) rfl <| p10 (op_fieldP (off' := 10) uU rfl ti26 (by decide) rfl ev rfl) rfl <| ?_
       refine p11 (op_load1P uU rfl rfl ev rfl) rfl rfl <| p10 (op_lenM uU ev rfl) rfl <| p10 (op_gtr ev (ec rfl) rfl) rfl <| eO <| ?_
       refine G.joinC (T := (List Int)) (fun y6 => ⟨[(1, .one (.ptr 1001 0)), (2, .one (.ptr 1002 0))], [(1001, some (.blk 30 [bI .i64 o_0.Kind, bI .i64 o_0.Client, bI .i64 o_0.Site, bI .i64 o_0.To, bI .i64 o_0.At, bI .i64 o_0.How, bS r3, bS r4, .g (.d (.sl 1 (List.map encS y2))), .g (.d (.sl 2 (List.map encApi_Range y5))), .g (.d (.sl 1 (List.map encI_i64 y6))), .g (.d (.sl 1 (List.map encI_i64 o_0.Row.Parents)))])), (1002, some (.blk 30 [bI .i64 0, bI .i64 0, bI .i64 0, bI .i64 0, bI .i64 0, bI .i64 0, bS ByteArray.empty, bS ByteArray.empty, .g (.d (.sl 1 (List.map encS ([] : (List ByteArray))))), .g (.d (.sl 2 (List.map encApi_Range ([] : (List Api_Range))))), .g (.d (.sl 1 (List.map encI_i64 ([] : (List Int))))), .g (.d (.sl 1 (List.map encI_i64 ([] : (List Int)))))]))]⟩) (fun y6 => law24_few_k4 o_0 y2 r3 r4 y5 y6 = some r) (fun y6 hF => ?_) (fun J9 => ?_)
       · unfold law24_few_k4 at hF
         refine sq <| sr <| p10 (op_fieldP (off' := 9) uU rfl ti28 (by decide) rfl ev rfl) rfl <| p10 (op_fieldP (off' := 11) uU rfl ti26 (by decide) rfl ev rfl) rfl <| p11 (op_load1P uU rfl rfl ev rfl) rfl rfl <| p10 (op_lenM uU ev rfl) rfl <| ?_
         refine p10 (op_gtr ev (ec rfl) rfl) rfl <| eO <| ?_
         refine ifS hF (fun hc7 hF => ?_) (fun hc7 hF => ?_)
         · refine cT hc7 rfl <| rg <| p10 (op_fieldP (off' := 9) uU rfl ti28 (by decide) rfl ev rfl) rfl <| p10 (op_fieldP (off' := 11) uU rfl ti26 (by decide) rfl ev rfl) rfl <| p11 (op_load1P uU rfl rfl ev rfl) rfl rfl <| bn hF fun l8 hl8 hF => ?_
           refine p10 (op_sliceD (lo := none) (hi := some 9) uU ti3 (sub_ok hl8 encI_i64).1 (sub_ok hl8 encI_i64).2.1 (sub_ok hl8 encI_i64).2.2.1 (sub_ok hl8 encI_i64).2.2.2 ev .none (.some (ec rfl)) rfl) rfl <| p10 (op_fieldP (off' := 9) uU rfl ti28 (by decide) rfl ev rfl) rfl <| p10 (op_fieldP (off' := 11) uU rfl ti26 (by decide) rfl ev rfl) rfl <| w21 (op_store1M sgd ti26 rfl ev ev) rfl rfl rfl <| esr <| p11 (op_loadAP (ds := [vI o_0.Kind, vI o_0.Client, vI o_0.Site, vI o_0.To, vI o_0.At, vI o_0.How, vS r3, vS r4, .sl 1 (List.map encS y2), .sl 2 (List.map encApi_Range y5), .sl 1 (List.map encI_i64 y6), .sl 1 (List.map encI_i64 l8)]) uU rfl ti30 rfl ev rfl) rfl rfl <| ?_
           refine w21 (op_storeAM ti30 rfl ev ev) rfl rfl rfl <| eO <| ?_
           cases hF
           exact G.ret1 Tryz.results5 (RVar.cellA (ds := [vI o_0.Kind, vI o_0.Client, vI o_0.Site, vI o_0.To, vI o_0.At, vI o_0.How, vS r3, vS r4, .sl 1 (List.map encS y2), .sl 2 (List.map encApi_Range y5), .sl 1 (List.map encI_i64 y6), .sl 1 (List.map encI_i64 l8)]) uU rfl ti30 rfl) z1 z1
         refine cF hc7 rfl <| sk <| sr <| p11 (op_loadAP (ds := [vI o_0.Kind, vI o_0.Client, vI o_0.Site, vI o_0.To, vI o_0.At, vI o_0.How, vS r3, vS r4, .sl 1 (List.map encS y2), .sl 2 (List.map encApi_Range y5), .sl 1 (List.map encI_i64 y6), .sl 1 (List.map encI_i64 o_0.Row.Parents)]) uU rfl ti30 rfl ev rfl) rfl rfl <| w21 (op_storeAM ti30 rfl ev ev) rfl rfl rfl <| eO <| ?_
         cases hF
         exact G.ret1 Tryz.results5 (RVar.cellA (ds := [vI o_0.Kind, vI o_0.Client, vI o_0.Site, vI o_0.To, vI o_0.At, vI o_0.How, vS r3, vS r4, .sl 1 (List.map encS y2), .sl 2 (List.map encApi_Range y5), .sl 1 (List.map encI_i64 y6), .sl 1 (List.map encI_i64 o_0.Row.Parents)]) uU rfl ti30 rfl) z1 z1
       refine ifS hF (fun hc10 hF => ?_) (fun hc10 hF => ?_)
       · refine cT hc10 rfl <| rg <| p10 (op_fieldP (off' := 9) uU rfl ti28 (by decide) rfl ev rfl) rfl <| p10 (op_fieldP (off' := 10) uU rfl ti26 (by decide) rfl ev rfl) rfl <| p11 (op_load1P uU rfl rfl ev rfl) rfl rfl <| bn hF fun l11 hl11 hF => ?_
         refine p10 (op_sliceD (lo := none) (hi := some 9) uU ti3 (sub_ok hl11 encI_i64).1 (sub_ok hl11 encI_i64).2.1 (sub_ok hl11 encI_i64).2.2.1 (sub_ok hl11 encI_i64).2.2.2 ev .none (.some (ec rfl)) rfl) rfl <| p10 (op_fieldP (off' := 9) uU rfl ti28 (by decide) rfl ev rfl) rfl <| p10 (op_fieldP (off' := 10) uU rfl ti26 (by decide) rfl ev rfl) rfl <| w21 (op_store1M sgd ti26 rfl ev ev) rfl rfl rfl <| eO <| ?_
         exact G.arr (J9 l11 hF) z2 z2 rfl
       refine cF hc10 rfl <| sk <| ?_
       exact G.arr (J9 o_0.Row.Owners hF) z2 z2 rfl
     refine bl <| ?_
     refine lF (fun (v13 : Int × (List Api_Range)) => ⟨[(1, .one (.ptr 1001 0)), (2, .one (.ptr 1002 0)), (5, .one (.own 2005 (List.map encApi_Range v13.2))), (6, oI v13.1)], [(1001, some (.blk 30 [bI .i64 o_0.Kind, bI .i64 o_0.Client, bI .i64 o_0.Site, bI .i64 o_0.To, bI .i64 o_0.At, bI .i64 o_0.How, bS r3, bS r4, .g (.d (.sl 1 (List.map encS y2))), .g (.d (.sl 2 (List.map encApi_Range o_0.Row.Ranges))), .g (.d (.sl 1 (List.map encI_i64 o_0.Row.Owners))), .g (.d (.sl 1 (List.map encI_i64 o_0.Row.Parents)))])), (1002, some (.blk 30 [bI .i64 0, bI .i64 0, bI .i64 0, bI .i64 0, bI .i64 0, bI .i64 0, bS ByteArray.empty, bS ByteArray.empty, .g (.d (.sl 1 (List.map encS ([] : (List ByteArray))))), .g (.d (.sl 2 (List.map encApi_Range ([] : (List Api_Range))))), .g (.d (.sl 1 (List.map encI_i64 ([] : (List Int))))), .g (.d (.sl 1 (List.map encI_i64 ([] : (List Int)))))])), (2005, some (.row 39 2 (List.map encApi_Range v13.2) false))]⟩) hF z4 z3 rfl (fun K16 again15 v13 J14 hF => ?_)
     unfold law24_few_l5 at hF
     refine sq <| sq <| ?_
     refine G.joinC (T := Bool) (fun y17 => ⟨[(1, .one (.ptr 1001 0)), (2, .one (.ptr 1002 0)), (5, .one (.own 2005 (List.map encApi_Range v13.2))), (6, oI v13.1), (50, oB y17)], [(1001, some (.blk 30 [bI .i64 o_0.Kind, bI .i64 o_0.Client, bI .i64 o_0.Site, bI .i64 o_0.To, bI .i64 o_0.At, bI .i64 o_0.How, bS r3, bS r4, .g (.d (.sl 1 (List.map encS y2))), .g (.d (.sl 2 (List.map encApi_Range o_0.Row.Ranges))), .g (.d (.sl 1 (List.map encI_i64 o_0.Row.Owners))), .g (.d (.sl 1 (List.map encI_i64 o_0.Row.Parents)))])), (1002, some (.blk 30 [bI .i64 0, bI .i64 0, bI .i64 0, bI .i64 0, bI .i64 0, bI .i64 0, bS ByteArray.empty, bS ByteArray.empty, .g (.d (.sl 1 (List.map encS ([] : (List ByteArray))))), .g (.d (.sl 2 (List.map encApi_Range ([] : (List Api_Range))))), .g (.d (.sl 1 (List.map encI_i64 ([] : (List Int))))), .g (.d (.sl 1 (List.map encI_i64 ([] : (List Int)))))])), (2005, some (.row 39 2 (List.map encApi_Range v13.2) false))]⟩) (fun y17 => law24_few_k6 o_0 y2 r3 r4 again15 v13 y17 = some r) (fun y17 hF => ?_) (fun J24 => ?_)
     · unfold law24_few_k6 at hF
       refine ifS hF (fun hc18 hF => ?_) (fun hc18 hF => ?_)
       · refine cT hc18 rfl <| sk <| sq <| bl <| bn hF fun x19 hx19 hF => bn hF fun r20 hr20 hF => ?_
         refine bn hF fun x21 hx21 hF => bn hF fun r22 hr22 hF => bn hF fun l23 hl23 hF => ?_
         refine G.drawnI (deps := ([] :: [] :: [1] :: [1, 2] :: [] :: [1, 2, 3, 4] :: [1, 2, 3, 4, 5] :: [1, 2, 3, 4, 5, 6] :: [1, 2, 3, 4, 5, 6, 7] :: [] :: [9] :: [9, 10] :: [] :: [9, 10, 11, 12] :: [9, 10, 11, 12, 13] :: [9, 10, 11, 12, 13, 14] :: [1, 2, 3, 4, 5, 6, 7, 8, 9, 10, 11, 12, 13, 14, 15] :: [1, 2, 3, 4, 5, 6, 7, 8, 9, 10, 11, 12, 13, 14, 15, 16] :: [1, 2, 3, 4, 5, 6, 7, 8, 9, 10, 11, 12, 13, 14, 15, 16, 17] :: [0, 1, 2, 3, 4, 5, 6, 7, 8, 9, 10, 11, 12, 13, 14, 15, 16, 17, 18] :: [0, 1, 2, 3, 4, 5, 6, 7, 8, 9, 10, 11, 12, 13, 14, 15, 16, 17, 18, 19] :: [])) (sl' := [(1, .one (.ptr 1001 0)), (2, .one (.ptr 1002 0)), (5, .one (.own 2005 (List.map encApi_Range l23))), (6, oI v13.1)]) (hp' := [(1001, some (.blk 30 [bI .i64 o_0.Kind, bI .i64 o_0.Client, bI .i64 o_0.Site, bI .i64 o_0.To, bI .i64 o_0.At, bI .i64 o_0.How, bS r3, bS r4, .g (.d (.sl 1 (List.map encS y2))), .g (.d (.sl 2 (List.map encApi_Range o_0.Row.Ranges))), .g (.d (.sl 1 (List.map encI_i64 o_0.Row.Owners))), .g (.d (.sl 1 (List.map encI_i64 o_0.Row.Parents)))])), (1002, some (.blk 30 [bI .i64 0, bI .i64 0, bI .i64 0, bI .i64 0, bI .i64 0, bI .i64 0, bS ByteArray.empty, bS ByteArray.empty, .g (.d (.sl 1 (List.map encS ([] : (List ByteArray))))), .g (.d (.sl 2 (List.map encApi_Range ([] : (List Api_Range))))), .g (.d (.sl 1 (List.map encI_i64 ([] : (List Int))))), .g (.d (.sl 1 (List.map encI_i64 ([] : (List Int)))))])), (2005, some (.row 39 2 (List.map encApi_Range l23) false))]) (.c (oP rfl rfl (op_move ev rfl)) (.c (oP rfl rfl (op_fieldP (off' := 9) uU rfl ti28 (by decide) rfl ev rfl)) (.c (oP rfl rfl (op_fieldP (off' := 9) uU rfl ti25 (by decide) rfl ev rfl)) (.c (oP rfl rfl (op_load1P uU rfl rfl ev rfl)) (.c (oP rfl rfl (op_move ev rfl)) (.c (oP rfl rfl (op_indexM hx19 uU ti39 ev ev rfl)) (.c (oP rfl rfl (op_fieldE uU rfl ti9 (by decide) rfl ev rfl)) (.c (oP rfl rfl (op_load1E uU rfl rfl ev rfl)) (.c (oP rfl rfl (op_callQ cf11 (ct_law24_short _ _ _ hr20) rfl rfl (.cons qe (.cons (.g (ec rfl)) .nil)) rfl)) (.c (oP rfl rfl (op_fieldP (off' := 9) uU rfl ti28 (by decide) rfl ev rfl)) (.c (oP rfl rfl (op_fieldP (off' := 9) uU rfl ti25 (by decide) rfl ev rfl)) (.c (oP rfl rfl (op_load1P uU rfl rfl ev rfl)) (.c (oP rfl rfl (op_move ev rfl)) (.c (oP rfl rfl (op_indexM hx21 uU ti39 ev ev rfl)) (.c (oP rfl rfl (op_fieldE uU rfl ti9 (by decide) rfl ev rfl)) (.c (oP rfl rfl (op_load1E uU rfl rfl ev rfl)) (.c (oP rfl rfl (op_callQ cf11 (ct_law24_short _ _ _ hr22) rfl rfl (.cons qe (.cons (.g (ec rfl)) .nil)) rfl)) (.c (oP rfl rfl (op_build (zs := [vS ByteArray.empty, vS ByteArray.empty]) (ds := [vS r20, vS r22]) uU ti39 (pl39 _ uU) ⟨.v _ rfl, .v _ rfl, trivial⟩ (.cons ev (.cons ev .nil)) rfl rfl)) (.c (oP rfl rfl (op_buildSlice (es := List.map encApi_Range [(Api_Range.mk r20 r22)]) uU ti39 rfl rfl (.cons ev .nil) rfl rfl (by simp [encApi_Range]) rfl)) (.c (oP rfl rfl (op_appendO uU ti39 rfl (app_map hl23 encApi_Range) (app_b1 hl23 encApi_Range) (app_b2 hl23 encApi_Range) ev ev rfl)) (.c (oP rfl rfl (op_assign ev rfl)) .nil))))))))))))))))))))) follows rfl rfl rfl ⟨⟨⟨rfl, rfl⟩, trivial⟩, trivial, ⟨rfl, trivial⟩, trivial, ⟨rfl, trivial⟩, trivial, ⟨rfl, trivial⟩, ⟨⟨rfl, rfl⟩, trivial⟩, ⟨rfl, trivial⟩, trivial, ⟨rfl, rfl, trivial⟩, trivial, ⟨rfl, trivial⟩, trivial, ⟨rfl, trivial⟩, trivial, ⟨rfl, trivial⟩, trivial, ⟨rfl, trivial⟩, trivial, ⟨rfl, trivial⟩, trivial, ⟨rfl, trivial⟩, ⟨⟨rfl, rfl⟩, trivial⟩, ⟨rfl, trivial⟩, trivial, ⟨rfl, rfl, trivial⟩, trivial, ⟨rfl, trivial⟩, trivial, ⟨rfl, trivial⟩, trivial, ⟨rfl, trivial⟩, trivial, ⟨rfl, rfl, trivial⟩, trivial, ⟨rfl, trivial⟩, trivial, ⟨rfl, rfl, trivial⟩, ⟨⟨rfl, rfl⟩, trivial⟩, ⟨rfl, trivial⟩, trivial, trivial⟩ ⟨rfl, rfl, rfl, rfl, trivial⟩ ⟨rfl, rfl, rfl, trivial⟩ rfl ?_
         refine eB <| rg <| mv rfl rfl <| p10 (op_add ev (ec rfl) rfl) rfl <| av rfl rfl <| eO <| ?_
         exact G.arr (J14 (IntKind.wrap .i64 (v13.1 + 1), l23) hF) z4 z3 rfl
       refine cF hc18 rfl <| ex <| ?_
       refine GX.c ?_
       refine GX.q ?_
       refine xY <| ?_
       exact G.arr (J12 v13.2 hF) z3 z3 rfl
     refine rg <| mv rfl rfl <| p10 (op_fieldP (off' := 9) uU rfl ti28 (by decide) rfl ev rfl) rfl <| p10 (op_fieldP (off' := 9) uU rfl ti25 (by decide) rfl ev rfl) rfl <| p11 (op_load1P uU rfl rfl ev rfl) rfl rfl <| p10 (op_lenM uU ev rfl) rfl <| ?_
     refine p20 (op_lss ev ev rfl) rfl rfl <| mv rfl rfl <| ?_
     refine ifS hF (fun hc25 hF => ?_) (fun hc25 hF => ?_)
     · refine G.known (t := 47) hc25 rfl <| g10 (op_move ev rfl) rfl rfl rfl <| g10 (op_lss ev (ec rfl) rfl) rfl rfl rfl <| p20 (op_pickT ev ev rfl) rfl rfl <| eO <| ?_
       exact G.arr (J24 (decide (v13.1 < 9)) hF) z5 z3 rfl
     refine G.known (t := 47) hc25 rfl <| oN rfl rfl rfl <| oN rfl rfl rfl <| p10 (op_pickF ev (ec rfl) rfl) rfl <| eO <| ?_
     exact G.arr (J24 false hF) z5 z3 rfl
   refine bl <| ?_
   refine lF (fun (v27 : Int × (List ByteArray)) => ⟨[(1, .one (.ptr 1001 0)), (2, .one (.ptr 1002 0)), (3, .one (.own 2003 (List.map encS v27.2))), (4, oI v27.1)], [(1001, some (.blk 30 [bI .i64 o_0.Kind, bI .i64 o_0.Client, bI .i64 o_0.Site, bI .i64 o_0.To, bI .i64 o_0.At, bI .i64 o_0.How, bS o_0.Key, bS o_0.Value, .g (.d (.sl 1 (List.map encS y1))), .g (.d (.sl 2 (List.map encApi_Range o_0.Row.Ranges))), .g (.d (.sl 1 (List.map encI_i64 o_0.Row.Owners))), .g (.d (.sl 1 (List.map encI_i64 o_0.Row.Parents)))])), (1002, some (.blk 30 [bI .i64 0, bI .i64 0, bI .i64 0, bI .i64 0, bI .i64 0, bI .i64 0, bS ByteArray.empty, bS ByteArray.empty, .g (.d (.sl 1 (List.map encS ([] : (List ByteArray))))), .g (.d (.sl 2 (List.map encApi_Range ([] : (List Api_Range))))), .g (.d (.sl 1 (List.map encI_i64 ([] : (List Int))))), .g (.d (.sl 1 (List.map encI_i64 ([] : (List Int)))))])), (2003, some (.row 9 1 (List.map encS v27.2) false))]⟩) hF z4 z3 rfl (fun K30 again29 v27 J28 hF => ?_)
   unfold law24_few_l7 at hF
   refine sq <| sr <| mv rfl rfl <| p10 (op_fieldP (off' := 8) uU rfl ti24 (by decide) rfl ev rfl) rfl <| p11 (op_load1P uU rfl rfl ev rfl) rfl rfl <| p10 (op_lenM uU ev rfl) rfl <| ?_
   refine p20 (op_lss ev ev rfl) rfl rfl <| eO <| ?_
   refine ifS hF (fun hc31 hF => ?_) (fun hc31 hF => ?_)
   · refine cT hc31 rfl <| sk <| sq <| bl <| rg <| mv rfl rfl <| ?_
     refine p10 (op_fieldP (off' := 8) uU rfl ti24 (by decide) rfl ev rfl) rfl <| p11 (op_load1P uU rfl rfl ev rfl) rfl rfl <| mv rfl rfl <| bn hF fun x32 hx32 hF => p20 (op_indexM hx32 uU ti9 ev ev rfl) rfl rfl <| p10 (op_load1E uU rfl rfl ev rfl) rfl <| ?_
     refine bn hF fun r33 hr33 hF => p10 (op_callQ cf11 (ct_law24_short _ _ _ hr33) rfl rfl (.cons qe (.cons (.g (ec rfl)) .nil)) rfl) rfl <| p10 (op_buildSlice (es := List.map encS [r33]) uU ti9 rfl rfl (.cons ev .nil) rfl rfl (by simp [encS]) rfl) rfl <| bn hF fun l34 hl34 hF => q21 (op_appendO uU ti9 rfl (app_map hl34 encS) (app_b1 hl34 encS) (app_b2 hl34 encS) ev ev rfl) rfl rfl rfl <| av rfl rfl <| ?_
     refine eO <| eB <| rg <| mv rfl rfl <| p10 (op_add ev (ec rfl) rfl) rfl <| av rfl rfl <| ?_
     refine eO <| ?_
     exact G.arr (J28 (IntKind.wrap .i64 (v27.1 + 1), l34) hF) z4 z3 rfl
   refine cF hc31 rfl <| ex <| ?_
   refine GX.c ?_
   refine GX.q ?_
   refine xY <| ?_
   exact G.arr (J26 v27.2 hF) z3 z3 rfl
 refine ifS hF (fun hc36 hF => ?_) (fun hc36 hF => ?_)
 · refine cT hc36 rfl <| rg <| p10 (op_fieldP (off' := 8) uU rfl ti24 (by decide) rfl ev rfl) rfl <| p11 (op_load1P uU rfl rfl ev rfl) rfl rfl <| bn hF fun l37 hl37 hF => p10 (op_sliceD (lo := none) (hi := some 9) uU ti9 (sub_ok hl37 encS).1 (sub_ok hl37 encS).2.1 (sub_ok hl37 encS).2.2.1 (sub_ok hl37 encS).2.2.2 ev .none (.some (ec rfl)) rfl) rfl <| ?_
   refine p10 (op_fieldP (off' := 8) uU rfl ti24 (by decide) rfl ev rfl) rfl <| w21 (op_store1M sgd ti24 rfl ev ev) rfl rfl rfl <| eO <| ?_
   exact G.arr (J35 l37 hF) z2 z2 rfl
 refine cF hc36 rfl <| sk <| ?_
 exact G.arr (J35 o_0.Keys hF) z2 z2 rfl


theorem ct_ref02_long (c_0 : Int) (r : Int) (hF : ref02_long c_0 = some r) : Ct Tryz.prog 111 [.g (.d (.v (.int .u8 c_0)))] (.one (.d (vI r))) := by
 unfold ref02_long at hF
 refine Ct.intro Tryz.func111 rfl Tryz.ntmps111 rfl rfl fun M w => ?_
 refine sr <| ac rfl rfl <| eO <| sq <| sr <| mv rfl rfl <| ?_
 refine p10 (op_lss ev (ec rfl) rfl) rfl <| eO <| ?_
 refine ifS hF (fun hc1 hF => ?_) (fun hc1 hF => ?_)
 · refine cT hc1 rfl <| sr <| ac rfl rfl <| eO <| ?_
   cases hF
   exact G.ret1 Tryz.results111 (RVar.tmp 2 _) z1 trivial
 refine cF hc1 rfl <| sk <| sq <| sq <| ?_
 refine G.joinC (T := Bool) (fun y2 => ⟨[(0, .one (bI .u8 c_0)), (10, oB y2)], []⟩) (fun y2 => ref02_long_k1 c_0 y2 = some r) (fun y2 hF => ?_) (fun J10 => ?_)
 · unfold ref02_long_k1 at hF
   refine ifS hF (fun hc3 hF => ?_) (fun hc3 hF => ?_)
   · refine cT hc3 rfl <| sr <| ac rfl rfl <| eO <| ?_
     cases hF
     exact G.ret1 Tryz.results111 (RVar.tmp 2 _) z1 trivial
   refine cF hc3 rfl <| sk <| sq <| sq <| ?_
   refine G.joinC (T := Bool) (fun y4 => ⟨[(0, .one (bI .u8 c_0)), (16, oB y4)], []⟩) (fun y4 => ref02_long_k2 c_0 y4 = some r) (fun y4 hF => ?_) (fun J8 => ?_)
   · unfold ref02_long_k2 at hF
     refine ifS hF (fun hc5 hF => ?_) (fun hc5 hF => ?_)
     · refine cT hc5 rfl <| sr <| ac rfl rfl <| eO <| ?_
       cases hF
       exact G.ret1 Tryz.results111 (RVar.tmp 2 _) z1 trivial
     refine cF hc5 rfl <| sk <| sq <| sr <| mv rfl rfl <| p10 (op_geq ev (ec rfl) rfl) rfl <| ?_
     refine mv rfl rfl <| ?_
     refine ifS hF (fun hc6 hF => ?_) (fun hc6 hF => ?_)
     · refine G.known (t := 19) hc6 rfl <| g10 (op_move ev rfl) rfl rfl rfl <| g10 (op_leq ev (ec rfl) rfl) rfl rfl rfl <| p20 (op_pickT ev ev rfl) rfl rfl <| eO <| ?_
       refine ifS hF (fun hc7 hF => ?_) (fun hc7 hF => ?_)
       · refine cT hc7 rfl <| sr <| ac rfl rfl <| eO <| ?_
         cases hF
         exact G.ret1 Tryz.results111 (RVar.tmp 2 _) z1 trivial
       refine cF hc7 rfl <| sk <| sr <| ac rfl rfl <| eO <| ?_
       cases hF
       exact G.ret1 Tryz.results111 (RVar.tmp 2 _) z1 trivial
     refine G.known (t := 19) hc6 rfl <| oN rfl rfl rfl <| oN rfl rfl rfl <| p10 (op_pickF ev (ec rfl) rfl) rfl <| eO <| ?_
     refine G.condF rfl ?_
     refine sk <| sr <| ac rfl rfl <| eO <| ?_
     cases hF
     exact G.ret1 Tryz.results111 (RVar.tmp 2 _) z1 trivial
   refine rg <| mv rfl rfl <| p10 (op_geq ev (ec rfl) rfl) rfl <| mv rfl rfl <| ?_
   refine ifS hF (fun hc9 hF => ?_) (fun hc9 hF => ?_)
   · refine G.known (t := 13) hc9 rfl <| g10 (op_move ev rfl) rfl rfl rfl <| g10 (op_leq ev (ec rfl) rfl) rfl rfl rfl <| p20 (op_pickT ev ev rfl) rfl rfl <| eO <| ?_
     exact G.arr (J8 (decide (c_0 ≤ 239)) hF) z2 trivial rfl
   refine G.known (t := 13) hc9 rfl <| oN rfl rfl rfl <| oN rfl rfl rfl <| p10 (op_pickF ev (ec rfl) rfl) rfl <| eO <| ?_
   exact G.arr (J8 false hF) z2 trivial rfl
 refine rg <| mv rfl rfl <| p10 (op_geq ev (ec rfl) rfl) rfl <| mv rfl rfl <| ?_
 refine ifS hF (fun hc11 hF => ?_) (fun hc11 hF => ?_)
 · refine G.known (t := 7) hc11 rfl <| g10 (op_move ev rfl) rfl rfl rfl <| g10 (op_leq ev (ec rfl) rfl) rfl rfl rfl <| p20 (op_pickT ev ev rfl) rfl rfl <| eO <| ?_
   exact G.arr (J10 (decide (c_0 ≤ 223)) hF) z2 trivial rfl
 refine G.known (t := 7) hc11 rfl <| oN rfl rfl rfl <| oN rfl rfl rfl <| p10 (op_pickF ev (ec rfl) rfl) rfl <| eO <| ?_
 exact G.arr (J10 false hF) z2 trivial rfl


theorem ct_ref02_Runes (s_0 : ByteArray) (r : Int) (hF : ref02_Runes s_0 = some r) : Ct Tryz.prog 96 [.g (.d (vS s_0))] (.one (.d (vI r))) := by
 unfold ref02_Runes at hF
 refine Ct.intro Tryz.func96 rfl Tryz.ntmps96 rfl rfl fun M w => ?_
 refine sr <| ac rfl rfl <| esr <| ac rfl rfl <| eO <| sq <| ?_
 refine sr <| ac rfl rfl <| eO <| ?_
 refine G.joinC (T := Int) (fun y1 => ⟨[(3, oI y1)], []⟩) (fun y1 => ref02_Runes_k1 y1 = some r) (fun y1 hF => ?_) (fun J2 => ?_)
 · unfold ref02_Runes_k1 at hF
   refine sr <| mv rfl rfl <| av rfl rfl <| eO <| ?_
   cases hF
   exact G.ret1 Tryz.results96 (RVar.tmp 2 _) z1 trivial
 refine bl <| ?_
 refine lF (fun (v3 : Int × Int) => ⟨[(0, oS s_0), (3, oI v3.1), (4, oI v3.2)], []⟩) hF z3 trivial rfl (fun K6 again5 v3 J4 hF => ?_)
 unfold ref02_Runes_l2 at hF
 refine sq <| sr <| mv rfl rfl <| mv rfl rfl <| p10 (op_lenS uU ev rfl) rfl <| p20 (op_lss ev ev rfl) rfl rfl <| ?_
 refine eO <| ?_
 refine ifS hF (fun hc7 hF => ?_) (fun hc7 hF => ?_)
 · refine cT hc7 rfl <| sk <| bl <| sr <| mv rfl rfl <| mv rfl rfl <| ?_
   refine bn hF fun b8 hb8 hF => p20 (op_indexS uU (sidx_ok hb8).1 (sidx_ok hb8).2 ev ev rfl) rfl rfl <| bn hF fun r9 hr9 hF => p10 (op_callQ cf111 (ct_ref02_long _ _ hr9) rfl rfl (.cons qe .nil) rfl) rfl <| av rfl rfl <| eO <| ?_
   refine sq <| sq <| ?_
   refine G.joinC (T := Bool) (fun y10 => ⟨[(0, oS s_0), (3, oI v3.1), (4, oI v3.2), (5, oI r9), (24, oB y10)], []⟩) (fun y10 => ref02_Runes_k3 s_0 again5 v3 r9 y10 = some r) (fun y10 hF => ?_) (fun J47 => ?_)
   · unfold ref02_Runes_k3 at hF
     refine ifS hF (fun hc11 hF => ?_) (fun hc11 hF => ?_)
     · refine cT hc11 rfl <| sr <| ac rfl rfl <| eO <| ?_
       cases hF
       exact G.ret1 Tryz.results96 (RVar.tmp 2 _) z1 trivial
     refine cF hc11 rfl <| sk <| sq <| sr <| ac rfl rfl <| eO <| ?_
     refine G.joinC (T := Unit) (fun y12 => ⟨[(0, oS s_0), (3, oI v3.1), (4, oI v3.2), (5, oI r9)], []⟩) (fun y12 => ref02_Runes_k4 s_0 again5 v3 r9 y12 = some r) (fun y12 hF => ?_) (fun J37 => ?_)
     · unfold ref02_Runes_k4 at hF
       refine sq <| sq <| ?_
       refine G.joinC (T := Bool) (fun y13 => ⟨[(0, oS s_0), (3, oI v3.1), (4, oI v3.2), (5, oI r9), (93, oB y13)], []⟩) (fun y13 => ref02_Runes_k5 again5 v3 r9 y13 = some r) (fun y13 hF => ?_) (fun J15 => ?_)
       · unfold ref02_Runes_k5 at hF
         refine ifS hF (fun hc14 hF => ?_) (fun hc14 hF => ?_)
         · refine cT hc14 rfl <| sr <| ac rfl rfl <| eO <| ?_
           cases hF
           exact G.ret1 Tryz.results96 (RVar.tmp 2 _) z1 trivial
         refine cF hc14 rfl <| sk <| sr <| mv rfl rfl <| mv rfl rfl <| p20 (op_add ev ev rfl) rfl rfl <| ?_
         refine av rfl rfl <| eO <| rg <| mv rfl rfl <| p10 (op_add ev (ec rfl) rfl) rfl <| av rfl rfl <| ?_
         refine eO <| eB <| ?_
         exact G.arr (J4 (IntKind.wrap .i64 (v3.1 + 1), IntKind.wrap .i64 (v3.2 + r9)) hF) z3 trivial rfl
       refine rg <| mv rfl rfl <| mv rfl rfl <| bn hF fun b16 hb16 hF => p20 (op_indexS uU (sidx_ok hb16).1 (sidx_ok hb16).2 ev ev rfl) rfl rfl <| p10 (op_eqI ev (ec rfl) rfl) rfl <| ?_
       refine mv rfl rfl <| ?_
       refine G.joinL (T := Bool) 6 (fun y17 => ⟨[(0, oS s_0), (3, oI v3.1), (4, oI v3.2), (5, oI r9), (54, oB y17)], []⟩) (fun y17 => ref02_Runes_k6 s_0 again5 v3 r9 y17 = some r) (fun y17 hF => ?_) (fun J34 => ?_)
       · unfold ref02_Runes_k6 at hF
         refine mv rfl rfl <| ?_
         refine G.joinL (T := Bool) 12 (fun y18 => ⟨[(0, oS s_0), (3, oI v3.1), (4, oI v3.2), (5, oI r9), (67, oB y18)], []⟩) (fun y18 => ref02_Runes_k7 s_0 again5 v3 r9 y18 = some r) (fun y18 hF => ?_) (fun J29 => ?_)
         · unfold ref02_Runes_k7 at hF
           refine mv rfl rfl <| ?_
           refine G.joinL (T := Bool) 12 (fun y19 => ⟨[(0, oS s_0), (3, oI v3.1), (4, oI v3.2), (5, oI r9), (80, oB y19)], []⟩) (fun y19 => ref02_Runes_k8 s_0 again5 v3 r9 y19 = some r) (fun y19 hF => ?_) (fun J24 => ?_)
           · unfold ref02_Runes_k8 at hF
             refine mv rfl rfl <| ?_
             refine ifS hF (fun hc20 hF => ?_) (fun hc20 hF => ?_)
             · refine G.known (t := 81) hc20 rfl <| oN rfl rfl rfl <| oN rfl rfl rfl <| oN rfl rfl rfl <| oN rfl rfl rfl <| oN rfl rfl rfl <| ?_
               refine G.opU rfl rfl rfl rfl ?_
               refine G.opU rfl rfl rfl rfl ?_
               refine G.opU rfl rfl rfl rfl ?_
               refine G.opU rfl rfl rfl rfl ?_
               refine G.opU rfl rfl rfl rfl ?_
               refine oN rfl rfl rfl <| p10 (op_pickT ev (ec rfl) rfl) rfl <| eO <| ?_
               exact G.arr (J15 true hF) z5 trivial rfl
             refine G.known (t := 81) hc20 rfl <| g10 (op_move ev rfl) rfl rfl rfl <| g10 (op_move ev rfl) rfl rfl rfl <| bn hF fun b21 hb21 hF => g20 (op_indexS uU (sidx_ok hb21).1 (sidx_ok hb21).2 ev ev rfl) rfl rfl rfl rfl <| g10 (op_eqI ev (ec rfl) rfl) rfl rfl rfl <| ?_
             refine g10 (op_move ev rfl) rfl rfl rfl <| ?_
             refine ifS hF (fun hc22 hF => ?_) (fun hc22 hF => ?_)
             · refine G.known (t := 86) hc22 rfl <| g10 (op_move ev rfl) rfl rfl rfl <| g10 (op_move ev rfl) rfl rfl rfl <| g10 (op_add ev (ec rfl) rfl) rfl rfl rfl <| bn hF fun b23 hb23 hF => g20 (op_indexS uU (sidx_ok hb23).1 (sidx_ok hb23).2 ev ev rfl) rfl rfl rfl rfl <| ?_
               refine g10 (op_gtr ev (ec rfl) rfl) rfl rfl rfl <| g20 (op_pickT ev ev rfl) rfl rfl rfl rfl <| p20 (op_pickF ev ev rfl) rfl rfl <| eO <| ?_
               exact G.arr (J15 (decide (143 < (b23.toNat : Int))) hF) z5 trivial rfl
             refine G.known (t := 86) hc22 rfl <| oN rfl rfl rfl <| oN rfl rfl rfl <| oN rfl rfl rfl <| oN rfl rfl rfl <| oN rfl rfl rfl <| ?_
             refine g10 (op_pickF ev (ec rfl) rfl) rfl rfl rfl <| p20 (op_pickF ev ev rfl) rfl rfl <| eO <| ?_
             exact G.arr (J15 false hF) z5 trivial rfl
           refine ifS hF (fun hc25 hF => ?_) (fun hc25 hF => ?_)
           · refine G.known (t := 68) hc25 rfl <| oN rfl rfl rfl <| oN rfl rfl rfl <| oN rfl rfl rfl <| oN rfl rfl rfl <| oN rfl rfl rfl <| ?_
             refine G.opU rfl rfl rfl rfl ?_
             refine G.opU rfl rfl rfl rfl ?_
             refine G.opU rfl rfl rfl rfl ?_
             refine G.opU rfl rfl rfl rfl ?_
             refine G.opU rfl rfl rfl rfl ?_
             refine oN rfl rfl rfl <| p10 (op_pickT ev (ec rfl) rfl) rfl <| ?_
             exact G.arr (J24 true hF) z5 trivial rfl
           refine G.known (t := 68) hc25 rfl <| g10 (op_move ev rfl) rfl rfl rfl <| g10 (op_move ev rfl) rfl rfl rfl <| bn hF fun b26 hb26 hF => g20 (op_indexS uU (sidx_ok hb26).1 (sidx_ok hb26).2 ev ev rfl) rfl rfl rfl rfl <| g10 (op_eqI ev (ec rfl) rfl) rfl rfl rfl <| ?_
           refine g10 (op_move ev rfl) rfl rfl rfl <| ?_
           refine ifS hF (fun hc27 hF => ?_) (fun hc27 hF => ?_)
           · refine G.known (t := 73) hc27 rfl <| g10 (op_move ev rfl) rfl rfl rfl <| g10 (op_move ev rfl) rfl rfl rfl <| g10 (op_add ev (ec rfl) rfl) rfl rfl rfl <| bn hF fun b28 hb28 hF => g20 (op_indexS uU (sidx_ok hb28).1 (sidx_ok hb28).2 ev ev rfl) rfl rfl rfl rfl <| ?_
             refine g10 (op_lss ev (ec rfl) rfl) rfl rfl rfl <| g20 (op_pickT ev ev rfl) rfl rfl rfl rfl <| p20 (op_pickF ev ev rfl) rfl rfl <| ?_
             exact G.arr (J24 (decide ((b28.toNat : Int) < 144)) hF) z5 trivial rfl
           refine G.known (t := 73) hc27 rfl <| oN rfl rfl rfl <| oN rfl rfl rfl <| oN rfl rfl rfl <| oN rfl rfl rfl <| oN rfl rfl rfl <| ?_
           refine g10 (op_pickF ev (ec rfl) rfl) rfl rfl rfl <| p20 (op_pickF ev ev rfl) rfl rfl <| ?_
           exact G.arr (J24 false hF) z5 trivial rfl
         refine ifS hF (fun hc30 hF => ?_) (fun hc30 hF => ?_)
         · refine G.known (t := 55) hc30 rfl <| oN rfl rfl rfl <| oN rfl rfl rfl <| oN rfl rfl rfl <| oN rfl rfl rfl <| oN rfl rfl rfl <| ?_
           refine G.opU rfl rfl rfl rfl ?_
           refine G.opU rfl rfl rfl rfl ?_
           refine G.opU rfl rfl rfl rfl ?_
           refine G.opU rfl rfl rfl rfl ?_
           refine G.opU rfl rfl rfl rfl ?_
           refine oN rfl rfl rfl <| p10 (op_pickT ev (ec rfl) rfl) rfl <| ?_
           exact G.arr (J29 true hF) z5 trivial rfl
         refine G.known (t := 55) hc30 rfl <| g10 (op_move ev rfl) rfl rfl rfl <| g10 (op_move ev rfl) rfl rfl rfl <| bn hF fun b31 hb31 hF => g20 (op_indexS uU (sidx_ok hb31).1 (sidx_ok hb31).2 ev ev rfl) rfl rfl rfl rfl <| g10 (op_eqI ev (ec rfl) rfl) rfl rfl rfl <| ?_
         refine g10 (op_move ev rfl) rfl rfl rfl <| ?_
         refine ifS hF (fun hc32 hF => ?_) (fun hc32 hF => ?_)
         · refine G.known (t := 60) hc32 rfl <| g10 (op_move ev rfl) rfl rfl rfl <| g10 (op_move ev rfl) rfl rfl rfl <| g10 (op_add ev (ec rfl) rfl) rfl rfl rfl <| bn hF fun b33 hb33 hF => g20 (op_indexS uU (sidx_ok hb33).1 (sidx_ok hb33).2 ev ev rfl) rfl rfl rfl rfl <| ?_
           refine g10 (op_gtr ev (ec rfl) rfl) rfl rfl rfl <| g20 (op_pickT ev ev rfl) rfl rfl rfl rfl <| p20 (op_pickF ev ev rfl) rfl rfl <| ?_
           exact G.arr (J29 (decide (159 < (b33.toNat : Int))) hF) z5 trivial rfl
         refine G.known (t := 60) hc32 rfl <| oN rfl rfl rfl <| oN rfl rfl rfl <| oN rfl rfl rfl <| oN rfl rfl rfl <| oN rfl rfl rfl <| ?_
         refine g10 (op_pickF ev (ec rfl) rfl) rfl rfl rfl <| p20 (op_pickF ev ev rfl) rfl rfl <| ?_
         exact G.arr (J29 false hF) z5 trivial rfl
       refine ifS hF (fun hc35 hF => ?_) (fun hc35 hF => ?_)
       · refine G.known (t := 48) hc35 rfl <| g10 (op_move ev rfl) rfl rfl rfl <| g10 (op_move ev rfl) rfl rfl rfl <| g10 (op_add ev (ec rfl) rfl) rfl rfl rfl <| bn hF fun b36 hb36 hF => g20 (op_indexS uU (sidx_ok hb36).1 (sidx_ok hb36).2 ev ev rfl) rfl rfl rfl rfl <| ?_
         refine g10 (op_lss ev (ec rfl) rfl) rfl rfl rfl <| p20 (op_pickT ev ev rfl) rfl rfl <| ?_
         exact G.arr (J34 (decide ((b36.toNat : Int) < 160)) hF) z5 trivial rfl
       refine G.known (t := 48) hc35 rfl <| oN rfl rfl rfl <| oN rfl rfl rfl <| oN rfl rfl rfl <| oN rfl rfl rfl <| oN rfl rfl rfl <| ?_
       refine p10 (op_pickF ev (ec rfl) rfl) rfl <| ?_
       exact G.arr (J34 false hF) z5 trivial rfl
     refine bl <| ?_
     refine lF (fun (v38 : Int) => ⟨[(0, oS s_0), (3, oI v3.1), (4, oI v3.2), (5, oI r9), (6, oI v38)], []⟩) hF z5 trivial rfl (fun K41 again40 v38 J39 hF => ?_)
     unfold ref02_Runes_l9 at hF
     refine sq <| sr <| mv rfl rfl <| mv rfl rfl <| p20 (op_lss ev ev rfl) rfl rfl <| eO <| ?_
     refine ifS hF (fun hc42 hF => ?_) (fun hc42 hF => ?_)
     · refine cT hc42 rfl <| sk <| sq <| bl <| sr <| mv rfl rfl <| ?_
       refine mv rfl rfl <| mv rfl rfl <| p20 (op_add ev ev rfl) rfl rfl <| bn hF fun b43 hb43 hF => p20 (op_indexS uU (sidx_ok hb43).1 (sidx_ok hb43).2 ev ev rfl) rfl rfl <| p10 (op_lss ev (ec rfl) rfl) rfl <| ?_
       refine mv rfl rfl <| ?_
       refine ifS hF (fun hc44 hF => ?_) (fun hc44 hF => ?_)
       · refine G.known (t := 36) hc44 rfl <| oN rfl rfl rfl <| oN rfl rfl rfl <| oN rfl rfl rfl <| oN rfl rfl rfl <| oN rfl rfl rfl <| ?_
         refine oN rfl rfl rfl <| p10 (op_pickT ev (ec rfl) rfl) rfl <| eO <| ?_
         refine G.condT rfl ?_
         refine sr <| ac rfl rfl <| eO <| ?_
         cases hF
         exact G.ret1 Tryz.results96 (RVar.tmp 2 _) z1 trivial
       refine G.known (t := 36) hc44 rfl <| g10 (op_move ev rfl) rfl rfl rfl <| g10 (op_move ev rfl) rfl rfl rfl <| g10 (op_move ev rfl) rfl rfl rfl <| g20 (op_add ev ev rfl) rfl rfl rfl rfl <| bn hF fun b45 hb45 hF => ?_
       refine g20 (op_indexS uU (sidx_ok hb45).1 (sidx_ok hb45).2 ev ev rfl) rfl rfl rfl rfl <| g10 (op_gtr ev (ec rfl) rfl) rfl rfl rfl <| p20 (op_pickF ev ev rfl) rfl rfl <| eO <| ?_
       refine ifS hF (fun hc46 hF => ?_) (fun hc46 hF => ?_)
       · refine cT hc46 rfl <| sr <| ac rfl rfl <| eO <| ?_
         cases hF
         exact G.ret1 Tryz.results96 (RVar.tmp 2 _) z1 trivial
       refine cF hc46 rfl <| sk <| eB <| rg <| mv rfl rfl <| p10 (op_add ev (ec rfl) rfl) rfl <| ?_
       refine av rfl rfl <| eO <| ?_
       exact G.arr (J39 (IntKind.wrap .i64 (v38 + 1)) hF) z5 trivial rfl
     refine cF hc42 rfl <| ex <| ?_
     refine GX.c ?_
     refine GX.q ?_
     refine xY <| ?_
     exact G.arr (J37 () hF) z4 trivial rfl
   refine rg <| mv rfl rfl <| p10 (op_eqI ev (ec rfl) rfl) rfl <| mv rfl rfl <| ?_
   refine ifS hF (fun hc48 hF => ?_) (fun hc48 hF => ?_)
   · refine G.known (t := 17) hc48 rfl <| oN rfl rfl rfl <| oN rfl rfl rfl <| oN rfl rfl rfl <| oN rfl rfl rfl <| oN rfl rfl rfl <| ?_
     refine oN rfl rfl rfl <| p10 (op_pickT ev (ec rfl) rfl) rfl <| eO <| ?_
     exact G.arr (J47 true hF) z5 trivial rfl
   refine G.known (t := 17) hc48 rfl <| g10 (op_move ev rfl) rfl rfl rfl <| g10 (op_move ev rfl) rfl rfl rfl <| g10 (op_lenS uU ev rfl) rfl rfl rfl <| g10 (op_move ev rfl) rfl rfl rfl <| g20 (op_sub ev ev rfl) rfl rfl rfl rfl <| ?_
   refine g20 (op_gtr ev ev rfl) rfl rfl rfl rfl <| p20 (op_pickF ev ev rfl) rfl rfl <| eO <| ?_
   exact G.arr (J47 (decide ((IntKind.wrap .i64 ((s_0.size : Int) - v3.2)) < r9)) hF) z5 trivial rfl
 refine cF hc7 rfl <| ex <| ?_
 refine GX.c ?_
 refine GX.q ?_
 refine xY <| ?_
 exact G.arr (J2 v3.1 hF) z1 trivial rfl


theorem ct_ref02_Check (s_0 : ByteArray) (r : Bool) (hF : ref02_Check s_0 = some r) : Ct Tryz.prog 122 [.g (.d (vS s_0))] (.one (.d (vB r))) := by
 unfold ref02_Check at hF
 refine Ct.intro Tryz.func122 rfl Tryz.ntmps122 rfl rfl fun M w => ?_
 refine sr <| ac rfl rfl <| esr <| mv rfl rfl <| bn hF fun r1 hr1 hF => p10 (op_callQ cf96 (ct_ref02_Runes _ _ hr1) rfl rfl (.cons qe .nil) rfl) rfl <| ?_
 refine av rfl rfl <| eO <| sq <| sr <| ac rfl rfl <| eO <| ?_
 refine G.joinC (T := Unit) (fun y2 => ⟨[(3, oI r1)], []⟩) (fun y2 => ref02_Check_k1 r1 y2 = some r) (fun y2 hF => ?_) (fun J4 => ?_)
 · unfold ref02_Check_k1 at hF
   refine sr <| mv rfl rfl <| p10 (op_geq ev (ec rfl) rfl) rfl <| mv rfl rfl <| ?_
   refine ifS hF (fun hc3 hF => ?_) (fun hc3 hF => ?_)
   · refine G.known (t := 19) hc3 rfl <| g10 (op_move ev rfl) rfl rfl rfl <| g10 (op_leq ev (ec rfl) rfl) rfl rfl rfl <| p20 (op_pickT ev ev rfl) rfl rfl <| av rfl rfl <| eO <| ?_
     cases hF
     exact G.ret1 Tryz.results122 (RVar.tmp 2 _) z1 trivial
   refine G.known (t := 19) hc3 rfl <| oN rfl rfl rfl <| oN rfl rfl rfl <| p10 (op_pickF ev (ec rfl) rfl) rfl <| av rfl rfl <| eO <| ?_
   cases hF
   exact G.ret1 Tryz.results122 (RVar.tmp 2 _) z1 trivial
 refine bl <| ?_
 refine lF (fun (v5 : Int) => ⟨[(0, oS s_0), (3, oI r1), (4, oI v5)], []⟩) hF z3 trivial rfl (fun K8 again7 v5 J6 hF => ?_)
 unfold ref02_Check_l2 at hF
 refine sq <| sr <| mv rfl rfl <| mv rfl rfl <| p10 (op_lenS uU ev rfl) rfl <| p20 (op_lss ev ev rfl) rfl rfl <| ?_
 refine eO <| ?_
 refine ifS hF (fun hc9 hF => ?_) (fun hc9 hF => ?_)
 · refine cT hc9 rfl <| sk <| sq <| bl <| sr <| mv rfl rfl <| ?_
   refine mv rfl rfl <| bn hF fun b10 hb10 hF => p20 (op_indexS uU (sidx_ok hb10).1 (sidx_ok hb10).2 ev ev rfl) rfl rfl <| p10 (op_lss ev (ec rfl) rfl) rfl <| eO <| ?_
   refine ifS hF (fun hc11 hF => ?_) (fun hc11 hF => ?_)
   · refine cT hc11 rfl <| sr <| ac rfl rfl <| eO <| ?_
     cases hF
     exact G.ret1 Tryz.results122 (RVar.tmp 2 _) z1 trivial
   refine cF hc11 rfl <| sk <| eB <| rg <| mv rfl rfl <| p10 (op_add ev (ec rfl) rfl) rfl <| ?_
   refine av rfl rfl <| eO <| ?_
   exact G.arr (J6 (IntKind.wrap .i64 (v5 + 1)) hF) z3 trivial rfl
 refine cF hc9 rfl <| ex <| ?_
 refine GX.c ?_
 refine GX.q ?_
 refine xY <| ?_
 exact G.arr (J4 () hF) z1 trivial rfl


theorem ct_ref02_Good (r_0 : Api_Range) (r : Bool) (hF : ref02_Good r_0 = some r) : Ct Tryz.prog 109 [.g (.agg (encApi_Range r_0))] (.one (.d (vB r))) := by
 unfold ref02_Good at hF
 refine Ct.intro Tryz.func109 rfl Tryz.ntmps109 rfl rfl fun M w => ?_
 refine sr <| q11 (op_boxA (k := 1001) ev rfl) rfl rfl <| ac rfl rfl <| esr <| p10 (op_fieldP (off' := 0) uU rfl ti9 (by decide) rfl ev rfl) rfl <| p11 (op_load1P uU rfl rfl ev rfl) rfl rfl <| ?_
 refine bn hF fun r1 hr1 hF => p10 (op_callQ cf122 (ct_ref02_Check _ _ hr1) rfl rfl (.cons qe .nil) rfl) rfl <| av rfl rfl <| esr <| p10 (op_fieldP (off' := 1) uU rfl ti9 (by decide) rfl ev rfl) rfl <| p11 (op_load1P uU rfl rfl ev rfl) rfl rfl <| ?_
 refine bn hF fun r2 hr2 hF => p10 (op_callQ cf122 (ct_ref02_Check _ _ hr2) rfl rfl (.cons qe .nil) rfl) rfl <| av rfl rfl <| esr <| p10 (op_fieldP (off' := 0) uU rfl ti9 (by decide) rfl ev rfl) rfl <| p11 (op_load1P uU rfl rfl ev rfl) rfl rfl <| ?_
 refine p10 (op_eqS ev (ec rfl) rfl) rfl <| mv rfl rfl <| ?_
 refine G.joinL (T := Bool) 2 (fun y3 => ⟨[(1, .one (.ptr 1001 0)), (4, oB r2), (16, oB y3)], [(1001, some (.blk 39 [bS r_0.From, bS r_0.To]))]⟩) (fun y3 => ref02_Good_k1 r_0 r2 y3 = some r) (fun y3 hF => ?_) (fun J10 => ?_)
 · unfold ref02_Good_k1 at hF
   refine mv rfl rfl <| ?_
   refine G.joinL (T := Bool) 7 (fun y4 => ⟨[(1, .one (.ptr 1001 0)), (24, oB y4)], [(1001, some (.blk 39 [bS r_0.From, bS r_0.To]))]⟩) (fun y4 => ref02_Good_k2 r_0 y4 = some r) (fun y4 hF => ?_) (fun J7 => ?_)
   · unfold ref02_Good_k2 at hF
     refine mv rfl rfl <| ?_
     refine ifS hF (fun hc5 hF => ?_) (fun hc5 hF => ?_)
     · refine G.known (t := 25) hc5 rfl <| g10 (op_fieldP (off' := 1) uU rfl ti9 (by decide) rfl ev rfl) rfl rfl rfl <| g11 (op_load1P uU rfl rfl ev rfl) rfl rfl rfl rfl <| g10 (op_eqS ev (ec rfl) rfl) rfl rfl rfl <| g10 (op_move ev rfl) rfl rfl rfl <| ?_
       refine ifS hF (fun hc6 hF => ?_) (fun hc6 hF => ?_)
       · refine G.known (t := 29) hc6 rfl <| oN rfl rfl rfl <| oN rfl rfl rfl <| oN rfl rfl rfl <| oN rfl rfl rfl <| oN rfl rfl rfl <| ?_
         refine g10 (op_pickT ev (ec rfl) rfl) rfl rfl rfl <| p20 (op_pickT ev ev rfl) rfl rfl <| av rfl rfl <| eO <| ?_
         cases hF
         exact G.ret1 Tryz.results109 (RVar.tmp 2 _) z1 trivial
       refine G.known (t := 29) hc6 rfl <| g10 (op_fieldP (off' := 0) uU rfl ti9 (by decide) rfl ev rfl) rfl rfl rfl <| g11 (op_load1P uU rfl rfl ev rfl) rfl rfl rfl rfl <| g10 (op_fieldP (off' := 1) uU rfl ti9 (by decide) rfl ev rfl) rfl rfl rfl <| g11 (op_load1P uU rfl rfl ev rfl) rfl rfl rfl rfl <| g20 (op_ltS ev ev rfl) rfl rfl rfl rfl <| ?_
       refine g20 (op_pickF ev ev rfl) rfl rfl rfl rfl <| p20 (op_pickT ev ev rfl) rfl rfl <| av rfl rfl <| eO <| ?_
       cases hF
       exact G.ret1 Tryz.results109 (RVar.tmp 2 _) z1 trivial
     refine G.known (t := 25) hc5 rfl <| oN rfl rfl rfl <| oN rfl rfl rfl <| oN rfl rfl rfl <| oN rfl rfl rfl <| ?_
     refine G.opU rfl rfl rfl rfl ?_
     refine G.opU rfl rfl rfl rfl ?_
     refine G.opU rfl rfl rfl rfl ?_
     refine G.opU rfl rfl rfl rfl ?_
     refine G.opU rfl rfl rfl rfl ?_
     refine oN rfl rfl rfl <| p10 (op_pickF ev (ec rfl) rfl) rfl <| av rfl rfl <| eO <| ?_
     cases hF
     exact G.ret1 Tryz.results109 (RVar.tmp 2 _) z1 trivial
   refine ifS hF (fun hc8 hF => ?_) (fun hc8 hF => ?_)
   · refine G.known (t := 17) hc8 rfl <| g10 (op_fieldP (off' := 1) uU rfl ti9 (by decide) rfl ev rfl) rfl rfl rfl <| g11 (op_load1P uU rfl rfl ev rfl) rfl rfl rfl rfl <| g10 (op_eqS ev (ec rfl) rfl) rfl rfl rfl <| g10 (op_move ev rfl) rfl rfl rfl <| ?_
     refine ifS hF (fun hc9 hF => ?_) (fun hc9 hF => ?_)
     · refine G.known (t := 21) hc9 rfl <| oN rfl rfl rfl <| g10 (op_pickT ev (ec rfl) rfl) rfl rfl rfl <| p20 (op_pickT ev ev rfl) rfl rfl <| ?_
       exact G.arr (J7 true hF) z2 z1 rfl
     refine G.known (t := 21) hc9 rfl <| g10 (op_move ev rfl) rfl rfl rfl <| g20 (op_pickF ev ev rfl) rfl rfl rfl rfl <| p20 (op_pickT ev ev rfl) rfl rfl <| ?_
     exact G.arr (J7 r2 hF) z2 z1 rfl
   refine G.known (t := 17) hc8 rfl <| oN rfl rfl rfl <| oN rfl rfl rfl <| oN rfl rfl rfl <| oN rfl rfl rfl <| ?_
   refine G.opU rfl rfl rfl rfl ?_
   refine oN rfl rfl rfl <| p10 (op_pickF ev (ec rfl) rfl) rfl <| ?_
   exact G.arr (J7 false hF) z2 z1 rfl
 refine ifS hF (fun hc11 hF => ?_) (fun hc11 hF => ?_)
 · refine G.known (t := 14) hc11 rfl <| oN rfl rfl rfl <| p10 (op_pickT ev (ec rfl) rfl) rfl <| ?_
   exact G.arr (J10 true hF) z3 z1 rfl
 refine G.known (t := 14) hc11 rfl <| g10 (op_move ev rfl) rfl rfl rfl <| p20 (op_pickF ev ev rfl) rfl rfl <| ?_
 exact G.arr (J10 r1 hF) z3 z1 rfl


theorem ct_ref02_Whole (l_0 : (List Api_Range)) (r : Bool) (hF : ref02_Whole l_0 = some r) : Ct Tryz.prog 94 [.g (.d (.sl 2 (List.map encApi_Range l_0)))] (.one (.d (vB r))) := by
 unfold ref02_Whole at hF
 refine Ct.intro Tryz.func94 rfl Tryz.ntmps94 rfl rfl fun M w => ?_
 refine sr <| ac rfl rfl <| eO <| sq <| sr <| ac rfl rfl <| ?_
 refine eO <| ?_
 refine G.joinC (T := Unit) (fun y1 => ⟨[(0, .one (.g (.d (.sl 2 (List.map encApi_Range l_0)))))], []⟩) (fun y1 => ref02_Whole_k1 l_0 y1 = some r) (fun y1 hF => ?_) (fun J4 => ?_)
 · unfold ref02_Whole_k1 at hF
   refine sr <| mv rfl rfl <| p10 (op_lenM uU ev rfl) rfl <| p10 (op_gtr ev (ec rfl) rfl) rfl <| mv rfl rfl <| ?_
   refine ifS hF (fun hc2 hF => ?_) (fun hc2 hF => ?_)
   · refine G.known (t := 59) hc2 rfl <| g10 (op_move ev rfl) rfl rfl rfl <| g10 (op_move ev rfl) rfl rfl rfl <| g10 (op_lenM uU ev rfl) rfl rfl rfl <| g10 (op_sub ev (ec rfl) rfl) rfl rfl rfl <| bn hF fun x3 hx3 hF => ?_
     refine g20 (op_indexM hx3 uU ti39 ev ev rfl) rfl rfl rfl rfl <| g10 (op_fieldE uU rfl ti9 (by decide) rfl ev rfl) rfl rfl rfl <| g10 (op_load1E uU rfl rfl ev rfl) rfl rfl rfl <| g10 (op_eqS ev (ec rfl) rfl) rfl rfl rfl <| p20 (op_pickT ev ev rfl) rfl rfl <| av rfl rfl <| ?_
     refine eO <| ?_
     cases hF
     exact G.ret1 Tryz.results94 (RVar.tmp 2 _) z1 trivial
   refine G.known (t := 59) hc2 rfl <| oN rfl rfl rfl <| oN rfl rfl rfl <| oN rfl rfl rfl <| oN rfl rfl rfl <| oN rfl rfl rfl <| ?_
   refine oN rfl rfl rfl <| oN rfl rfl rfl <| oN rfl rfl rfl <| p10 (op_pickF ev (ec rfl) rfl) rfl <| av rfl rfl <| eO <| ?_
   cases hF
   exact G.ret1 Tryz.results94 (RVar.tmp 2 _) z1 trivial
 refine bl <| ?_
 refine lF (fun (v5 : Int) => ⟨[(0, .one (.g (.d (.sl 2 (List.map encApi_Range l_0))))), (3, oI v5)], []⟩) hF z2 trivial rfl (fun K8 again7 v5 J6 hF => ?_)
 unfold ref02_Whole_l2 at hF
 refine sq <| sr <| mv rfl rfl <| mv rfl rfl <| p10 (op_lenM uU ev rfl) rfl <| p20 (op_lss ev ev rfl) rfl rfl <| ?_
 refine eO <| ?_
 refine ifS hF (fun hc9 hF => ?_) (fun hc9 hF => ?_)
 · refine cT hc9 rfl <| sk <| sq <| bl <| sr <| mv rfl rfl <| ?_
   refine mv rfl rfl <| bn hF fun x10 hx10 hF => p20 (op_indexM hx10 uU ti39 ev ev rfl) rfl rfl <| p10 (op_loadAE (ds := [vS x10.From, vS x10.To]) uU rfl ti39 rfl ev rfl) rfl <| bn hF fun r11 hr11 hF => p10 (op_callQ cf109 (ct_ref02_Good _ _ hr11) rfl rfl (.cons qe .nil) rfl) rfl <| ?_
   refine av rfl rfl <| eO <| sq <| ?_
   refine ifS hF (fun hc12 hF => ?_) (fun hc12 hF => ?_)
   · refine G.drawnI (deps := ([] :: [0] :: [0, 1] :: [0, 1, 2] :: [0, 1, 2, 3] :: [0, 1, 2, 3, 4] :: [0, 1, 2, 3, 4, 5] :: [0, 1, 2, 3, 4, 5] :: [0, 1, 2, 3, 4, 5, 6, 7] :: [0, 1, 2, 3, 4, 5, 6, 7, 8] :: [0, 1, 2, 3, 4, 5, 6, 7, 8, 9] :: [0, 1, 2, 3, 4, 5, 6, 7, 8, 9, 10] :: [0, 1, 2, 3, 4, 5, 6, 7, 8, 9, 10, 11] :: [0, 1, 2, 3, 4, 5, 6, 7, 8, 9, 10, 11, 12] :: [0, 1, 2, 3, 4, 5, 6, 7, 8, 9, 10, 11, 12, 13] :: [0, 1, 2, 3, 4, 5, 6, 7, 8, 9, 10, 11, 12, 13, 14] :: [0, 1, 2, 3, 4, 5, 6, 7, 8, 9, 10, 11, 12, 13, 14, 15] :: [0, 1, 2, 3, 4, 5, 6, 7, 8, 9, 10, 11, 12, 13, 14, 15, 16] :: [0, 1, 2, 3, 4, 5, 6, 7, 8, 9, 10, 11, 12, 13, 14, 15, 16, 17] :: [0, 1, 2, 3, 4, 5, 6, 7, 8, 9, 10, 11, 12, 13, 14, 15, 16, 17] :: [0, 1, 2, 3, 4, 5, 6, 7, 8, 9, 10, 11, 12, 13, 14, 15, 16, 17, 18, 19] :: (0 :: 1 :: 2 :: 3 :: 4 :: 5 :: 6 :: 7 :: 8 :: 9 :: 10 :: 11 :: 12 :: 13 :: 14 :: 15 :: 16 :: 17 :: 18 :: 19 :: 20 :: []) :: (0 :: 1 :: 2 :: 3 :: 4 :: 5 :: 6 :: 7 :: 8 :: 9 :: 10 :: 11 :: 12 :: 13 :: 14 :: 15 :: 16 :: 17 :: 18 :: 19 :: 20 :: 21 :: []) :: [0, 1, 2, 3, 4, 5, 6, 7, 8, 9, 10, 11, 12, 13, 14, 15, 16, 17] :: [0, 1, 2, 3, 4, 5, 6, 7, 8, 9, 10, 11, 12, 13, 14, 15, 16, 17] :: [0, 1, 2, 3, 4, 5, 6, 7, 8, 9, 10, 11, 12, 13, 14, 15, 16, 17, 24] :: (0 :: 1 :: 2 :: 3 :: 4 :: 5 :: 6 :: 7 :: 8 :: 9 :: 10 :: 11 :: 12 :: 13 :: 14 :: 15 :: 16 :: 17 :: 23 :: 24 :: 25 :: []) :: (0 :: 1 :: 2 :: 3 :: 4 :: 5 :: 6 :: 7 :: 8 :: 9 :: 10 :: 11 :: 12 :: 13 :: 14 :: 15 :: 16 :: 17 :: 23 :: 24 :: 25 :: 26 :: []) :: (0 :: 1 :: 2 :: 3 :: 4 :: 5 :: 6 :: 7 :: 8 :: 9 :: 10 :: 11 :: 12 :: 13 :: 14 :: 15 :: 16 :: 17 :: 23 :: 24 :: 25 :: 26 :: 27 :: []) :: (0 :: 1 :: 2 :: 3 :: 4 :: 5 :: 6 :: 7 :: 8 :: 9 :: 10 :: 11 :: 12 :: 13 :: 14 :: 15 :: 16 :: 17 :: 18 :: 19 :: 20 :: 21 :: 22 :: 23 :: 24 :: 25 :: 26 :: 27 :: 28 :: []) :: (0 :: 1 :: 2 :: 3 :: 4 :: 5 :: 6 :: 7 :: 8 :: 9 :: 10 :: 11 :: 12 :: 13 :: 14 :: 15 :: 16 :: 17 :: 18 :: 19 :: 20 :: 21 :: 22 :: 23 :: 24 :: 25 :: 26 :: 27 :: 28 :: 29 :: []) :: (0 :: 1 :: 2 :: 3 :: 4 :: 5 :: 6 :: 7 :: 8 :: 9 :: 10 :: 11 :: 12 :: 13 :: 14 :: 15 :: 16 :: 17 :: 18 :: 19 :: 20 :: 21 :: 22 :: 23 :: 24 :: 25 :: 26 :: 27 :: 28 :: 29 :: 30 :: []) :: (0 :: 1 :: 2 :: 3 :: 4 :: 5 :: 6 :: 7 :: 8 :: 9 :: 10 :: 11 :: 12 :: 13 :: 14 :: 15 :: 16 :: 17 :: 18 :: 19 :: 20 :: 21 :: 22 :: 23 :: 24 :: 25 :: 26 :: 27 :: 28 :: 29 :: 30 :: []) :: (0 :: 1 :: 2 :: 3 :: 4 :: 5 :: 6 :: 7 :: 8 :: 9 :: 10 :: 11 :: 12 :: 13 :: 14 :: 15 :: 16 :: 17 :: 18 :: 19 :: 20 :: 21 :: 22 :: 23 :: 24 :: 25 :: 26 :: 27 :: 28 :: 29 :: 30 :: 31 :: 32 :: []) :: (0 :: 1 :: 2 :: 3 :: 4 :: 5 :: 6 :: 7 :: 8 :: 9 :: 10 :: 11 :: 12 :: 13 :: 14 :: 15 :: 16 :: 17 :: 18 :: 19 :: 20 :: 21 :: 22 :: 23 :: 24 :: 25 :: 26 :: 27 :: 28 :: 29 :: 30 :: 31 :: 32 :: 33 :: []) :: (0 :: 1 :: 2 :: 3 :: 4 :: 5 :: 6 :: 7 :: 8 :: 9 :: 10 :: 11 :: 12 :: 13 :: 14 :: 15 :: 16 :: 17 :: 18 :: 19 :: 20 :: 21 :: 22 :: 23 :: 24 :: 25 :: 26 :: 27 :: 28 :: 29 :: 30 :: 31 :: 32 :: 33 :: 34 :: []) :: (0 :: 1 :: 2 :: 3 :: 4 :: 5 :: 6 :: 7 :: 8 :: 9 :: 10 :: 11 :: 12 :: 13 :: 14 :: 15 :: 16 :: 17 :: 18 :: 19 :: 20 :: 21 :: 22 :: 23 :: 24 :: 25 :: 26 :: 27 :: 28 :: 29 :: 30 :: 31 :: 32 :: 33 :: 34 :: 35 :: []) :: (0 :: 1 :: 2 :: 3 :: 4 :: 5 :: 6 :: 7 :: 8 :: 9 :: 10 :: 11 :: 12 :: 13 :: 14 :: 15 :: 16 :: 17 :: 18 :: 19 :: 20 :: 21 :: 22 :: 23 :: 24 :: 25 :: 26 :: 27 :: 28 :: 29 :: 30 :: 31 :: 32 :: 33 :: 34 :: 35 :: 36 :: []) :: (0 :: 1 :: 2 :: 3 :: 4 :: 5 :: 6 :: 7 :: 8 :: 9 :: 10 :: 11 :: 12 :: 13 :: 14 :: 15 :: 16 :: 17 :: 18 :: 19 :: 20 :: 21 :: 22 :: 23 :: 24 :: 25 :: 26 :: 27 :: 28 :: 29 :: 30 :: 31 :: 32 :: 33 :: 34 :: 35 :: 36 :: 37 :: []) :: (0 :: 1 :: 2 :: 3 :: 4 :: 5 :: 6 :: 7 :: 8 :: 9 :: 10 :: 11 :: 12 :: 13 :: 14 :: 15 :: 16 :: 17 :: 18 :: 19 :: 20 :: 21 :: 22 :: 23 :: 24 :: 25 :: 26 :: 27 :: 28 :: 29 :: 30 :: 31 :: 32 :: 33 :: 34 :: 35 :: 36 :: 37 :: 38 :: []) :: [])) (sl' := [(0, .one (.g (.d (.sl 2 (List.map encApi_Range l_0))))), (3, oI v5), (55, oB true)]) (hp' := []) (.c (oP rfl rfl (op_move ev rfl)) (.c (oP rfl rfl (OpL.cast (op_not ev rfl) (congrArg (fun b => bB b) hc12))) (.c (oP rfl rfl (op_move ev rfl)) (.c (OpW.no rfl rfl rfl rfl rfl) (.c (OpW.no rfl rfl rfl rfl rfl) (.c (OpW.no rfl rfl rfl rfl rfl) (.c (OpW.un rfl rfl rfl rfl) (.c (OpW.un rfl rfl rfl rfl) (.c (OpW.un rfl rfl rfl rfl) (.c (OpW.un rfl rfl rfl rfl) (.c (OpW.un rfl rfl rfl rfl) (.c (OpW.un rfl rfl rfl rfl) (.c (OpW.no rfl rfl rfl rfl rfl) (.c (oP rfl rfl (op_pickT ev (ec rfl) rfl)) (.c (oP rfl rfl (op_move ev rfl)) (.c (OpW.no rfl rfl rfl rfl rfl) (.c (OpW.no rfl rfl rfl rfl rfl) (.c (OpW.no rfl rfl rfl rfl rfl) (.c (OpW.un rfl rfl rfl rfl) (.c (OpW.un rfl rfl rfl rfl) (.c (OpW.un rfl rfl rfl rfl) (.c (OpW.un rfl rfl rfl rfl) (.c (OpW.un rfl rfl rfl rfl) (.c (OpW.un rfl rfl rfl rfl) (.c (OpW.un rfl rfl rfl rfl) (.c (OpW.un rfl rfl rfl rfl) (.c (OpW.un rfl rfl rfl rfl) (.c (OpW.un rfl rfl rfl rfl) (.c (OpW.un rfl rfl rfl rfl) (.c (OpW.un rfl rfl rfl rfl) (.c (OpW.un rfl rfl rfl rfl) (.c (OpW.un rfl rfl rfl rfl) (.c (OpW.un rfl rfl rfl rfl) (.c (OpW.un rfl rfl rfl rfl) (.c (OpW.un rfl rfl rfl rfl) (.c (OpW.un rfl rfl rfl rfl) (.c (OpW.un rfl rfl rfl rfl) (.c (OpW.un rfl rfl rfl rfl) (.c (OpW.no rfl rfl rfl rfl rfl) (.c (oP rfl rfl (op_pickT ev (ec rfl) rfl)) .nil)))))))))))))))))))))))))))))))))))))))) follows rfl rfl rfl ⟨⟨rfl, trivial⟩, trivial, ⟨rfl, trivial⟩, trivial, ⟨rfl, trivial⟩, trivial, ⟨rfl, trivial⟩, trivial, ⟨rfl, trivial⟩, trivial, ⟨rfl, trivial⟩, trivial, ⟨rfl, trivial⟩, trivial, ⟨rfl, trivial⟩, trivial, ⟨rfl, trivial⟩, trivial, ⟨rfl, trivial⟩, trivial, ⟨rfl, trivial⟩, trivial, ⟨rfl, trivial⟩, trivial, ⟨rfl, trivial⟩, trivial, ⟨rfl, trivial⟩, trivial, ⟨rfl, trivial⟩, trivial, ⟨rfl, trivial⟩, trivial, ⟨rfl, trivial⟩, trivial, ⟨rfl, trivial⟩, trivial, ⟨rfl, trivial⟩, trivial, ⟨rfl, trivial⟩, trivial, ⟨rfl, trivial⟩, trivial, ⟨rfl, trivial⟩, trivial, ⟨rfl, trivial⟩, trivial, ⟨rfl, trivial⟩, trivial, ⟨rfl, trivial⟩, trivial, ⟨rfl, trivial⟩, trivial, ⟨rfl, trivial⟩, trivial, ⟨rfl, trivial⟩, trivial, ⟨rfl, trivial⟩, trivial, ⟨rfl, trivial⟩, trivial, ⟨rfl, trivial⟩, trivial, ⟨rfl, trivial⟩, trivial, ⟨rfl, trivial⟩, trivial, ⟨rfl, trivial⟩, trivial, ⟨rfl, trivial⟩, trivial, ⟨rfl, trivial⟩, trivial, ⟨rfl, trivial⟩, trivial, ⟨rfl, trivial⟩, trivial, ⟨rfl, trivial⟩, trivial, ⟨rfl, trivial⟩, trivial, trivial⟩ ⟨rfl, rfl, rfl, trivial⟩ trivial rfl ?_
     refine G.condT rfl ?_
     refine sr <| ac rfl rfl <| eO <| ?_
     cases hF
     exact G.ret1 Tryz.results94 (RVar.tmp 2 _) z1 trivial
   refine ifS hF (fun hc13 hF => ?_) (fun hc13 hF => ?_)
   · refine bn hF fun x14 hx14 hF => ?_
     refine ifS hF (fun hc15 hF => ?_) (fun hc15 hF => ?_)
     · refine G.drawnI (deps := ([] :: [0] :: [0, 1] :: [0, 1, 2] :: [0, 1, 2, 3] :: [0, 1, 2, 3, 4] :: [0, 1, 2, 3, 4, 5] :: [0, 1, 2, 3, 4, 5] :: [0, 1, 2, 3, 4, 5, 6, 7] :: [0, 1, 2, 3, 4, 5, 6, 7, 8] :: [0, 1, 2, 3, 4, 5, 6, 7, 8, 9] :: [0, 1, 2, 3, 4, 5, 6, 7, 8, 9, 10] :: [0, 1, 2, 3, 4, 5, 6, 7, 8, 9, 10, 11] :: [0, 1, 2, 3, 4, 5, 6, 7, 8, 9, 10, 11, 12] :: [0, 1, 2, 3, 4, 5, 6, 7, 8, 9, 10, 11, 12, 13] :: [0, 1, 2, 3, 4, 5, 6, 7, 8, 9, 10, 11, 12, 13, 14] :: [0, 1, 2, 3, 4, 5, 6, 7, 8, 9, 10, 11, 12, 13, 14, 15] :: [0, 1, 2, 3, 4, 5, 6, 7, 8, 9, 10, 11, 12, 13, 14, 15, 16] :: [0, 1, 2, 3, 4, 5, 6, 7, 8, 9, 10, 11, 12, 13, 14, 15, 16, 17] :: [0, 1, 2, 3, 4, 5, 6, 7, 8, 9, 10, 11, 12, 13, 14, 15, 16, 17] :: [0, 1, 2, 3, 4, 5, 6, 7, 8, 9, 10, 11, 12, 13, 14, 15, 16, 17, 18, 19] :: (0 :: 1 :: 2 :: 3 :: 4 :: 5 :: 6 :: 7 :: 8 :: 9 :: 10 :: 11 :: 12 :: 13 :: 14 :: 15 :: 16 :: 17 :: 18 :: 19 :: 20 :: []) :: (0 :: 1 :: 2 :: 3 :: 4 :: 5 :: 6 :: 7 :: 8 :: 9 :: 10 :: 11 :: 12 :: 13 :: 14 :: 15 :: 16 :: 17 :: 18 :: 19 :: 20 :: 21 :: []) :: [0, 1, 2, 3, 4, 5, 6, 7, 8, 9, 10, 11, 12, 13, 14, 15, 16, 17] :: [0, 1, 2, 3, 4, 5, 6, 7, 8, 9, 10, 11, 12, 13, 14, 15, 16, 17] :: [0, 1, 2, 3, 4, 5, 6, 7, 8, 9, 10, 11, 12, 13, 14, 15, 16, 17, 24] :: (0 :: 1 :: 2 :: 3 :: 4 :: 5 :: 6 :: 7 :: 8 :: 9 :: 10 :: 11 :: 12 :: 13 :: 14 :: 15 :: 16 :: 17 :: 23 :: 24 :: 25 :: []) :: (0 :: 1 :: 2 :: 3 :: 4 :: 5 :: 6 :: 7 :: 8 :: 9 :: 10 :: 11 :: 12 :: 13 :: 14 :: 15 :: 16 :: 17 :: 23 :: 24 :: 25 :: 26 :: []) :: (0 :: 1 :: 2 :: 3 :: 4 :: 5 :: 6 :: 7 :: 8 :: 9 :: 10 :: 11 :: 12 :: 13 :: 14 :: 15 :: 16 :: 17 :: 23 :: 24 :: 25 :: 26 :: 27 :: []) :: (0 :: 1 :: 2 :: 3 :: 4 :: 5 :: 6 :: 7 :: 8 :: 9 :: 10 :: 11 :: 12 :: 13 :: 14 :: 15 :: 16 :: 17 :: 18 :: 19 :: 20 :: 21 :: 22 :: 23 :: 24 :: 25 :: 26 :: 27 :: 28 :: []) :: (0 :: 1 :: 2 :: 3 :: 4 :: 5 :: 6 :: 7 :: 8 :: 9 :: 10 :: 11 :: 12 :: 13 :: 14 :: 15 :: 16 :: 17 :: 18 :: 19 :: 20 :: 21 :: 22 :: 23 :: 24 :: 25 :: 26 :: 27 :: 28 :: 29 :: []) :: (0 :: 1 :: 2 :: 3 :: 4 :: 5 :: 6 :: 7 :: 8 :: 9 :: 10 :: 11 :: 12 :: 13 :: 14 :: 15 :: 16 :: 17 :: 18 :: 19 :: 20 :: 21 :: 22 :: 23 :: 24 :: 25 :: 26 :: 27 :: 28 :: 29 :: 30 :: []) :: (0 :: 1 :: 2 :: 3 :: 4 :: 5 :: 6 :: 7 :: 8 :: 9 :: 10 :: 11 :: 12 :: 13 :: 14 :: 15 :: 16 :: 17 :: 18 :: 19 :: 20 :: 21 :: 22 :: 23 :: 24 :: 25 :: 26 :: 27 :: 28 :: 29 :: 30 :: []) :: (0 :: 1 :: 2 :: 3 :: 4 :: 5 :: 6 :: 7 :: 8 :: 9 :: 10 :: 11 :: 12 :: 13 :: 14 :: 15 :: 16 :: 17 :: 18 :: 19 :: 20 :: 21 :: 22 :: 23 :: 24 :: 25 :: 26 :: 27 :: 28 :: 29 :: 30 :: 31 :: 32 :: []) :: (0 :: 1 :: 2 :: 3 :: 4 :: 5 :: 6 :: 7 :: 8 :: 9 :: 10 :: 11 :: 12 :: 13 :: 14 :: 15 :: 16 :: 17 :: 18 :: 19 :: 20 :: 21 :: 22 :: 23 :: 24 :: 25 :: 26 :: 27 :: 28 :: 29 :: 30 :: 31 :: 32 :: 33 :: []) :: (0 :: 1 :: 2 :: 3 :: 4 :: 5 :: 6 :: 7 :: 8 :: 9 :: 10 :: 11 :: 12 :: 13 :: 14 :: 15 :: 16 :: 17 :: 18 :: 19 :: 20 :: 21 :: 22 :: 23 :: 24 :: 25 :: 26 :: 27 :: 28 :: 29 :: 30 :: 31 :: 32 :: 33 :: 34 :: []) :: (0 :: 1 :: 2 :: 3 :: 4 :: 5 :: 6 :: 7 :: 8 :: 9 :: 10 :: 11 :: 12 :: 13 :: 14 :: 15 :: 16 :: 17 :: 18 :: 19 :: 20 :: 21 :: 22 :: 23 :: 24 :: 25 :: 26 :: 27 :: 28 :: 29 :: 30 :: 31 :: 32 :: 33 :: 34 :: 35 :: []) :: (0 :: 1 :: 2 :: 3 :: 4 :: 5 :: 6 :: 7 :: 8 :: 9 :: 10 :: 11 :: 12 :: 13 :: 14 :: 15 :: 16 :: 17 :: 18 :: 19 :: 20 :: 21 :: 22 :: 23 :: 24 :: 25 :: 26 :: 27 :: 28 :: 29 :: 30 :: 31 :: 32 :: 33 :: 34 :: 35 :: 36 :: []) :: (0 :: 1 :: 2 :: 3 :: 4 :: 5 :: 6 :: 7 :: 8 :: 9 :: 10 :: 11 :: 12 :: 13 :: 14 :: 15 :: 16 :: 17 :: 18 :: 19 :: 20 :: 21 :: 22 :: 23 :: 24 :: 25 :: 26 :: 27 :: 28 :: 29 :: 30 :: 31 :: 32 :: 33 :: 34 :: 35 :: 36 :: 37 :: []) :: (0 :: 1 :: 2 :: 3 :: 4 :: 5 :: 6 :: 7 :: 8 :: 9 :: 10 :: 11 :: 12 :: 13 :: 14 :: 15 :: 16 :: 17 :: 18 :: 19 :: 20 :: 21 :: 22 :: 23 :: 24 :: 25 :: 26 :: 27 :: 28 :: 29 :: 30 :: 31 :: 32 :: 33 :: 34 :: 35 :: 36 :: 37 :: 38 :: []) :: [])) (sl' := [(0, .one (.g (.d (.sl 2 (List.map encApi_Range l_0))))), (3, oI v5), (55, oB true)]) (hp' := []) (.c (oP rfl rfl (op_move ev rfl)) (.c (oP rfl rfl (OpL.cast (op_not ev rfl) (congrArg (fun b => bB b) hc12))) (.c (oP rfl rfl (op_move ev rfl)) (.c (oY rfl rfl rfl (op_move ev rfl)) (.c (oY rfl rfl rfl (OpL.cast (op_eqI ev (ec rfl) rfl) (congrArg (fun b => bB b) hc13))) (.c (oY rfl rfl rfl (op_move ev rfl)) (.c (oY rfl rfl rfl (op_move ev rfl)) (.c (oY rfl rfl rfl (op_move ev rfl)) (.c (oY rfl rfl rfl (op_indexM hx14 uU ti39 ev ev rfl)) (.c (oY rfl rfl rfl (op_fieldE uU rfl ti9 (by decide) rfl ev rfl)) (.c (oY rfl rfl rfl (op_load1E uU rfl rfl ev rfl)) (.c (oY rfl rfl rfl (OpL.cast (op_neS ev (ec rfl) rfl) (congrArg (fun b => bB b) hc15))) (.c (oY rfl rfl rfl (op_pickT ev ev rfl)) (.c (oP rfl rfl (op_pickF ev ev rfl)) (.c (oP rfl rfl (op_move ev rfl)) (.c (OpW.no rfl rfl rfl rfl rfl) (.c (OpW.no rfl rfl rfl rfl rfl) (.c (OpW.no rfl rfl rfl rfl rfl) (.c (OpW.un rfl rfl rfl rfl) (.c (OpW.un rfl rfl rfl rfl) (.c (OpW.un rfl rfl rfl rfl) (.c (OpW.un rfl rfl rfl rfl) (.c (OpW.un rfl rfl rfl rfl) (.c (OpW.un rfl rfl rfl rfl) (.c (OpW.un rfl rfl rfl rfl) (.c (OpW.un rfl rfl rfl rfl) (.c (OpW.un rfl rfl rfl rfl) (.c (OpW.un rfl rfl rfl rfl) (.c (OpW.un rfl rfl rfl rfl) (.c (OpW.un rfl rfl rfl rfl) (.c (OpW.un rfl rfl rfl rfl) (.c (OpW.un rfl rfl rfl rfl) (.c (OpW.un rfl rfl rfl rfl) (.c (OpW.un rfl rfl rfl rfl) (.c (OpW.un rfl rfl rfl rfl) (.c (OpW.un rfl rfl rfl rfl) (.c (OpW.un rfl rfl rfl rfl) (.c (OpW.un rfl rfl rfl rfl) (.c (OpW.no rfl rfl rfl rfl rfl) (.c (oP rfl rfl (op_pickT ev (ec rfl) rfl)) .nil)))))))))))))))))))))))))))))))))))))))) follows rfl rfl rfl ⟨⟨rfl, trivial⟩, trivial, ⟨rfl, trivial⟩, trivial, ⟨rfl, trivial⟩, trivial, ⟨rfl, rfl, trivial⟩, trivial, ⟨rfl, rfl, trivial⟩, trivial, ⟨rfl, rfl, trivial⟩, trivial, ⟨rfl, rfl, trivial⟩, trivial, ⟨rfl, rfl, trivial⟩, trivial, ⟨rfl, rfl, rfl, trivial⟩, trivial, ⟨rfl, rfl, trivial⟩, trivial, ⟨rfl, rfl, trivial⟩, trivial, ⟨rfl, rfl, trivial⟩, trivial, ⟨rfl, rfl, rfl, trivial⟩, trivial, ⟨rfl, rfl, trivial⟩, trivial, ⟨rfl, trivial⟩, trivial, ⟨rfl, trivial⟩, trivial, ⟨rfl, trivial⟩, trivial, ⟨rfl, trivial⟩, trivial, ⟨rfl, trivial⟩, trivial, ⟨rfl, trivial⟩, trivial, ⟨rfl, trivial⟩, trivial, ⟨rfl, trivial⟩, trivial, ⟨rfl, trivial⟩, trivial, ⟨rfl, trivial⟩, trivial, ⟨rfl, trivial⟩, trivial, ⟨rfl, trivial⟩, trivial, ⟨rfl, trivial⟩, trivial, ⟨rfl, trivial⟩, trivial, ⟨rfl, trivial⟩, trivial, ⟨rfl, trivial⟩, trivial, ⟨rfl, trivial⟩, trivial, ⟨rfl, trivial⟩, trivial, ⟨rfl, trivial⟩, trivial, ⟨rfl, trivial⟩, trivial, ⟨rfl, trivial⟩, trivial, ⟨rfl, trivial⟩, trivial, ⟨rfl, trivial⟩, trivial, ⟨rfl, trivial⟩, trivial, ⟨rfl, trivial⟩, trivial, ⟨rfl, trivial⟩, trivial, trivial⟩ ⟨rfl, rfl, rfl, trivial⟩ trivial rfl ?_
       refine G.condT rfl ?_
       refine sr <| ac rfl rfl <| eO <| ?_
       cases hF
       exact G.ret1 Tryz.results94 (RVar.tmp 2 _) z1 trivial
     refine ifS hF (fun hc16 hF => ?_) (fun hc16 hF => ?_)
     · refine bn hF fun x17 hx17 hF => bn hF fun x18 hx18 hF => ?_
       refine ifS hF (fun hc19 hF => ?_) (fun hc19 hF => ?_)
       · refine G.drawnI (deps := ([] :: [0] :: [0, 1] :: [0, 1, 2] :: [0, 1, 2, 3] :: [0, 1, 2, 3, 4] :: [0, 1, 2, 3, 4, 5] :: [0, 1, 2, 3, 4, 5] :: [0, 1, 2, 3, 4, 5, 6, 7] :: [0, 1, 2, 3, 4, 5, 6, 7, 8] :: [0, 1, 2, 3, 4, 5, 6, 7, 8, 9] :: [0, 1, 2, 3, 4, 5, 6, 7, 8, 9, 10] :: [0, 1, 2, 3, 4, 5, 6, 7, 8, 9, 10, 11] :: [0, 1, 2, 3, 4, 5, 6, 7, 8, 9, 10, 11, 12] :: [0, 1, 2, 3, 4, 5, 6, 7, 8, 9, 10, 11, 12, 13] :: [0, 1, 2, 3, 4, 5, 6, 7, 8, 9, 10, 11, 12, 13, 14] :: [0, 1, 2, 3, 4, 5, 6, 7, 8, 9, 10, 11, 12, 13, 14, 15] :: [0, 1, 2, 3, 4, 5, 6, 7, 8, 9, 10, 11, 12, 13, 14, 15, 16] :: [0, 1, 2, 3, 4, 5, 6, 7, 8, 9, 10, 11, 12, 13, 14, 15, 16, 17] :: [0, 1, 2, 3, 4, 5, 6, 7, 8, 9, 10, 11, 12, 13, 14, 15, 16, 17] :: [0, 1, 2, 3, 4, 5, 6, 7, 8, 9, 10, 11, 12, 13, 14, 15, 16, 17, 18, 19] :: (0 :: 1 :: 2 :: 3 :: 4 :: 5 :: 6 :: 7 :: 8 :: 9 :: 10 :: 11 :: 12 :: 13 :: 14 :: 15 :: 16 :: 17 :: 18 :: 19 :: 20 :: []) :: (0 :: 1 :: 2 :: 3 :: 4 :: 5 :: 6 :: 7 :: 8 :: 9 :: 10 :: 11 :: 12 :: 13 :: 14 :: 15 :: 16 :: 17 :: 18 :: 19 :: 20 :: 21 :: []) :: [0, 1, 2, 3, 4, 5, 6, 7, 8, 9, 10, 11, 12, 13, 14, 15, 16, 17] :: [0, 1, 2, 3, 4, 5, 6, 7, 8, 9, 10, 11, 12, 13, 14, 15, 16, 17] :: [0, 1, 2, 3, 4, 5, 6, 7, 8, 9, 10, 11, 12, 13, 14, 15, 16, 17, 24] :: (0 :: 1 :: 2 :: 3 :: 4 :: 5 :: 6 :: 7 :: 8 :: 9 :: 10 :: 11 :: 12 :: 13 :: 14 :: 15 :: 16 :: 17 :: 23 :: 24 :: 25 :: []) :: (0 :: 1 :: 2 :: 3 :: 4 :: 5 :: 6 :: 7 :: 8 :: 9 :: 10 :: 11 :: 12 :: 13 :: 14 :: 15 :: 16 :: 17 :: 23 :: 24 :: 25 :: 26 :: []) :: (0 :: 1 :: 2 :: 3 :: 4 :: 5 :: 6 :: 7 :: 8 :: 9 :: 10 :: 11 :: 12 :: 13 :: 14 :: 15 :: 16 :: 17 :: 23 :: 24 :: 25 :: 26 :: 27 :: []) :: (0 :: 1 :: 2 :: 3 :: 4 :: 5 :: 6 :: 7 :: 8 :: 9 :: 10 :: 11 :: 12 :: 13 :: 14 :: 15 :: 16 :: 17 :: 18 :: 19 :: 20 :: 21 :: 22 :: 23 :: 24 :: 25 :: 26 :: 27 :: 28 :: []) :: (0 :: 1 :: 2 :: 3 :: 4 :: 5 :: 6 :: 7 :: 8 :: 9 :: 10 :: 11 :: 12 :: 13 :: 14 :: 15 :: 16 :: 17 :: 18 :: 19 :: 20 :: 21 :: 22 :: 23 :: 24 :: 25 :: 26 :: 27 :: 28 :: 29 :: []) :: (0 :: 1 :: 2 :: 3 :: 4 :: 5 :: 6 :: 7 :: 8 :: 9 :: 10 :: 11 :: 12 :: 13 :: 14 :: 15 :: 16 :: 17 :: 18 :: 19 :: 20 :: 21 :: 22 :: 23 :: 24 :: 25 :: 26 :: 27 :: 28 :: 29 :: 30 :: []) :: (0 :: 1 :: 2 :: 3 :: 4 :: 5 :: 6 :: 7 :: 8 :: 9 :: 10 :: 11 :: 12 :: 13 :: 14 :: 15 :: 16 :: 17 :: 18 :: 19 :: 20 :: 21 :: 22 :: 23 :: 24 :: 25 :: 26 :: 27 :: 28 :: 29 :: 30 :: []) :: (0 :: 1 :: 2 :: 3 :: 4 :: 5 :: 6 :: 7 :: 8 :: 9 :: 10 :: 11 :: 12 :: 13 :: 14 :: 15 :: 16 :: 17 :: 18 :: 19 :: 20 :: 21 :: 22 :: 23 :: 24 :: 25 :: 26 :: 27 :: 28 :: 29 :: 30 :: 31 :: 32 :: []) :: (0 :: 1 :: 2 :: 3 :: 4 :: 5 :: 6 :: 7 :: 8 :: 9 :: 10 :: 11 :: 12 :: 13 :: 14 :: 15 :: 16 :: 17 :: 18 :: 19 :: 20 :: 21 :: 22 :: 23 :: 24 :: 25 :: 26 :: 27 :: 28 :: 29 :: 30 :: 31 :: 32 :: 33 :: []) :: (0 :: 1 :: 2 :: 3 :: 4 :: 5 :: 6 :: 7 :: 8 :: 9 :: 10 :: 11 :: 12 :: 13 :: 14 :: 15 :: 16 :: 17 :: 18 :: 19 :: 20 :: 21 :: 22 :: 23 :: 24 :: 25 :: 26 :: 27 :: 28 :: 29 :: 30 :: 31 :: 32 :: 33 :: 34 :: []) :: (0 :: 1 :: 2 :: 3 :: 4 :: 5 :: 6 :: 7 :: 8 :: 9 :: 10 :: 11 :: 12 :: 13 :: 14 :: 15 :: 16 :: 17 :: 18 :: 19 :: 20 :: 21 :: 22 :: 23 :: 24 :: 25 :: 26 :: 27 :: 28 :: 29 :: 30 :: 31 :: 32 :: 33 :: 34 :: 35 :: []) :: (0 :: 1 :: 2 :: 3 :: 4 :: 5 :: 6 :: 7 :: 8 :: 9 :: 10 :: 11 :: 12 :: 13 :: 14 :: 15 :: 16 :: 17 :: 18 :: 19 :: 20 :: 21 :: 22 :: 23 :: 24 :: 25 :: 26 :: 27 :: 28 :: 29 :: 30 :: 31 :: 32 :: 33 :: 34 :: 35 :: 36 :: []) :: (0 :: 1 :: 2 :: 3 :: 4 :: 5 :: 6 :: 7 :: 8 :: 9 :: 10 :: 11 :: 12 :: 13 :: 14 :: 15 :: 16 :: 17 :: 18 :: 19 :: 20 :: 21 :: 22 :: 23 :: 24 :: 25 :: 26 :: 27 :: 28 :: 29 :: 30 :: 31 :: 32 :: 33 :: 34 :: 35 :: 36 :: 37 :: []) :: (0 :: 1 :: 2 :: 3 :: 4 :: 5 :: 6 :: 7 :: 8 :: 9 :: 10 :: 11 :: 12 :: 13 :: 14 :: 15 :: 16 :: 17 :: 18 :: 19 :: 20 :: 21 :: 22 :: 23 :: 24 :: 25 :: 26 :: 27 :: 28 :: 29 :: 30 :: 31 :: 32 :: 33 :: 34 :: 35 :: 36 :: 37 :: 38 :: []) :: [])) (sl' := [(0, .one (.g (.d (.sl 2 (List.map encApi_Range l_0))))), (3, oI v5), (55, oB true)]) (hp' := []) (.c (oP rfl rfl (op_move ev rfl)) (.c (oP rfl rfl (OpL.cast (op_not ev rfl) (congrArg (fun b => bB b) hc12))) (.c (oP rfl rfl (op_move ev rfl)) (.c (oY rfl rfl rfl (op_move ev rfl)) (.c (oY rfl rfl rfl (OpL.cast (op_eqI ev (ec rfl) rfl) (congrArg (fun b => bB b) hc13))) (.c (oY rfl rfl rfl (op_move ev rfl)) (.c (oY rfl rfl rfl (op_move ev rfl)) (.c (oY rfl rfl rfl (op_move ev rfl)) (.c (oY rfl rfl rfl (op_indexM hx14 uU ti39 ev ev rfl)) (.c (oY rfl rfl rfl (op_fieldE uU rfl ti9 (by decide) rfl ev rfl)) (.c (oY rfl rfl rfl (op_load1E uU rfl rfl ev rfl)) (.c (oY rfl rfl rfl (OpL.cast (op_neS ev (ec rfl) rfl) (congrArg (fun b => bB b) hc15))) (.c (oY rfl rfl rfl (op_pickT ev ev rfl)) (.c (oP rfl rfl (op_pickF ev ev rfl)) (.c (oP rfl rfl (op_move ev rfl)) (.c (oY rfl rfl rfl (op_move ev rfl)) (.c (oY rfl rfl rfl (OpL.cast (op_gtr ev (ec rfl) rfl) (congrArg (fun b => bB b) hc16))) (.c (oY rfl rfl rfl (op_move ev rfl)) (.c (oY rfl rfl rfl (op_move ev rfl)) (.c (oY rfl rfl rfl (op_move ev rfl)) (.c (oY rfl rfl rfl (op_indexM hx17 uU ti39 ev ev rfl)) (.c (oY rfl rfl rfl (op_fieldE uU rfl ti9 (by decide) rfl ev rfl)) (.c (oY rfl rfl rfl (op_load1E uU rfl rfl ev rfl)) (.c (oY rfl rfl rfl (op_move ev rfl)) (.c (oY rfl rfl rfl (op_move ev rfl)) (.c (oY rfl rfl rfl (op_sub ev (ec rfl) rfl)) (.c (oY rfl rfl rfl (op_indexM hx18 uU ti39 ev ev rfl)) (.c (oY rfl rfl rfl (op_fieldE uU rfl ti9 (by decide) rfl ev rfl)) (.c (oY rfl rfl rfl (op_load1E uU rfl rfl ev rfl)) (.c (oY rfl rfl rfl (OpL.cast (op_neS ev ev rfl) (congrArg (fun b => bB b) hc19))) (.c (oY rfl rfl rfl (op_move ev rfl)) (.c (OpW.no rfl rfl rfl rfl rfl) (.c (OpW.no rfl rfl rfl rfl rfl) (.c (OpW.no rfl rfl rfl rfl rfl) (.c (OpW.no rfl rfl rfl rfl rfl) (.c (OpW.no rfl rfl rfl rfl rfl) (.c (OpW.no rfl rfl rfl rfl rfl) (.c (oY rfl rfl rfl (op_pickT ev (ec rfl) rfl)) (.c (oY rfl rfl rfl (op_pickT ev ev rfl)) (.c (oP rfl rfl (op_pickF ev ev rfl)) .nil)))))))))))))))))))))))))))))))))))))))) follows rfl rfl rfl ⟨⟨rfl, trivial⟩, trivial, ⟨rfl, trivial⟩, trivial, ⟨rfl, trivial⟩, trivial, ⟨rfl, rfl, trivial⟩, trivial, ⟨rfl, rfl, trivial⟩, trivial, ⟨rfl, rfl, trivial⟩, trivial, ⟨rfl, rfl, trivial⟩, trivial, ⟨rfl, rfl, trivial⟩, trivial, ⟨rfl, rfl, rfl, trivial⟩, trivial, ⟨rfl, rfl, trivial⟩, trivial, ⟨rfl, rfl, trivial⟩, trivial, ⟨rfl, rfl, trivial⟩, trivial, ⟨rfl, rfl, rfl, trivial⟩, trivial, ⟨rfl, rfl, trivial⟩, trivial, ⟨rfl, trivial⟩, trivial, ⟨rfl, rfl, trivial⟩, trivial, ⟨rfl, rfl, trivial⟩, trivial, ⟨rfl, rfl, trivial⟩, trivial, ⟨rfl, rfl, trivial⟩, trivial, ⟨rfl, rfl, trivial⟩, trivial, ⟨rfl, rfl, rfl, trivial⟩, trivial, ⟨rfl, rfl, trivial⟩, trivial, ⟨rfl, rfl, trivial⟩, trivial, ⟨rfl, rfl, trivial⟩, trivial, ⟨rfl, rfl, trivial⟩, trivial, ⟨rfl, rfl, trivial⟩, trivial, ⟨rfl, rfl, rfl, trivial⟩, trivial, ⟨rfl, rfl, trivial⟩, trivial, ⟨rfl, rfl, trivial⟩, trivial, ⟨rfl, rfl, rfl, trivial⟩, trivial, ⟨rfl, rfl, trivial⟩, trivial, ⟨rfl, trivial⟩, trivial, ⟨rfl, trivial⟩, trivial, ⟨rfl, trivial⟩, trivial, ⟨rfl, trivial⟩, trivial, ⟨rfl, trivial⟩, trivial, ⟨rfl, trivial⟩, trivial, ⟨rfl, rfl, trivial⟩, trivial, ⟨rfl, rfl, rfl, trivial⟩, trivial, ⟨rfl, rfl, trivial⟩, trivial, trivial⟩ ⟨rfl, rfl, rfl, trivial⟩ trivial rfl ?_
         refine G.condT rfl ?_
         refine sr <| ac rfl rfl <| eO <| ?_
         cases hF
         exact G.ret1 Tryz.results94 (RVar.tmp 2 _) z1 trivial
       refine bn hF fun x20 hx20 hF => ?_
       refine G.drawnI (deps := ([] :: [0] :: [0, 1] :: [0, 1, 2] :: [0, 1, 2, 3] :: [0, 1, 2, 3, 4] :: [0, 1, 2, 3, 4, 5] :: [0, 1, 2, 3, 4, 5] :: [0, 1, 2, 3, 4, 5, 6, 7] :: [0, 1, 2, 3, 4, 5, 6, 7, 8] :: [0, 1, 2, 3, 4, 5, 6, 7, 8, 9] :: [0, 1, 2, 3, 4, 5, 6, 7, 8, 9, 10] :: [0, 1, 2, 3, 4, 5, 6, 7, 8, 9, 10, 11] :: [0, 1, 2, 3, 4, 5, 6, 7, 8, 9, 10, 11, 12] :: [0, 1, 2, 3, 4, 5, 6, 7, 8, 9, 10, 11, 12, 13] :: [0, 1, 2, 3, 4, 5, 6, 7, 8, 9, 10, 11, 12, 13, 14] :: [0, 1, 2, 3, 4, 5, 6, 7, 8, 9, 10, 11, 12, 13, 14, 15] :: [0, 1, 2, 3, 4, 5, 6, 7, 8, 9, 10, 11, 12, 13, 14, 15, 16] :: [0, 1, 2, 3, 4, 5, 6, 7, 8, 9, 10, 11, 12, 13, 14, 15, 16, 17] :: [0, 1, 2, 3, 4, 5, 6, 7, 8, 9, 10, 11, 12, 13, 14, 15, 16, 17] :: [0, 1, 2, 3, 4, 5, 6, 7, 8, 9, 10, 11, 12, 13, 14, 15, 16, 17, 18, 19] :: (0 :: 1 :: 2 :: 3 :: 4 :: 5 :: 6 :: 7 :: 8 :: 9 :: 10 :: 11 :: 12 :: 13 :: 14 :: 15 :: 16 :: 17 :: 18 :: 19 :: 20 :: []) :: (0 :: 1 :: 2 :: 3 :: 4 :: 5 :: 6 :: 7 :: 8 :: 9 :: 10 :: 11 :: 12 :: 13 :: 14 :: 15 :: 16 :: 17 :: 18 :: 19 :: 20 :: 21 :: []) :: [0, 1, 2, 3, 4, 5, 6, 7, 8, 9, 10, 11, 12, 13, 14, 15, 16, 17] :: [0, 1, 2, 3, 4, 5, 6, 7, 8, 9, 10, 11, 12, 13, 14, 15, 16, 17] :: [0, 1, 2, 3, 4, 5, 6, 7, 8, 9, 10, 11, 12, 13, 14, 15, 16, 17, 24] :: (0 :: 1 :: 2 :: 3 :: 4 :: 5 :: 6 :: 7 :: 8 :: 9 :: 10 :: 11 :: 12 :: 13 :: 14 :: 15 :: 16 :: 17 :: 23 :: 24 :: 25 :: []) :: (0 :: 1 :: 2 :: 3 :: 4 :: 5 :: 6 :: 7 :: 8 :: 9 :: 10 :: 11 :: 12 :: 13 :: 14 :: 15 :: 16 :: 17 :: 23 :: 24 :: 25 :: 26 :: []) :: (0 :: 1 :: 2 :: 3 :: 4 :: 5 :: 6 :: 7 :: 8 :: 9 :: 10 :: 11 :: 12 :: 13 :: 14 :: 15 :: 16 :: 17 :: 23 :: 24 :: 25 :: 26 :: 27 :: []) :: (0 :: 1 :: 2 :: 3 :: 4 :: 5 :: 6 :: 7 :: 8 :: 9 :: 10 :: 11 :: 12 :: 13 :: 14 :: 15 :: 16 :: 17 :: 18 :: 19 :: 20 :: 21 :: 22 :: 23 :: 24 :: 25 :: 26 :: 27 :: 28 :: []) :: (0 :: 1 :: 2 :: 3 :: 4 :: 5 :: 6 :: 7 :: 8 :: 9 :: 10 :: 11 :: 12 :: 13 :: 14 :: 15 :: 16 :: 17 :: 18 :: 19 :: 20 :: 21 :: 22 :: 23 :: 24 :: 25 :: 26 :: 27 :: 28 :: 29 :: []) :: (0 :: 1 :: 2 :: 3 :: 4 :: 5 :: 6 :: 7 :: 8 :: 9 :: 10 :: 11 :: 12 :: 13 :: 14 :: 15 :: 16 :: 17 :: 18 :: 19 :: 20 :: 21 :: 22 :: 23 :: 24 :: 25 :: 26 :: 27 :: 28 :: 29 :: 30 :: []) :: (0 :: 1 :: 2 :: 3 :: 4 :: 5 :: 6 :: 7 :: 8 :: 9 :: 10 :: 11 :: 12 :: 13 :: 14 :: 15 :: 16 :: 17 :: 18 :: 19 :: 20 :: 21 :: 22 :: 23 :: 24 :: 25 :: 26 :: 27 :: 28 :: 29 :: 30 :: []) :: (0 :: 1 :: 2 :: 3 :: 4 :: 5 :: 6 :: 7 :: 8 :: 9 :: 10 :: 11 :: 12 :: 13 :: 14 :: 15 :: 16 :: 17 :: 18 :: 19 :: 20 :: 21 :: 22 :: 23 :: 24 :: 25 :: 26 :: 27 :: 28 :: 29 :: 30 :: 31 :: 32 :: []) :: (0 :: 1 :: 2 :: 3 :: 4 :: 5 :: 6 :: 7 :: 8 :: 9 :: 10 :: 11 :: 12 :: 13 :: 14 :: 15 :: 16 :: 17 :: 18 :: 19 :: 20 :: 21 :: 22 :: 23 :: 24 :: 25 :: 26 :: 27 :: 28 :: 29 :: 30 :: 31 :: 32 :: 33 :: []) :: (0 :: 1 :: 2 :: 3 :: 4 :: 5 :: 6 :: 7 :: 8 :: 9 :: 10 :: 11 :: 12 :: 13 :: 14 :: 15 :: 16 :: 17 :: 18 :: 19 :: 20 :: 21 :: 22 :: 23 :: 24 :: 25 :: 26 :: 27 :: 28 :: 29 :: 30 :: 31 :: 32 :: 33 :: 34 :: []) :: (0 :: 1 :: 2 :: 3 :: 4 :: 5 :: 6 :: 7 :: 8 :: 9 :: 10 :: 11 :: 12 :: 13 :: 14 :: 15 :: 16 :: 17 :: 18 :: 19 :: 20 :: 21 :: 22 :: 23 :: 24 :: 25 :: 26 :: 27 :: 28 :: 29 :: 30 :: 31 :: 32 :: 33 :: 34 :: 35 :: []) :: (0 :: 1 :: 2 :: 3 :: 4 :: 5 :: 6 :: 7 :: 8 :: 9 :: 10 :: 11 :: 12 :: 13 :: 14 :: 15 :: 16 :: 17 :: 18 :: 19 :: 20 :: 21 :: 22 :: 23 :: 24 :: 25 :: 26 :: 27 :: 28 :: 29 :: 30 :: 31 :: 32 :: 33 :: 34 :: 35 :: 36 :: []) :: (0 :: 1 :: 2 :: 3 :: 4 :: 5 :: 6 :: 7 :: 8 :: 9 :: 10 :: 11 :: 12 :: 13 :: 14 :: 15 :: 16 :: 17 :: 18 :: 19 :: 20 :: 21 :: 22 :: 23 :: 24 :: 25 :: 26 :: 27 :: 28 :: 29 :: 30 :: 31 :: 32 :: 33 :: 34 :: 35 :: 36 :: 37 :: []) :: (0 :: 1 :: 2 :: 3 :: 4 :: 5 :: 6 :: 7 :: 8 :: 9 :: 10 :: 11 :: 12 :: 13 :: 14 :: 15 :: 16 :: 17 :: 18 :: 19 :: 20 :: 21 :: 22 :: 23 :: 24 :: 25 :: 26 :: 27 :: 28 :: 29 :: 30 :: 31 :: 32 :: 33 :: 34 :: 35 :: 36 :: 37 :: 38 :: []) :: [])) (sl' := [(0, .one (.g (.d (.sl 2 (List.map encApi_Range l_0))))), (3, oI v5), (55, oB (seq x20.From ByteArray.empty))]) (hp' := []) (.c (oP rfl rfl (op_move ev rfl)) (.c (oP rfl rfl (OpL.cast (op_not ev rfl) (congrArg (fun b => bB b) hc12))) (.c (oP rfl rfl (op_move ev rfl)) (.c (oY rfl rfl rfl (op_move ev rfl)) (.c (oY rfl rfl rfl (OpL.cast (op_eqI ev (ec rfl) rfl) (congrArg (fun b => bB b) hc13))) (.c (oY rfl rfl rfl (op_move ev rfl)) (.c (oY rfl rfl rfl (op_move ev rfl)) (.c (oY rfl rfl rfl (op_move ev rfl)) (.c (oY rfl rfl rfl (op_indexM hx14 uU ti39 ev ev rfl)) (.c (oY rfl rfl rfl (op_fieldE uU rfl ti9 (by decide) rfl ev rfl)) (.c (oY rfl rfl rfl (op_load1E uU rfl rfl ev rfl)) (.c (oY rfl rfl rfl (OpL.cast (op_neS ev (ec rfl) rfl) (congrArg (fun b => bB b) hc15))) (.c (oY rfl rfl rfl (op_pickT ev ev rfl)) (.c (oP rfl rfl (op_pickF ev ev rfl)) (.c (oP rfl rfl (op_move ev rfl)) (.c (oY rfl rfl rfl (op_move ev rfl)) (.c (oY rfl rfl rfl (OpL.cast (op_gtr ev (ec rfl) rfl) (congrArg (fun b => bB b) hc16))) (.c (oY rfl rfl rfl (op_move ev rfl)) (.c (oY rfl rfl rfl (op_move ev rfl)) (.c (oY rfl rfl rfl (op_move ev rfl)) (.c (oY rfl rfl rfl (op_indexM hx17 uU ti39 ev ev rfl)) (.c (oY rfl rfl rfl (op_fieldE uU rfl ti9 (by decide) rfl ev rfl)) (.c (oY rfl rfl rfl (op_load1E uU rfl rfl ev rfl)) (.c (oY rfl rfl rfl (op_move ev rfl)) (.c (oY rfl rfl rfl (op_move ev rfl)) (.c (oY rfl rfl rfl (op_sub ev (ec rfl) rfl)) (.c (oY rfl rfl rfl (op_indexM hx18 uU ti39 ev ev rfl)) (.c (oY rfl rfl rfl (op_fieldE uU rfl ti9 (by decide) rfl ev rfl)) (.c (oY rfl rfl rfl (op_load1E uU rfl rfl ev rfl)) (.c (oY rfl rfl rfl (OpL.cast (op_neS ev ev rfl) (congrArg (fun b => bB b) hc19))) (.c (oY rfl rfl rfl (op_move ev rfl)) (.c (oY rfl rfl rfl (op_move ev rfl)) (.c (oY rfl rfl rfl (op_move ev rfl)) (.c (oY rfl rfl rfl (op_indexM hx20 uU ti39 ev ev rfl)) (.c (oY rfl rfl rfl (op_fieldE uU rfl ti9 (by decide) rfl ev rfl)) (.c (oY rfl rfl rfl (op_load1E uU rfl rfl ev rfl)) (.c (oY rfl rfl rfl (op_eqS ev (ec rfl) rfl)) (.c (oY rfl rfl rfl (op_pickF ev ev rfl)) (.c (oY rfl rfl rfl (op_pickT ev ev rfl)) (.c (oP rfl rfl (op_pickF ev ev rfl)) .nil)))))))))))))))))))))))))))))))))))))))) follows rfl rfl rfl ⟨⟨rfl, trivial⟩, trivial, ⟨rfl, trivial⟩, trivial, ⟨rfl, trivial⟩, trivial, ⟨rfl, rfl, trivial⟩, trivial, ⟨rfl, rfl, trivial⟩, trivial, ⟨rfl, rfl, trivial⟩, trivial, ⟨rfl, rfl, trivial⟩, trivial, ⟨rfl, rfl, trivial⟩, trivial, ⟨rfl, rfl, rfl, trivial⟩, trivial, ⟨rfl, rfl, trivial⟩, trivial, ⟨rfl, rfl, trivial⟩, trivial, ⟨rfl, rfl, trivial⟩, trivial, ⟨rfl, rfl, rfl, trivial⟩, trivial, ⟨rfl, rfl, trivial⟩, trivial, ⟨rfl, trivial⟩, trivial, ⟨rfl, rfl, trivial⟩, trivial, ⟨rfl, rfl, trivial⟩, trivial, ⟨rfl, rfl, trivial⟩, trivial, ⟨rfl, rfl, trivial⟩, trivial, ⟨rfl, rfl, trivial⟩, trivial, ⟨rfl, rfl, rfl, trivial⟩, trivial, ⟨rfl, rfl, trivial⟩, trivial, ⟨rfl, rfl, trivial⟩, trivial, ⟨rfl, rfl, trivial⟩, trivial, ⟨rfl, rfl, trivial⟩, trivial, ⟨rfl, rfl, trivial⟩, trivial, ⟨rfl, rfl, rfl, trivial⟩, trivial, ⟨rfl, rfl, trivial⟩, trivial, ⟨rfl, rfl, trivial⟩, trivial, ⟨rfl, rfl, rfl, trivial⟩, trivial, ⟨rfl, rfl, trivial⟩, trivial, ⟨rfl, rfl, trivial⟩, trivial, ⟨rfl, rfl, trivial⟩, trivial, ⟨rfl, rfl, rfl, trivial⟩, trivial, ⟨rfl, rfl, trivial⟩, trivial, ⟨rfl, rfl, trivial⟩, trivial, ⟨rfl, rfl, trivial⟩, trivial, ⟨rfl, rfl, rfl, trivial⟩, trivial, ⟨rfl, rfl, rfl, trivial⟩, trivial, ⟨rfl, rfl, trivial⟩, trivial, trivial⟩ ⟨rfl, rfl, rfl, trivial⟩ trivial rfl ?_
       refine ifS hF (fun hc21 hF => ?_) (fun hc21 hF => ?_)
       · refine cT hc21 rfl <| sr <| ac rfl rfl <| eO <| ?_
         cases hF
         exact G.ret1 Tryz.results94 (RVar.tmp 2 _) z1 trivial
       refine cF hc21 rfl <| sk <| eB <| rg <| mv rfl rfl <| p10 (op_add ev (ec rfl) rfl) rfl <| ?_
       refine av rfl rfl <| eO <| ?_
       exact G.arr (J6 (IntKind.wrap .i64 (v5 + 1)) hF) z2 trivial rfl
     refine G.drawnI (deps := ([] :: [0] :: [0, 1] :: [0, 1, 2] :: [0, 1, 2, 3] :: [0, 1, 2, 3, 4] :: [0, 1, 2, 3, 4, 5] :: [0, 1, 2, 3, 4, 5] :: [0, 1, 2, 3, 4, 5, 6, 7] :: [0, 1, 2, 3, 4, 5, 6, 7, 8] :: [0, 1, 2, 3, 4, 5, 6, 7, 8, 9] :: [0, 1, 2, 3, 4, 5, 6, 7, 8, 9, 10] :: [0, 1, 2, 3, 4, 5, 6, 7, 8, 9, 10, 11] :: [0, 1, 2, 3, 4, 5, 6, 7, 8, 9, 10, 11, 12] :: [0, 1, 2, 3, 4, 5, 6, 7, 8, 9, 10, 11, 12, 13] :: [0, 1, 2, 3, 4, 5, 6, 7, 8, 9, 10, 11, 12, 13, 14] :: [0, 1, 2, 3, 4, 5, 6, 7, 8, 9, 10, 11, 12, 13, 14, 15] :: [0, 1, 2, 3, 4, 5, 6, 7, 8, 9, 10, 11, 12, 13, 14, 15, 16] :: [0, 1, 2, 3, 4, 5, 6, 7, 8, 9, 10, 11, 12, 13, 14, 15, 16, 17] :: [0, 1, 2, 3, 4, 5, 6, 7, 8, 9, 10, 11, 12, 13, 14, 15, 16, 17] :: [0, 1, 2, 3, 4, 5, 6, 7, 8, 9, 10, 11, 12, 13, 14, 15, 16, 17, 18, 19] :: (0 :: 1 :: 2 :: 3 :: 4 :: 5 :: 6 :: 7 :: 8 :: 9 :: 10 :: 11 :: 12 :: 13 :: 14 :: 15 :: 16 :: 17 :: 18 :: 19 :: 20 :: []) :: (0 :: 1 :: 2 :: 3 :: 4 :: 5 :: 6 :: 7 :: 8 :: 9 :: 10 :: 11 :: 12 :: 13 :: 14 :: 15 :: 16 :: 17 :: 18 :: 19 :: 20 :: 21 :: []) :: [0, 1, 2, 3, 4, 5, 6, 7, 8, 9, 10, 11, 12, 13, 14, 15, 16, 17] :: [0, 1, 2, 3, 4, 5, 6, 7, 8, 9, 10, 11, 12, 13, 14, 15, 16, 17] :: [0, 1, 2, 3, 4, 5, 6, 7, 8, 9, 10, 11, 12, 13, 14, 15, 16, 17, 24] :: (0 :: 1 :: 2 :: 3 :: 4 :: 5 :: 6 :: 7 :: 8 :: 9 :: 10 :: 11 :: 12 :: 13 :: 14 :: 15 :: 16 :: 17 :: 23 :: 24 :: 25 :: []) :: (0 :: 1 :: 2 :: 3 :: 4 :: 5 :: 6 :: 7 :: 8 :: 9 :: 10 :: 11 :: 12 :: 13 :: 14 :: 15 :: 16 :: 17 :: 23 :: 24 :: 25 :: 26 :: []) :: (0 :: 1 :: 2 :: 3 :: 4 :: 5 :: 6 :: 7 :: 8 :: 9 :: 10 :: 11 :: 12 :: 13 :: 14 :: 15 :: 16 :: 17 :: 23 :: 24 :: 25 :: 26 :: 27 :: []) :: (0 :: 1 :: 2 :: 3 :: 4 :: 5 :: 6 :: 7 :: 8 :: 9 :: 10 :: 11 :: 12 :: 13 :: 14 :: 15 :: 16 :: 17 :: 18 :: 19 :: 20 :: 21 :: 22 :: 23 :: 24 :: 25 :: 26 :: 27 :: 28 :: []) :: (0 :: 1 :: 2 :: 3 :: 4 :: 5 :: 6 :: 7 :: 8 :: 9 :: 10 :: 11 :: 12 :: 13 :: 14 :: 15 :: 16 :: 17 :: 18 :: 19 :: 20 :: 21 :: 22 :: 23 :: 24 :: 25 :: 26 :: 27 :: 28 :: 29 :: []) :: (0 :: 1 :: 2 :: 3 :: 4 :: 5 :: 6 :: 7 :: 8 :: 9 :: 10 :: 11 :: 12 :: 13 :: 14 :: 15 :: 16 :: 17 :: 18 :: 19 :: 20 :: 21 :: 22 :: 23 :: 24 :: 25 :: 26 :: 27 :: 28 :: 29 :: 30 :: []) :: (0 :: 1 :: 2 :: 3 :: 4 :: 5 :: 6 :: 7 :: 8 :: 9 :: 10 :: 11 :: 12 :: 13 :: 14 :: 15 :: 16 :: 17 :: 18 :: 19 :: 20 :: 21 :: 22 :: 23 :: 24 :: 25 :: 26 :: 27 :: 28 :: 29 :: 30 :: []) :: (0 :: 1 :: 2 :: 3 :: 4 :: 5 :: 6 :: 7 :: 8 :: 9 :: 10 :: 11 :: 12 :: 13 :: 14 :: 15 :: 16 :: 17 :: 18 :: 19 :: 20 :: 21 :: 22 :: 23 :: 24 :: 25 :: 26 :: 27 :: 28 :: 29 :: 30 :: 31 :: 32 :: []) :: (0 :: 1 :: 2 :: 3 :: 4 :: 5 :: 6 :: 7 :: 8 :: 9 :: 10 :: 11 :: 12 :: 13 :: 14 :: 15 :: 16 :: 17 :: 18 :: 19 :: 20 :: 21 :: 22 :: 23 :: 24 :: 25 :: 26 :: 27 :: 28 :: 29 :: 30 :: 31 :: 32 :: 33 :: []) :: (0 :: 1 :: 2 :: 3 :: 4 :: 5 :: 6 :: 7 :: 8 :: 9 :: 10 :: 11 :: 12 :: 13 :: 14 :: 15 :: 16 :: 17 :: 18 :: 19 :: 20 :: 21 :: 22 :: 23 :: 24 :: 25 :: 26 :: 27 :: 28 :: 29 :: 30 :: 31 :: 32 :: 33 :: 34 :: []) :: (0 :: 1 :: 2 :: 3 :: 4 :: 5 :: 6 :: 7 :: 8 :: 9 :: 10 :: 11 :: 12 :: 13 :: 14 :: 15 :: 16 :: 17 :: 18 :: 19 :: 20 :: 21 :: 22 :: 23 :: 24 :: 25 :: 26 :: 27 :: 28 :: 29 :: 30 :: 31 :: 32 :: 33 :: 34 :: 35 :: []) :: (0 :: 1 :: 2 :: 3 :: 4 :: 5 :: 6 :: 7 :: 8 :: 9 :: 10 :: 11 :: 12 :: 13 :: 14 :: 15 :: 16 :: 17 :: 18 :: 19 :: 20 :: 21 :: 22 :: 23 :: 24 :: 25 :: 26 :: 27 :: 28 :: 29 :: 30 :: 31 :: 32 :: 33 :: 34 :: 35 :: 36 :: []) :: (0 :: 1 :: 2 :: 3 :: 4 :: 5 :: 6 :: 7 :: 8 :: 9 :: 10 :: 11 :: 12 :: 13 :: 14 :: 15 :: 16 :: 17 :: 18 :: 19 :: 20 :: 21 :: 22 :: 23 :: 24 :: 25 :: 26 :: 27 :: 28 :: 29 :: 30 :: 31 :: 32 :: 33 :: 34 :: 35 :: 36 :: 37 :: []) :: (0 :: 1 :: 2 :: 3 :: 4 :: 5 :: 6 :: 7 :: 8 :: 9 :: 10 :: 11 :: 12 :: 13 :: 14 :: 15 :: 16 :: 17 :: 18 :: 19 :: 20 :: 21 :: 22 :: 23 :: 24 :: 25 :: 26 :: 27 :: 28 :: 29 :: 30 :: 31 :: 32 :: 33 :: 34 :: 35 :: 36 :: 37 :: 38 :: []) :: [])) (sl' := [(0, .one (.g (.d (.sl 2 (List.map encApi_Range l_0))))), (3, oI v5), (55, oB false)]) (hp' := []) (.c (oP rfl rfl (op_move ev rfl)) (.c (oP rfl rfl (OpL.cast (op_not ev rfl) (congrArg (fun b => bB b) hc12))) (.c (oP rfl rfl (op_move ev rfl)) (.c (oY rfl rfl rfl (op_move ev rfl)) (.c (oY rfl rfl rfl (OpL.cast (op_eqI ev (ec rfl) rfl) (congrArg (fun b => bB b) hc13))) (.c (oY rfl rfl rfl (op_move ev rfl)) (.c (oY rfl rfl rfl (op_move ev rfl)) (.c (oY rfl rfl rfl (op_move ev rfl)) (.c (oY rfl rfl rfl (op_indexM hx14 uU ti39 ev ev rfl)) (.c (oY rfl rfl rfl (op_fieldE uU rfl ti9 (by decide) rfl ev rfl)) (.c (oY rfl rfl rfl (op_load1E uU rfl rfl ev rfl)) (.c (oY rfl rfl rfl (OpL.cast (op_neS ev (ec rfl) rfl) (congrArg (fun b => bB b) hc15))) (.c (oY rfl rfl rfl (op_pickT ev ev rfl)) (.c (oP rfl rfl (op_pickF ev ev rfl)) (.c (oP rfl rfl (op_move ev rfl)) (.c (oY rfl rfl rfl (op_move ev rfl)) (.c (oY rfl rfl rfl (OpL.cast (op_gtr ev (ec rfl) rfl) (congrArg (fun b => bB b) hc16))) (.c (oY rfl rfl rfl (op_move ev rfl)) (.c (OpW.no rfl rfl rfl rfl rfl) (.c (OpW.no rfl rfl rfl rfl rfl) (.c (OpW.no rfl rfl rfl rfl rfl) (.c (OpW.no rfl rfl rfl rfl rfl) (.c (OpW.no rfl rfl rfl rfl rfl) (.c (OpW.no rfl rfl rfl rfl rfl) (.c (OpW.no rfl rfl rfl rfl rfl) (.c (OpW.no rfl rfl rfl rfl rfl) (.c (OpW.no rfl rfl rfl rfl rfl) (.c (OpW.no rfl rfl rfl rfl rfl) (.c (OpW.no rfl rfl rfl rfl rfl) (.c (OpW.no rfl rfl rfl rfl rfl) (.c (OpW.no rfl rfl rfl rfl rfl) (.c (OpW.un rfl rfl rfl rfl) (.c (OpW.un rfl rfl rfl rfl) (.c (OpW.un rfl rfl rfl rfl) (.c (OpW.un rfl rfl rfl rfl) (.c (OpW.un rfl rfl rfl rfl) (.c (OpW.un rfl rfl rfl rfl) (.c (OpW.no rfl rfl rfl rfl rfl) (.c (oY rfl rfl rfl (op_pickF ev (ec rfl) rfl)) (.c (oP rfl rfl (op_pickF ev ev rfl)) .nil)))))))))))))))))))))))))))))))))))))))) follows rfl rfl rfl ⟨⟨rfl, trivial⟩, trivial, ⟨rfl, trivial⟩, trivial, ⟨rfl, trivial⟩, trivial, ⟨rfl, rfl, trivial⟩, trivial, ⟨rfl, rfl, trivial⟩, trivial, ⟨rfl, rfl, trivial⟩, trivial, ⟨rfl, rfl, trivial⟩, trivial, ⟨rfl, rfl, trivial⟩, trivial, ⟨rfl, rfl, rfl, trivial⟩, trivial, ⟨rfl, rfl, trivial⟩, trivial, ⟨rfl, rfl, trivial⟩, trivial, ⟨rfl, rfl, trivial⟩, trivial, ⟨rfl, rfl, rfl, trivial⟩, trivial, ⟨rfl, rfl, trivial⟩, trivial, ⟨rfl, trivial⟩, trivial, ⟨rfl, rfl, trivial⟩, trivial, ⟨rfl, rfl, trivial⟩, trivial, ⟨rfl, rfl, trivial⟩, trivial, ⟨rfl, trivial⟩, trivial, ⟨rfl, trivial⟩, trivial, ⟨rfl, trivial⟩, trivial, ⟨rfl, trivial⟩, trivial, ⟨rfl, trivial⟩, trivial, ⟨rfl, trivial⟩, trivial, ⟨rfl, trivial⟩, trivial, ⟨rfl, trivial⟩, trivial, ⟨rfl, trivial⟩, trivial, ⟨rfl, trivial⟩, trivial, ⟨rfl, trivial⟩, trivial, ⟨rfl, trivial⟩, trivial, ⟨rfl, trivial⟩, trivial, ⟨rfl, trivial⟩, trivial, ⟨rfl, trivial⟩, trivial, ⟨rfl, trivial⟩, trivial, ⟨rfl, trivial⟩, trivial, ⟨rfl, trivial⟩, trivial, ⟨rfl, trivial⟩, trivial, ⟨rfl, trivial⟩, trivial, ⟨rfl, rfl, trivial⟩, trivial, ⟨rfl, rfl, trivial⟩, trivial, trivial⟩ ⟨rfl, rfl, rfl, trivial⟩ trivial rfl ?_
     refine G.condF rfl ?_
     refine sk <| eB <| rg <| mv rfl rfl <| p10 (op_add ev (ec rfl) rfl) rfl <| av rfl rfl <| ?_
     refine eO <| ?_
     exact G.arr (J6 (IntKind.wrap .i64 (v5 + 1)) hF) z2 trivial rfl
   refine ifS hF (fun hc22 hF => ?_) (fun hc22 hF => ?_)
   · refine bn hF fun x23 hx23 hF => bn hF fun x24 hx24 hF => ?_
     refine ifS hF (fun hc25 hF => ?_) (fun hc25 hF => ?_)
     · refine G.drawnI (deps := ([] :: [0] :: [0, 1] :: [0, 1, 2] :: [0, 1, 2, 3] :: [0, 1, 2, 3, 4] :: [0, 1, 2, 3, 4, 5] :: [0, 1, 2, 3, 4, 5] :: [0, 1, 2, 3, 4, 5, 6, 7] :: [0, 1, 2, 3, 4, 5, 6, 7, 8] :: [0, 1, 2, 3, 4, 5, 6, 7, 8, 9] :: [0, 1, 2, 3, 4, 5, 6, 7, 8, 9, 10] :: [0, 1, 2, 3, 4, 5, 6, 7, 8, 9, 10, 11] :: [0, 1, 2, 3, 4, 5, 6, 7, 8, 9, 10, 11, 12] :: [0, 1, 2, 3, 4, 5, 6, 7, 8, 9, 10, 11, 12, 13] :: [0, 1, 2, 3, 4, 5, 6, 7, 8, 9, 10, 11, 12, 13, 14] :: [0, 1, 2, 3, 4, 5, 6, 7, 8, 9, 10, 11, 12, 13, 14, 15] :: [0, 1, 2, 3, 4, 5, 6, 7, 8, 9, 10, 11, 12, 13, 14, 15, 16] :: [0, 1, 2, 3, 4, 5, 6, 7, 8, 9, 10, 11, 12, 13, 14, 15, 16, 17] :: [0, 1, 2, 3, 4, 5, 6, 7, 8, 9, 10, 11, 12, 13, 14, 15, 16, 17] :: [0, 1, 2, 3, 4, 5, 6, 7, 8, 9, 10, 11, 12, 13, 14, 15, 16, 17, 18, 19] :: (0 :: 1 :: 2 :: 3 :: 4 :: 5 :: 6 :: 7 :: 8 :: 9 :: 10 :: 11 :: 12 :: 13 :: 14 :: 15 :: 16 :: 17 :: 18 :: 19 :: 20 :: []) :: (0 :: 1 :: 2 :: 3 :: 4 :: 5 :: 6 :: 7 :: 8 :: 9 :: 10 :: 11 :: 12 :: 13 :: 14 :: 15 :: 16 :: 17 :: 18 :: 19 :: 20 :: 21 :: []) :: [0, 1, 2, 3, 4, 5, 6, 7, 8, 9, 10, 11, 12, 13, 14, 15, 16, 17] :: [0, 1, 2, 3, 4, 5, 6, 7, 8, 9, 10, 11, 12, 13, 14, 15, 16, 17] :: [0, 1, 2, 3, 4, 5, 6, 7, 8, 9, 10, 11, 12, 13, 14, 15, 16, 17, 24] :: (0 :: 1 :: 2 :: 3 :: 4 :: 5 :: 6 :: 7 :: 8 :: 9 :: 10 :: 11 :: 12 :: 13 :: 14 :: 15 :: 16 :: 17 :: 23 :: 24 :: 25 :: []) :: (0 :: 1 :: 2 :: 3 :: 4 :: 5 :: 6 :: 7 :: 8 :: 9 :: 10 :: 11 :: 12 :: 13 :: 14 :: 15 :: 16 :: 17 :: 23 :: 24 :: 25 :: 26 :: []) :: (0 :: 1 :: 2 :: 3 :: 4 :: 5 :: 6 :: 7 :: 8 :: 9 :: 10 :: 11 :: 12 :: 13 :: 14 :: 15 :: 16 :: 17 :: 23 :: 24 :: 25 :: 26 :: 27 :: []) :: (0 :: 1 :: 2 :: 3 :: 4 :: 5 :: 6 :: 7 :: 8 :: 9 :: 10 :: 11 :: 12 :: 13 :: 14 :: 15 :: 16 :: 17 :: 18 :: 19 :: 20 :: 21 :: 22 :: 23 :: 24 :: 25 :: 26 :: 27 :: 28 :: []) :: (0 :: 1 :: 2 :: 3 :: 4 :: 5 :: 6 :: 7 :: 8 :: 9 :: 10 :: 11 :: 12 :: 13 :: 14 :: 15 :: 16 :: 17 :: 18 :: 19 :: 20 :: 21 :: 22 :: 23 :: 24 :: 25 :: 26 :: 27 :: 28 :: 29 :: []) :: (0 :: 1 :: 2 :: 3 :: 4 :: 5 :: 6 :: 7 :: 8 :: 9 :: 10 :: 11 :: 12 :: 13 :: 14 :: 15 :: 16 :: 17 :: 18 :: 19 :: 20 :: 21 :: 22 :: 23 :: 24 :: 25 :: 26 :: 27 :: 28 :: 29 :: 30 :: []) :: (0 :: 1 :: 2 :: 3 :: 4 :: 5 :: 6 :: 7 :: 8 :: 9 :: 10 :: 11 :: 12 :: 13 :: 14 :: 15 :: 16 :: 17 :: 18 :: 19 :: 20 :: 21 :: 22 :: 23 :: 24 :: 25 :: 26 :: 27 :: 28 :: 29 :: 30 :: []) :: (0 :: 1 :: 2 :: 3 :: 4 :: 5 :: 6 :: 7 :: 8 :: 9 :: 10 :: 11 :: 12 :: 13 :: 14 :: 15 :: 16 :: 17 :: 18 :: 19 :: 20 :: 21 :: 22 :: 23 :: 24 :: 25 :: 26 :: 27 :: 28 :: 29 :: 30 :: 31 :: 32 :: []) :: (0 :: 1 :: 2 :: 3 :: 4 :: 5 :: 6 :: 7 :: 8 :: 9 :: 10 :: 11 :: 12 :: 13 :: 14 :: 15 :: 16 :: 17 :: 18 :: 19 :: 20 :: 21 :: 22 :: 23 :: 24 :: 25 :: 26 :: 27 :: 28 :: 29 :: 30 :: 31 :: 32 :: 33 :: []) :: (0 :: 1 :: 2 :: 3 :: 4 :: 5 :: 6 :: 7 :: 8 :: 9 :: 10 :: 11 :: 12 :: 13 :: 14 :: 15 :: 16 :: 17 :: 18 :: 19 :: 20 :: 21 :: 22 :: 23 :: 24 :: 25 :: 26 :: 27 :: 28 :: 29 :: 30 :: 31 :: 32 :: 33 :: 34 :: []) :: (0 :: 1 :: 2 :: 3 :: 4 :: 5 :: 6 :: 7 :: 8 :: 9 :: 10 :: 11 :: 12 :: 13 :: 14 :: 15 :: 16 :: 17 :: 18 :: 19 :: 20 :: 21 :: 22 :: 23 :: 24 :: 25 :: 26 :: 27 :: 28 :: 29 :: 30 :: 31 :: 32 :: 33 :: 34 :: 35 :: []) :: (0 :: 1 :: 2 :: 3 :: 4 :: 5 :: 6 :: 7 :: 8 :: 9 :: 10 :: 11 :: 12 :: 13 :: 14 :: 15 :: 16 :: 17 :: 18 :: 19 :: 20 :: 21 :: 22 :: 23 :: 24 :: 25 :: 26 :: 27 :: 28 :: 29 :: 30 :: 31 :: 32 :: 33 :: 34 :: 35 :: 36 :: []) :: (0 :: 1 :: 2 :: 3 :: 4 :: 5 :: 6 :: 7 :: 8 :: 9 :: 10 :: 11 :: 12 :: 13 :: 14 :: 15 :: 16 :: 17 :: 18 :: 19 :: 20 :: 21 :: 22 :: 23 :: 24 :: 25 :: 26 :: 27 :: 28 :: 29 :: 30 :: 31 :: 32 :: 33 :: 34 :: 35 :: 36 :: 37 :: []) :: (0 :: 1 :: 2 :: 3 :: 4 :: 5 :: 6 :: 7 :: 8 :: 9 :: 10 :: 11 :: 12 :: 13 :: 14 :: 15 :: 16 :: 17 :: 18 :: 19 :: 20 :: 21 :: 22 :: 23 :: 24 :: 25 :: 26 :: 27 :: 28 :: 29 :: 30 :: 31 :: 32 :: 33 :: 34 :: 35 :: 36 :: 37 :: 38 :: []) :: [])) (sl' := [(0, .one (.g (.d (.sl 2 (List.map encApi_Range l_0))))), (3, oI v5), (55, oB true)]) (hp' := []) (.c (oP rfl rfl (op_move ev rfl)) (.c (oP rfl rfl (OpL.cast (op_not ev rfl) (congrArg (fun b => bB b) hc12))) (.c (oP rfl rfl (op_move ev rfl)) (.c (oY rfl rfl rfl (op_move ev rfl)) (.c (oY rfl rfl rfl (OpL.cast (op_eqI ev (ec rfl) rfl) (congrArg (fun b => bB b) hc13))) (.c (oY rfl rfl rfl (op_move ev rfl)) (.c (OpW.no rfl rfl rfl rfl rfl) (.c (OpW.no rfl rfl rfl rfl rfl) (.c (OpW.no rfl rfl rfl rfl rfl) (.c (OpW.no rfl rfl rfl rfl rfl) (.c (OpW.no rfl rfl rfl rfl rfl) (.c (OpW.no rfl rfl rfl rfl rfl) (.c (oY rfl rfl rfl (op_pickF ev (ec rfl) rfl)) (.c (oP rfl rfl (op_pickF ev ev rfl)) (.c (oP rfl rfl (op_move ev rfl)) (.c (oY rfl rfl rfl (op_move ev rfl)) (.c (oY rfl rfl rfl (OpL.cast (op_gtr ev (ec rfl) rfl) (congrArg (fun b => bB b) hc22))) (.c (oY rfl rfl rfl (op_move ev rfl)) (.c (oY rfl rfl rfl (op_move ev rfl)) (.c (oY rfl rfl rfl (op_move ev rfl)) (.c (oY rfl rfl rfl (op_indexM hx23 uU ti39 ev ev rfl)) (.c (oY rfl rfl rfl (op_fieldE uU rfl ti9 (by decide) rfl ev rfl)) (.c (oY rfl rfl rfl (op_load1E uU rfl rfl ev rfl)) (.c (oY rfl rfl rfl (op_move ev rfl)) (.c (oY rfl rfl rfl (op_move ev rfl)) (.c (oY rfl rfl rfl (op_sub ev (ec rfl) rfl)) (.c (oY rfl rfl rfl (op_indexM hx24 uU ti39 ev ev rfl)) (.c (oY rfl rfl rfl (op_fieldE uU rfl ti9 (by decide) rfl ev rfl)) (.c (oY rfl rfl rfl (op_load1E uU rfl rfl ev rfl)) (.c (oY rfl rfl rfl (OpL.cast (op_neS ev ev rfl) (congrArg (fun b => bB b) hc25))) (.c (oY rfl rfl rfl (op_move ev rfl)) (.c (OpW.no rfl rfl rfl rfl rfl) (.c (OpW.no rfl rfl rfl rfl rfl) (.c (OpW.no rfl rfl rfl rfl rfl) (.c (OpW.no rfl rfl rfl rfl rfl) (.c (OpW.no rfl rfl rfl rfl rfl) (.c (OpW.no rfl rfl rfl rfl rfl) (.c (oY rfl rfl rfl (op_pickT ev (ec rfl) rfl)) (.c (oY rfl rfl rfl (op_pickT ev ev rfl)) (.c (oP rfl rfl (op_pickF ev ev rfl)) .nil)))))))))))))))))))))))))))))))))))))))) follows rfl rfl rfl ⟨⟨rfl, trivial⟩, trivial, ⟨rfl, trivial⟩, trivial, ⟨rfl, trivial⟩, trivial, ⟨rfl, rfl, trivial⟩, trivial, ⟨rfl, rfl, trivial⟩, trivial, ⟨rfl, rfl, trivial⟩, trivial, ⟨rfl, trivial⟩, trivial, ⟨rfl, trivial⟩, trivial, ⟨rfl, trivial⟩, trivial, ⟨rfl, trivial⟩, trivial, ⟨rfl, trivial⟩, trivial, ⟨rfl, trivial⟩, trivial, ⟨rfl, rfl, trivial⟩, trivial, ⟨rfl, rfl, trivial⟩, trivial, ⟨rfl, trivial⟩, trivial, ⟨rfl, rfl, trivial⟩, trivial, ⟨rfl, rfl, trivial⟩, trivial, ⟨rfl, rfl, trivial⟩, trivial, ⟨rfl, rfl, trivial⟩, trivial, ⟨rfl, rfl, trivial⟩, trivial, ⟨rfl, rfl, rfl, trivial⟩, trivial, ⟨rfl, rfl, trivial⟩, trivial, ⟨rfl, rfl, trivial⟩, trivial, ⟨rfl, rfl, trivial⟩, trivial, ⟨rfl, rfl, trivial⟩, trivial, ⟨rfl, rfl, trivial⟩, trivial, ⟨rfl, rfl, rfl, trivial⟩, trivial, ⟨rfl, rfl, trivial⟩, trivial, ⟨rfl, rfl, trivial⟩, trivial, ⟨rfl, rfl, rfl, trivial⟩, trivial, ⟨rfl, rfl, trivial⟩, trivial, ⟨rfl, trivial⟩, trivial, ⟨rfl, trivial⟩, trivial, ⟨rfl, trivial⟩, trivial, ⟨rfl, trivial⟩, trivial, ⟨rfl, trivial⟩, trivial, ⟨rfl, trivial⟩, trivial, ⟨rfl, rfl, trivial⟩, trivial, ⟨rfl, rfl, rfl, trivial⟩, trivial, ⟨rfl, rfl, trivial⟩, trivial, trivial⟩ ⟨rfl, rfl, rfl, trivial⟩ trivial rfl ?_
       refine G.condT rfl ?_
       refine sr <| ac rfl rfl <| eO <| ?_
       cases hF
       exact G.ret1 Tryz.results94 (RVar.tmp 2 _) z1 trivial
     refine bn hF fun x26 hx26 hF => ?_
     refine G.drawnI (deps := ([] :: [0] :: [0, 1] :: [0, 1, 2] :: [0, 1, 2, 3] :: [0, 1, 2, 3, 4] :: [0, 1, 2, 3, 4, 5] :: [0, 1, 2, 3, 4, 5] :: [0, 1, 2, 3, 4, 5, 6, 7] :: [0, 1, 2, 3, 4, 5, 6, 7, 8] :: [0, 1, 2, 3, 4, 5, 6, 7, 8, 9] :: [0, 1, 2, 3, 4, 5, 6, 7, 8, 9, 10] :: [0, 1, 2, 3, 4, 5, 6, 7, 8, 9, 10, 11] :: [0, 1, 2, 3, 4, 5, 6, 7, 8, 9, 10, 11, 12] :: [0, 1, 2, 3, 4, 5, 6, 7, 8, 9, 10, 11, 12, 13] :: [0, 1, 2, 3, 4, 5, 6, 7, 8, 9, 10, 11, 12, 13, 14] :: [0, 1, 2, 3, 4, 5, 6, 7, 8, 9, 10, 11, 12, 13, 14, 15] :: [0, 1, 2, 3, 4, 5, 6, 7, 8, 9, 10, 11, 12, 13, 14, 15, 16] :: [0, 1, 2, 3, 4, 5, 6, 7, 8, 9, 10, 11, 12, 13, 14, 15, 16, 17] :: [0, 1, 2, 3, 4, 5, 6, 7, 8, 9, 10, 11, 12, 13, 14, 15, 16, 17] :: [0, 1, 2, 3, 4, 5, 6, 7, 8, 9, 10, 11, 12, 13, 14, 15, 16, 17, 18, 19] :: (0 :: 1 :: 2 :: 3 :: 4 :: 5 :: 6 :: 7 :: 8 :: 9 :: 10 :: 11 :: 12 :: 13 :: 14 :: 15 :: 16 :: 17 :: 18 :: 19 :: 20 :: []) :: (0 :: 1 :: 2 :: 3 :: 4 :: 5 :: 6 :: 7 :: 8 :: 9 :: 10 :: 11 :: 12 :: 13 :: 14 :: 15 :: 16 :: 17 :: 18 :: 19 :: 20 :: 21 :: []) :: [0, 1, 2, 3, 4, 5, 6, 7, 8, 9, 10, 11, 12, 13, 14, 15, 16, 17] :: [0, 1, 2, 3, 4, 5, 6, 7, 8, 9, 10, 11, 12, 13, 14, 15, 16, 17] :: [0, 1, 2, 3, 4, 5, 6, 7, 8, 9, 10, 11, 12, 13, 14, 15, 16, 17, 24] :: (0 :: 1 :: 2 :: 3 :: 4 :: 5 :: 6 :: 7 :: 8 :: 9 :: 10 :: 11 :: 12 :: 13 :: 14 :: 15 :: 16 :: 17 :: 23 :: 24 :: 25 :: []) :: (0 :: 1 :: 2 :: 3 :: 4 :: 5 :: 6 :: 7 :: 8 :: 9 :: 10 :: 11 :: 12 :: 13 :: 14 :: 15 :: 16 :: 17 :: 23 :: 24 :: 25 :: 26 :: []) :: (0 :: 1 :: 2 :: 3 :: 4 :: 5 :: 6 :: 7 :: 8 :: 9 :: 10 :: 11 :: 12 :: 13 :: 14 :: 15 :: 16 :: 17 :: 23 :: 24 :: 25 :: 26 :: 27 :: []) :: (0 :: 1 :: 2 :: 3 :: 4 :: 5 :: 6 :: 7 :: 8 :: 9 :: 10 :: 11 :: 12 :: 13 :: 14 :: 15 :: 16 :: 17 :: 18 :: 19 :: 20 :: 21 :: 22 :: 23 :: 24 :: 25 :: 26 :: 27 :: 28 :: []) :: (0 :: 1 :: 2 :: 3 :: 4 :: 5 :: 6 :: 7 :: 8 :: 9 :: 10 :: 11 :: 12 :: 13 :: 14 :: 15 :: 16 :: 17 :: 18 :: 19 :: 20 :: 21 :: 22 :: 23 :: 24 :: 25 :: 26 :: 27 :: 28 :: 29 :: []) :: (0 :: 1 :: 2 :: 3 :: 4 :: 5 :: 6 :: 7 :: 8 :: 9 :: 10 :: 11 :: 12 :: 13 :: 14 :: 15 :: 16 :: 17 :: 18 :: 19 :: 20 :: 21 :: 22 :: 23 :: 24 :: 25 :: 26 :: 27 :: 28 :: 29 :: 30 :: []) :: (0 :: 1 :: 2 :: 3 :: 4 :: 5 :: 6 :: 7 :: 8 :: 9 :: 10 :: 11 :: 12 :: 13 :: 14 :: 15 :: 16 :: 17 :: 18 :: 19 :: 20 :: 21 :: 22 :: 23 :: 24 :: 25 :: 26 :: 27 :: 28 :: 29 :: 30 :: []) :: (0 :: 1 :: 2 :: 3 :: 4 :: 5 :: 6 :: 7 :: 8 :: 9 :: 10 :: 11 :: 12 :: 13 :: 14 :: 15 :: 16 :: 17 :: 18 :: 19 :: 20 :: 21 :: 22 :: 23 :: 24 :: 25 :: 26 :: 27 :: 28 :: 29 :: 30 :: 31 :: 32 :: []) :: (0 :: 1 :: 2 :: 3 :: 4 :: 5 :: 6 :: 7 :: 8 :: 9 :: 10 :: 11 :: 12 :: 13 :: 14 :: 15 :: 16 :: 17 :: 18 :: 19 :: 20 :: 21 :: 22 :: 23 :: 24 :: 25 :: 26 :: 27 :: 28 :: 29 :: 30 :: 31 :: 32 :: 33 :: []) :: (0 :: 1 :: 2 :: 3 :: 4 :: 5 :: 6 :: 7 :: 8 :: 9 :: 10 :: 11 :: 12 :: 13 :: 14 :: 15 :: 16 :: 17 :: 18 :: 19 :: 20 :: 21 :: 22 :: 23 :: 24 :: 25 :: 26 :: 27 :: 28 :: 29 :: 30 :: 31 :: 32 :: 33 :: 34 :: []) :: (0 :: 1 :: 2 :: 3 :: 4 :: 5 :: 6 :: 7 :: 8 :: 9 :: 10 :: 11 :: 12 :: 13 :: 14 :: 15 :: 16 :: 17 :: 18 :: 19 :: 20 :: 21 :: 22 :: 23 :: 24 :: 25 :: 26 :: 27 :: 28 :: 29 :: 30 :: 31 :: 32 :: 33 :: 34 :: 35 :: []) :: (0 :: 1 :: 2 :: 3 :: 4 :: 5 :: 6 :: 7 :: 8 :: 9 :: 10 :: 11 :: 12 :: 13 :: 14 :: 15 :: 16 :: 17 :: 18 :: 19 :: 20 :: 21 :: 22 :: 23 :: 24 :: 25 :: 26 :: 27 :: 28 :: 29 :: 30 :: 31 :: 32 :: 33 :: 34 :: 35 :: 36 :: []) :: (0 :: 1 :: 2 :: 3 :: 4 :: 5 :: 6 :: 7 :: 8 :: 9 :: 10 :: 11 :: 12 :: 13 :: 14 :: 15 :: 16 :: 17 :: 18 :: 19 :: 20 :: 21 :: 22 :: 23 :: 24 :: 25 :: 26 :: 27 :: 28 :: 29 :: 30 :: 31 :: 32 :: 33 :: 34 :: 35 :: 36 :: 37 :: []) :: (0 :: 1 :: 2 :: 3 :: 4 :: 5 :: 6 :: 7 :: 8 :: 9 :: 10 :: 11 :: 12 :: 13 :: 14 :: 15 :: 16 :: 17 :: 18 :: 19 :: 20 :: 21 :: 22 :: 23 :: 24 :: 25 :: 26 :: 27 :: 28 :: 29 :: 30 :: 31 :: 32 :: 33 :: 34 :: 35 :: 36 :: 37 :: 38 :: []) :: [])) (sl' := [(0, .one (.g (.d (.sl 2 (List.map encApi_Range l_0))))), (3, oI v5), (55, oB (seq x26.From ByteArray.empty))]) (hp' := []) (.c (oP rfl rfl (op_move ev rfl)) (.c (oP rfl rfl (OpL.cast (op_not ev rfl) (congrArg (fun b => bB b) hc12))) (.c (oP rfl rfl (op_move ev rfl)) (.c (oY rfl rfl rfl (op_move ev rfl)) (.c (oY rfl rfl rfl (OpL.cast (op_eqI ev (ec rfl) rfl) (congrArg (fun b => bB b) hc13))) (.c (oY rfl rfl rfl (op_move ev rfl)) (.c (OpW.no rfl rfl rfl rfl rfl) (.c (OpW.no rfl rfl rfl rfl rfl) (.c (OpW.no rfl rfl rfl rfl rfl) (.c (OpW.no rfl rfl rfl rfl rfl) (.c (OpW.no rfl rfl rfl rfl rfl) (.c (OpW.no rfl rfl rfl rfl rfl) (.c (oY rfl rfl rfl (op_pickF ev (ec rfl) rfl)) (.c (oP rfl rfl (op_pickF ev ev rfl)) (.c (oP rfl rfl (op_move ev rfl)) (.c (oY rfl rfl rfl (op_move ev rfl)) (.c (oY rfl rfl rfl (OpL.cast (op_gtr ev (ec rfl) rfl) (congrArg (fun b => bB b) hc22))) (.c (oY rfl rfl rfl (op_move ev rfl)) (.c (oY rfl rfl rfl (op_move ev rfl)) (.c (oY rfl rfl rfl (op_move ev rfl)) (.c (oY rfl rfl rfl (op_indexM hx23 uU ti39 ev ev rfl)) (.c (oY rfl rfl rfl (op_fieldE uU rfl ti9 (by decide) rfl ev rfl)) (.c (oY rfl rfl rfl (op_load1E uU rfl rfl ev rfl)) (.c (oY rfl rfl rfl (op_move ev rfl)) (.c (oY rfl rfl rfl (op_move ev rfl)) (.c (oY rfl rfl rfl (op_sub ev (ec rfl) rfl)) (.c (oY rfl rfl rfl (op_indexM hx24 uU ti39 ev ev rfl)) (.c (oY rfl rfl rfl (op_fieldE uU rfl ti9 (by decide) rfl ev rfl)) (.c (oY rfl rfl rfl (op_load1E uU rfl rfl ev rfl)) (.c (oY rfl rfl rfl (OpL.cast (op_neS ev ev rfl) (congrArg (fun b => bB b) hc25))) (.c (oY rfl rfl rfl (op_move ev rfl)) (.c (oY rfl rfl rfl (op_move ev rfl)) (.c (oY rfl rfl rfl (op_move ev rfl)) (.c (oY rfl rfl rfl (op_indexM hx26 uU ti39 ev ev rfl)) (.c (oY rfl rfl rfl (op_fieldE uU rfl ti9 (by decide) rfl ev rfl)) (.c (oY rfl rfl rfl (op_load1E uU rfl rfl ev rfl)) (.c (oY rfl rfl rfl (op_eqS ev (ec rfl) rfl)) (.c (oY rfl rfl rfl (op_pickF ev ev rfl)) (.c (oY rfl rfl rfl (op_pickT ev ev rfl)) (.c (oP rfl rfl (op_pickF ev ev rfl)) .nil)))))))))))))))))))))))))))))))))))))))) follows rfl rfl rfl ⟨⟨rfl, trivial⟩, trivial, ⟨rfl, trivial⟩, trivial, ⟨rfl, trivial⟩, trivial, ⟨rfl, rfl, trivial⟩, trivial, ⟨rfl, rfl, trivial⟩, trivial, ⟨rfl, rfl, trivial⟩, trivial, ⟨rfl, trivial⟩, trivial, ⟨rfl, trivial⟩, trivial, ⟨rfl, trivial⟩, trivial, ⟨rfl, trivial⟩, trivial, ⟨rfl, trivial⟩, trivial, ⟨rfl, trivial⟩, trivial, ⟨rfl, rfl, trivial⟩, trivial, ⟨rfl, rfl, trivial⟩, trivial, ⟨rfl, trivial⟩, trivial, ⟨rfl, rfl, trivial⟩, trivial, ⟨rfl, rfl, trivial⟩, trivial, ⟨rfl, rfl, trivial⟩, trivial, ⟨rfl, rfl, trivial⟩, trivial, ⟨rfl, rfl, trivial⟩, trivial, ⟨rfl, rfl, rfl, trivial⟩, trivial, ⟨rfl, rfl, trivial⟩, trivial, ⟨rfl, rfl, trivial⟩, trivial, ⟨rfl, rfl, trivial⟩, trivial, ⟨rfl, rfl, trivial⟩, trivial, ⟨rfl, rfl, trivial⟩, trivial, ⟨rfl, rfl, rfl, trivial⟩, trivial, ⟨rfl, rfl, trivial⟩, trivial, ⟨rfl, rfl, trivial⟩, trivial, ⟨rfl, rfl, rfl, trivial⟩, trivial, ⟨rfl, rfl, trivial⟩, trivial, ⟨rfl, rfl, trivial⟩, trivial, ⟨rfl, rfl, trivial⟩, trivial, ⟨rfl, rfl, rfl, trivial⟩, trivial, ⟨rfl, rfl, trivial⟩, trivial, ⟨rfl, rfl, trivial⟩, trivial, ⟨rfl, rfl, trivial⟩, trivial, ⟨rfl, rfl, rfl, trivial⟩, trivial, ⟨rfl, rfl, rfl, trivial⟩, trivial, ⟨rfl, rfl, trivial⟩, trivial, trivial⟩ ⟨rfl, rfl, rfl, trivial⟩ trivial rfl ?_
     refine ifS hF (fun hc27 hF => ?_) (fun hc27 hF => ?_)
     · refine cT hc27 rfl <| sr <| ac rfl rfl <| eO <| ?_
       cases hF
       exact G.ret1 Tryz.results94 (RVar.tmp 2 _) z1 trivial
     refine cF hc27 rfl <| sk <| eB <| rg <| mv rfl rfl <| p10 (op_add ev (ec rfl) rfl) rfl <| ?_
     refine av rfl rfl <| eO <| ?_
     exact G.arr (J6 (IntKind.wrap .i64 (v5 + 1)) hF) z2 trivial rfl
   refine G.drawnI (deps := ([] :: [0] :: [0, 1] :: [0, 1, 2] :: [0, 1, 2, 3] :: [0, 1, 2, 3, 4] :: [0, 1, 2, 3, 4, 5] :: [0, 1, 2, 3, 4, 5] :: [0, 1, 2, 3, 4, 5, 6, 7] :: [0, 1, 2, 3, 4, 5, 6, 7, 8] :: [0, 1, 2, 3, 4, 5, 6, 7, 8, 9] :: [0, 1, 2, 3, 4, 5, 6, 7, 8, 9, 10] :: [0, 1, 2, 3, 4, 5, 6, 7, 8, 9, 10, 11] :: [0, 1, 2, 3, 4, 5, 6, 7, 8, 9, 10, 11, 12] :: [0, 1, 2, 3, 4, 5, 6, 7, 8, 9, 10, 11, 12, 13] :: [0, 1, 2, 3, 4, 5, 6, 7, 8, 9, 10, 11, 12, 13, 14] :: [0, 1, 2, 3, 4, 5, 6, 7, 8, 9, 10, 11, 12, 13, 14, 15] :: [0, 1, 2, 3, 4, 5, 6, 7, 8, 9, 10, 11, 12, 13, 14, 15, 16] :: [0, 1, 2, 3, 4, 5, 6, 7, 8, 9, 10, 11, 12, 13, 14, 15, 16, 17] :: [0, 1, 2, 3, 4, 5, 6, 7, 8, 9, 10, 11, 12, 13, 14, 15, 16, 17] :: [0, 1, 2, 3, 4, 5, 6, 7, 8, 9, 10, 11, 12, 13, 14, 15, 16, 17, 18, 19] :: (0 :: 1 :: 2 :: 3 :: 4 :: 5 :: 6 :: 7 :: 8 :: 9 :: 10 :: 11 :: 12 :: 13 :: 14 :: 15 :: 16 :: 17 :: 18 :: 19 :: 20 :: []) :: (0 :: 1 :: 2 :: 3 :: 4 :: 5 :: 6 :: 7 :: 8 :: 9 :: 10 :: 11 :: 12 :: 13 :: 14 :: 15 :: 16 :: 17 :: 18 :: 19 :: 20 :: 21 :: []) :: [0, 1, 2, 3, 4, 5, 6, 7, 8, 9, 10, 11, 12, 13, 14, 15, 16, 17] :: [0, 1, 2, 3, 4, 5, 6, 7, 8, 9, 10, 11, 12, 13, 14, 15, 16, 17] :: [0, 1, 2, 3, 4, 5, 6, 7, 8, 9, 10, 11, 12, 13, 14, 15, 16, 17, 24] :: (0 :: 1 :: 2 :: 3 :: 4 :: 5 :: 6 :: 7 :: 8 :: 9 :: 10 :: 11 :: 12 :: 13 :: 14 :: 15 :: 16 :: 17 :: 23 :: 24 :: 25 :: []) :: (0 :: 1 :: 2 :: 3 :: 4 :: 5 :: 6 :: 7 :: 8 :: 9 :: 10 :: 11 :: 12 :: 13 :: 14 :: 15 :: 16 :: 17 :: 23 :: 24 :: 25 :: 26 :: []) :: (0 :: 1 :: 2 :: 3 :: 4 :: 5 :: 6 :: 7 :: 8 :: 9 :: 10 :: 11 :: 12 :: 13 :: 14 :: 15 :: 16 :: 17 :: 23 :: 24 :: 25 :: 26 :: 27 :: []) :: (0 :: 1 :: 2 :: 3 :: 4 :: 5 :: 6 :: 7 :: 8 :: 9 :: 10 :: 11 :: 12 :: 13 :: 14 :: 15 :: 16 :: 17 :: 18 :: 19 :: 20 :: 21 :: 22 :: 23 :: 24 :: 25 :: 26 :: 27 :: 28 :: []) :: (0 :: 1 :: 2 :: 3 :: 4 :: 5 :: 6 :: 7 :: 8 :: 9 :: 10 :: 11 :: 12 :: 13 :: 14 :: 15 :: 16 :: 17 :: 18 :: 19 :: 20 :: 21 :: 22 :: 23 :: 24 :: 25 :: 26 :: 27 :: 28 :: 29 :: []) :: (0 :: 1 :: 2 :: 3 :: 4 :: 5 :: 6 :: 7 :: 8 :: 9 :: 10 :: 11 :: 12 :: 13 :: 14 :: 15 :: 16 :: 17 :: 18 :: 19 :: 20 :: 21 :: 22 :: 23 :: 24 :: 25 :: 26 :: 27 :: 28 :: 29 :: 30 :: []) :: (0 :: 1 :: 2 :: 3 :: 4 :: 5 :: 6 :: 7 :: 8 :: 9 :: 10 :: 11 :: 12 :: 13 :: 14 :: 15 :: 16 :: 17 :: 18 :: 19 :: 20 :: 21 :: 22 :: 23 :: 24 :: 25 :: 26 :: 27 :: 28 :: 29 :: 30 :: []) :: (0 :: 1 :: 2 :: 3 :: 4 :: 5 :: 6 :: 7 :: 8 :: 9 :: 10 :: 11 :: 12 :: 13 :: 14 :: 15 :: 16 :: 17 :: 18 :: 19 :: 20 :: 21 :: 22 :: 23 :: 24 :: 25 :: 26 :: 27 :: 28 :: 29 :: 30 :: 31 :: 32 :: []) :: (0 :: 1 :: 2 :: 3 :: 4 :: 5 :: 6 :: 7 :: 8 :: 9 :: 10 :: 11 :: 12 :: 13 :: 14 :: 15 :: 16 :: 17 :: 18 :: 19 :: 20 :: 21 :: 22 :: 23 :: 24 :: 25 :: 26 :: 27 :: 28 :: 29 :: 30 :: 31 :: 32 :: 33 :: []) :: (0 :: 1 :: 2 :: 3 :: 4 :: 5 :: 6 :: 7 :: 8 :: 9 :: 10 :: 11 :: 12 :: 13 :: 14 :: 15 :: 16 :: 17 :: 18 :: 19 :: 20 :: 21 :: 22 :: 23 :: 24 :: 25 :: 26 :: 27 :: 28 :: 29 :: 30 :: 31 :: 32 :: 33 :: 34 :: []) :: (0 :: 1 :: 2 :: 3 :: 4 :: 5 :: 6 :: 7 :: 8 :: 9 :: 10 :: 11 :: 12 :: 13 :: 14 :: 15 :: 16 :: 17 :: 18 :: 19 :: 20 :: 21 :: 22 :: 23 :: 24 :: 25 :: 26 :: 27 :: 28 :: 29 :: 30 :: 31 :: 32 :: 33 :: 34 :: 35 :: []) :: (0 :: 1 :: 2 :: 3 :: 4 :: 5 :: 6 :: 7 :: 8 :: 9 :: 10 :: 11 :: 12 :: 13 :: 14 :: 15 :: 16 :: 17 :: 18 :: 19 :: 20 :: 21 :: 22 :: 23 :: 24 :: 25 :: 26 :: 27 :: 28 :: 29 :: 30 :: 31 :: 32 :: 33 :: 34 :: 35 :: 36 :: []) :: (0 :: 1 :: 2 :: 3 :: 4 :: 5 :: 6 :: 7 :: 8 :: 9 :: 10 :: 11 :: 12 :: 13 :: 14 :: 15 :: 16 :: 17 :: 18 :: 19 :: 20 :: 21 :: 22 :: 23 :: 24 :: 25 :: 26 :: 27 :: 28 :: 29 :: 30 :: 31 :: 32 :: 33 :: 34 :: 35 :: 36 :: 37 :: []) :: (0 :: 1 :: 2 :: 3 :: 4 :: 5 :: 6 :: 7 :: 8 :: 9 :: 10 :: 11 :: 12 :: 13 :: 14 :: 15 :: 16 :: 17 :: 18 :: 19 :: 20 :: 21 :: 22 :: 23 :: 24 :: 25 :: 26 :: 27 :: 28 :: 29 :: 30 :: 31 :: 32 :: 33 :: 34 :: 35 :: 36 :: 37 :: 38 :: []) :: [])) (sl' := [(0, .one (.g (.d (.sl 2 (List.map encApi_Range l_0))))), (3, oI v5), (55, oB false)]) (hp' := []) (.c (oP rfl rfl (op_move ev rfl)) (.c (oP rfl rfl (OpL.cast (op_not ev rfl) (congrArg (fun b => bB b) hc12))) (.c (oP rfl rfl (op_move ev rfl)) (.c (oY rfl rfl rfl (op_move ev rfl)) (.c (oY rfl rfl rfl (OpL.cast (op_eqI ev (ec rfl) rfl) (congrArg (fun b => bB b) hc13))) (.c (oY rfl rfl rfl (op_move ev rfl)) (.c (OpW.no rfl rfl rfl rfl rfl) (.c (OpW.no rfl rfl rfl rfl rfl) (.c (OpW.no rfl rfl rfl rfl rfl) (.c (OpW.no rfl rfl rfl rfl rfl) (.c (OpW.no rfl rfl rfl rfl rfl) (.c (OpW.no rfl rfl rfl rfl rfl) (.c (oY rfl rfl rfl (op_pickF ev (ec rfl) rfl)) (.c (oP rfl rfl (op_pickF ev ev rfl)) (.c (oP rfl rfl (op_move ev rfl)) (.c (oY rfl rfl rfl (op_move ev rfl)) (.c (oY rfl rfl rfl (OpL.cast (op_gtr ev (ec rfl) rfl) (congrArg (fun b => bB b) hc22))) (.c (oY rfl rfl rfl (op_move ev rfl)) (.c (OpW.no rfl rfl rfl rfl rfl) (.c (OpW.no rfl rfl rfl rfl rfl) (.c (OpW.no rfl rfl rfl rfl rfl) (.c (OpW.no rfl rfl rfl rfl rfl) (.c (OpW.no rfl rfl rfl rfl rfl) (.c (OpW.no rfl rfl rfl rfl rfl) (.c (OpW.no rfl rfl rfl rfl rfl) (.c (OpW.no rfl rfl rfl rfl rfl) (.c (OpW.no rfl rfl rfl rfl rfl) (.c (OpW.no rfl rfl rfl rfl rfl) (.c (OpW.no rfl rfl rfl rfl rfl) (.c (OpW.no rfl rfl rfl rfl rfl) (.c (OpW.no rfl rfl rfl rfl rfl) (.c (OpW.un rfl rfl rfl rfl) (.c (OpW.un rfl rfl rfl rfl) (.c (OpW.un rfl rfl rfl rfl) (.c (OpW.un rfl rfl rfl rfl) (.c (OpW.un rfl rfl rfl rfl) (.c (OpW.un rfl rfl rfl rfl) (.c (OpW.no rfl rfl rfl rfl rfl) (.c (oY rfl rfl rfl (op_pickF ev (ec rfl) rfl)) (.c (oP rfl rfl (op_pickF ev ev rfl)) .nil)))))))))))))))))))))))))))))))))))))))) follows rfl rfl rfl ⟨⟨rfl, trivial⟩, trivial, ⟨rfl, trivial⟩, trivial, ⟨rfl, trivial⟩, trivial, ⟨rfl, rfl, trivial⟩, trivial, ⟨rfl, rfl, trivial⟩, trivial, ⟨rfl, rfl, trivial⟩, trivial, ⟨rfl, trivial⟩, trivial, ⟨rfl, trivial⟩, trivial, ⟨rfl, trivial⟩, trivial, ⟨rfl, trivial⟩, trivial, ⟨rfl, trivial⟩, trivial, ⟨rfl, trivial⟩, trivial, ⟨rfl, rfl, trivial⟩, trivial, ⟨rfl, rfl, trivial⟩, trivial, ⟨rfl, trivial⟩, trivial, ⟨rfl, rfl, trivial⟩, trivial, ⟨rfl, rfl, trivial⟩, trivial, ⟨rfl, rfl, trivial⟩, trivial, ⟨rfl, trivial⟩, trivial, ⟨rfl, trivial⟩, trivial, ⟨rfl, trivial⟩, trivial, ⟨rfl, trivial⟩, trivial, ⟨rfl, trivial⟩, trivial, ⟨rfl, trivial⟩, trivial, ⟨rfl, trivial⟩, trivial, ⟨rfl, trivial⟩, trivial, ⟨rfl, trivial⟩, trivial, ⟨rfl, trivial⟩, trivial, ⟨rfl, trivial⟩, trivial, ⟨rfl, trivial⟩, trivial, ⟨rfl, trivial⟩, trivial, ⟨rfl, trivial⟩, trivial, ⟨rfl, trivial⟩, trivial, ⟨rfl, trivial⟩, trivial, ⟨rfl, trivial⟩, trivial, ⟨rfl, trivial⟩, trivial, ⟨rfl, trivial⟩, trivial, ⟨rfl, trivial⟩, trivial, ⟨rfl, rfl, trivial⟩, trivial, ⟨rfl, rfl, trivial⟩, trivial, trivial⟩ ⟨rfl, rfl, rfl, trivial⟩ trivial rfl ?_
   refine G.condF rfl ?_
   refine sk <| eB <| rg <| mv rfl rfl <| p10 (op_add ev (ec rfl) rfl) rfl <| av rfl rfl <| ?_
   refine eO <| ?_
   exact G.arr (J6 (IntKind.wrap .i64 (v5 + 1)) hF) z2 trivial rfl
 refine cF hc9 rfl <| ex <| ?_
 refine GX.c ?_
 refine GX.q ?_
 refine xY <| ?_
 exact G.arr (J4 () hF) z1 trivial rfl


theorem ct_ref06_RowCheck (c_0 : Api_Row) (r : Bool) (hF : ref06_RowCheck c_0 = some r) : Ct Tryz.prog 66 [.g (.agg (encApi_Row c_0))] (.one (.d (vB r))) := by
 unfold ref06_RowCheck at hF
 refine Ct.intro Tryz.func66 rfl Tryz.ntmps66 rfl rfl fun M w => ?_
 refine sr <| q11 (op_boxA (k := 1001) ev rfl) rfl rfl <| ac rfl rfl <| esr <| p10 (op_fieldP (off' := 0) uU rfl ti25 (by decide) rfl ev rfl) rfl <| p11 (op_load1P uU rfl rfl ev rfl) rfl rfl <| ?_
 refine bn hF fun r1 hr1 hF => p10 (op_callQ cf94 (ct_ref02_Whole _ _ hr1) rfl rfl (.cons qe .nil) rfl) rfl <| av rfl rfl <| esr <| p10 (op_fieldP (off' := 2) uU rfl ti26 (by decide) rfl ev rfl) rfl <| p11 (op_load1P uU rfl rfl ev rfl) rfl rfl <| ?_
 refine p10 (op_lenM uU ev rfl) rfl <| av rfl rfl <| eO <| sq <| sq <| ?_
 refine G.joinC (T := Bool) (fun y2 => ⟨[(1, .one (.ptr 1001 0)), (4, oI (c_0.Parents.length : Int)), (39, oB y2)], [(1001, some (.blk 28 [.g (.d (.sl 2 (List.map encApi_Range c_0.Ranges))), .g (.d (.sl 1 (List.map encI_i64 c_0.Owners))), .g (.d (.sl 1 (List.map encI_i64 c_0.Parents)))]))]⟩) (fun y2 => ref06_RowCheck_k1 c_0 y2 = some r) (fun y2 hF => ?_) (fun J33 => ?_)
 · unfold ref06_RowCheck_k1 at hF
   refine ifS hF (fun hc3 hF => ?_) (fun hc3 hF => ?_)
   · refine cT hc3 rfl <| sr <| ac rfl rfl <| eO <| ?_
     cases hF
     exact G.ret1 Tryz.results66 (RVar.tmp 2 _) z1 trivial
   refine cF hc3 rfl <| sk <| sr <| ac rfl rfl <| eO <| sq <| ?_
   refine sr <| ac rfl rfl <| eO <| ?_
   refine G.joinC (T := Int) (fun y4 => ⟨[(1, .one (.ptr 1001 0)), (5, oI y4)], [(1001, some (.blk 28 [.g (.d (.sl 2 (List.map encApi_Range c_0.Ranges))), .g (.d (.sl 1 (List.map encI_i64 c_0.Owners))), .g (.d (.sl 1 (List.map encI_i64 c_0.Parents)))]))]⟩) (fun y4 => ref06_RowCheck_k2 c_0 y4 = some r) (fun y4 hF => ?_) (fun J27 => ?_)
   · unfold ref06_RowCheck_k2 at hF
     refine sq <| sr <| ac rfl rfl <| eO <| ?_
     refine G.joinC (T := Unit) (fun y5 => ⟨[(1, .one (.ptr 1001 0))], [(1001, some (.blk 28 [.g (.d (.sl 2 (List.map encApi_Range c_0.Ranges))), .g (.d (.sl 1 (List.map encI_i64 c_0.Owners))), .g (.d (.sl 1 (List.map encI_i64 c_0.Parents)))]))]⟩) (fun y5 => ref06_RowCheck_k3 c_0 y5 = some r) (fun y5 hF => ?_) (fun J17 => ?_)
     · unfold ref06_RowCheck_k3 at hF
       refine sq <| sr <| ac rfl rfl <| eO <| ?_
       refine G.joinC (T := Unit) (fun y6 => ⟨[], []⟩) (fun y6 => ref06_RowCheck_k4 y6 = some r) (fun y6 hF => ?_) (fun J7 => ?_)
       · unfold ref06_RowCheck_k4 at hF
         refine sr <| ac rfl rfl <| eO <| ?_
         cases hF
         exact G.ret1 Tryz.results66 (RVar.tmp 2 _) z1 trivial
       refine bl <| ?_
       refine lF (fun (v8 : Int) => ⟨[(1, .one (.ptr 1001 0)), (8, oI v8)], [(1001, some (.blk 28 [.g (.d (.sl 2 (List.map encApi_Range c_0.Ranges))), .g (.d (.sl 1 (List.map encI_i64 c_0.Owners))), .g (.d (.sl 1 (List.map encI_i64 c_0.Parents)))]))]⟩) hF z2 z1 rfl (fun K11 again10 v8 J9 hF => ?_)
       unfold ref06_RowCheck_l5 at hF
       refine sq <| sr <| mv rfl rfl <| p10 (op_fieldP (off' := 2) uU rfl ti26 (by decide) rfl ev rfl) rfl <| p11 (op_load1P uU rfl rfl ev rfl) rfl rfl <| p10 (op_lenM uU ev rfl) rfl <| ?_
       refine p20 (op_lss ev ev rfl) rfl rfl <| eO <| ?_
       refine ifS hF (fun hc12 hF => ?_) (fun hc12 hF => ?_)
       · refine cT hc12 rfl <| sk <| sq <| bl <| sr <| p10 (op_fieldP (off' := 2) uU rfl ti26 (by decide) rfl ev rfl) rfl <| ?_
         refine p11 (op_load1P uU rfl rfl ev rfl) rfl rfl <| mv rfl rfl <| bn hF fun x13 hx13 hF => p20 (op_indexM hx13 uU ti3 ev ev rfl) rfl rfl <| p10 (op_load1E uU rfl rfl ev rfl) rfl <| p10 (op_lss ev (ec rfl) rfl) rfl <| ?_
         refine mv rfl rfl <| ?_
         refine ifS hF (fun hc14 hF => ?_) (fun hc14 hF => ?_)
         · refine G.known (t := 82) hc14 rfl <| oN rfl rfl rfl <| oN rfl rfl rfl <| oN rfl rfl rfl <| oN rfl rfl rfl <| oN rfl rfl rfl <| ?_
           refine oN rfl rfl rfl <| p10 (op_pickT ev (ec rfl) rfl) rfl <| eO <| ?_
           refine G.condT rfl ?_
           refine sr <| ac rfl rfl <| eO <| ?_
           cases hF
           exact G.ret1 Tryz.results66 (RVar.tmp 2 _) z1 trivial
         refine G.known (t := 82) hc14 rfl <| g10 (op_fieldP (off' := 2) uU rfl ti26 (by decide) rfl ev rfl) rfl rfl rfl <| g11 (op_load1P uU rfl rfl ev rfl) rfl rfl rfl rfl <| g10 (op_move ev rfl) rfl rfl rfl <| bn hF fun x15 hx15 hF => g20 (op_indexM hx15 uU ti3 ev ev rfl) rfl rfl rfl rfl <| ?_
         refine g10 (op_load1E uU rfl rfl ev rfl) rfl rfl rfl <| g10 (op_gtr ev (ec rfl) rfl) rfl rfl rfl <| p20 (op_pickF ev ev rfl) rfl rfl <| eO <| ?_
         refine ifS hF (fun hc16 hF => ?_) (fun hc16 hF => ?_)
         · refine cT hc16 rfl <| sr <| ac rfl rfl <| eO <| ?_
           cases hF
           exact G.ret1 Tryz.results66 (RVar.tmp 2 _) z1 trivial
         refine cF hc16 rfl <| sk <| eB <| rg <| mv rfl rfl <| p10 (op_add ev (ec rfl) rfl) rfl <| ?_
         refine av rfl rfl <| eO <| ?_
         exact G.arr (J9 (IntKind.wrap .i64 (v8 + 1)) hF) z2 z1 rfl
       refine cF hc12 rfl <| ex <| ?_
       refine GX.c ?_
       refine GX.q ?_
       refine xY <| ?_
       exact G.arr (J7 () hF) trivial trivial rfl
     refine bl <| ?_
     refine lF (fun (v18 : Int) => ⟨[(1, .one (.ptr 1001 0)), (5, oI y4), (7, oI v18)], [(1001, some (.blk 28 [.g (.d (.sl 2 (List.map encApi_Range c_0.Ranges))), .g (.d (.sl 1 (List.map encI_i64 c_0.Owners))), .g (.d (.sl 1 (List.map encI_i64 c_0.Parents)))]))]⟩) hF z3 z1 rfl (fun K21 again20 v18 J19 hF => ?_)
     unfold ref06_RowCheck_l6 at hF
     refine sq <| sr <| mv rfl rfl <| p10 (op_fieldP (off' := 1) uU rfl ti26 (by decide) rfl ev rfl) rfl <| p11 (op_load1P uU rfl rfl ev rfl) rfl rfl <| p10 (op_lenM uU ev rfl) rfl <| ?_
     refine p20 (op_lss ev ev rfl) rfl rfl <| eO <| ?_
     refine ifS hF (fun hc22 hF => ?_) (fun hc22 hF => ?_)
     · refine cT hc22 rfl <| sk <| sq <| bl <| sr <| p10 (op_fieldP (off' := 1) uU rfl ti26 (by decide) rfl ev rfl) rfl <| ?_
       refine p11 (op_load1P uU rfl rfl ev rfl) rfl rfl <| mv rfl rfl <| bn hF fun x23 hx23 hF => p20 (op_indexM hx23 uU ti3 ev ev rfl) rfl rfl <| p10 (op_load1E uU rfl rfl ev rfl) rfl <| p10 (op_lss ev (ec rfl) rfl) rfl <| ?_
       refine mv rfl rfl <| ?_
       refine ifS hF (fun hc24 hF => ?_) (fun hc24 hF => ?_)
       · refine G.known (t := 60) hc24 rfl <| oN rfl rfl rfl <| oN rfl rfl rfl <| oN rfl rfl rfl <| oN rfl rfl rfl <| oN rfl rfl rfl <| ?_
         refine oN rfl rfl rfl <| oN rfl rfl rfl <| p10 (op_pickT ev (ec rfl) rfl) rfl <| eO <| ?_
         refine G.condT rfl ?_
         refine sr <| ac rfl rfl <| eO <| ?_
         cases hF
         exact G.ret1 Tryz.results66 (RVar.tmp 2 _) z1 trivial
       refine G.known (t := 60) hc24 rfl <| g10 (op_fieldP (off' := 1) uU rfl ti26 (by decide) rfl ev rfl) rfl rfl rfl <| g11 (op_load1P uU rfl rfl ev rfl) rfl rfl rfl rfl <| g10 (op_move ev rfl) rfl rfl rfl <| bn hF fun x25 hx25 hF => g20 (op_indexM hx25 uU ti3 ev ev rfl) rfl rfl rfl rfl <| ?_
       refine g10 (op_load1E uU rfl rfl ev rfl) rfl rfl rfl <| g10 (op_move ev rfl) rfl rfl rfl <| g20 (op_geq ev ev rfl) rfl rfl rfl rfl <| p20 (op_pickF ev ev rfl) rfl rfl <| eO <| ?_
       refine ifS hF (fun hc26 hF => ?_) (fun hc26 hF => ?_)
       · refine cT hc26 rfl <| sr <| ac rfl rfl <| eO <| ?_
         cases hF
         exact G.ret1 Tryz.results66 (RVar.tmp 2 _) z1 trivial
       refine cF hc26 rfl <| sk <| eB <| rg <| mv rfl rfl <| p10 (op_add ev (ec rfl) rfl) rfl <| ?_
       refine av rfl rfl <| eO <| ?_
       exact G.arr (J19 (IntKind.wrap .i64 (v18 + 1)) hF) z3 z1 rfl
     refine cF hc22 rfl <| ex <| ?_
     refine GX.c ?_
     refine GX.q ?_
     refine xY <| ?_
     exact G.arr (J17 () hF) z1 z1 rfl
   refine bl <| ?_
   refine lF (fun (v28 : Int × Int) => ⟨[(1, .one (.ptr 1001 0)), (4, oI (c_0.Parents.length : Int)), (5, oI v28.1), (6, oI v28.2)], [(1001, some (.blk 28 [.g (.d (.sl 2 (List.map encApi_Range c_0.Ranges))), .g (.d (.sl 1 (List.map encI_i64 c_0.Owners))), .g (.d (.sl 1 (List.map encI_i64 c_0.Parents)))]))]⟩) hF z4 z1 rfl (fun K31 again30 v28 J29 hF => ?_)
   unfold ref06_RowCheck_l7 at hF
   refine sq <| sr <| mv rfl rfl <| mv rfl rfl <| p20 (op_lss ev ev rfl) rfl rfl <| eO <| ?_
   refine ifS hF (fun hc32 hF => ?_) (fun hc32 hF => ?_)
   · refine cT hc32 rfl <| sk <| sq <| bl <| rg <| mv rfl rfl <| ?_
     refine p10 (op_mul ev (ec rfl) rfl) rfl <| av rfl rfl <| eO <| eB <| rg <| mv rfl rfl <| ?_
     refine p10 (op_add ev (ec rfl) rfl) rfl <| av rfl rfl <| eO <| ?_
     exact G.arr (J29 (IntKind.wrap .i64 (v28.1 * 2), IntKind.wrap .i64 (v28.2 + 1)) hF) z4 z1 rfl
   refine cF hc32 rfl <| ex <| ?_
   refine GX.c ?_
   refine GX.q ?_
   refine xY <| ?_
   exact G.arr (J27 v28.1 hF) z2 z1 rfl
 refine rg <| mv rfl rfl <| p10 (op_not ev rfl) rfl <| mv rfl rfl <| ?_
 refine G.joinL (T := Bool) 5 (fun y34 => ⟨[(1, .one (.ptr 1001 0)), (4, oI (c_0.Parents.length : Int)), (22, oB y34)], [(1001, some (.blk 28 [.g (.d (.sl 2 (List.map encApi_Range c_0.Ranges))), .g (.d (.sl 1 (List.map encI_i64 c_0.Owners))), .g (.d (.sl 1 (List.map encI_i64 c_0.Parents)))]))]⟩) (fun y34 => ref06_RowCheck_k8 c_0 y34 = some r) (fun y34 hF => ?_) (fun J40 => ?_)
 · unfold ref06_RowCheck_k8 at hF
   refine mv rfl rfl <| ?_
   refine G.joinL (T := Bool) 8 (fun y35 => ⟨[(1, .one (.ptr 1001 0)), (4, oI (c_0.Parents.length : Int)), (31, oB y35)], [(1001, some (.blk 28 [.g (.d (.sl 2 (List.map encApi_Range c_0.Ranges))), .g (.d (.sl 1 (List.map encI_i64 c_0.Owners))), .g (.d (.sl 1 (List.map encI_i64 c_0.Parents)))]))]⟩) (fun y35 => ref06_RowCheck_k9 c_0 y35 = some r) (fun y35 hF => ?_) (fun J38 => ?_)
   · unfold ref06_RowCheck_k9 at hF
     refine mv rfl rfl <| ?_
     refine ifS hF (fun hc36 hF => ?_) (fun hc36 hF => ?_)
     · refine G.known (t := 32) hc36 rfl <| oN rfl rfl rfl <| oN rfl rfl rfl <| p10 (op_pickT ev (ec rfl) rfl) rfl <| mv rfl rfl <| oN rfl rfl rfl <| ?_
       refine oN rfl rfl rfl <| p10 (op_pickT ev (ec rfl) rfl) rfl <| eO <| ?_
       exact G.arr (J33 true hF) z3 z1 rfl
     refine G.known (t := 32) hc36 rfl <| g10 (op_move ev rfl) rfl rfl rfl <| g10 (op_lss ev (ec rfl) rfl) rfl rfl rfl <| p20 (op_pickF ev ev rfl) rfl rfl <| mv rfl rfl <| ?_
     refine ifS hF (fun hc37 hF => ?_) (fun hc37 hF => ?_)
     · refine G.known (t := 36) hc37 rfl <| oN rfl rfl rfl <| oN rfl rfl rfl <| p10 (op_pickT ev (ec rfl) rfl) rfl <| eO <| ?_
       exact G.arr (J33 true hF) z3 z1 rfl
     refine G.known (t := 36) hc37 rfl <| g10 (op_move ev rfl) rfl rfl rfl <| g10 (op_gtr ev (ec rfl) rfl) rfl rfl rfl <| p20 (op_pickF ev ev rfl) rfl rfl <| eO <| ?_
     exact G.arr (J33 (decide (6 < (c_0.Parents.length : Int))) hF) z3 z1 rfl
   refine ifS hF (fun hc39 hF => ?_) (fun hc39 hF => ?_)
   · refine G.known (t := 23) hc39 rfl <| oN rfl rfl rfl <| oN rfl rfl rfl <| oN rfl rfl rfl <| oN rfl rfl rfl <| oN rfl rfl rfl <| ?_
     refine oN rfl rfl rfl <| oN rfl rfl rfl <| p10 (op_pickT ev (ec rfl) rfl) rfl <| ?_
     exact G.arr (J38 true hF) z3 z1 rfl
   refine G.known (t := 23) hc39 rfl <| g10 (op_fieldP (off' := 1) uU rfl ti26 (by decide) rfl ev rfl) rfl rfl rfl <| g11 (op_load1P uU rfl rfl ev rfl) rfl rfl rfl rfl <| g10 (op_lenM uU ev rfl) rfl rfl rfl <| g10 (op_fieldP (off' := 0) uU rfl ti25 (by decide) rfl ev rfl) rfl rfl rfl <| g11 (op_load1P uU rfl rfl ev rfl) rfl rfl rfl rfl <| ?_
   refine g10 (op_lenM uU ev rfl) rfl rfl rfl <| g20 (op_neI ev ev rfl) rfl rfl rfl rfl <| p20 (op_pickF ev ev rfl) rfl rfl <| ?_
   exact G.arr (J38 (!decide ((c_0.Owners.length : Int) = (c_0.Ranges.length : Int))) hF) z3 z1 rfl
 refine ifS hF (fun hc41 hF => ?_) (fun hc41 hF => ?_)
 · refine G.known (t := 17) hc41 rfl <| oN rfl rfl rfl <| oN rfl rfl rfl <| oN rfl rfl rfl <| oN rfl rfl rfl <| p10 (op_pickT ev (ec rfl) rfl) rfl <| ?_
   exact G.arr (J40 true hF) z3 z1 rfl
 refine G.known (t := 17) hc41 rfl <| g10 (op_fieldP (off' := 0) uU rfl ti25 (by decide) rfl ev rfl) rfl rfl rfl <| g11 (op_load1P uU rfl rfl ev rfl) rfl rfl rfl rfl <| g10 (op_lenM uU ev rfl) rfl rfl rfl <| g10 (op_gtr ev (ec rfl) rfl) rfl rfl rfl <| p20 (op_pickF ev ev rfl) rfl rfl <| ?_
 exact G.arr (J40 (decide (8 < (c_0.Ranges.length : Int))) hF) z3 z1 rfl


theorem ct_ref22_row (c_0 : Api_Row) (r : Bool) (hF : ref22_row c_0 = some r) : Ct Tryz.prog 39 [.g (.agg (encApi_Row c_0))] (.one (.d (vB r))) := by
 unfold ref22_row at hF
 refine Ct.intro Tryz.func39 rfl Tryz.ntmps39 rfl rfl fun M w => ?_
 refine sr <| q11 (op_boxA (k := 1001) ev rfl) rfl rfl <| ac rfl rfl <| eO <| sq <| sr <| ?_
 refine p10 (op_fieldP (off' := 0) uU rfl ti25 (by decide) rfl ev rfl) rfl <| p11 (op_load1P uU rfl rfl ev rfl) rfl rfl <| p10 (op_lenM uU ev rfl) rfl <| p10 (op_fieldP (off' := 1) uU rfl ti26 (by decide) rfl ev rfl) rfl <| p11 (op_load1P uU rfl rfl ev rfl) rfl rfl <| p10 (op_lenM uU ev rfl) rfl <| ?_
 refine p20 (op_add ev ev rfl) rfl rfl <| p10 (op_fieldP (off' := 2) uU rfl ti26 (by decide) rfl ev rfl) rfl <| p11 (op_load1P uU rfl rfl ev rfl) rfl rfl <| p10 (op_lenM uU ev rfl) rfl <| p20 (op_add ev ev rfl) rfl rfl <| p10 (op_eqI ev (ec rfl) rfl) rfl <| ?_
 refine eO <| ?_
 refine ifS hF (fun hc1 hF => ?_) (fun hc1 hF => ?_)
 · refine cT hc1 rfl <| sr <| ac rfl rfl <| eO <| ?_
   cases hF
   exact G.ret1 Tryz.results39 (RVar.tmp 2 _) z1 trivial
 refine cF hc1 rfl <| sk <| sr <| p11 (op_loadAP (ds := [.sl 2 (List.map encApi_Range c_0.Ranges), .sl 1 (List.map encI_i64 c_0.Owners), .sl 1 (List.map encI_i64 c_0.Parents)]) uU rfl ti28 rfl ev rfl) rfl rfl <| bn hF fun r2 hr2 hF => p10 (op_callQ cf66 (ct_ref06_RowCheck _ _ hr2) rfl rfl (.cons qe .nil) rfl) rfl <| ?_
 refine av rfl rfl <| eO <| ?_
 cases hF
 exact G.ret1 Tryz.results39 (RVar.tmp 2 _) z1 trivial


theorem ct_ref22_Check (o_0 : Api_Op) (r : Bool) (hF : ref22_Check o_0 = some r) : Ct Tryz.prog 15 [.g (.agg (encApi_Op o_0))] (.one (.d (vB r))) := by
 unfold ref22_Check at hF
 refine Ct.intro Tryz.func15 rfl Tryz.ntmps15 rfl rfl fun M w => ?_
 refine sr <| q11 (op_boxA (k := 1001) ev rfl) rfl rfl <| ac rfl rfl <| esr <| p10 (op_fieldP (off' := 1) uU rfl ti3 (by decide) rfl ev rfl) rfl <| p11 (op_load1P uU rfl rfl ev rfl) rfl rfl <| ?_
 refine p10 (op_fieldP (off' := 2) uU rfl ti3 (by decide) rfl ev rfl) rfl <| p11 (op_load1P uU rfl rfl ev rfl) rfl rfl <| p10 (op_fieldP (off' := 3) uU rfl ti3 (by decide) rfl ev rfl) rfl <| p11 (op_load1P uU rfl rfl ev rfl) rfl rfl <| p10 (op_fieldP (off' := 4) uU rfl ti3 (by decide) rfl ev rfl) rfl <| p11 (op_load1P uU rfl rfl ev rfl) rfl rfl <| ?_
 refine p10 (op_fieldP (off' := 5) uU rfl ti3 (by decide) rfl ev rfl) rfl <| p11 (op_load1P uU rfl rfl ev rfl) rfl rfl <| ?_
 refine G.op1 (op_buildA (zs := [vI 0, vI 0, vI 0, vI 0, vI 0]) (ds := List.flatMap encI_i64 [o_0.Client, o_0.Site, o_0.To, o_0.At, o_0.How]) uU ti68 ti3 ⟨.v _ rfl, .v _ rfl, .v _ rfl, .v _ rfl, .v _ rfl, trivial⟩ (.cons ev (.cons ev (.cons ev (.cons ev (.cons ev .nil))))) rfl rfl) rfl z5 trivial ?_
 refine q01 (op_alloc (k := 1003) (cs := dat (List.flatMap encI_i64 (List.replicate 5 0))) ti68 ⟨.v _ rfl, .v _ rfl, .v _ rfl, .v _ rfl, .v _ rfl, trivial⟩ rfl) rfl <| w21 (op_storeA (ds := List.flatMap encI_i64 ([o_0.Client, o_0.Site, o_0.To, o_0.At, o_0.How])) (cs' := dat (List.flatMap encI_i64 ([o_0.Client, o_0.Site, o_0.To, o_0.At, o_0.How]))) ti68 rfl rfl ev ev) rfl rfl rfl <| eO <| sq <| sr <| ac rfl rfl <| ?_
 refine eO <| ?_
 refine G.joinC (T := Unit) (fun y1 => ⟨[(1, .one (.ptr 1001 0))], [(1001, some (.blk 30 [bI .i64 o_0.Kind, bI .i64 o_0.Client, bI .i64 o_0.Site, bI .i64 o_0.To, bI .i64 o_0.At, bI .i64 o_0.How, bS o_0.Key, bS o_0.Value, .g (.d (.sl 1 (List.map encS o_0.Keys))), .g (.d (.sl 2 (List.map encApi_Range o_0.Row.Ranges))), .g (.d (.sl 1 (List.map encI_i64 o_0.Row.Owners))), .g (.d (.sl 1 (List.map encI_i64 o_0.Row.Parents)))]))]⟩) (fun y1 => ref22_Check_k1 o_0 y1 = some r) (fun y1 hF => ?_) (fun J25 => ?_)
 · unfold ref22_Check_k1 at hF
   refine sq <| sr <| ac rfl rfl <| eO <| ?_
   refine G.joinC (T := Unit) (fun y2 => ⟨[(1, .one (.ptr 1001 0))], [(1001, some (.blk 30 [bI .i64 o_0.Kind, bI .i64 o_0.Client, bI .i64 o_0.Site, bI .i64 o_0.To, bI .i64 o_0.At, bI .i64 o_0.How, bS o_0.Key, bS o_0.Value, .g (.d (.sl 1 (List.map encS o_0.Keys))), .g (.d (.sl 2 (List.map encApi_Range o_0.Row.Ranges))), .g (.d (.sl 1 (List.map encI_i64 o_0.Row.Owners))), .g (.d (.sl 1 (List.map encI_i64 o_0.Row.Parents)))]))]⟩) (fun y2 => ref22_Check_k2 o_0 y2 = some r) (fun y2 hF => ?_) (fun J17 => ?_)
   · unfold ref22_Check_k2 at hF
     refine sr <| p10 (op_fieldP (off' := 9) uU rfl ti28 (by decide) rfl ev rfl) rfl <| p11 (op_loadAP (ds := [.sl 2 (List.map encApi_Range o_0.Row.Ranges), .sl 1 (List.map encI_i64 o_0.Row.Owners), .sl 1 (List.map encI_i64 o_0.Row.Parents)]) uU rfl ti28 rfl ev rfl) rfl rfl <| bn hF fun r3 hr3 hF => p10 (op_callQ cf39 (ct_ref22_row _ _ hr3) rfl rfl (.cons qe .nil) rfl) rfl <| av rfl rfl <| ?_
     refine esr <| mv rfl rfl <| mv rfl rfl <| ?_
     refine G.joinL (T := Bool) 4 (fun y4 => ⟨[(1, .one (.ptr 1001 0)), (54, oB y4)], [(1001, some (.blk 30 [bI .i64 o_0.Kind, bI .i64 o_0.Client, bI .i64 o_0.Site, bI .i64 o_0.To, bI .i64 o_0.At, bI .i64 o_0.How, bS o_0.Key, bS o_0.Value, .g (.d (.sl 1 (List.map encS o_0.Keys))), .g (.d (.sl 2 (List.map encApi_Range o_0.Row.Ranges))), .g (.d (.sl 1 (List.map encI_i64 o_0.Row.Owners))), .g (.d (.sl 1 (List.map encI_i64 o_0.Row.Parents)))]))]⟩) (fun y4 => ref22_Check_k3 o_0 y4 = some r) (fun y4 hF => ?_) (fun J15 => ?_)
     · unfold ref22_Check_k3 at hF
       refine mv rfl rfl <| ?_
       refine G.joinL (T := Bool) 4 (fun y5 => ⟨[(1, .one (.ptr 1001 0)), (59, oB y5)], [(1001, some (.blk 30 [bI .i64 o_0.Kind, bI .i64 o_0.Client, bI .i64 o_0.Site, bI .i64 o_0.To, bI .i64 o_0.At, bI .i64 o_0.How, bS o_0.Key, bS o_0.Value, .g (.d (.sl 1 (List.map encS o_0.Keys))), .g (.d (.sl 2 (List.map encApi_Range o_0.Row.Ranges))), .g (.d (.sl 1 (List.map encI_i64 o_0.Row.Owners))), .g (.d (.sl 1 (List.map encI_i64 o_0.Row.Parents)))]))]⟩) (fun y5 => ref22_Check_k4 o_0 y5 = some r) (fun y5 hF => ?_) (fun J13 => ?_)
       · unfold ref22_Check_k4 at hF
         refine mv rfl rfl <| ?_
         refine G.joinL (T := Bool) 5 (fun y6 => ⟨[(1, .one (.ptr 1001 0)), (65, oB y6)], [(1001, some (.blk 30 [bI .i64 o_0.Kind, bI .i64 o_0.Client, bI .i64 o_0.Site, bI .i64 o_0.To, bI .i64 o_0.At, bI .i64 o_0.How, bS o_0.Key, bS o_0.Value, .g (.d (.sl 1 (List.map encS o_0.Keys))), .g (.d (.sl 2 (List.map encApi_Range o_0.Row.Ranges))), .g (.d (.sl 1 (List.map encI_i64 o_0.Row.Owners))), .g (.d (.sl 1 (List.map encI_i64 o_0.Row.Parents)))]))]⟩) (fun y6 => ref22_Check_k5 o_0 y6 = some r) (fun y6 hF => ?_) (fun J11 => ?_)
         · unfold ref22_Check_k5 at hF
           refine mv rfl rfl <| ?_
           refine G.joinL (T := Bool) 5 (fun y7 => ⟨[(1, .one (.ptr 1001 0)), (71, oB y7)], [(1001, some (.blk 30 [bI .i64 o_0.Kind, bI .i64 o_0.Client, bI .i64 o_0.Site, bI .i64 o_0.To, bI .i64 o_0.At, bI .i64 o_0.How, bS o_0.Key, bS o_0.Value, .g (.d (.sl 1 (List.map encS o_0.Keys))), .g (.d (.sl 2 (List.map encApi_Range o_0.Row.Ranges))), .g (.d (.sl 1 (List.map encI_i64 o_0.Row.Owners))), .g (.d (.sl 1 (List.map encI_i64 o_0.Row.Parents)))]))]⟩) (fun y7 => ref22_Check_k6 o_0 y7 = some r) (fun y7 hF => ?_) (fun J9 => ?_)
           · unfold ref22_Check_k6 at hF
             refine mv rfl rfl <| ?_
             refine ifS hF (fun hc8 hF => ?_) (fun hc8 hF => ?_)
             · refine G.known (t := 72) hc8 rfl <| g10 (op_fieldP (off' := 8) uU rfl ti24 (by decide) rfl ev rfl) rfl rfl rfl <| g11 (op_load1P uU rfl rfl ev rfl) rfl rfl rfl rfl <| g10 (op_lenM uU ev rfl) rfl rfl rfl <| g10 (op_leq ev (ec rfl) rfl) rfl rfl rfl <| p20 (op_pickT ev ev rfl) rfl rfl <| ?_
               refine av rfl rfl <| eO <| ?_
               cases hF
               exact G.ret1 Tryz.results15 (RVar.tmp 2 _) z1 trivial
             refine G.known (t := 72) hc8 rfl <| oN rfl rfl rfl <| oN rfl rfl rfl <| oN rfl rfl rfl <| oN rfl rfl rfl <| p10 (op_pickF ev (ec rfl) rfl) rfl <| ?_
             refine av rfl rfl <| eO <| ?_
             cases hF
             exact G.ret1 Tryz.results15 (RVar.tmp 2 _) z1 trivial
           refine ifS hF (fun hc10 hF => ?_) (fun hc10 hF => ?_)
           · refine G.known (t := 66) hc10 rfl <| g10 (op_fieldP (off' := 7) uU rfl ti9 (by decide) rfl ev rfl) rfl rfl rfl <| g11 (op_load1P uU rfl rfl ev rfl) rfl rfl rfl rfl <| g10 (op_lenS uU ev rfl) rfl rfl rfl <| g10 (op_leq ev (ec rfl) rfl) rfl rfl rfl <| p20 (op_pickT ev ev rfl) rfl rfl <| ?_
             exact G.arr (J9 (decide ((o_0.Value.size : Int) ≤ 32)) hF) z2 z1 rfl
           refine G.known (t := 66) hc10 rfl <| oN rfl rfl rfl <| oN rfl rfl rfl <| oN rfl rfl rfl <| oN rfl rfl rfl <| p10 (op_pickF ev (ec rfl) rfl) rfl <| ?_
           exact G.arr (J9 false hF) z2 z1 rfl
         refine ifS hF (fun hc12 hF => ?_) (fun hc12 hF => ?_)
         · refine G.known (t := 60) hc12 rfl <| g10 (op_fieldP (off' := 6) uU rfl ti9 (by decide) rfl ev rfl) rfl rfl rfl <| g11 (op_load1P uU rfl rfl ev rfl) rfl rfl rfl rfl <| g10 (op_lenS uU ev rfl) rfl rfl rfl <| g10 (op_leq ev (ec rfl) rfl) rfl rfl rfl <| p20 (op_pickT ev ev rfl) rfl rfl <| ?_
           exact G.arr (J11 (decide ((o_0.Key.size : Int) ≤ 32)) hF) z2 z1 rfl
         refine G.known (t := 60) hc12 rfl <| oN rfl rfl rfl <| oN rfl rfl rfl <| oN rfl rfl rfl <| oN rfl rfl rfl <| p10 (op_pickF ev (ec rfl) rfl) rfl <| ?_
         exact G.arr (J11 false hF) z2 z1 rfl
       refine ifS hF (fun hc14 hF => ?_) (fun hc14 hF => ?_)
       · refine G.known (t := 55) hc14 rfl <| g10 (op_fieldP (off' := 0) uU rfl ti3 (by decide) rfl ev rfl) rfl rfl rfl <| g11 (op_load1P uU rfl rfl ev rfl) rfl rfl rfl rfl <| g10 (op_leq ev (ec rfl) rfl) rfl rfl rfl <| p20 (op_pickT ev ev rfl) rfl rfl <| ?_
         exact G.arr (J13 (decide (o_0.Kind ≤ 12)) hF) z2 z1 rfl
       refine G.known (t := 55) hc14 rfl <| oN rfl rfl rfl <| oN rfl rfl rfl <| oN rfl rfl rfl <| p10 (op_pickF ev (ec rfl) rfl) rfl <| ?_
       exact G.arr (J13 false hF) z2 z1 rfl
     refine ifS hF (fun hc16 hF => ?_) (fun hc16 hF => ?_)
     · refine G.known (t := 50) hc16 rfl <| g10 (op_fieldP (off' := 0) uU rfl ti3 (by decide) rfl ev rfl) rfl rfl rfl <| g11 (op_load1P uU rfl rfl ev rfl) rfl rfl rfl rfl <| g10 (op_geq ev (ec rfl) rfl) rfl rfl rfl <| p20 (op_pickT ev ev rfl) rfl rfl <| ?_
       exact G.arr (J15 (decide (1 ≤ o_0.Kind)) hF) z2 z1 rfl
     refine G.known (t := 50) hc16 rfl <| oN rfl rfl rfl <| oN rfl rfl rfl <| oN rfl rfl rfl <| p10 (op_pickF ev (ec rfl) rfl) rfl <| ?_
     exact G.arr (J15 false hF) z2 z1 rfl
   refine bl <| ?_
   refine lF (fun (v18 : Int) => ⟨[(1, .one (.ptr 1001 0)), (5, oI v18)], [(1001, some (.blk 30 [bI .i64 o_0.Kind, bI .i64 o_0.Client, bI .i64 o_0.Site, bI .i64 o_0.To, bI .i64 o_0.At, bI .i64 o_0.How, bS o_0.Key, bS o_0.Value, .g (.d (.sl 1 (List.map encS o_0.Keys))), .g (.d (.sl 2 (List.map encApi_Range o_0.Row.Ranges))), .g (.d (.sl 1 (List.map encI_i64 o_0.Row.Owners))), .g (.d (.sl 1 (List.map encI_i64 o_0.Row.Parents)))]))]⟩) hF z2 z1 rfl (fun K21 again20 v18 J19 hF => ?_)
   unfold ref22_Check_l7 at hF
   refine sq <| sr <| mv rfl rfl <| p10 (op_fieldP (off' := 8) uU rfl ti24 (by decide) rfl ev rfl) rfl <| p11 (op_load1P uU rfl rfl ev rfl) rfl rfl <| p10 (op_lenM uU ev rfl) rfl <| ?_
   refine p20 (op_lss ev ev rfl) rfl rfl <| eO <| ?_
   refine ifS hF (fun hc22 hF => ?_) (fun hc22 hF => ?_)
   · refine cT hc22 rfl <| sk <| sq <| bl <| sr <| p10 (op_fieldP (off' := 8) uU rfl ti24 (by decide) rfl ev rfl) rfl <| ?_
     refine p11 (op_load1P uU rfl rfl ev rfl) rfl rfl <| mv rfl rfl <| bn hF fun x23 hx23 hF => p20 (op_indexM hx23 uU ti9 ev ev rfl) rfl rfl <| p10 (op_load1E uU rfl rfl ev rfl) rfl <| p10 (op_lenS uU ev rfl) rfl <| ?_
     refine p10 (op_gtr ev (ec rfl) rfl) rfl <| eO <| ?_
     refine ifS hF (fun hc24 hF => ?_) (fun hc24 hF => ?_)
     · refine cT hc24 rfl <| sr <| ac rfl rfl <| eO <| ?_
       cases hF
       exact G.ret1 Tryz.results15 (RVar.tmp 2 _) z1 trivial
     refine cF hc24 rfl <| sk <| eB <| rg <| mv rfl rfl <| p10 (op_add ev (ec rfl) rfl) rfl <| ?_
     refine av rfl rfl <| eO <| ?_
     exact G.arr (J19 (IntKind.wrap .i64 (v18 + 1)) hF) z2 z1 rfl
   refine cF hc22 rfl <| ex <| ?_
   refine GX.c ?_
   refine GX.q ?_
   refine xY <| ?_
   exact G.arr (J17 () hF) z1 z1 rfl
 refine bl <| ?_
 refine lF (fun (v26 : Int) => ⟨[(1, .one (.ptr 1001 0)), (3, .one (.ptr 1003 0)), (4, oI v26)], [(1001, some (.blk 30 [bI .i64 o_0.Kind, bI .i64 o_0.Client, bI .i64 o_0.Site, bI .i64 o_0.To, bI .i64 o_0.At, bI .i64 o_0.How, bS o_0.Key, bS o_0.Value, .g (.d (.sl 1 (List.map encS o_0.Keys))), .g (.d (.sl 2 (List.map encApi_Range o_0.Row.Ranges))), .g (.d (.sl 1 (List.map encI_i64 o_0.Row.Owners))), .g (.d (.sl 1 (List.map encI_i64 o_0.Row.Parents)))])), (1003, some (.blk 68 (dat (List.flatMap encI_i64 ([o_0.Client, o_0.Site, o_0.To, o_0.At, o_0.How])))))]⟩) hF z3 z2 (by simp only [wellId, List.all_cons, List.all_nil, HE.ids, ids_dat]; rfl) (fun K29 again28 v26 J27 hF => ?_)
 unfold ref22_Check_l8 at hF
 refine sq <| sr <| mv rfl rfl <| p10 (op_lss ev (ec rfl) rfl) rfl <| eO <| ?_
 refine ifS hF (fun hc30 hF => ?_) (fun hc30 hF => ?_)
 · refine cT hc30 rfl <| sk <| sq <| bl <| sr <| mv rfl rfl <| ?_
   refine bn hF fun x31 hx31 hF => p20 (op_indexA uU ti3 (aidx_ok hx31).1 (aidx_ok hx31).2.1 ev ev rfl) rfl rfl <| p11 (op_load1P uU rfl (arr_at1 hx31 (fun _ => rfl) rfl) ev rfl) rfl rfl <| p10 (op_lss ev (ec rfl) rfl) rfl <| mv rfl rfl <| ?_
   refine ifS hF (fun hc32 hF => ?_) (fun hc32 hF => ?_)
   · refine G.known (t := 26) hc32 rfl <| oN rfl rfl rfl <| oN rfl rfl rfl <| oN rfl rfl rfl <| oN rfl rfl rfl <| p10 (op_pickT ev (ec rfl) rfl) rfl <| ?_
     refine eO <| ?_
     refine G.condT rfl ?_
     refine sr <| ac rfl rfl <| eO <| ?_
     cases hF
     exact G.ret1 Tryz.results15 (RVar.tmp 2 _) z1 trivial
   refine G.known (t := 26) hc32 rfl <| g10 (op_move ev rfl) rfl rfl rfl <| bn hF fun x33 hx33 hF => g20 (op_indexA uU ti3 (aidx_ok hx33).1 (aidx_ok hx33).2.1 ev ev rfl) rfl rfl rfl rfl <| g11 (op_load1P uU rfl (arr_at1 hx33 (fun _ => rfl) rfl) ev rfl) rfl rfl rfl rfl <| g10 (op_gtr ev (ec rfl) rfl) rfl rfl rfl <| ?_
   refine p20 (op_pickF ev ev rfl) rfl rfl <| eO <| ?_
   refine ifS hF (fun hc34 hF => ?_) (fun hc34 hF => ?_)
   · refine cT hc34 rfl <| sr <| ac rfl rfl <| eO <| ?_
     cases hF
     exact G.ret1 Tryz.results15 (RVar.tmp 2 _) z1 trivial
   refine cF hc34 rfl <| sk <| eB <| rg <| mv rfl rfl <| p10 (op_add ev (ec rfl) rfl) rfl <| ?_
   refine av rfl rfl <| eO <| ?_
   exact G.arr (J27 (IntKind.wrap .i64 (v26 + 1)) hF) z3 z2 (by simp only [wellId, List.all_cons, List.all_nil, HE.ids, ids_dat]; rfl)
 refine cF hc30 rfl <| ex <| ?_
 refine GX.c ?_
 refine GX.q ?_
 refine xY <| ?_
 exact G.arr (J25 () hF) z1 z1 rfl


theorem ct_ref24_names (r : (List ByteArray)) (hF : ref24_names = some r) : Ct Tryz.prog 44 [] (.one (.agg (List.flatMap encS r))) := by
 unfold ref24_names at hF
 refine Ct.intro Tryz.func44 rfl Tryz.ntmps44 rfl rfl fun M w => ?_
 refine sr <| q01 (op_alloc (k := 1000) (cs := dat (List.flatMap encS (List.replicate 13 ByteArray.empty))) ti73 ⟨.v _ rfl, .v _ rfl, .v _ rfl, .v _ rfl, .v _ rfl, .v _ rfl, .v _ rfl, .v _ rfl, .v _ rfl, .v _ rfl, .v _ rfl, .v _ rfl, .v _ rfl, trivial⟩ rfl) rfl <| esr <| p00 (op_buildA (zs := [vS ByteArray.empty, vS ByteArray.empty, vS ByteArray.empty, vS ByteArray.empty, vS ByteArray.empty, vS ByteArray.empty, vS ByteArray.empty, vS ByteArray.empty, vS ByteArray.empty, vS ByteArray.empty, vS ByteArray.empty, vS ByteArray.empty, vS ByteArray.empty]) (ds := List.flatMap encS [ByteArray.empty, (ByteArray.mk #[112, 117, 116]), (ByteArray.mk #[100, 101, 108]), (ByteArray.mk #[103, 101, 116]), (ByteArray.mk #[108, 101, 97, 118, 101]), (ByteArray.mk #[101, 110, 116, 101, 114]), (ByteArray.mk #[98, 101, 103, 105, 110]), (ByteArray.mk #[101, 110, 100]), (ByteArray.mk #[112, 105, 99, 107]), (ByteArray.mk #[97, 103, 97, 105, 110]), (ByteArray.mk #[115, 116, 101, 112]), (ByteArray.mk #[99, 108, 101, 97, 110]), (ByteArray.mk #[114, 111, 119])]) uU ti73 ti9 ⟨.v _ rfl, .v _ rfl, .v _ rfl, .v _ rfl, .v _ rfl, .v _ rfl, .v _ rfl, .v _ rfl, .v _ rfl, .v _ rfl, .v _ rfl, .v _ rfl, .v _ rfl, trivial⟩ (.cons (ec rfl) (.cons (ec rfl) (.cons (ec rfl) (.cons (ec rfl) (.cons (ec rfl) (.cons (ec rfl) (.cons (ec rfl) (.cons (ec rfl) (.cons (ec rfl) (.cons (ec rfl) (.cons (ec rfl) (.cons (ec rfl) (.cons (ec rfl) .nil))))))))))))) rfl rfl) <| w21 (op_storeA (ds := List.flatMap encS ([ByteArray.empty, (ByteArray.mk #[112, 117, 116]), (ByteArray.mk #[100, 101, 108]), (ByteArray.mk #[103, 101, 116]), (ByteArray.mk #[108, 101, 97, 118, 101]), (ByteArray.mk #[101, 110, 116, 101, 114]), (ByteArray.mk #[98, 101, 103, 105, 110]), (ByteArray.mk #[101, 110, 100]), (ByteArray.mk #[112, 105, 99, 107]), (ByteArray.mk #[97, 103, 97, 105, 110]), (ByteArray.mk #[115, 116, 101, 112]), (ByteArray.mk #[99, 108, 101, 97, 110]), (ByteArray.mk #[114, 111, 119])])) (cs' := dat (List.flatMap encS ([ByteArray.empty, (ByteArray.mk #[112, 117, 116]), (ByteArray.mk #[100, 101, 108]), (ByteArray.mk #[103, 101, 116]), (ByteArray.mk #[108, 101, 97, 118, 101]), (ByteArray.mk #[101, 110, 116, 101, 114]), (ByteArray.mk #[98, 101, 103, 105, 110]), (ByteArray.mk #[101, 110, 100]), (ByteArray.mk #[112, 105, 99, 107]), (ByteArray.mk #[97, 103, 97, 105, 110]), (ByteArray.mk #[115, 116, 101, 112]), (ByteArray.mk #[99, 108, 101, 97, 110]), (ByteArray.mk #[114, 111, 119])]))) ti73 rfl rfl ev ev) rfl rfl rfl <| eO <| ?_
 cases hF
 exact G.ret1 Tryz.results44 (RVar.cellA (ds := List.flatMap encS ([ByteArray.empty, (ByteArray.mk #[112, 117, 116]), (ByteArray.mk #[100, 101, 108]), (ByteArray.mk #[103, 101, 116]), (ByteArray.mk #[108, 101, 97, 118, 101]), (ByteArray.mk #[101, 110, 116, 101, 114]), (ByteArray.mk #[98, 101, 103, 105, 110]), (ByteArray.mk #[101, 110, 100]), (ByteArray.mk #[112, 105, 99, 107]), (ByteArray.mk #[97, 103, 97, 105, 110]), (ByteArray.mk #[115, 116, 101, 112]), (ByteArray.mk #[99, 108, 101, 97, 110]), (ByteArray.mk #[114, 111, 119])])) uU rfl ti73 rfl) z1 z1


theorem ct_ref24_small (n_0 : Int) (r : ByteArray) (hF : ref24_small n_0 = some r) : Ct Tryz.prog 45 [.g (.d (vI n_0))] (.one (.d (vS r))) := by
 unfold ref24_small at hF
 refine Ct.intro Tryz.func45 rfl Tryz.ntmps45 rfl rfl fun M w => ?_
 refine sr <| ac rfl rfl <| eO <| sq <| sr <| mv rfl rfl <| ?_
 refine p10 (op_lss ev (ec rfl) rfl) rfl <| eO <| ?_
 refine ifS hF (fun hc1 hF => ?_) (fun hc1 hF => ?_)
 · refine cT hc1 rfl <| sr <| mv rfl rfl <| p10 (op_add (ec rfl) ev rfl) rfl <| p10 (op_convI uU uU ev rfl) rfl <| p10 (op_buildSlice (es := List.map encI_u8 [IntKind.wrap .u8 (IntKind.wrap .i64 (48 + n_0))]) uU ti5 rfl rfl (.cons ev .nil) rfl rfl (by simp [encI_u8]) rfl) rfl <| ?_
   refine p10 (op_toText (ns := [IntKind.wrap .u8 (IntKind.wrap .i64 (48 + n_0))]) uU uU uU rfl ev rfl) rfl <| av rfl rfl <| eO <| ?_
   cases hF
   exact G.ret1 Tryz.results45 (RVar.tmp 2 _) z1 trivial
 refine cF hc1 rfl <| sk <| sr <| mv rfl rfl <| p10 (op_quo (by decide) ev (ec rfl) rfl) rfl <| p10 (op_rem (by decide) ev (ec rfl) rfl) rfl <| ?_
 refine p10 (op_add (ec rfl) ev rfl) rfl <| p10 (op_convI uU uU ev rfl) rfl <| mv rfl rfl <| p10 (op_rem (by decide) ev (ec rfl) rfl) rfl <| p10 (op_add (ec rfl) ev rfl) rfl <| p10 (op_convI uU uU ev rfl) rfl <| ?_
 refine p20 (op_buildSlice (es := List.map encI_u8 [IntKind.wrap .u8 (IntKind.wrap .i64 (48 + (Int.tmod (IntKind.wrap .i64 (Int.tdiv n_0 10)) 10))), IntKind.wrap .u8 (IntKind.wrap .i64 (48 + (Int.tmod n_0 10)))]) uU ti5 rfl rfl (.cons ev (.cons ev .nil)) rfl rfl (by simp [encI_u8]) rfl) rfl rfl <| p10 (op_toText (ns := [IntKind.wrap .u8 (IntKind.wrap .i64 (48 + (Int.tmod (IntKind.wrap .i64 (Int.tdiv n_0 10)) 10))), IntKind.wrap .u8 (IntKind.wrap .i64 (48 + (Int.tmod n_0 10)))]) uU uU uU rfl ev rfl) rfl <| av rfl rfl <| eO <| ?_
 cases hF
 exact G.ret1 Tryz.results45 (RVar.tmp 2 _) z1 trivial


theorem ct_ref24_plain (c_0 : Int) (r : Bool) (hF : ref24_plain c_0 = some r) : Ct Tryz.prog 71 [.g (.d (.v (.int .u8 c_0)))] (.one (.d (vB r))) := by
 unfold ref24_plain at hF
 refine Ct.intro Tryz.func71 rfl Tryz.ntmps71 rfl rfl fun M w => ?_
 refine sr <| ac rfl rfl <| esr <| mv rfl rfl <| p10 (op_geq ev (ec rfl) rfl) rfl <| mv rfl rfl <| ?_
 refine G.joinL (T := Bool) 3 (fun y1 => ⟨[(0, .one (bI .u8 c_0)), (8, oB y1)], []⟩) (fun y1 => ref24_plain_k1 c_0 y1 = some r) (fun y1 hF => ?_) (fun J4 => ?_)
 · unfold ref24_plain_k1 at hF
   refine mv rfl rfl <| ?_
   refine ifS hF (fun hc2 hF => ?_) (fun hc2 hF => ?_)
   · refine G.known (t := 9) hc2 rfl <| g10 (op_move ev rfl) rfl rfl rfl <| g10 (op_neI ev (ec rfl) rfl) rfl rfl rfl <| p20 (op_pickT ev ev rfl) rfl rfl <| mv rfl rfl <| ?_
     refine ifS hF (fun hc3 hF => ?_) (fun hc3 hF => ?_)
     · refine G.known (t := 13) hc3 rfl <| g10 (op_move ev rfl) rfl rfl rfl <| g10 (op_neI ev (ec rfl) rfl) rfl rfl rfl <| p20 (op_pickT ev ev rfl) rfl rfl <| av rfl rfl <| eO <| ?_
       cases hF
       exact G.ret1 Tryz.results71 (RVar.tmp 2 _) z1 trivial
     refine G.known (t := 13) hc3 rfl <| oN rfl rfl rfl <| oN rfl rfl rfl <| p10 (op_pickF ev (ec rfl) rfl) rfl <| av rfl rfl <| eO <| ?_
     cases hF
     exact G.ret1 Tryz.results71 (RVar.tmp 2 _) z1 trivial
   refine G.known (t := 9) hc2 rfl <| oN rfl rfl rfl <| oN rfl rfl rfl <| p10 (op_pickF ev (ec rfl) rfl) rfl <| mv rfl rfl <| oN rfl rfl rfl <| ?_
   refine oN rfl rfl rfl <| p10 (op_pickF ev (ec rfl) rfl) rfl <| av rfl rfl <| eO <| ?_
   cases hF
   exact G.ret1 Tryz.results71 (RVar.tmp 2 _) z1 trivial
 refine ifS hF (fun hc5 hF => ?_) (fun hc5 hF => ?_)
 · refine G.known (t := 5) hc5 rfl <| g10 (op_move ev rfl) rfl rfl rfl <| g10 (op_leq ev (ec rfl) rfl) rfl rfl rfl <| p20 (op_pickT ev ev rfl) rfl rfl <| ?_
   exact G.arr (J4 (decide (c_0 ≤ 126)) hF) z2 trivial rfl
 refine G.known (t := 5) hc5 rfl <| oN rfl rfl rfl <| oN rfl rfl rfl <| p10 (op_pickF ev (ec rfl) rfl) rfl <| ?_
 exact G.arr (J4 false hF) z2 trivial rfl


theorem ct_ref24_Quote (s_0 : ByteArray) (r : ByteArray) (hF : ref24_Quote s_0 = some r) : Ct Tryz.prog 46 [.g (.d (vS s_0))] (.one (.d (vS r))) := by
 unfold ref24_Quote at hF
 refine Ct.intro Tryz.func46 rfl Tryz.ntmps46 rfl rfl fun M w => ?_
 refine sr <| ac rfl rfl <| esr <| ac rfl rfl <| esr <| ac rfl rfl <| ?_
 refine eO <| sq <| sr <| ac rfl rfl <| eO <| ?_
 refine G.joinC (T := ByteArray) (fun y1 => ⟨[(4, oS y1)], []⟩) (fun y1 => ref24_Quote_k1 y1 = some r) (fun y1 hF => ?_) (fun J3 => ?_)
 · unfold ref24_Quote_k1 at hF
   refine sr <| mv rfl rfl <| bn hF fun s2 hs2 hF => p10 (op_catM hs2 ev (ec rfl) rfl) rfl <| av rfl rfl <| eO <| ?_
   cases hF
   exact G.ret1 Tryz.results46 (RVar.tmp 2 _) z1 trivial
 refine bl <| ?_
 refine lF (fun (v4 : ByteArray × Int) => ⟨[(0, oS s_0), (3, oS (ByteArray.mk #[48, 49, 50, 51, 52, 53, 54, 55, 56, 57, 97, 98, 99, 100, 101, 102])), (4, oS v4.1), (5, oI v4.2)], []⟩) hF z4 trivial rfl (fun K7 again6 v4 J5 hF => ?_)
 unfold ref24_Quote_l2 at hF
 refine sq <| sr <| mv rfl rfl <| mv rfl rfl <| p10 (op_lenS uU ev rfl) rfl <| p20 (op_lss ev ev rfl) rfl rfl <| ?_
 refine eO <| ?_
 refine ifS hF (fun hc8 hF => ?_) (fun hc8 hF => ?_)
 · refine cT hc8 rfl <| sk <| sq <| bl <| sr <| mv rfl rfl <| ?_
   refine mv rfl rfl <| bn hF fun b9 hb9 hF => p20 (op_indexS uU (sidx_ok hb9).1 (sidx_ok hb9).2 ev ev rfl) rfl rfl <| av rfl rfl <| esr <| mv rfl rfl <| ?_
   refine bn hF fun r10 hr10 hF => p10 (op_callQ cf71 (ct_ref24_plain _ _ hr10) rfl rfl (.cons qe .nil) rfl) rfl <| av rfl rfl <| esr <| mv rfl rfl <| eO <| ?_
   refine ifS hF (fun hc11 hF => ?_) (fun hc11 hF => ?_)
   · refine cT hc11 rfl <| rg <| mv rfl rfl <| mv rfl rfl <| mv rfl rfl <| mv rfl rfl <| ?_
     refine p10 (op_add ev (ec rfl) rfl) rfl <| bn hF fun s12 hs12 hF => p30 (op_sliceK ev ev hs12 uU ev rfl) rfl rfl rfl <| bn hF fun s13 hs13 hF => p20 (op_catM hs13 ev ev rfl) rfl rfl <| av rfl rfl <| ?_
     refine eO <| eB <| rg <| mv rfl rfl <| p10 (op_add ev (ec rfl) rfl) rfl <| av rfl rfl <| ?_
     refine eO <| ?_
     exact G.arr (J5 (s13, IntKind.wrap .i64 (v4.2 + 1)) hF) z4 trivial rfl
   refine cF hc11 rfl <| bn hF fun s14 hs14 hF => bn hF fun s15 hs15 hF => bn hF fun s16 hs16 hF => bn hF fun s17 hs17 hF => bn hF fun s18 hs18 hF => ?_
   refine G.drawnI (deps := [[], [0], [], [], [3], [], [5], [5, 6], [2, 3, 4, 5, 6, 7], [0, 1, 2, 3, 4, 5, 6, 7, 8], [], [], [11], [], [13], [13, 14], [10, 11, 12, 13, 14, 15], [0, 1, 2, 3, 4, 5, 6, 7, 8, 9, 10, 11, 12, 13, 14, 15, 16], [0, 1, 2, 3, 4, 5, 6, 7, 8, 9, 10, 11, 12, 13, 14, 15, 16, 17]]) (sl' := [(0, oS s_0), (3, oS (ByteArray.mk #[48, 49, 50, 51, 52, 53, 54, 55, 56, 57, 97, 98, 99, 100, 101, 102])), (4, oS s18), (5, oI v4.2)]) (hp' := []) (.c (oP rfl rfl (op_move ev rfl)) (.c (oP rfl rfl (op_catM hs14 ev (ec rfl) rfl)) (.c (oP rfl rfl (op_move ev rfl)) (.c (oP rfl rfl (op_move ev rfl)) (.c (oP rfl rfl (op_quo (by decide) ev (ec rfl) rfl)) (.c (oP rfl rfl (op_move ev rfl)) (.c (oP rfl rfl (op_quo (by decide) ev (ec rfl) rfl)) (.c (oP rfl rfl (op_add ev (ec rfl) rfl)) (.c (oP rfl rfl (op_sliceK ev ev hs15 uU ev rfl)) (.c (oP rfl rfl (op_catM hs16 ev ev rfl)) (.c (oP rfl rfl (op_move ev rfl)) (.c (oP rfl rfl (op_move ev rfl)) (.c (oP rfl rfl (op_rem (by decide) ev (ec rfl) rfl)) (.c (oP rfl rfl (op_move ev rfl)) (.c (oP rfl rfl (op_rem (by decide) ev (ec rfl) rfl)) (.c (oP rfl rfl (op_add ev (ec rfl) rfl)) (.c (oP rfl rfl (op_sliceK ev ev hs17 uU ev rfl)) (.c (oP rfl rfl (op_catM hs18 ev ev rfl)) (.c (oP rfl rfl (op_assign ev rfl)) .nil))))))))))))))))))) follows rfl rfl rfl ⟨⟨⟨rfl, rfl⟩, trivial⟩, trivial, ⟨rfl, trivial⟩, trivial, ⟨rfl, trivial⟩, trivial, ⟨rfl, trivial⟩, trivial, ⟨rfl, trivial⟩, trivial, ⟨rfl, trivial⟩, trivial, ⟨rfl, trivial⟩, trivial, ⟨rfl, trivial⟩, trivial, ⟨rfl, rfl, rfl, trivial⟩, trivial, ⟨rfl, rfl, trivial⟩, trivial, ⟨rfl, trivial⟩, trivial, ⟨rfl, trivial⟩, trivial, ⟨rfl, trivial⟩, trivial, ⟨rfl, trivial⟩, trivial, ⟨rfl, trivial⟩, trivial, ⟨rfl, trivial⟩, trivial, ⟨rfl, rfl, rfl, trivial⟩, trivial, ⟨rfl, rfl, trivial⟩, trivial, ⟨rfl, trivial⟩, trivial, trivial⟩ ⟨rfl, rfl, rfl, rfl, trivial⟩ trivial rfl ?_
   refine eB <| rg <| mv rfl rfl <| p10 (op_add ev (ec rfl) rfl) rfl <| av rfl rfl <| eO <| ?_
   exact G.arr (J5 (s18, IntKind.wrap .i64 (v4.2 + 1)) hF) z4 trivial rfl
 refine cF hc8 rfl <| ex <| ?_
 refine GX.c ?_
 refine GX.q ?_
 refine xY <| ?_
 exact G.arr (J3 v4.1 hF) z1 trivial rfl


theorem ct_ref24_line (o_0 : Api_Op) (r : ByteArray) (hF : ref24_line o_0 = some r) : Ct Tryz.prog 17 [.g (.agg (encApi_Op o_0))] (.one (.d (vS r))) := by
 unfold ref24_line at hF
 refine Ct.intro Tryz.func17 rfl Tryz.ntmps17 rfl rfl fun M w => ?_
 refine sr <| q11 (op_boxA (k := 1001) ev rfl) rfl rfl <| ac rfl rfl <| esr <| bn hF fun r1 hr1 hF => p00 (op_call cf44 (ct_ref24_names _ hr1) rfl .nil rfl) <| ?_
 refine q01 (op_alloc (k := 1003) (cs := dat (List.flatMap encS (List.replicate 13 ByteArray.empty))) ti73 ⟨.v _ rfl, .v _ rfl, .v _ rfl, .v _ rfl, .v _ rfl, .v _ rfl, .v _ rfl, .v _ rfl, .v _ rfl, .v _ rfl, .v _ rfl, .v _ rfl, .v _ rfl, trivial⟩ rfl) rfl <| ?_
 have hl_r1 : r1.length = 13 := by (unfold ref24_names at hr1; cases hr1; rfl)
 refine w21 (op_storeW ti73 (by rw [flat_len (size := 1) (fun _ => rfl) r1, hl_r1]) rfl ev ev) rfl rfl rfl <| esr <| p10 (op_fieldP (off' := 0) uU rfl ti3 (by decide) rfl ev rfl) rfl <| p11 (op_load1P uU rfl rfl ev rfl) rfl rfl <| bn hF fun x2 hx2 hF => p20 (op_indexA uU ti9 (aidx_ok hx2).1 (aidx_ok hx2).2.1 ev ev rfl) rfl rfl <| ?_
 refine p11 (op_load1P uU rfl (arr_at1 hx2 (fun _ => rfl) rfl) ev rfl) rfl rfl <| av rfl rfl <| eO <| sq <| sr <| p10 (op_fieldP (off' := 0) uU rfl ti3 (by decide) rfl ev rfl) rfl <| ?_
 refine p11 (op_load1P uU rfl rfl ev rfl) rfl rfl <| eO <| ?_
 refine G.joinC (T := ByteArray) (fun y3 => ⟨[(4, oS y3)], []⟩) (fun y3 => ref24_line_k1 y3 = some r) (fun y3 hF => ?_) (fun J5 => ?_)
 · unfold ref24_line_k1 at hF
   refine sr <| mv rfl rfl <| bn hF fun s4 hs4 hF => p10 (op_catM hs4 ev (ec rfl) rfl) rfl <| av rfl rfl <| eO <| ?_
   cases hF
   exact G.ret1 Tryz.results17 (RVar.tmp 2 _) z1 trivial
 refine bl <| sr <| p10 (op_eqI ev (ec rfl) rfl) rfl <| av rfl rfl <| eO <| ?_
 refine ifS hF (fun hc6 hF => ?_) (fun hc6 hF => ?_)
 · refine cT hc6 rfl <| bn hF fun s7 hs7 hF => bn hF fun r8 hr8 hF => bn hF fun s9 hs9 hF => bn hF fun s10 hs10 hF => bn hF fun r11 hr11 hF => ?_
   refine bn hF fun s12 hs12 hF => bn hF fun s13 hs13 hF => bn hF fun r14 hr14 hF => bn hF fun s15 hs15 hF => ?_
   refine G.drawnI (deps := [[], [0], [], [2], [2, 3], [0, 1, 2, 3, 4], [0, 1, 2, 3, 4, 5], [], [7], [2, 3, 4, 7, 8], [0, 1, 2, 3, 4, 5, 6, 7, 8, 9], [0, 1, 2, 3, 4, 5, 6, 7, 8, 9, 10], [], [12], [2, 3, 4, 7, 8, 9, 12, 13], [0, 1, 2, 3, 4, 5, 6, 7, 8, 9, 10, 11, 12, 13, 14], [0, 1, 2, 3, 4, 5, 6, 7, 8, 9, 10, 11, 12, 13, 14, 15]]) (sl' := [(4, oS s15)]) (hp' := []) (.c (oP rfl rfl (op_move ev rfl)) (.c (oP rfl rfl (op_catM hs7 ev (ec rfl) rfl)) (.c (oP rfl rfl (op_fieldP (off' := 1) uU rfl ti3 (by decide) rfl ev rfl)) (.c (oP rfl rfl (op_load1P uU rfl rfl ev rfl)) (.c (oP rfl rfl (op_callQ cf45 (ct_ref24_small _ _ hr8) rfl rfl (.cons qe .nil) rfl)) (.c (oP rfl rfl (op_catM hs9 ev ev rfl)) (.c (oP rfl rfl (op_catM hs10 ev (ec rfl) rfl)) (.c (oP rfl rfl (op_fieldP (off' := 6) uU rfl ti9 (by decide) rfl ev rfl)) (.c (oP rfl rfl (op_load1P uU rfl rfl ev rfl)) (.c (oP rfl rfl (op_callQ cf46 (ct_ref24_Quote _ _ hr11) rfl rfl (.cons qe .nil) rfl)) (.c (oP rfl rfl (op_catM hs12 ev ev rfl)) (.c (oP rfl rfl (op_catM hs13 ev (ec rfl) rfl)) (.c (oP rfl rfl (op_fieldP (off' := 7) uU rfl ti9 (by decide) rfl ev rfl)) (.c (oP rfl rfl (op_load1P uU rfl rfl ev rfl)) (.c (oP rfl rfl (op_callQ cf46 (ct_ref24_Quote _ _ hr14) rfl rfl (.cons qe .nil) rfl)) (.c (oP rfl rfl (op_catM hs15 ev ev rfl)) (.c (oP rfl rfl (op_assign ev rfl)) .nil))))))))))))))))) follows rfl rfl rfl ⟨⟨⟨rfl, rfl⟩, trivial⟩, trivial, ⟨rfl, trivial⟩, trivial, ⟨rfl, trivial⟩, trivial, ⟨rfl, trivial⟩, ⟨⟨rfl, rfl⟩, trivial⟩, ⟨rfl, trivial⟩, trivial, ⟨rfl, rfl, trivial⟩, trivial, ⟨rfl, trivial⟩, trivial, ⟨rfl, trivial⟩, trivial, ⟨rfl, trivial⟩, ⟨⟨rfl, rfl⟩, trivial⟩, ⟨rfl, trivial⟩, trivial, ⟨rfl, rfl, trivial⟩, trivial, ⟨rfl, trivial⟩, trivial, ⟨rfl, trivial⟩, trivial, ⟨rfl, trivial⟩, ⟨⟨rfl, rfl⟩, trivial⟩, ⟨rfl, trivial⟩, trivial, ⟨rfl, rfl, trivial⟩, trivial, ⟨rfl, trivial⟩, trivial, trivial⟩ ⟨rfl, trivial⟩ trivial rfl ?_
   refine eB <| ?_
   exact G.arr (J5 s15 hF) z1 trivial rfl
 refine cF hc6 rfl <| sq <| sr <| p10 (op_eqI ev (ec rfl) rfl) rfl <| av rfl rfl <| eO <| ?_
 refine G.joinC (T := Bool) (fun y16 => ⟨[(1, .one (.ptr 1001 0)), (4, oS x2), (14, oI o_0.Kind), (33, oB y16)], [(1001, some (.blk 30 [bI .i64 o_0.Kind, bI .i64 o_0.Client, bI .i64 o_0.Site, bI .i64 o_0.To, bI .i64 o_0.At, bI .i64 o_0.How, bS o_0.Key, bS o_0.Value, .g (.d (.sl 1 (List.map encS o_0.Keys))), .g (.d (.sl 2 (List.map encApi_Range o_0.Row.Ranges))), .g (.d (.sl 1 (List.map encI_i64 o_0.Row.Owners))), .g (.d (.sl 1 (List.map encI_i64 o_0.Row.Parents)))]))]⟩) (fun y16 => ref24_line_k2 o_0 x2 y16 = some r) (fun y16 hF => ?_) (fun J109 => ?_)
 · unfold ref24_line_k2 at hF
   refine ifS hF (fun hc17 hF => ?_) (fun hc17 hF => ?_)
   · refine cT hc17 rfl <| bn hF fun s18 hs18 hF => bn hF fun r19 hr19 hF => bn hF fun s20 hs20 hF => bn hF fun s21 hs21 hF => bn hF fun r22 hr22 hF => ?_
     refine bn hF fun s23 hs23 hF => ?_
     refine G.drawnI (deps := [[], [0], [], [2], [2, 3], [0, 1, 2, 3, 4], [0, 1, 2, 3, 4, 5], [], [7], [2, 3, 4, 7, 8], [0, 1, 2, 3, 4, 5, 6, 7, 8, 9], [0, 1, 2, 3, 4, 5, 6, 7, 8, 9, 10]]) (sl' := [(4, oS s23)]) (hp' := []) (.c (oP rfl rfl (op_move ev rfl)) (.c (oP rfl rfl (op_catM hs18 ev (ec rfl) rfl)) (.c (oP rfl rfl (op_fieldP (off' := 1) uU rfl ti3 (by decide) rfl ev rfl)) (.c (oP rfl rfl (op_load1P uU rfl rfl ev rfl)) (.c (oP rfl rfl (op_callQ cf45 (ct_ref24_small _ _ hr19) rfl rfl (.cons qe .nil) rfl)) (.c (oP rfl rfl (op_catM hs20 ev ev rfl)) (.c (oP rfl rfl (op_catM hs21 ev (ec rfl) rfl)) (.c (oP rfl rfl (op_fieldP (off' := 6) uU rfl ti9 (by decide) rfl ev rfl)) (.c (oP rfl rfl (op_load1P uU rfl rfl ev rfl)) (.c (oP rfl rfl (op_callQ cf46 (ct_ref24_Quote _ _ hr22) rfl rfl (.cons qe .nil) rfl)) (.c (oP rfl rfl (op_catM hs23 ev ev rfl)) (.c (oP rfl rfl (op_assign ev rfl)) .nil)))))))))))) follows rfl rfl rfl ⟨⟨⟨rfl, rfl⟩, trivial⟩, trivial, ⟨rfl, trivial⟩, trivial, ⟨rfl, trivial⟩, trivial, ⟨rfl, trivial⟩, ⟨⟨rfl, rfl⟩, trivial⟩, ⟨rfl, trivial⟩, trivial, ⟨rfl, rfl, trivial⟩, trivial, ⟨rfl, trivial⟩, trivial, ⟨rfl, trivial⟩, trivial, ⟨rfl, trivial⟩, ⟨⟨rfl, rfl⟩, trivial⟩, ⟨rfl, trivial⟩, trivial, ⟨rfl, rfl, trivial⟩, trivial, ⟨rfl, trivial⟩, trivial, trivial⟩ ⟨rfl, trivial⟩ trivial rfl ?_
     refine eB <| ?_
     exact G.arr (J5 s23 hF) z1 trivial rfl
   refine cF hc17 rfl <| sq <| sr <| p10 (op_eqI ev (ec rfl) rfl) rfl <| av rfl rfl <| eO <| ?_
   refine G.joinC (T := Bool) (fun y24 => ⟨[(1, .one (.ptr 1001 0)), (4, oS x2), (14, oI o_0.Kind), (47, oB y24)], [(1001, some (.blk 30 [bI .i64 o_0.Kind, bI .i64 o_0.Client, bI .i64 o_0.Site, bI .i64 o_0.To, bI .i64 o_0.At, bI .i64 o_0.How, bS o_0.Key, bS o_0.Value, .g (.d (.sl 1 (List.map encS o_0.Keys))), .g (.d (.sl 2 (List.map encApi_Range o_0.Row.Ranges))), .g (.d (.sl 1 (List.map encI_i64 o_0.Row.Owners))), .g (.d (.sl 1 (List.map encI_i64 o_0.Row.Parents)))]))]⟩) (fun y24 => ref24_line_k3 o_0 x2 y24 = some r) (fun y24 hF => ?_) (fun J107 => ?_)
   · unfold ref24_line_k3 at hF
     refine ifS hF (fun hc25 hF => ?_) (fun hc25 hF => ?_)
     · refine cT hc25 rfl <| rg <| mv rfl rfl <| bn hF fun s26 hs26 hF => p10 (op_catM hs26 ev (ec rfl) rfl) rfl <| p10 (op_fieldP (off' := 1) uU rfl ti3 (by decide) rfl ev rfl) rfl <| ?_
       refine p11 (op_load1P uU rfl rfl ev rfl) rfl rfl <| bn hF fun r27 hr27 hF => p10 (op_callQ cf45 (ct_ref24_small _ _ hr27) rfl rfl (.cons qe .nil) rfl) rfl <| bn hF fun s28 hs28 hF => p20 (op_catM hs28 ev ev rfl) rfl rfl <| av rfl rfl <| ?_
       refine eO <| eB <| ?_
       exact G.arr (J5 s28 hF) z1 trivial rfl
     refine cF hc25 rfl <| sr <| p10 (op_eqI ev (ec rfl) rfl) rfl <| av rfl rfl <| eO <| ?_
     refine ifS hF (fun hc29 hF => ?_) (fun hc29 hF => ?_)
     · refine cT hc29 rfl <| bn hF fun s30 hs30 hF => bn hF fun r31 hr31 hF => bn hF fun s32 hs32 hF => bn hF fun s33 hs33 hF => bn hF fun r34 hr34 hF => ?_
       refine bn hF fun s35 hs35 hF => ?_
       refine G.drawnI (deps := [[], [0], [], [2], [2, 3], [0, 1, 2, 3, 4], [0, 1, 2, 3, 4, 5], [], [7], [2, 3, 4, 7, 8], [0, 1, 2, 3, 4, 5, 6, 7, 8, 9], [0, 1, 2, 3, 4, 5, 6, 7, 8, 9, 10]]) (sl' := [(4, oS s35)]) (hp' := []) (.c (oP rfl rfl (op_move ev rfl)) (.c (oP rfl rfl (op_catM hs30 ev (ec rfl) rfl)) (.c (oP rfl rfl (op_fieldP (off' := 1) uU rfl ti3 (by decide) rfl ev rfl)) (.c (oP rfl rfl (op_load1P uU rfl rfl ev rfl)) (.c (oP rfl rfl (op_callQ cf45 (ct_ref24_small _ _ hr31) rfl rfl (.cons qe .nil) rfl)) (.c (oP rfl rfl (op_catM hs32 ev ev rfl)) (.c (oP rfl rfl (op_catM hs33 ev (ec rfl) rfl)) (.c (oP rfl rfl (op_fieldP (off' := 2) uU rfl ti3 (by decide) rfl ev rfl)) (.c (oP rfl rfl (op_load1P uU rfl rfl ev rfl)) (.c (oP rfl rfl (op_callQ cf45 (ct_ref24_small _ _ hr34) rfl rfl (.cons qe .nil) rfl)) (.c (oP rfl rfl (op_catM hs35 ev ev rfl)) (.c (oP rfl rfl (op_assign ev rfl)) .nil)))))))))))) follows rfl rfl rfl ⟨⟨⟨rfl, rfl⟩, trivial⟩, trivial, ⟨rfl, trivial⟩, trivial, ⟨rfl, trivial⟩, trivial, ⟨rfl, trivial⟩, ⟨⟨rfl, rfl⟩, trivial⟩, ⟨rfl, trivial⟩, trivial, ⟨rfl, rfl, trivial⟩, trivial, ⟨rfl, trivial⟩, trivial, ⟨rfl, trivial⟩, trivial, ⟨rfl, trivial⟩, ⟨⟨rfl, rfl⟩, trivial⟩, ⟨rfl, trivial⟩, trivial, ⟨rfl, rfl, trivial⟩, trivial, ⟨rfl, trivial⟩, trivial, trivial⟩ ⟨rfl, trivial⟩ trivial rfl ?_
       refine eB <| ?_
       exact G.arr (J5 s35 hF) z1 trivial rfl
     refine cF hc29 rfl <| sr <| p10 (op_eqI ev (ec rfl) rfl) rfl <| av rfl rfl <| eO <| ?_
     refine ifS hF (fun hc36 hF => ?_) (fun hc36 hF => ?_)
     · refine cT hc36 rfl <| sr <| mv rfl rfl <| bn hF fun s37 hs37 hF => p10 (op_catM hs37 ev (ec rfl) rfl) rfl <| p10 (op_fieldP (off' := 1) uU rfl ti3 (by decide) rfl ev rfl) rfl <| ?_
       refine p11 (op_load1P uU rfl rfl ev rfl) rfl rfl <| bn hF fun r38 hr38 hF => p10 (op_callQ cf45 (ct_ref24_small _ _ hr38) rfl rfl (.cons qe .nil) rfl) rfl <| bn hF fun s39 hs39 hF => p20 (op_catM hs39 ev ev rfl) rfl rfl <| av rfl rfl <| ?_
       refine esr <| ac rfl rfl <| eO <| ?_
       refine G.joinC (T := ByteArray) (fun y40 => ⟨[(4, oS y40)], []⟩) (fun y40 => ref24_line_k4 y40 = some r) (fun y40 hF => ?_) (fun J41 => ?_)
       · unfold ref24_line_k4 at hF
         refine eB <| ?_
         exact G.arr (J5 y40 hF) z1 trivial rfl
       refine bl <| ?_
       refine lF (fun (v42 : ByteArray × Int) => ⟨[(1, .one (.ptr 1001 0)), (4, oS v42.1), (5, oI v42.2)], [(1001, some (.blk 30 [bI .i64 o_0.Kind, bI .i64 o_0.Client, bI .i64 o_0.Site, bI .i64 o_0.To, bI .i64 o_0.At, bI .i64 o_0.How, bS o_0.Key, bS o_0.Value, .g (.d (.sl 1 (List.map encS o_0.Keys))), .g (.d (.sl 2 (List.map encApi_Range o_0.Row.Ranges))), .g (.d (.sl 1 (List.map encI_i64 o_0.Row.Owners))), .g (.d (.sl 1 (List.map encI_i64 o_0.Row.Parents)))]))]⟩) hF z3 z1 rfl (fun K45 again44 v42 J43 hF => ?_)
       unfold ref24_line_l5 at hF
       refine sq <| sr <| mv rfl rfl <| p10 (op_fieldP (off' := 8) uU rfl ti24 (by decide) rfl ev rfl) rfl <| p11 (op_load1P uU rfl rfl ev rfl) rfl rfl <| p10 (op_lenM uU ev rfl) rfl <| ?_
       refine p20 (op_lss ev ev rfl) rfl rfl <| eO <| ?_
       refine ifS hF (fun hc46 hF => ?_) (fun hc46 hF => ?_)
       · refine cT hc46 rfl <| sk <| sq <| bl <| rg <| mv rfl rfl <| ?_
         refine bn hF fun s47 hs47 hF => p10 (op_catM hs47 ev (ec rfl) rfl) rfl <| p10 (op_fieldP (off' := 8) uU rfl ti24 (by decide) rfl ev rfl) rfl <| p11 (op_load1P uU rfl rfl ev rfl) rfl rfl <| mv rfl rfl <| bn hF fun x48 hx48 hF => ?_
         refine p20 (op_indexM hx48 uU ti9 ev ev rfl) rfl rfl <| p10 (op_load1E uU rfl rfl ev rfl) rfl <| bn hF fun r49 hr49 hF => p10 (op_callQ cf46 (ct_ref24_Quote _ _ hr49) rfl rfl (.cons qe .nil) rfl) rfl <| bn hF fun s50 hs50 hF => p20 (op_catM hs50 ev ev rfl) rfl rfl <| ?_
         refine av rfl rfl <| eO <| eB <| rg <| mv rfl rfl <| p10 (op_add ev (ec rfl) rfl) rfl <| ?_
         refine av rfl rfl <| eO <| ?_
         exact G.arr (J43 (s50, IntKind.wrap .i64 (v42.2 + 1)) hF) z3 z1 rfl
       refine cF hc46 rfl <| ex <| ?_
       refine GX.c ?_
       refine GX.q ?_
       refine xY <| ?_
       exact G.arr (J41 v42.1 hF) z1 trivial rfl
     refine cF hc36 rfl <| sr <| p10 (op_eqI ev (ec rfl) rfl) rfl <| av rfl rfl <| eO <| ?_
     refine ifS hF (fun hc51 hF => ?_) (fun hc51 hF => ?_)
     · refine cT hc51 rfl <| bn hF fun s52 hs52 hF => bn hF fun r53 hr53 hF => bn hF fun s54 hs54 hF => bn hF fun s55 hs55 hF => bn hF fun r56 hr56 hF => ?_
       refine bn hF fun s57 hs57 hF => bn hF fun s58 hs58 hF => bn hF fun r59 hr59 hF => bn hF fun s60 hs60 hF => bn hF fun s61 hs61 hF => bn hF fun r62 hr62 hF => ?_
       refine bn hF fun s63 hs63 hF => ?_
       refine G.drawnI (deps := ([] :: [0] :: [] :: [2] :: [2, 3] :: [0, 1, 2, 3, 4] :: [0, 1, 2, 3, 4, 5] :: [] :: [7] :: [2, 3, 4, 7, 8] :: [0, 1, 2, 3, 4, 5, 6, 7, 8, 9] :: [0, 1, 2, 3, 4, 5, 6, 7, 8, 9, 10] :: [] :: [12] :: [2, 3, 4, 7, 8, 9, 12, 13] :: [0, 1, 2, 3, 4, 5, 6, 7, 8, 9, 10, 11, 12, 13, 14] :: [0, 1, 2, 3, 4, 5, 6, 7, 8, 9, 10, 11, 12, 13, 14, 15] :: [] :: [17] :: [2, 3, 4, 7, 8, 9, 12, 13, 14, 17, 18] :: [0, 1, 2, 3, 4, 5, 6, 7, 8, 9, 10, 11, 12, 13, 14, 15, 16, 17, 18, 19] :: (0 :: 1 :: 2 :: 3 :: 4 :: 5 :: 6 :: 7 :: 8 :: 9 :: 10 :: 11 :: 12 :: 13 :: 14 :: 15 :: 16 :: 17 :: 18 :: 19 :: 20 :: []) :: [])) (sl' := [(4, oS s63)]) (hp' := []) (.c (oP rfl rfl (op_move ev rfl)) (.c (oP rfl rfl (op_catM hs52 ev (ec rfl) rfl)) (.c (oP rfl rfl (op_fieldP (off' := 2) uU rfl ti3 (by decide) rfl ev rfl)) (.c (oP rfl rfl (op_load1P uU rfl rfl ev rfl)) (.c (oP rfl rfl (op_callQ cf45 (ct_ref24_small _ _ hr53) rfl rfl (.cons qe .nil) rfl)) (.c (oP rfl rfl (op_catM hs54 ev ev rfl)) (.c (oP rfl rfl (op_catM hs55 ev (ec rfl) rfl)) (.c (oP rfl rfl (op_fieldP (off' := 3) uU rfl ti3 (by decide) rfl ev rfl)) (.c (oP rfl rfl (op_load1P uU rfl rfl ev rfl)) (.c (oP rfl rfl (op_callQ cf45 (ct_ref24_small _ _ hr56) rfl rfl (.cons qe .nil) rfl)) (.c (oP rfl rfl (op_catM hs57 ev ev rfl)) (.c (oP rfl rfl (op_catM hs58 ev (ec rfl) rfl)) (.c (oP rfl rfl (op_fieldP (off' := 4) uU rfl ti3 (by decide) rfl ev rfl)) (.c (oP rfl rfl (op_load1P uU rfl rfl ev rfl)) (.c (oP rfl rfl (op_callQ cf45 (ct_ref24_small _ _ hr59) rfl rfl (.cons qe .nil) rfl)) (.c (oP rfl rfl (op_catM hs60 ev ev rfl)) (.c (oP rfl rfl (op_catM hs61 ev (ec rfl) rfl)) (.c (oP rfl rfl (op_fieldP (off' := 5) uU rfl ti3 (by decide) rfl ev rfl)) (.c (oP rfl rfl (op_load1P uU rfl rfl ev rfl)) (.c (oP rfl rfl (op_callQ cf45 (ct_ref24_small _ _ hr62) rfl rfl (.cons qe .nil) rfl)) (.c (oP rfl rfl (op_catM hs63 ev ev rfl)) (.c (oP rfl rfl (op_assign ev rfl)) .nil)))))))))))))))))))))) follows rfl rfl rfl ⟨⟨⟨rfl, rfl⟩, trivial⟩, trivial, ⟨rfl, trivial⟩, trivial, ⟨rfl, trivial⟩, trivial, ⟨rfl, trivial⟩, ⟨⟨rfl, rfl⟩, trivial⟩, ⟨rfl, trivial⟩, trivial, ⟨rfl, rfl, trivial⟩, trivial, ⟨rfl, trivial⟩, trivial, ⟨rfl, trivial⟩, trivial, ⟨rfl, trivial⟩, ⟨⟨rfl, rfl⟩, trivial⟩, ⟨rfl, trivial⟩, trivial, ⟨rfl, rfl, trivial⟩, trivial, ⟨rfl, trivial⟩, trivial, ⟨rfl, trivial⟩, trivial, ⟨rfl, trivial⟩, ⟨⟨rfl, rfl⟩, trivial⟩, ⟨rfl, trivial⟩, trivial, ⟨rfl, rfl, trivial⟩, trivial, ⟨rfl, trivial⟩, trivial, ⟨rfl, trivial⟩, trivial, ⟨rfl, trivial⟩, ⟨⟨rfl, rfl⟩, trivial⟩, ⟨rfl, trivial⟩, trivial, ⟨rfl, rfl, trivial⟩, trivial, ⟨rfl, trivial⟩, trivial, trivial⟩ ⟨rfl, trivial⟩ trivial rfl ?_
       refine eB <| ?_
       exact G.arr (J5 s63 hF) z1 trivial rfl
     refine cF hc51 rfl <| sr <| p10 (op_eqI ev (ec rfl) rfl) rfl <| av rfl rfl <| eO <| ?_
     refine ifS hF (fun hc64 hF => ?_) (fun hc64 hF => ?_)
     · refine cT hc64 rfl <| bn hF fun s65 hs65 hF => bn hF fun r66 hr66 hF => bn hF fun s67 hs67 hF => bn hF fun s68 hs68 hF => bn hF fun r69 hr69 hF => ?_
       refine bn hF fun s70 hs70 hF => ?_
       refine G.drawnI (deps := [[], [0], [], [2], [2, 3], [0, 1, 2, 3, 4], [0, 1, 2, 3, 4, 5], [], [7], [2, 3, 4, 7, 8], [0, 1, 2, 3, 4, 5, 6, 7, 8, 9], [0, 1, 2, 3, 4, 5, 6, 7, 8, 9, 10]]) (sl' := [(4, oS s70)]) (hp' := []) (.c (oP rfl rfl (op_move ev rfl)) (.c (oP rfl rfl (op_catM hs65 ev (ec rfl) rfl)) (.c (oP rfl rfl (op_fieldP (off' := 2) uU rfl ti3 (by decide) rfl ev rfl)) (.c (oP rfl rfl (op_load1P uU rfl rfl ev rfl)) (.c (oP rfl rfl (op_callQ cf45 (ct_ref24_small _ _ hr66) rfl rfl (.cons qe .nil) rfl)) (.c (oP rfl rfl (op_catM hs67 ev ev rfl)) (.c (oP rfl rfl (op_catM hs68 ev (ec rfl) rfl)) (.c (oP rfl rfl (op_fieldP (off' := 3) uU rfl ti3 (by decide) rfl ev rfl)) (.c (oP rfl rfl (op_load1P uU rfl rfl ev rfl)) (.c (oP rfl rfl (op_callQ cf45 (ct_ref24_small _ _ hr69) rfl rfl (.cons qe .nil) rfl)) (.c (oP rfl rfl (op_catM hs70 ev ev rfl)) (.c (oP rfl rfl (op_assign ev rfl)) .nil)))))))))))) follows rfl rfl rfl ⟨⟨⟨rfl, rfl⟩, trivial⟩, trivial, ⟨rfl, trivial⟩, trivial, ⟨rfl, trivial⟩, trivial, ⟨rfl, trivial⟩, ⟨⟨rfl, rfl⟩, trivial⟩, ⟨rfl, trivial⟩, trivial, ⟨rfl, rfl, trivial⟩, trivial, ⟨rfl, trivial⟩, trivial, ⟨rfl, trivial⟩, trivial, ⟨rfl, trivial⟩, ⟨⟨rfl, rfl⟩, trivial⟩, ⟨rfl, trivial⟩, trivial, ⟨rfl, rfl, trivial⟩, trivial, ⟨rfl, trivial⟩, trivial, trivial⟩ ⟨rfl, trivial⟩ trivial rfl ?_
       refine eB <| ?_
       exact G.arr (J5 s70 hF) z1 trivial rfl
     refine cF hc64 rfl <| sr <| p10 (op_eqI ev (ec rfl) rfl) rfl <| av rfl rfl <| eO <| ?_
     refine ifS hF (fun hc71 hF => ?_) (fun hc71 hF => ?_)
     · refine cT hc71 rfl <| rg <| mv rfl rfl <| bn hF fun s72 hs72 hF => p10 (op_catM hs72 ev (ec rfl) rfl) rfl <| p10 (op_fieldP (off' := 2) uU rfl ti3 (by decide) rfl ev rfl) rfl <| ?_
       refine p11 (op_load1P uU rfl rfl ev rfl) rfl rfl <| bn hF fun r73 hr73 hF => p10 (op_callQ cf45 (ct_ref24_small _ _ hr73) rfl rfl (.cons qe .nil) rfl) rfl <| bn hF fun s74 hs74 hF => p20 (op_catM hs74 ev ev rfl) rfl rfl <| av rfl rfl <| ?_
       refine eO <| eB <| ?_
       exact G.arr (J5 s74 hF) z1 trivial rfl
     refine cF hc71 rfl <| sr <| p10 (op_eqI ev (ec rfl) rfl) rfl <| av rfl rfl <| eO <| ?_
     refine ifS hF (fun hc75 hF => ?_) (fun hc75 hF => ?_)
     · refine cT hc75 rfl <| sq <| sr <| ac rfl rfl <| eO <| ?_
       refine G.joinC (T := ByteArray) (fun y76 => ⟨[(1, .one (.ptr 1001 0)), (4, oS y76)], [(1001, some (.blk 30 [bI .i64 o_0.Kind, bI .i64 o_0.Client, bI .i64 o_0.Site, bI .i64 o_0.To, bI .i64 o_0.At, bI .i64 o_0.How, bS o_0.Key, bS o_0.Value, .g (.d (.sl 1 (List.map encS o_0.Keys))), .g (.d (.sl 2 (List.map encApi_Range o_0.Row.Ranges))), .g (.d (.sl 1 (List.map encI_i64 o_0.Row.Owners))), .g (.d (.sl 1 (List.map encI_i64 o_0.Row.Parents)))]))]⟩) (fun y76 => ref24_line_k6 o_0 y76 = some r) (fun y76 hF => ?_) (fun J92 => ?_)
       · unfold ref24_line_k6 at hF
         refine sr <| mv rfl rfl <| bn hF fun s77 hs77 hF => p10 (op_catM hs77 ev (ec rfl) rfl) rfl <| av rfl rfl <| esr <| ?_
         refine ac rfl rfl <| eO <| ?_
         refine G.joinC (T := ByteArray) (fun y78 => ⟨[(4, oS y78)], []⟩) (fun y78 => ref24_line_k7 y78 = some r) (fun y78 hF => ?_) (fun J79 => ?_)
         · unfold ref24_line_k7 at hF
           refine eB <| ?_
           exact G.arr (J5 y78 hF) z1 trivial rfl
         refine bl <| ?_
         refine lF (fun (v80 : ByteArray × Int) => ⟨[(1, .one (.ptr 1001 0)), (4, oS v80.1), (7, oI v80.2)], [(1001, some (.blk 30 [bI .i64 o_0.Kind, bI .i64 o_0.Client, bI .i64 o_0.Site, bI .i64 o_0.To, bI .i64 o_0.At, bI .i64 o_0.How, bS o_0.Key, bS o_0.Value, .g (.d (.sl 1 (List.map encS o_0.Keys))), .g (.d (.sl 2 (List.map encApi_Range o_0.Row.Ranges))), .g (.d (.sl 1 (List.map encI_i64 o_0.Row.Owners))), .g (.d (.sl 1 (List.map encI_i64 o_0.Row.Parents)))]))]⟩) hF z3 z1 rfl (fun K83 again82 v80 J81 hF => ?_)
         unfold ref24_line_l8 at hF
         refine sq <| sr <| mv rfl rfl <| p10 (op_fieldP (off' := 9) uU rfl ti28 (by decide) rfl ev rfl) rfl <| p10 (op_fieldP (off' := 11) uU rfl ti26 (by decide) rfl ev rfl) rfl <| p11 (op_load1P uU rfl rfl ev rfl) rfl rfl <| ?_
         refine p10 (op_lenM uU ev rfl) rfl <| p20 (op_lss ev ev rfl) rfl rfl <| eO <| ?_
         refine ifS hF (fun hc84 hF => ?_) (fun hc84 hF => ?_)
         · refine cT hc84 rfl <| sk <| sq <| bl <| sr <| p10 (op_fieldP (off' := 9) uU rfl ti28 (by decide) rfl ev rfl) rfl <| ?_
           refine p10 (op_fieldP (off' := 11) uU rfl ti26 (by decide) rfl ev rfl) rfl <| p11 (op_load1P uU rfl rfl ev rfl) rfl rfl <| mv rfl rfl <| bn hF fun x85 hx85 hF => p20 (op_indexM hx85 uU ti3 ev ev rfl) rfl rfl <| p10 (op_load1E uU rfl rfl ev rfl) rfl <| ?_
           refine p10 (op_lss ev (ec rfl) rfl) rfl <| eO <| ?_
           refine ifS hF (fun hc86 hF => ?_) (fun hc86 hF => ?_)
           · refine cT hc86 rfl <| rg <| mv rfl rfl <| bn hF fun s87 hs87 hF => p10 (op_catM hs87 ev (ec rfl) rfl) rfl <| av rfl rfl <| ?_
             refine eO <| eB <| rg <| mv rfl rfl <| p10 (op_add ev (ec rfl) rfl) rfl <| av rfl rfl <| ?_
             refine eO <| ?_
             exact G.arr (J81 (s87, IntKind.wrap .i64 (v80.2 + 1)) hF) z3 z1 rfl
           refine cF hc86 rfl <| rg <| mv rfl rfl <| bn hF fun s88 hs88 hF => p10 (op_catM hs88 ev (ec rfl) rfl) rfl <| p10 (op_fieldP (off' := 9) uU rfl ti28 (by decide) rfl ev rfl) rfl <| ?_
           refine p10 (op_fieldP (off' := 11) uU rfl ti26 (by decide) rfl ev rfl) rfl <| p11 (op_load1P uU rfl rfl ev rfl) rfl rfl <| mv rfl rfl <| bn hF fun x89 hx89 hF => p20 (op_indexM hx89 uU ti3 ev ev rfl) rfl rfl <| p10 (op_load1E uU rfl rfl ev rfl) rfl <| ?_
           refine bn hF fun r90 hr90 hF => p10 (op_callQ cf45 (ct_ref24_small _ _ hr90) rfl rfl (.cons qe .nil) rfl) rfl <| bn hF fun s91 hs91 hF => p20 (op_catM hs91 ev ev rfl) rfl rfl <| av rfl rfl <| eO <| ?_
           refine eB <| rg <| mv rfl rfl <| p10 (op_add ev (ec rfl) rfl) rfl <| av rfl rfl <| eO <| ?_
           exact G.arr (J81 (s91, IntKind.wrap .i64 (v80.2 + 1)) hF) z3 z1 rfl
         refine cF hc84 rfl <| ex <| ?_
         refine GX.c ?_
         refine GX.q ?_
         refine xY <| ?_
         exact G.arr (J79 v80.1 hF) z1 trivial rfl
       refine bl <| ?_
       refine lF (fun (v93 : ByteArray × Int) => ⟨[(1, .one (.ptr 1001 0)), (4, oS v93.1), (6, oI v93.2)], [(1001, some (.blk 30 [bI .i64 o_0.Kind, bI .i64 o_0.Client, bI .i64 o_0.Site, bI .i64 o_0.To, bI .i64 o_0.At, bI .i64 o_0.How, bS o_0.Key, bS o_0.Value, .g (.d (.sl 1 (List.map encS o_0.Keys))), .g (.d (.sl 2 (List.map encApi_Range o_0.Row.Ranges))), .g (.d (.sl 1 (List.map encI_i64 o_0.Row.Owners))), .g (.d (.sl 1 (List.map encI_i64 o_0.Row.Parents)))]))]⟩) hF z3 z1 rfl (fun K96 again95 v93 J94 hF => ?_)
       unfold ref24_line_l9 at hF
       refine sq <| sr <| mv rfl rfl <| p10 (op_fieldP (off' := 9) uU rfl ti28 (by decide) rfl ev rfl) rfl <| p10 (op_fieldP (off' := 10) uU rfl ti26 (by decide) rfl ev rfl) rfl <| p11 (op_load1P uU rfl rfl ev rfl) rfl rfl <| ?_
       refine p10 (op_lenM uU ev rfl) rfl <| p20 (op_lss ev ev rfl) rfl rfl <| eO <| ?_
       refine ifS hF (fun hc97 hF => ?_) (fun hc97 hF => ?_)
       · refine cT hc97 rfl <| sk <| sq <| bl <| sr <| mv rfl rfl <| ?_
         refine bn hF fun s98 hs98 hF => p10 (op_catM hs98 ev (ec rfl) rfl) rfl <| p10 (op_fieldP (off' := 9) uU rfl ti28 (by decide) rfl ev rfl) rfl <| p10 (op_fieldP (off' := 10) uU rfl ti26 (by decide) rfl ev rfl) rfl <| p11 (op_load1P uU rfl rfl ev rfl) rfl rfl <| mv rfl rfl <| ?_
         refine bn hF fun x99 hx99 hF => p20 (op_indexM hx99 uU ti3 ev ev rfl) rfl rfl <| p10 (op_load1E uU rfl rfl ev rfl) rfl <| bn hF fun r100 hr100 hF => p10 (op_callQ cf45 (ct_ref24_small _ _ hr100) rfl rfl (.cons qe .nil) rfl) rfl <| bn hF fun s101 hs101 hF => ?_
         refine p20 (op_catM hs101 ev ev rfl) rfl rfl <| av rfl rfl <| esr <| mv rfl rfl <| p10 (op_add ev (ec rfl) rfl) rfl <| p10 (op_fieldP (off' := 9) uU rfl ti28 (by decide) rfl ev rfl) rfl <| ?_
         refine p10 (op_fieldP (off' := 10) uU rfl ti26 (by decide) rfl ev rfl) rfl <| p11 (op_load1P uU rfl rfl ev rfl) rfl rfl <| p10 (op_lenM uU ev rfl) rfl <| p20 (op_lss ev ev rfl) rfl rfl <| eO <| ?_
         refine ifS hF (fun hc102 hF => ?_) (fun hc102 hF => ?_)
         · refine cT hc102 rfl <| rg <| mv rfl rfl <| bn hF fun s103 hs103 hF => p10 (op_catM hs103 ev (ec rfl) rfl) rfl <| p10 (op_fieldP (off' := 9) uU rfl ti28 (by decide) rfl ev rfl) rfl <| ?_
           refine p10 (op_fieldP (off' := 9) uU rfl ti25 (by decide) rfl ev rfl) rfl <| p11 (op_load1P uU rfl rfl ev rfl) rfl rfl <| mv rfl rfl <| bn hF fun x104 hx104 hF => p20 (op_indexM hx104 uU ti39 ev ev rfl) rfl rfl <| p10 (op_fieldE uU rfl ti9 (by decide) rfl ev rfl) rfl <| ?_
           refine p10 (op_load1E uU rfl rfl ev rfl) rfl <| bn hF fun r105 hr105 hF => p10 (op_callQ cf46 (ct_ref24_Quote _ _ hr105) rfl rfl (.cons qe .nil) rfl) rfl <| bn hF fun s106 hs106 hF => p20 (op_catM hs106 ev ev rfl) rfl rfl <| av rfl rfl <| ?_
           refine eO <| eB <| rg <| mv rfl rfl <| p10 (op_add ev (ec rfl) rfl) rfl <| av rfl rfl <| ?_
           refine eO <| ?_
           exact G.arr (J94 (s106, IntKind.wrap .i64 (v93.2 + 1)) hF) z3 z1 rfl
         refine cF hc102 rfl <| sk <| eB <| rg <| mv rfl rfl <| p10 (op_add ev (ec rfl) rfl) rfl <| ?_
         refine av rfl rfl <| eO <| ?_
         exact G.arr (J94 (s101, IntKind.wrap .i64 (v93.2 + 1)) hF) z3 z1 rfl
       refine cF hc97 rfl <| ex <| ?_
       refine GX.c ?_
       refine GX.q ?_
       refine xY <| ?_
       exact G.arr (J92 v93.1 hF) z2 z1 rfl
     refine cF hc75 rfl <| sk <| eB <| ?_
     exact G.arr (J5 x2 hF) z1 trivial rfl
   refine ifS hF (fun hc108 hF => ?_) (fun hc108 hF => ?_)
   · refine cT hc108 rfl <| sk <| ?_
     exact G.arr (J107 (decide (o_0.Kind = 4)) hF) z4 z1 rfl
   refine cF hc108 rfl <| rg <| p10 (op_eqI ev (ec rfl) rfl) rfl <| av rfl rfl <| eO <| ?_
   exact G.arr (J107 (decide (o_0.Kind = 7)) hF) z4 z1 rfl
 refine ifS hF (fun hc110 hF => ?_) (fun hc110 hF => ?_)
 · refine cT hc110 rfl <| sk <| ?_
   exact G.arr (J109 (decide (o_0.Kind = 2)) hF) z4 z1 rfl
 refine cF hc110 rfl <| rg <| p10 (op_eqI ev (ec rfl) rfl) rfl <| av rfl rfl <| eO <| ?_
 exact G.arr (J109 (decide (o_0.Kind = 3)) hF) z4 z1 rfl


theorem ct_ref24_lines (s_0 : ByteArray) (r : (List ByteArray)) (hF : ref24_lines s_0 = some r) : Ct Tryz.prog 40 [.g (.d (vS s_0))] (.one (.d (.sl 1 (List.map encS r)))) := by
 unfold ref24_lines at hF
 refine Ct.intro Tryz.func40 rfl Tryz.ntmps40 rfl rfl fun M w => ?_
 refine sr <| p00 (op_assign (Ev.n 1) rfl) <| esr <| q01 (op_assignRow (E := 9) (size := 1) (k := 2003) (ex := false) rfl rfl) rfl <| esr <| ac rfl rfl <| ?_
 refine eO <| sq <| sr <| ac rfl rfl <| eO <| ?_
 refine G.joinC (T := Int × (List ByteArray)) (fun y1 => ⟨[(0, oS s_0), (3, .one (.own 2003 (List.map encS y1.2))), (4, oI y1.1)], [(2003, some (.row 9 1 (List.map encS y1.2) false))]⟩) (fun y1 => ref24_lines_k1 s_0 y1 = some r) (fun y1 hF => ?_) (fun J4 => ?_)
 · unfold ref24_lines_k1 at hF
   refine sr <| mv rfl rfl <| mv rfl rfl <| mv rfl rfl <| bn hF fun s2 hs2 hF => p20 (op_sliceM (.some ev) .none hs2 uU ev rfl) rfl rfl <| ?_
   refine p10 (op_buildSlice (es := List.map encS [s2]) uU ti9 rfl rfl (.cons ev .nil) rfl rfl (by simp [encS]) rfl) rfl <| bn hF fun l3 hl3 hF => q21 (op_appendO uU ti9 rfl (app_map hl3 encS) (app_b1 hl3 encS) (app_b2 hl3 encS) ev ev rfl) rfl rfl rfl <| av rfl rfl <| eO <| ?_
   refine G.view (t := 2) rfl rfl ?_
   cases hF
   exact G.ret1 Tryz.results40 (RVar.tmp 2 _) z1 trivial
 refine bl <| ?_
 refine lF (fun (v5 : Int × Int × (List ByteArray)) => ⟨[(0, oS s_0), (3, .one (.own 2003 (List.map encS v5.2.2))), (4, oI v5.1), (5, oI v5.2.1)], [(2003, some (.row 9 1 (List.map encS v5.2.2) false))]⟩) hF z4 z1 rfl (fun K8 again7 v5 J6 hF => ?_)
 unfold ref24_lines_l2 at hF
 refine sq <| sr <| mv rfl rfl <| mv rfl rfl <| p10 (op_lenS uU ev rfl) rfl <| p20 (op_lss ev ev rfl) rfl rfl <| ?_
 refine eO <| ?_
 refine ifS hF (fun hc9 hF => ?_) (fun hc9 hF => ?_)
 · refine cT hc9 rfl <| sk <| sq <| bl <| sr <| mv rfl rfl <| ?_
   refine mv rfl rfl <| bn hF fun b10 hb10 hF => p20 (op_indexS uU (sidx_ok hb10).1 (sidx_ok hb10).2 ev ev rfl) rfl rfl <| p10 (op_eqI ev (ec rfl) rfl) rfl <| eO <| ?_
   refine ifS hF (fun hc11 hF => ?_) (fun hc11 hF => ?_)
   · refine cT hc11 rfl <| sr <| mv rfl rfl <| mv rfl rfl <| mv rfl rfl <| mv rfl rfl <| ?_
     refine bn hF fun s12 hs12 hF => p30 (op_sliceK ev ev hs12 uU ev rfl) rfl rfl rfl <| p10 (op_buildSlice (es := List.map encS [s12]) uU ti9 rfl rfl (.cons ev .nil) rfl rfl (by simp [encS]) rfl) rfl <| bn hF fun l13 hl13 hF => q21 (op_appendO uU ti9 rfl (app_map hl13 encS) (app_b1 hl13 encS) (app_b2 hl13 encS) ev ev rfl) rfl rfl rfl <| av rfl rfl <| ?_
     refine eO <| rg <| mv rfl rfl <| p10 (op_add ev (ec rfl) rfl) rfl <| av rfl rfl <| eO <| ?_
     refine eB <| rg <| mv rfl rfl <| p10 (op_add ev (ec rfl) rfl) rfl <| av rfl rfl <| eO <| ?_
     exact G.arr (J6 (IntKind.wrap .i64 (v5.2.1 + 1), IntKind.wrap .i64 (v5.2.1 + 1), l13) hF) z4 z1 rfl
   refine cF hc11 rfl <| sk <| eB <| rg <| mv rfl rfl <| p10 (op_add ev (ec rfl) rfl) rfl <| ?_
   refine av rfl rfl <| eO <| ?_
   exact G.arr (J6 (v5.1, IntKind.wrap .i64 (v5.2.1 + 1), v5.2.2) hF) z4 z1 rfl
 refine cF hc9 rfl <| ex <| ?_
 refine GX.c ?_
 refine GX.q ?_
 refine xY <| ?_
 exact G.arr (J4 (v5.1, v5.2.2) hF) z3 z1 rfl


theorem ct_ref24_silent (line_0 : ByteArray) (r : Bool) (hF : ref24_silent line_0 = some r) : Ct Tryz.prog 41 [.g (.d (vS line_0))] (.one (.d (vB r))) := by
 unfold ref24_silent at hF
 refine Ct.intro Tryz.func41 rfl Tryz.ntmps41 rfl rfl fun M w => ?_
 refine sr <| ac rfl rfl <| eO <| sq <| sr <| ac rfl rfl <| ?_
 refine eO <| ?_
 refine G.joinC (T := Unit) (fun y1 => ⟨[], []⟩) (fun y1 => ref24_silent_k1 y1 = some r) (fun y1 hF => ?_) (fun J2 => ?_)
 · unfold ref24_silent_k1 at hF
   refine sr <| ac rfl rfl <| eO <| ?_
   cases hF
   exact G.ret1 Tryz.results41 (RVar.tmp 2 _) z1 trivial
 refine bl <| ?_
 refine lF (fun (v3 : Int) => ⟨[(0, oS line_0), (3, oI v3)], []⟩) hF z2 trivial rfl (fun K6 again5 v3 J4 hF => ?_)
 unfold ref24_silent_l2 at hF
 refine sq <| sr <| mv rfl rfl <| mv rfl rfl <| p10 (op_lenS uU ev rfl) rfl <| p20 (op_lss ev ev rfl) rfl rfl <| ?_
 refine eO <| ?_
 refine ifS hF (fun hc7 hF => ?_) (fun hc7 hF => ?_)
 · refine cT hc7 rfl <| sk <| sq <| bl <| sq <| ?_
   refine G.joinC (T := Bool) (fun y8 => ⟨[(0, oS line_0), (3, oI v3), (19, oB y8)], []⟩) (fun y8 => ref24_silent_k3 line_0 again5 v3 y8 = some r) (fun y8 hF => ?_) (fun J11 => ?_)
   · unfold ref24_silent_k3 at hF
     refine ifS hF (fun hc9 hF => ?_) (fun hc9 hF => ?_)
     · refine cT hc9 rfl <| sr <| mv rfl rfl <| mv rfl rfl <| bn hF fun b10 hb10 hF => p20 (op_indexS uU (sidx_ok hb10).1 (sidx_ok hb10).2 ev ev rfl) rfl rfl <| ?_
       refine p10 (op_eqI ev (ec rfl) rfl) rfl <| av rfl rfl <| eO <| ?_
       cases hF
       exact G.ret1 Tryz.results41 (RVar.tmp 2 _) z1 trivial
     refine cF hc9 rfl <| sk <| eB <| rg <| mv rfl rfl <| p10 (op_add ev (ec rfl) rfl) rfl <| ?_
     refine av rfl rfl <| eO <| ?_
     exact G.arr (J4 (IntKind.wrap .i64 (v3 + 1)) hF) z2 trivial rfl
   refine rg <| mv rfl rfl <| mv rfl rfl <| bn hF fun b12 hb12 hF => p20 (op_indexS uU (sidx_ok hb12).1 (sidx_ok hb12).2 ev ev rfl) rfl rfl <| p10 (op_neI ev (ec rfl) rfl) rfl <| ?_
   refine mv rfl rfl <| ?_
   refine ifS hF (fun hc13 hF => ?_) (fun hc13 hF => ?_)
   · refine G.known (t := 14) hc13 rfl <| g10 (op_move ev rfl) rfl rfl rfl <| g10 (op_move ev rfl) rfl rfl rfl <| bn hF fun b14 hb14 hF => g20 (op_indexS uU (sidx_ok hb14).1 (sidx_ok hb14).2 ev ev rfl) rfl rfl rfl rfl <| g10 (op_neI ev (ec rfl) rfl) rfl rfl rfl <| ?_
     refine p20 (op_pickT ev ev rfl) rfl rfl <| eO <| ?_
     exact G.arr (J11 (!decide ((b14.toNat : Int) = 9)) hF) z3 trivial rfl
   refine G.known (t := 14) hc13 rfl <| oN rfl rfl rfl <| oN rfl rfl rfl <| oN rfl rfl rfl <| oN rfl rfl rfl <| p10 (op_pickF ev (ec rfl) rfl) rfl <| ?_
   refine eO <| ?_
   exact G.arr (J11 false hF) z3 trivial rfl
 refine cF hc7 rfl <| ex <| ?_
 refine GX.c ?_
 refine GX.q ?_
 refine xY <| ?_
 exact G.arr (J2 () hF) trivial trivial rfl


theorem ct_ref24_digit (c_0 : Int) (r : Int) (hF : ref24_digit c_0 = some r) : Ct Tryz.prog 110 [.g (.d (.v (.int .u8 c_0)))] (.one (.d (vI r))) := by
 unfold ref24_digit at hF
 refine Ct.intro Tryz.func110 rfl Tryz.ntmps110 rfl rfl fun M w => ?_
 refine sr <| ac rfl rfl <| eO <| sq <| sq <| ?_
 refine G.joinC (T := Bool) (fun y1 => ⟨[(0, .one (bI .u8 c_0)), (8, oB y1)], []⟩) (fun y1 => ref24_digit_k1 c_0 y1 = some r) (fun y1 hF => ?_) (fun J7 => ?_)
 · unfold ref24_digit_k1 at hF
   refine ifS hF (fun hc2 hF => ?_) (fun hc2 hF => ?_)
   · refine cT hc2 rfl <| sr <| mv rfl rfl <| p10 (op_sub ev (ec rfl) rfl) rfl <| p10 (op_convI uU uU ev rfl) rfl <| av rfl rfl <| ?_
     refine eO <| ?_
     cases hF
     exact G.ret1 Tryz.results110 (RVar.tmp 2 _) z1 trivial
   refine cF hc2 rfl <| sk <| sq <| sq <| ?_
   refine G.joinC (T := Bool) (fun y3 => ⟨[(0, .one (bI .u8 c_0)), (17, oB y3)], []⟩) (fun y3 => ref24_digit_k2 c_0 y3 = some r) (fun y3 hF => ?_) (fun J5 => ?_)
   · unfold ref24_digit_k2 at hF
     refine ifS hF (fun hc4 hF => ?_) (fun hc4 hF => ?_)
     · refine cT hc4 rfl <| sr <| mv rfl rfl <| p10 (op_sub ev (ec rfl) rfl) rfl <| p10 (op_convI uU uU ev rfl) rfl <| p10 (op_add ev (ec rfl) rfl) rfl <| ?_
       refine av rfl rfl <| eO <| ?_
       cases hF
       exact G.ret1 Tryz.results110 (RVar.tmp 2 _) z1 trivial
     refine cF hc4 rfl <| sk <| sr <| ac rfl rfl <| eO <| ?_
     cases hF
     exact G.ret1 Tryz.results110 (RVar.tmp 2 _) z1 trivial
   refine rg <| mv rfl rfl <| p10 (op_geq ev (ec rfl) rfl) rfl <| mv rfl rfl <| ?_
   refine ifS hF (fun hc6 hF => ?_) (fun hc6 hF => ?_)
   · refine G.known (t := 14) hc6 rfl <| g10 (op_move ev rfl) rfl rfl rfl <| g10 (op_leq ev (ec rfl) rfl) rfl rfl rfl <| p20 (op_pickT ev ev rfl) rfl rfl <| eO <| ?_
     exact G.arr (J5 (decide (c_0 ≤ 102)) hF) z2 trivial rfl
   refine G.known (t := 14) hc6 rfl <| oN rfl rfl rfl <| oN rfl rfl rfl <| p10 (op_pickF ev (ec rfl) rfl) rfl <| eO <| ?_
   exact G.arr (J5 false hF) z2 trivial rfl
 refine rg <| mv rfl rfl <| p10 (op_geq ev (ec rfl) rfl) rfl <| mv rfl rfl <| ?_
 refine ifS hF (fun hc8 hF => ?_) (fun hc8 hF => ?_)
 · refine G.known (t := 5) hc8 rfl <| g10 (op_move ev rfl) rfl rfl rfl <| g10 (op_leq ev (ec rfl) rfl) rfl rfl rfl <| p20 (op_pickT ev ev rfl) rfl rfl <| eO <| ?_
   exact G.arr (J7 (decide (c_0 ≤ 57)) hF) z2 trivial rfl
 refine G.known (t := 5) hc8 rfl <| oN rfl rfl rfl <| oN rfl rfl rfl <| p10 (op_pickF ev (ec rfl) rfl) rfl <| eO <| ?_
 exact G.arr (J7 false hF) z2 trivial rfl


theorem ct_ref24_quoted (s_0 : ByteArray) (r : Ref24_Got) (hF : ref24_quoted s_0 = some r) : Ct Tryz.prog 95 [.g (.d (vS s_0))] (.one (.agg (encRef24_Got r))) := by
 unfold ref24_quoted at hF
 refine Ct.intro Tryz.func95 rfl Tryz.ntmps95 rfl rfl fun M w => ?_
 refine sr <| q01 (op_alloc (k := 1002) (cs := [bS ByteArray.empty, bI .i64 0]) ti95 ⟨.v _ rfl, .v _ rfl, trivial⟩ rfl) rfl <| esr <| q01 (op_assignRow (E := 5) (size := 1) (k := 2003) (ex := false) rfl rfl) rfl <| esr <| ac rfl rfl <| ?_
 refine eO <| sq <| ?_
 refine G.joinC (T := Int × (List Int)) (fun y1 => ⟨[(0, oS s_0), (2, .one (.ptr 1002 0)), (3, .one (.own 2003 (List.map encI_u8 y1.2))), (4, oI y1.1)], [(1002, some (.blk 95 [bS ByteArray.empty, bI .i64 0])), (2003, some (.row 5 1 (List.map encI_u8 y1.2) false))]⟩) (fun y1 => ref24_quoted_k1 s_0 y1 = some r) (fun y1 hF => ?_) (fun J13 => ?_)
 · unfold ref24_quoted_k1 at hF
   refine sq <| sq <| ?_
   refine G.joinC (T := Bool) (fun y2 => ⟨[(2, .one (.ptr 1002 0)), (3, .one (.own 2003 (List.map encI_u8 y1.2))), (4, oI y1.1), (99, oB y2)], [(1002, some (.blk 95 [bS ByteArray.empty, bI .i64 0])), (2003, some (.row 5 1 (List.map encI_u8 y1.2) false))]⟩) (fun y2 => ref24_quoted_k2 y1 y2 = some r) (fun y2 hF => ?_) (fun J5 => ?_)
   · unfold ref24_quoted_k2 at hF
     refine ifS hF (fun hc3 hF => ?_) (fun hc3 hF => ?_)
     · refine cT hc3 rfl <| sr <| p00 (op_build (zs := [vS ByteArray.empty, vI 0]) (ds := [vS ByteArray.empty, vI 0]) uU ti95 (pl95 _ uU) ⟨.v _ rfl, .v _ rfl, trivial⟩ .nil rfl rfl) <| w21 (op_storeAM ti95 rfl ev ev) rfl rfl rfl <| eO <| ?_
       cases hF
       exact G.ret1 Tryz.results95 (RVar.cellA (ds := [vS ByteArray.empty, vI 0]) uU rfl ti95 rfl) z1 z1
     refine cF hc3 rfl <| sk <| sr <| mv rfl rfl <| ?_
     refine G.view (t := 101) rfl rfl ?_
     refine p10 (op_toText (ns := y1.2) uU uU uU rfl ev rfl) rfl <| bn hF fun s4 hs4 hF => p10 (op_catM hs4 (ec rfl) ev rfl) rfl <| mv rfl rfl <| p10 (op_add ev (ec rfl) rfl) rfl <| p20 (op_build (zs := [vS ByteArray.empty, vI 0]) (ds := [vS s4, vI (IntKind.wrap .i64 (y1.1 + 1))]) uU ti95 (pl95 _ uU) ⟨.v _ rfl, .v _ rfl, trivial⟩ (.cons ev (.cons ev .nil)) rfl rfl) rfl rfl <| ?_
     refine w21 (op_storeAM ti95 rfl ev ev) rfl rfl rfl <| eO <| ?_
     cases hF
     exact G.ret1 Tryz.results95 (RVar.cellA (ds := [vS s4, vI (IntKind.wrap .i64 (y1.1 + 1))]) uU rfl ti95 rfl) z1 z1
   refine rg <| mv rfl rfl <| mv rfl rfl <| p10 (op_lenS uU ev rfl) rfl <| p20 (op_geq ev ev rfl) rfl rfl <| mv rfl rfl <| ?_
   refine ifS hF (fun hc6 hF => ?_) (fun hc6 hF => ?_)
   · refine G.known (t := 79) hc6 rfl <| oN rfl rfl rfl <| oN rfl rfl rfl <| oN rfl rfl rfl <| oN rfl rfl rfl <| oN rfl rfl rfl <| ?_
     refine oN rfl rfl rfl <| ?_
     refine G.opU rfl rfl rfl rfl ?_
     refine G.opU rfl rfl rfl rfl ?_
     refine G.opU rfl rfl rfl rfl ?_
     refine G.opU rfl rfl rfl rfl ?_
     refine G.opU rfl rfl rfl rfl ?_
     refine oN rfl rfl rfl <| oN rfl rfl rfl <| ?_
     refine G.opU rfl rfl rfl rfl ?_
     refine G.opU rfl rfl rfl rfl ?_
     refine G.opU rfl rfl rfl rfl ?_
     refine G.opU rfl rfl rfl rfl ?_
     refine G.opU rfl rfl rfl rfl ?_
     refine oN rfl rfl rfl <| p10 (op_pickT ev (ec rfl) rfl) rfl <| eO <| ?_
     exact G.arr (J5 true hF) z4 z2 rfl
   refine G.known (t := 79) hc6 rfl <| g10 (op_move ev rfl) rfl rfl rfl <| g10 (op_add ev (ec rfl) rfl) rfl rfl rfl <| g10 (op_move ev rfl) rfl rfl rfl <| g10 (op_lenS uU ev rfl) rfl rfl rfl <| g20 (op_lss ev ev rfl) rfl rfl rfl rfl <| ?_
   refine g10 (op_move ev rfl) rfl rfl rfl <| ?_
   refine G.joinL (T := Bool) 6 (fun y7 => ⟨[(0, oS s_0), (2, .one (.ptr 1002 0)), (3, .one (.own 2003 (List.map encI_u8 y1.2))), (4, oI y1.1), (79, oB false), (91, oB y7)], [(1002, some (.blk 95 [bS ByteArray.empty, bI .i64 0])), (2003, some (.row 5 1 (List.map encI_u8 y1.2) false))]⟩) (fun y7 => ref24_quoted_k3 s_0 y1 y7 = some r) (fun y7 hF => ?_) (fun J10 => ?_)
   · unfold ref24_quoted_k3 at hF
     refine g10 (op_move ev rfl) rfl rfl rfl <| ?_
     refine ifS hF (fun hc8 hF => ?_) (fun hc8 hF => ?_)
     · refine G.known (t := 92) hc8 rfl <| g10 (op_move ev rfl) rfl rfl rfl <| g10 (op_move ev rfl) rfl rfl rfl <| g10 (op_add ev (ec rfl) rfl) rfl rfl rfl <| bn hF fun b9 hb9 hF => g20 (op_indexS uU (sidx_ok hb9).1 (sidx_ok hb9).2 ev ev rfl) rfl rfl rfl rfl <| ?_
       refine g10 (op_neI ev (ec rfl) rfl) rfl rfl rfl <| g20 (op_pickT ev ev rfl) rfl rfl rfl rfl <| p20 (op_pickF ev ev rfl) rfl rfl <| eO <| ?_
       exact G.arr (J5 (!decide ((b9.toNat : Int) = 9)) hF) z4 z2 rfl
     refine G.known (t := 92) hc8 rfl <| oN rfl rfl rfl <| oN rfl rfl rfl <| oN rfl rfl rfl <| oN rfl rfl rfl <| oN rfl rfl rfl <| ?_
     refine g10 (op_pickF ev (ec rfl) rfl) rfl rfl rfl <| p20 (op_pickF ev ev rfl) rfl rfl <| eO <| ?_
     exact G.arr (J5 false hF) z4 z2 rfl
   refine ifS hF (fun hc11 hF => ?_) (fun hc11 hF => ?_)
   · refine G.known (t := 85) hc11 rfl <| g10 (op_move ev rfl) rfl rfl rfl <| g10 (op_move ev rfl) rfl rfl rfl <| g10 (op_add ev (ec rfl) rfl) rfl rfl rfl <| bn hF fun b12 hb12 hF => g20 (op_indexS uU (sidx_ok hb12).1 (sidx_ok hb12).2 ev ev rfl) rfl rfl rfl rfl <| ?_
     refine g10 (op_neI ev (ec rfl) rfl) rfl rfl rfl <| g20 (op_pickT ev ev rfl) rfl rfl rfl rfl <| ?_
     exact G.arr (J10 (!decide ((b12.toNat : Int) = 32)) hF) z6 z2 rfl
   refine G.known (t := 85) hc11 rfl <| oN rfl rfl rfl <| oN rfl rfl rfl <| oN rfl rfl rfl <| oN rfl rfl rfl <| oN rfl rfl rfl <| ?_
   refine g10 (op_pickF ev (ec rfl) rfl) rfl rfl rfl <| ?_
   exact G.arr (J10 false hF) z6 z2 rfl
 refine bl <| ?_
 refine lF (fun (v14 : Int × (List Int)) => ⟨[(0, oS s_0), (2, .one (.ptr 1002 0)), (3, .one (.own 2003 (List.map encI_u8 v14.2))), (4, oI v14.1)], [(1002, some (.blk 95 [bS ByteArray.empty, bI .i64 0])), (2003, some (.row 5 1 (List.map encI_u8 v14.2) false))]⟩) hF z4 z2 rfl (fun K17 again16 v14 J15 hF => ?_)
 unfold ref24_quoted_l4 at hF
 refine sq <| sq <| ?_
 refine G.joinC (T := Bool) (fun y18 => ⟨[(0, oS s_0), (2, .one (.ptr 1002 0)), (3, .one (.own 2003 (List.map encI_u8 v14.2))), (4, oI v14.1), (15, oB y18)], [(1002, some (.blk 95 [bS ByteArray.empty, bI .i64 0])), (2003, some (.row 5 1 (List.map encI_u8 v14.2) false))]⟩) (fun y18 => ref24_quoted_k5 s_0 again16 v14 y18 = some r) (fun y18 hF => ?_) (fun J43 => ?_)
 · unfold ref24_quoted_k5 at hF
   refine ifS hF (fun hc19 hF => ?_) (fun hc19 hF => ?_)
   · refine cT hc19 rfl <| sk <| bl <| sq <| sr <| mv rfl rfl <| ?_
     refine mv rfl rfl <| bn hF fun b20 hb20 hF => p20 (op_indexS uU (sidx_ok hb20).1 (sidx_ok hb20).2 ev ev rfl) rfl rfl <| p10 (op_eqI ev (ec rfl) rfl) rfl <| eO <| ?_
     refine ifS hF (fun hc21 hF => ?_) (fun hc21 hF => ?_)
     · refine cT hc21 rfl <| sq <| sq <| ?_
       refine G.joinC (T := Bool) (fun y22 => ⟨[(0, oS s_0), (2, .one (.ptr 1002 0)), (3, .one (.own 2003 (List.map encI_u8 v14.2))), (4, oI v14.1), (40, oB y22)], [(1002, some (.blk 95 [bS ByteArray.empty, bI .i64 0])), (2003, some (.row 5 1 (List.map encI_u8 v14.2) false))]⟩) (fun y22 => ref24_quoted_k6 s_0 again16 v14 y22 = some r) (fun y22 hF => ?_) (fun J29 => ?_)
       · unfold ref24_quoted_k6 at hF
         refine ifS hF (fun hc23 hF => ?_) (fun hc23 hF => ?_)
         · refine cT hc23 rfl <| sr <| p00 (op_build (zs := [vS ByteArray.empty, vI 0]) (ds := [vS ByteArray.empty, vI 0]) uU ti95 (pl95 _ uU) ⟨.v _ rfl, .v _ rfl, trivial⟩ .nil rfl rfl) <| w21 (op_storeAM ti95 rfl ev ev) rfl rfl rfl <| eO <| ?_
           cases hF
           exact G.ret1 Tryz.results95 (RVar.cellA (ds := [vS ByteArray.empty, vI 0]) uU rfl ti95 rfl) z1 z1
         refine cF hc23 rfl <| sk <| sq <| bn hF fun b24 hb24 hF => bn hF fun r25 hr25 hF => bn hF fun b26 hb26 hF => ?_
         refine bn hF fun r27 hr27 hF => bn hF fun l28 hl28 hF => ?_
         refine G.drawnI (deps := [[], [], [], [2], [1, 2, 3], [1, 2, 3, 4], [1, 2, 3, 4, 5], [], [], [8], [7, 8, 9], [1, 2, 3, 4, 5, 7, 8, 9, 10], [1, 2, 3, 4, 5, 6, 7, 8, 9, 10, 11], [1, 2, 3, 4, 5, 6, 7, 8, 9, 10, 11, 12], [1, 2, 3, 4, 5, 6, 7, 8, 9, 10, 11, 12, 13], [0, 1, 2, 3, 4, 5, 6, 7, 8, 9, 10, 11, 12, 13, 14], [0, 1, 2, 3, 4, 5, 6, 7, 8, 9, 10, 11, 12, 13, 14, 15]]) (sl' := [(0, oS s_0), (2, .one (.ptr 1002 0)), (3, .one (.own 2003 (List.map encI_u8 l28))), (4, oI v14.1)]) (hp' := [(1002, some (.blk 95 [bS ByteArray.empty, bI .i64 0])), (2003, some (.row 5 1 (List.map encI_u8 l28) false))]) (.c (oP rfl rfl (op_move ev rfl)) (.c (oP rfl rfl (op_move ev rfl)) (.c (oP rfl rfl (op_move ev rfl)) (.c (oP rfl rfl (op_add ev (ec rfl) rfl)) (.c (oP rfl rfl (op_indexS uU (sidx_ok hb24).1 (sidx_ok hb24).2 ev ev rfl)) (.c (oP rfl rfl (op_callQ cf110 (ct_ref24_digit _ _ hr25) rfl rfl (.cons qe .nil) rfl)) (.c (oP rfl rfl (op_mul (ec rfl) ev rfl)) (.c (oP rfl rfl (op_move ev rfl)) (.c (oP rfl rfl (op_move ev rfl)) (.c (oP rfl rfl (op_add ev (ec rfl) rfl)) (.c (oP rfl rfl (op_indexS uU (sidx_ok hb26).1 (sidx_ok hb26).2 ev ev rfl)) (.c (oP rfl rfl (op_callQ cf110 (ct_ref24_digit _ _ hr27) rfl rfl (.cons qe .nil) rfl)) (.c (oP rfl rfl (op_add ev ev rfl)) (.c (oP rfl rfl (op_convI uU uU ev rfl)) (.c (oP rfl rfl (op_buildSlice (es := List.map encI_u8 [IntKind.wrap .u8 (IntKind.wrap .i64 ((IntKind.wrap .i64 (16 * r25)) + r27))]) uU ti5 rfl rfl (.cons ev .nil) rfl rfl (by simp [encI_u8]) rfl)) (.c (oP rfl rfl (op_appendO uU ti5 rfl (app_map hl28 encI_u8) (app_b1 hl28 encI_u8) (app_b2 hl28 encI_u8) ev ev rfl)) (.c (oP rfl rfl (op_assign ev rfl)) .nil))))))))))))))))) follows rfl rfl rfl ⟨⟨⟨rfl, rfl⟩, trivial⟩, trivial, ⟨rfl, trivial⟩, trivial, ⟨rfl, trivial⟩, trivial, ⟨rfl, trivial⟩, trivial, ⟨rfl, rfl, trivial⟩, trivial, ⟨rfl, trivial⟩, trivial, ⟨rfl, trivial⟩, trivial, ⟨rfl, trivial⟩, trivial, ⟨rfl, trivial⟩, trivial, ⟨rfl, trivial⟩, trivial, ⟨rfl, rfl, trivial⟩, trivial, ⟨rfl, trivial⟩, trivial, ⟨rfl, rfl, trivial⟩, trivial, ⟨rfl, trivial⟩, trivial, ⟨rfl, trivial⟩, trivial, ⟨rfl, rfl, trivial⟩, ⟨⟨rfl, rfl⟩, trivial⟩, ⟨rfl, trivial⟩, trivial, trivial⟩ ⟨rfl, rfl, rfl, rfl, trivial⟩ ⟨rfl, rfl, trivial⟩ rfl ?_
         refine sr <| mv rfl rfl <| p10 (op_add ev (ec rfl) rfl) rfl <| av rfl rfl <| eO <| ex <| ?_
         refine GX.c ?_
         refine xY <| ?_
         exact G.arr (J15 (IntKind.wrap .i64 (v14.1 + 3), l28) hF) z4 z2 rfl
       refine rg <| mv rfl rfl <| p10 (op_lenS uU ev rfl) rfl <| mv rfl rfl <| p20 (op_sub ev ev rfl) rfl rfl <| p10 (op_lss ev (ec rfl) rfl) rfl <| ?_
       refine mv rfl rfl <| ?_
       refine G.joinL (T := Bool) 7 (fun y30 => ⟨[(0, oS s_0), (2, .one (.ptr 1002 0)), (3, .one (.own 2003 (List.map encI_u8 v14.2))), (4, oI v14.1), (32, oB y30)], [(1002, some (.blk 95 [bS ByteArray.empty, bI .i64 0])), (2003, some (.row 5 1 (List.map encI_u8 v14.2) false))]⟩) (fun y30 => ref24_quoted_k7 s_0 again16 v14 y30 = some r) (fun y30 hF => ?_) (fun J34 => ?_)
       · unfold ref24_quoted_k7 at hF
         refine mv rfl rfl <| ?_
         refine ifS hF (fun hc31 hF => ?_) (fun hc31 hF => ?_)
         · refine G.known (t := 33) hc31 rfl <| oN rfl rfl rfl <| oN rfl rfl rfl <| oN rfl rfl rfl <| oN rfl rfl rfl <| oN rfl rfl rfl <| ?_
           refine oN rfl rfl rfl <| p10 (op_pickT ev (ec rfl) rfl) rfl <| eO <| ?_
           exact G.arr (J29 true hF) z5 z2 rfl
         refine G.known (t := 33) hc31 rfl <| g10 (op_move ev rfl) rfl rfl rfl <| g10 (op_move ev rfl) rfl rfl rfl <| g10 (op_add ev (ec rfl) rfl) rfl rfl rfl <| bn hF fun b32 hb32 hF => g20 (op_indexS uU (sidx_ok hb32).1 (sidx_ok hb32).2 ev ev rfl) rfl rfl rfl rfl <| ?_
         refine bn hF fun r33 hr33 hF => g10 (op_callQ cf110 (ct_ref24_digit _ _ hr33) rfl rfl (.cons qe .nil) rfl) rfl rfl rfl <| g10 (op_lss ev (ec rfl) rfl) rfl rfl rfl <| p20 (op_pickF ev ev rfl) rfl rfl <| eO <| ?_
         exact G.arr (J29 (decide (r33 < 0)) hF) z5 z2 rfl
       refine ifS hF (fun hc35 hF => ?_) (fun hc35 hF => ?_)
       · refine G.known (t := 25) hc35 rfl <| oN rfl rfl rfl <| oN rfl rfl rfl <| oN rfl rfl rfl <| oN rfl rfl rfl <| oN rfl rfl rfl <| ?_
         refine oN rfl rfl rfl <| p10 (op_pickT ev (ec rfl) rfl) rfl <| ?_
         exact G.arr (J34 true hF) z5 z2 rfl
       refine G.known (t := 25) hc35 rfl <| g10 (op_move ev rfl) rfl rfl rfl <| g10 (op_move ev rfl) rfl rfl rfl <| g10 (op_add ev (ec rfl) rfl) rfl rfl rfl <| bn hF fun b36 hb36 hF => g20 (op_indexS uU (sidx_ok hb36).1 (sidx_ok hb36).2 ev ev rfl) rfl rfl rfl rfl <| ?_
       refine bn hF fun r37 hr37 hF => g10 (op_callQ cf110 (ct_ref24_digit _ _ hr37) rfl rfl (.cons qe .nil) rfl) rfl rfl rfl <| g10 (op_lss ev (ec rfl) rfl) rfl rfl rfl <| p20 (op_pickF ev ev rfl) rfl rfl <| ?_
       exact G.arr (J34 (decide (r37 < 0)) hF) z5 z2 rfl
     refine cF hc21 rfl <| sk <| sr <| mv rfl rfl <| mv rfl rfl <| bn hF fun b38 hb38 hF => ?_
     refine p20 (op_indexS uU (sidx_ok hb38).1 (sidx_ok hb38).2 ev ev rfl) rfl rfl <| bn hF fun r39 hr39 hF => p10 (op_callQ cf71 (ct_ref24_plain _ _ hr39) rfl rfl (.cons qe .nil) rfl) rfl <| av rfl rfl <| eO <| sq <| ?_
     refine sr <| mv rfl rfl <| p10 (op_not ev rfl) rfl <| eO <| ?_
     refine ifS hF (fun hc40 hF => ?_) (fun hc40 hF => ?_)
     · refine cT hc40 rfl <| sr <| p00 (op_build (zs := [vS ByteArray.empty, vI 0]) (ds := [vS ByteArray.empty, vI 0]) uU ti95 (pl95 _ uU) ⟨.v _ rfl, .v _ rfl, trivial⟩ .nil rfl rfl) <| w21 (op_storeAM ti95 rfl ev ev) rfl rfl rfl <| eO <| ?_
       cases hF
       exact G.ret1 Tryz.results95 (RVar.cellA (ds := [vS ByteArray.empty, vI 0]) uU rfl ti95 rfl) z1 z1
     refine cF hc40 rfl <| sk <| sr <| mv rfl rfl <| mv rfl rfl <| mv rfl rfl <| ?_
     refine bn hF fun b41 hb41 hF => p20 (op_indexS uU (sidx_ok hb41).1 (sidx_ok hb41).2 ev ev rfl) rfl rfl <| p10 (op_buildSlice (es := List.map encI_u8 [(b41.toNat : Int)]) uU ti5 rfl rfl (.cons ev .nil) rfl rfl (by simp [encI_u8]) rfl) rfl <| bn hF fun l42 hl42 hF => q21 (op_appendO uU ti5 rfl (app_map hl42 encI_u8) (app_b1 hl42 encI_u8) (app_b2 hl42 encI_u8) ev ev rfl) rfl rfl rfl <| av rfl rfl <| ?_
     refine eO <| rg <| mv rfl rfl <| p10 (op_add ev (ec rfl) rfl) rfl <| av rfl rfl <| eO <| ?_
     refine eB <| ?_
     exact G.arr (J15 (IntKind.wrap .i64 (v14.1 + 1), l42) hF) z4 z2 rfl
   refine cF hc19 rfl <| ex <| ?_
   refine GX.c ?_
   refine GX.q ?_
   refine xY <| ?_
   exact G.arr (J13 (v14.1, v14.2) hF) z4 z2 rfl
 refine rg <| mv rfl rfl <| mv rfl rfl <| p10 (op_lenS uU ev rfl) rfl <| p20 (op_lss ev ev rfl) rfl rfl <| mv rfl rfl <| ?_
 refine ifS hF (fun hc44 hF => ?_) (fun hc44 hF => ?_)
 · refine G.known (t := 10) hc44 rfl <| g10 (op_move ev rfl) rfl rfl rfl <| g10 (op_move ev rfl) rfl rfl rfl <| bn hF fun b45 hb45 hF => g20 (op_indexS uU (sidx_ok hb45).1 (sidx_ok hb45).2 ev ev rfl) rfl rfl rfl rfl <| g10 (op_neI ev (ec rfl) rfl) rfl rfl rfl <| ?_
   refine p20 (op_pickT ev ev rfl) rfl rfl <| eO <| ?_
   exact G.arr (J43 (!decide ((b45.toNat : Int) = 34)) hF) z5 z2 rfl
 refine G.known (t := 10) hc44 rfl <| oN rfl rfl rfl <| oN rfl rfl rfl <| oN rfl rfl rfl <| oN rfl rfl rfl <| p10 (op_pickF ev (ec rfl) rfl) rfl <| ?_
 refine eO <| ?_
 exact G.arr (J43 false hF) z5 z2 rfl


theorem ct_ref24_one (s_0 : ByteArray) (r : Ref24_Got) (hF : ref24_one s_0 = some r) : Ct Tryz.prog 67 [.g (.d (vS s_0))] (.one (.agg (encRef24_Got r))) := by
 unfold ref24_one at hF
 refine Ct.intro Tryz.func67 rfl Tryz.ntmps67 rfl rfl fun M w => ?_
 refine sr <| q01 (op_alloc (k := 1002) (cs := [bS ByteArray.empty, bI .i64 0]) ti95 ⟨.v _ rfl, .v _ rfl, trivial⟩ rfl) rfl <| eO <| sq <| sr <| mv rfl rfl <| ?_
 refine bn hF fun b1 hb1 hF => p10 (op_indexS uU (sidx_ok hb1).1 (sidx_ok hb1).2 ev (ec rfl) rfl) rfl <| p10 (op_eqI ev (ec rfl) rfl) rfl <| eO <| ?_
 refine ifS hF (fun hc2 hF => ?_) (fun hc2 hF => ?_)
 · refine cT hc2 rfl <| sr <| mv rfl rfl <| bn hF fun r3 hr3 hF => p10 (op_callQ cf95 (ct_ref24_quoted _ _ hr3) rfl rfl (.cons qe .nil) rfl) rfl <| w21 (op_storeAM ti95 rfl ev ev) rfl rfl rfl <| ?_
   refine eO <| ?_
   have hF := Option.some.inj hF; subst hF
   exact G.ret1 Tryz.results67 (RVar.cellA (ds := [vS r3.S, vI r3.N]) uU rfl ti95 rfl) z1 z1
 refine cF hc2 rfl <| sk <| sr <| ac rfl rfl <| eO <| sq <| ?_
 refine G.joinC (T := Int) (fun y4 => ⟨[(0, oS s_0), (2, .one (.ptr 1002 0)), (3, oI y4)], [(1002, some (.blk 95 [bS ByteArray.empty, bI .i64 0]))]⟩) (fun y4 => ref24_one_k1 s_0 y4 = some r) (fun y4 hF => ?_) (fun J9 => ?_)
 · unfold ref24_one_k1 at hF
   refine sr <| mv rfl rfl <| mv rfl rfl <| bn hF fun s5 hs5 hF => p20 (op_sliceM .none (.some ev) hs5 uU ev rfl) rfl rfl <| bn hF fun r6 hr6 hF => ?_
   refine p10 (op_callQ cf96 (ct_ref02_Runes _ _ hr6) rfl rfl (.cons qe .nil) rfl) rfl <| av rfl rfl <| eO <| sq <| sr <| mv rfl rfl <| ?_
   refine p10 (op_lss ev (ec rfl) rfl) rfl <| eO <| ?_
   refine ifS hF (fun hc7 hF => ?_) (fun hc7 hF => ?_)
   · refine cT hc7 rfl <| sr <| p00 (op_build (zs := [vS ByteArray.empty, vI 0]) (ds := [vS ByteArray.empty, vI 0]) uU ti95 (pl95 _ uU) ⟨.v _ rfl, .v _ rfl, trivial⟩ .nil rfl rfl) <| w21 (op_storeAM ti95 rfl ev ev) rfl rfl rfl <| eO <| ?_
     cases hF
     exact G.ret1 Tryz.results67 (RVar.cellA (ds := [vS ByteArray.empty, vI 0]) uU rfl ti95 rfl) z1 z1
   refine cF hc7 rfl <| sk <| sr <| mv rfl rfl <| mv rfl rfl <| bn hF fun s8 hs8 hF => ?_
   refine p20 (op_sliceM .none (.some ev) hs8 uU ev rfl) rfl rfl <| mv rfl rfl <| p20 (op_build (zs := [vS ByteArray.empty, vI 0]) (ds := [vS s8, vI y4]) uU ti95 (pl95 _ uU) ⟨.v _ rfl, .v _ rfl, trivial⟩ (.cons ev (.cons ev .nil)) rfl rfl) rfl rfl <| w21 (op_storeAM ti95 rfl ev ev) rfl rfl rfl <| eO <| ?_
   cases hF
   exact G.ret1 Tryz.results67 (RVar.cellA (ds := [vS s8, vI y4]) uU rfl ti95 rfl) z1 z1
 refine bl <| ?_
 refine lF (fun (v10 : Int) => ⟨[(0, oS s_0), (2, .one (.ptr 1002 0)), (3, oI v10)], [(1002, some (.blk 95 [bS ByteArray.empty, bI .i64 0]))]⟩) hF z3 z1 rfl (fun K13 again12 v10 J11 hF => ?_)
 unfold ref24_one_l2 at hF
 refine sq <| sq <| ?_
 refine G.joinC (T := Bool) (fun y14 => ⟨[(0, oS s_0), (2, .one (.ptr 1002 0)), (3, oI v10), (25, oB y14)], [(1002, some (.blk 95 [bS ByteArray.empty, bI .i64 0]))]⟩) (fun y14 => ref24_one_k3 s_0 again12 v10 y14 = some r) (fun y14 hF => ?_) (fun J26 => ?_)
 · unfold ref24_one_k3 at hF
   refine ifS hF (fun hc15 hF => ?_) (fun hc15 hF => ?_)
   · refine cT hc15 rfl <| sk <| bl <| sq <| sq <| ?_
     refine G.joinC (T := Bool) (fun y16 => ⟨[(0, oS s_0), (2, .one (.ptr 1002 0)), (3, oI v10), (41, oB y16)], [(1002, some (.blk 95 [bS ByteArray.empty, bI .i64 0]))]⟩) (fun y16 => ref24_one_k4 again12 v10 y16 = some r) (fun y16 hF => ?_) (fun J18 => ?_)
     · unfold ref24_one_k4 at hF
       refine ifS hF (fun hc17 hF => ?_) (fun hc17 hF => ?_)
       · refine cT hc17 rfl <| sr <| p00 (op_build (zs := [vS ByteArray.empty, vI 0]) (ds := [vS ByteArray.empty, vI 0]) uU ti95 (pl95 _ uU) ⟨.v _ rfl, .v _ rfl, trivial⟩ .nil rfl rfl) <| w21 (op_storeAM ti95 rfl ev ev) rfl rfl rfl <| eO <| ?_
         cases hF
         exact G.ret1 Tryz.results67 (RVar.cellA (ds := [vS ByteArray.empty, vI 0]) uU rfl ti95 rfl) z1 z1
       refine cF hc17 rfl <| sk <| rg <| mv rfl rfl <| p10 (op_add ev (ec rfl) rfl) rfl <| av rfl rfl <| ?_
       refine eO <| eB <| ?_
       exact G.arr (J11 (IntKind.wrap .i64 (v10 + 1)) hF) z3 z1 rfl
     refine rg <| mv rfl rfl <| mv rfl rfl <| bn hF fun b19 hb19 hF => p20 (op_indexS uU (sidx_ok hb19).1 (sidx_ok hb19).2 ev ev rfl) rfl rfl <| p10 (op_lss ev (ec rfl) rfl) rfl <| ?_
     refine mv rfl rfl <| ?_
     refine G.joinL (T := Bool) 5 (fun y20 => ⟨[(0, oS s_0), (2, .one (.ptr 1002 0)), (3, oI v10), (35, oB y20)], [(1002, some (.blk 95 [bS ByteArray.empty, bI .i64 0]))]⟩) (fun y20 => ref24_one_k5 s_0 again12 v10 y20 = some r) (fun y20 hF => ?_) (fun J23 => ?_)
     · unfold ref24_one_k5 at hF
       refine mv rfl rfl <| ?_
       refine ifS hF (fun hc21 hF => ?_) (fun hc21 hF => ?_)
       · refine G.known (t := 36) hc21 rfl <| oN rfl rfl rfl <| oN rfl rfl rfl <| oN rfl rfl rfl <| oN rfl rfl rfl <| p10 (op_pickT ev (ec rfl) rfl) rfl <| ?_
         refine eO <| ?_
         exact G.arr (J18 true hF) z4 z1 rfl
       refine G.known (t := 36) hc21 rfl <| g10 (op_move ev rfl) rfl rfl rfl <| g10 (op_move ev rfl) rfl rfl rfl <| bn hF fun b22 hb22 hF => g20 (op_indexS uU (sidx_ok hb22).1 (sidx_ok hb22).2 ev ev rfl) rfl rfl rfl rfl <| g10 (op_eqI ev (ec rfl) rfl) rfl rfl rfl <| ?_
       refine p20 (op_pickF ev ev rfl) rfl rfl <| eO <| ?_
       exact G.arr (J18 (decide ((b22.toNat : Int) = 34)) hF) z4 z1 rfl
     refine ifS hF (fun hc24 hF => ?_) (fun hc24 hF => ?_)
     · refine G.known (t := 30) hc24 rfl <| oN rfl rfl rfl <| oN rfl rfl rfl <| oN rfl rfl rfl <| oN rfl rfl rfl <| p10 (op_pickT ev (ec rfl) rfl) rfl <| ?_
       exact G.arr (J23 true hF) z4 z1 rfl
     refine G.known (t := 30) hc24 rfl <| g10 (op_move ev rfl) rfl rfl rfl <| g10 (op_move ev rfl) rfl rfl rfl <| bn hF fun b25 hb25 hF => g20 (op_indexS uU (sidx_ok hb25).1 (sidx_ok hb25).2 ev ev rfl) rfl rfl rfl rfl <| g10 (op_eqI ev (ec rfl) rfl) rfl rfl rfl <| ?_
     refine p20 (op_pickF ev ev rfl) rfl rfl <| ?_
     exact G.arr (J23 (decide ((b25.toNat : Int) = 127)) hF) z4 z1 rfl
   refine cF hc15 rfl <| ex <| ?_
   refine GX.c ?_
   refine GX.q ?_
   refine xY <| ?_
   exact G.arr (J9 v10 hF) z3 z1 rfl
 refine rg <| mv rfl rfl <| mv rfl rfl <| p10 (op_lenS uU ev rfl) rfl <| p20 (op_lss ev ev rfl) rfl rfl <| mv rfl rfl <| ?_
 refine G.joinL (T := Bool) 5 (fun y27 => ⟨[(0, oS s_0), (2, .one (.ptr 1002 0)), (3, oI v10), (19, oB y27)], [(1002, some (.blk 95 [bS ByteArray.empty, bI .i64 0]))]⟩) (fun y27 => ref24_one_k6 s_0 again12 v10 y27 = some r) (fun y27 hF => ?_) (fun J30 => ?_)
 · unfold ref24_one_k6 at hF
   refine mv rfl rfl <| ?_
   refine ifS hF (fun hc28 hF => ?_) (fun hc28 hF => ?_)
   · refine G.known (t := 20) hc28 rfl <| g10 (op_move ev rfl) rfl rfl rfl <| g10 (op_move ev rfl) rfl rfl rfl <| bn hF fun b29 hb29 hF => g20 (op_indexS uU (sidx_ok hb29).1 (sidx_ok hb29).2 ev ev rfl) rfl rfl rfl rfl <| g10 (op_neI ev (ec rfl) rfl) rfl rfl rfl <| ?_
     refine p20 (op_pickT ev ev rfl) rfl rfl <| eO <| ?_
     exact G.arr (J26 (!decide ((b29.toNat : Int) = 9)) hF) z4 z1 rfl
   refine G.known (t := 20) hc28 rfl <| oN rfl rfl rfl <| oN rfl rfl rfl <| oN rfl rfl rfl <| oN rfl rfl rfl <| p10 (op_pickF ev (ec rfl) rfl) rfl <| ?_
   refine eO <| ?_
   exact G.arr (J26 false hF) z4 z1 rfl
 refine ifS hF (fun hc31 hF => ?_) (fun hc31 hF => ?_)
 · refine G.known (t := 14) hc31 rfl <| g10 (op_move ev rfl) rfl rfl rfl <| g10 (op_move ev rfl) rfl rfl rfl <| bn hF fun b32 hb32 hF => g20 (op_indexS uU (sidx_ok hb32).1 (sidx_ok hb32).2 ev ev rfl) rfl rfl rfl rfl <| g10 (op_neI ev (ec rfl) rfl) rfl rfl rfl <| ?_
   refine p20 (op_pickT ev ev rfl) rfl rfl <| ?_
   exact G.arr (J30 (!decide ((b32.toNat : Int) = 32)) hF) z4 z1 rfl
 refine G.known (t := 14) hc31 rfl <| oN rfl rfl rfl <| oN rfl rfl rfl <| oN rfl rfl rfl <| oN rfl rfl rfl <| p10 (op_pickF ev (ec rfl) rfl) rfl <| ?_
 exact G.arr (J30 false hF) z4 z1 rfl


theorem ct_ref24_Words (line_0 : ByteArray) (r : ((List ByteArray) × Bool)) (hF : ref24_Words line_0 = some r) : Ct Tryz.prog 42 [.g (.d (vS line_0))] (.tup [.d (.sl 1 (List.map encS r.1)), .d (vB r.2)]) := by
 unfold ref24_Words at hF
 refine Ct.intro Tryz.func42 rfl Tryz.ntmps42 rfl rfl fun M w => ?_
 refine sr <| p00 (op_assign (Ev.n 1) rfl) <| ac rfl rfl <| esr <| q01 (op_assignRow (E := 9) (size := 1) (k := 2004) (ex := false) rfl rfl) rfl <| esr <| ?_
 refine ac rfl rfl <| eO <| bl <| ?_
 refine lF (fun (v1 : Int × (List ByteArray)) => ⟨[(0, oS line_0), (4, .one (.own 2004 (List.map encS v1.2))), (5, oI v1.1)], [(2004, some (.row 9 1 (List.map encS v1.2) false))]⟩) hF z3 z1 rfl (fun K4 again3 v1 J2 hF => ?_)
 unfold ref24_Words_l1 at hF
 refine bl <| sq <| ?_
 refine G.joinC (T := Int) (fun y5 => ⟨[(0, oS line_0), (4, .one (.own 2004 (List.map encS v1.2))), (5, oI y5)], [(2004, some (.row 9 1 (List.map encS v1.2) false))]⟩) (fun y5 => ref24_Words_k2 line_0 again3 v1 y5 = some r) (fun y5 hF => ?_) (fun J11 => ?_)
 · unfold ref24_Words_k2 at hF
   refine sq <| sr <| mv rfl rfl <| mv rfl rfl <| p10 (op_lenS uU ev rfl) rfl <| p20 (op_eqI ev ev rfl) rfl rfl <| ?_
   refine eO <| ?_
   refine ifS hF (fun hc6 hF => ?_) (fun hc6 hF => ?_)
   · refine cT hc6 rfl <| sr <| mv rfl rfl <| av rfl rfl <| ac rfl rfl <| eO <| ?_
     refine G.view (t := 2) rfl rfl ?_
     cases hF
     exact G.ret2 Tryz.results42 (RVar.tmp 2 _) (RVar.tmp 3 _) z2 trivial
   refine cF hc6 rfl <| sk <| sr <| mv rfl rfl <| mv rfl rfl <| bn hF fun s7 hs7 hF => ?_
   refine p20 (op_sliceM (.some ev) .none hs7 uU ev rfl) rfl rfl <| bn hF fun r8 hr8 hF => p10 (op_callQ cf67 (ct_ref24_one _ _ hr8) rfl rfl (.cons qe .nil) rfl) rfl <| q01 (op_alloc (k := 1006) (cs := [bS ByteArray.empty, bI .i64 0]) ti95 ⟨.v _ rfl, .v _ rfl, trivial⟩ rfl) rfl <| w21 (op_storeAM ti95 rfl ev ev) rfl rfl rfl <| eO <| ?_
   refine sq <| sr <| p10 (op_fieldP (off' := 1) uU rfl ti3 (by decide) rfl ev rfl) rfl <| p11 (op_load1P uU rfl rfl ev rfl) rfl rfl <| p10 (op_eqI ev (ec rfl) rfl) rfl <| eO <| ?_
   refine ifS hF (fun hc9 hF => ?_) (fun hc9 hF => ?_)
   · refine cT hc9 rfl <| sr <| p00 (op_assign (Ev.n 1) rfl) <| ac rfl rfl <| eO <| ?_
     cases hF
     exact G.ret2 Tryz.results42 (RVar.tmp 2 _) (RVar.tmp 3 _) z2 trivial
   refine cF hc9 rfl <| sk <| sr <| mv rfl rfl <| p10 (op_fieldP (off' := 0) uU rfl ti9 (by decide) rfl ev rfl) rfl <| p11 (op_load1P uU rfl rfl ev rfl) rfl rfl <| ?_
   refine p10 (op_buildSlice (es := List.map encS [r8.S]) uU ti9 rfl rfl (.cons ev .nil) rfl rfl (by simp [encS]) rfl) rfl <| bn hF fun l10 hl10 hF => q21 (op_appendO uU ti9 rfl (app_map hl10 encS) (app_b1 hl10 encS) (app_b2 hl10 encS) ev ev rfl) rfl rfl rfl <| av rfl rfl <| eO <| rg <| ?_
   refine mv rfl rfl <| p10 (op_fieldP (off' := 1) uU rfl ti3 (by decide) rfl ev rfl) rfl <| p11 (op_load1P uU rfl rfl ev rfl) rfl rfl <| p20 (op_add ev ev rfl) rfl rfl <| av rfl rfl <| eO <| ?_
   refine eB <| ?_
   exact G.arr (J2 (IntKind.wrap .i64 (y5 + r8.N), l10) hF) z3 z1 rfl
 refine bl <| ?_
 refine lF (fun (v12 : Int) => ⟨[(0, oS line_0), (4, .one (.own 2004 (List.map encS v1.2))), (5, oI v12)], [(2004, some (.row 9 1 (List.map encS v1.2) false))]⟩) hF z3 z1 rfl (fun K15 again14 v12 J13 hF => ?_)
 unfold ref24_Words_l3 at hF
 refine sq <| sr <| mv rfl rfl <| mv rfl rfl <| p10 (op_lenS uU ev rfl) rfl <| p20 (op_lss ev ev rfl) rfl rfl <| ?_
 refine mv rfl rfl <| ?_
 refine ifS hF (fun hc16 hF => ?_) (fun hc16 hF => ?_)
 · refine G.known (t := 11) hc16 rfl <| g10 (op_move ev rfl) rfl rfl rfl <| g10 (op_move ev rfl) rfl rfl rfl <| bn hF fun b17 hb17 hF => g20 (op_indexS uU (sidx_ok hb17).1 (sidx_ok hb17).2 ev ev rfl) rfl rfl rfl rfl <| g10 (op_eqI ev (ec rfl) rfl) rfl rfl rfl <| ?_
   refine g10 (op_move ev rfl) rfl rfl rfl <| ?_
   refine ifS hF (fun hc18 hF => ?_) (fun hc18 hF => ?_)
   · refine G.known (t := 16) hc18 rfl <| oN rfl rfl rfl <| oN rfl rfl rfl <| oN rfl rfl rfl <| oN rfl rfl rfl <| g10 (op_pickT ev (ec rfl) rfl) rfl rfl rfl <| ?_
     refine p20 (op_pickT ev ev rfl) rfl rfl <| eO <| ?_
     refine G.condT rfl ?_
     refine sk <| bl <| rg <| mv rfl rfl <| p10 (op_add ev (ec rfl) rfl) rfl <| av rfl rfl <| ?_
     refine eO <| eB <| ?_
     exact G.arr (J13 (IntKind.wrap .i64 (v12 + 1)) hF) z3 z1 rfl
   refine G.known (t := 16) hc18 rfl <| g10 (op_move ev rfl) rfl rfl rfl <| g10 (op_move ev rfl) rfl rfl rfl <| bn hF fun b19 hb19 hF => g20 (op_indexS uU (sidx_ok hb19).1 (sidx_ok hb19).2 ev ev rfl) rfl rfl rfl rfl <| g10 (op_eqI ev (ec rfl) rfl) rfl rfl rfl <| ?_
   refine g20 (op_pickF ev ev rfl) rfl rfl rfl rfl <| p20 (op_pickT ev ev rfl) rfl rfl <| eO <| ?_
   refine ifS hF (fun hc20 hF => ?_) (fun hc20 hF => ?_)
   · refine cT hc20 rfl <| sk <| bl <| rg <| mv rfl rfl <| p10 (op_add ev (ec rfl) rfl) rfl <| ?_
     refine av rfl rfl <| eO <| eB <| ?_
     exact G.arr (J13 (IntKind.wrap .i64 (v12 + 1)) hF) z3 z1 rfl
   refine cF hc20 rfl <| ex <| ?_
   refine GX.c ?_
   refine GX.q ?_
   refine xY <| ?_
   exact G.arr (J11 v12 hF) z3 z1 rfl
 refine G.known (t := 11) hc16 rfl <| oN rfl rfl rfl <| oN rfl rfl rfl <| oN rfl rfl rfl <| oN rfl rfl rfl <| oN rfl rfl rfl <| ?_
 refine G.opU rfl rfl rfl rfl ?_
 refine G.opU rfl rfl rfl rfl ?_
 refine G.opU rfl rfl rfl rfl ?_
 refine G.opU rfl rfl rfl rfl ?_
 refine oN rfl rfl rfl <| p10 (op_pickF ev (ec rfl) rfl) rfl <| eO <| ?_
 refine G.condF rfl ?_
 refine ex <| ?_
 refine GX.c ?_
 refine GX.q ?_
 refine xY <| ?_
 exact G.arr (J11 v12 hF) z3 z1 rfl


theorem ct_ref24_number (s_0 : ByteArray) (r : Int) (hF : ref24_number s_0 = some r) : Ct Tryz.prog 69 [.g (.d (vS s_0))] (.one (.d (vI r))) := by
 unfold ref24_number at hF
 refine Ct.intro Tryz.func69 rfl Tryz.ntmps69 rfl rfl fun M w => ?_
 refine sr <| ac rfl rfl <| eO <| sq <| sq <| ?_
 refine G.joinC (T := Bool) (fun y1 => ⟨[(0, oS s_0), (22, oB y1)], []⟩) (fun y1 => ref24_number_k1 s_0 y1 = some r) (fun y1 hF => ?_) (fun J18 => ?_)
 · unfold ref24_number_k1 at hF
   refine ifS hF (fun hc2 hF => ?_) (fun hc2 hF => ?_)
   · refine cT hc2 rfl <| sr <| ac rfl rfl <| eO <| ?_
     cases hF
     exact G.ret1 Tryz.results69 (RVar.tmp 2 _) z1 trivial
   refine cF hc2 rfl <| sk <| sr <| ac rfl rfl <| eO <| sq <| ?_
   refine sr <| ac rfl rfl <| eO <| ?_
   refine G.joinC (T := Int) (fun y3 => ⟨[(3, oI y3)], []⟩) (fun y3 => ref24_number_k2 y3 = some r) (fun y3 hF => ?_) (fun J5 => ?_)
   · unfold ref24_number_k2 at hF
     refine sq <| sr <| mv rfl rfl <| p10 (op_gtr ev (ec rfl) rfl) rfl <| eO <| ?_
     refine ifS hF (fun hc4 hF => ?_) (fun hc4 hF => ?_)
     · refine cT hc4 rfl <| sr <| ac rfl rfl <| eO <| ?_
       cases hF
       exact G.ret1 Tryz.results69 (RVar.tmp 2 _) z1 trivial
     refine cF hc4 rfl <| sk <| sr <| mv rfl rfl <| av rfl rfl <| eO <| ?_
     cases hF
     exact G.ret1 Tryz.results69 (RVar.tmp 2 _) z1 trivial
   refine bl <| ?_
   refine lF (fun (v6 : Int × Int) => ⟨[(0, oS s_0), (3, oI v6.1), (4, oI v6.2)], []⟩) hF z3 trivial rfl (fun K9 again8 v6 J7 hF => ?_)
   unfold ref24_number_l3 at hF
   refine sq <| sr <| mv rfl rfl <| mv rfl rfl <| p10 (op_lenS uU ev rfl) rfl <| p20 (op_lss ev ev rfl) rfl rfl <| ?_
   refine eO <| ?_
   refine ifS hF (fun hc10 hF => ?_) (fun hc10 hF => ?_)
   · refine cT hc10 rfl <| sk <| sq <| bl <| sq <| sq <| ?_
     refine G.joinC (T := Bool) (fun y11 => ⟨[(0, oS s_0), (3, oI v6.1), (4, oI v6.2), (38, oB y11)], []⟩) (fun y11 => ref24_number_k4 s_0 again8 v6 y11 = some r) (fun y11 hF => ?_) (fun J14 => ?_)
     · unfold ref24_number_k4 at hF
       refine ifS hF (fun hc12 hF => ?_) (fun hc12 hF => ?_)
       · refine cT hc12 rfl <| sr <| ac rfl rfl <| eO <| ?_
         cases hF
         exact G.ret1 Tryz.results69 (RVar.tmp 2 _) z1 trivial
       refine cF hc12 rfl <| sk <| rg <| mv rfl rfl <| p10 (op_mul (ec rfl) ev rfl) rfl <| mv rfl rfl <| ?_
       refine mv rfl rfl <| bn hF fun b13 hb13 hF => p20 (op_indexS uU (sidx_ok hb13).1 (sidx_ok hb13).2 ev ev rfl) rfl rfl <| p10 (op_sub ev (ec rfl) rfl) rfl <| p10 (op_convI uU uU ev rfl) rfl <| p20 (op_add ev ev rfl) rfl rfl <| ?_
       refine av rfl rfl <| eO <| eB <| rg <| mv rfl rfl <| p10 (op_add ev (ec rfl) rfl) rfl <| ?_
       refine av rfl rfl <| eO <| ?_
       exact G.arr (J7 (IntKind.wrap .i64 ((IntKind.wrap .i64 (10 * v6.1)) + (IntKind.wrap .i64 (IntKind.wrap .u8 ((b13.toNat : Int) - 48)))), IntKind.wrap .i64 (v6.2 + 1)) hF) z3 trivial rfl
     refine rg <| mv rfl rfl <| mv rfl rfl <| bn hF fun b15 hb15 hF => p20 (op_indexS uU (sidx_ok hb15).1 (sidx_ok hb15).2 ev ev rfl) rfl rfl <| p10 (op_lss ev (ec rfl) rfl) rfl <| ?_
     refine mv rfl rfl <| ?_
     refine ifS hF (fun hc16 hF => ?_) (fun hc16 hF => ?_)
     · refine G.known (t := 33) hc16 rfl <| oN rfl rfl rfl <| oN rfl rfl rfl <| oN rfl rfl rfl <| oN rfl rfl rfl <| p10 (op_pickT ev (ec rfl) rfl) rfl <| ?_
       refine eO <| ?_
       exact G.arr (J14 true hF) z4 trivial rfl
     refine G.known (t := 33) hc16 rfl <| g10 (op_move ev rfl) rfl rfl rfl <| g10 (op_move ev rfl) rfl rfl rfl <| bn hF fun b17 hb17 hF => g20 (op_indexS uU (sidx_ok hb17).1 (sidx_ok hb17).2 ev ev rfl) rfl rfl rfl rfl <| g10 (op_gtr ev (ec rfl) rfl) rfl rfl rfl <| ?_
     refine p20 (op_pickF ev ev rfl) rfl rfl <| eO <| ?_
     exact G.arr (J14 (decide (57 < (b17.toNat : Int))) hF) z4 trivial rfl
   refine cF hc10 rfl <| ex <| ?_
   refine GX.c ?_
   refine GX.q ?_
   refine xY <| ?_
   exact G.arr (J5 v6.1 hF) z1 trivial rfl
 refine rg <| mv rfl rfl <| p10 (op_lenS uU ev rfl) rfl <| p10 (op_lss ev (ec rfl) rfl) rfl <| mv rfl rfl <| ?_
 refine G.joinL (T := Bool) 4 (fun y19 => ⟨[(0, oS s_0), (12, oB y19)], []⟩) (fun y19 => ref24_number_k5 s_0 y19 = some r) (fun y19 hF => ?_) (fun J23 => ?_)
 · unfold ref24_number_k5 at hF
   refine mv rfl rfl <| ?_
   refine ifS hF (fun hc20 hF => ?_) (fun hc20 hF => ?_)
   · refine G.known (t := 13) hc20 rfl <| oN rfl rfl rfl <| oN rfl rfl rfl <| oN rfl rfl rfl <| oN rfl rfl rfl <| ?_
     refine G.opU rfl rfl rfl rfl ?_
     refine G.opU rfl rfl rfl rfl ?_
     refine G.opU rfl rfl rfl rfl ?_
     refine oN rfl rfl rfl <| p10 (op_pickT ev (ec rfl) rfl) rfl <| eO <| ?_
     exact G.arr (J18 true hF) z2 trivial rfl
   refine G.known (t := 13) hc20 rfl <| g10 (op_move ev rfl) rfl rfl rfl <| g10 (op_lenS uU ev rfl) rfl rfl rfl <| g10 (op_eqI ev (ec rfl) rfl) rfl rfl rfl <| g10 (op_move ev rfl) rfl rfl rfl <| ?_
   refine ifS hF (fun hc21 hF => ?_) (fun hc21 hF => ?_)
   · refine G.known (t := 17) hc21 rfl <| g10 (op_move ev rfl) rfl rfl rfl <| bn hF fun b22 hb22 hF => g10 (op_indexS uU (sidx_ok hb22).1 (sidx_ok hb22).2 ev (ec rfl) rfl) rfl rfl rfl <| g10 (op_eqI ev (ec rfl) rfl) rfl rfl rfl <| g20 (op_pickT ev ev rfl) rfl rfl rfl rfl <| ?_
     refine p20 (op_pickF ev ev rfl) rfl rfl <| eO <| ?_
     exact G.arr (J18 (decide ((b22.toNat : Int) = 48)) hF) z2 trivial rfl
   refine G.known (t := 17) hc21 rfl <| oN rfl rfl rfl <| oN rfl rfl rfl <| oN rfl rfl rfl <| g10 (op_pickF ev (ec rfl) rfl) rfl rfl rfl <| p20 (op_pickF ev ev rfl) rfl rfl <| ?_
   refine eO <| ?_
   exact G.arr (J18 false hF) z2 trivial rfl
 refine ifS hF (fun hc24 hF => ?_) (fun hc24 hF => ?_)
 · refine G.known (t := 8) hc24 rfl <| oN rfl rfl rfl <| oN rfl rfl rfl <| oN rfl rfl rfl <| p10 (op_pickT ev (ec rfl) rfl) rfl <| ?_
   exact G.arr (J23 true hF) z2 trivial rfl
 refine G.known (t := 8) hc24 rfl <| g10 (op_move ev rfl) rfl rfl rfl <| g10 (op_lenS uU ev rfl) rfl rfl rfl <| g10 (op_gtr ev (ec rfl) rfl) rfl rfl rfl <| p20 (op_pickF ev ev rfl) rfl rfl <| ?_
 exact G.arr (J23 (decide (2 < (s_0.size : Int))) hF) z2 trivial rfl


theorem ct_ref24_text (s_0 : ByteArray) (r : (ByteArray × Bool)) (hF : ref24_text s_0 = some r) : Ct Tryz.prog 70 [.g (.d (vS s_0))] (.tup [.d (vS r.1), .d (vB r.2)]) := by
 unfold ref24_text at hF
 refine Ct.intro Tryz.func70 rfl Tryz.ntmps70 rfl rfl fun M w => ?_
 refine sr <| ac rfl rfl <| ac rfl rfl <| eO <| sq <| sq <| ?_
 refine G.joinC (T := Bool) (fun y1 => ⟨[(0, oS s_0), (11, oB y1)], []⟩) (fun y1 => ref24_text_k1 s_0 y1 = some r) (fun y1 hF => ?_) (fun J6 => ?_)
 · unfold ref24_text_k1 at hF
   refine G.joinC (T := ByteArray) (fun y2 => ⟨[(0, oS y2)], []⟩) (fun y2 => ref24_text_k2 y2 = some r) (fun y2 hF => ?_) (fun J3 => ?_)
   · unfold ref24_text_k2 at hF
     refine sr <| mv rfl rfl <| mv rfl rfl <| p10 (op_lenS uU ev rfl) rfl <| p10 (op_leq ev (ec rfl) rfl) rfl <| av rfl rfl <| ?_
     refine av rfl rfl <| eO <| ?_
     cases hF
     exact G.ret2 Tryz.results70 (RVar.tmp 2 _) (RVar.tmp 3 _) z2 trivial
   refine ifS hF (fun hc4 hF => ?_) (fun hc4 hF => ?_)
   · refine cT hc4 rfl <| rg <| mv rfl rfl <| bn hF fun s5 hs5 hF => p10 (op_sliceM (.some (ec rfl)) .none hs5 uU ev rfl) rfl <| av rfl rfl <| ?_
     refine eO <| ?_
     exact G.arr (J3 s5 hF) z1 trivial rfl
   refine cF hc4 rfl <| sk <| ?_
   exact G.arr (J3 s_0 hF) z1 trivial rfl
 refine rg <| mv rfl rfl <| p10 (op_lenS uU ev rfl) rfl <| p10 (op_gtr ev (ec rfl) rfl) rfl <| mv rfl rfl <| ?_
 refine ifS hF (fun hc7 hF => ?_) (fun hc7 hF => ?_)
 · refine G.known (t := 7) hc7 rfl <| g10 (op_move ev rfl) rfl rfl rfl <| bn hF fun b8 hb8 hF => g10 (op_indexS uU (sidx_ok hb8).1 (sidx_ok hb8).2 ev (ec rfl) rfl) rfl rfl rfl <| g10 (op_eqI ev (ec rfl) rfl) rfl rfl rfl <| p20 (op_pickT ev ev rfl) rfl rfl <| ?_
   refine eO <| ?_
   exact G.arr (J6 (decide ((b8.toNat : Int) = 34)) hF) z2 trivial rfl
 refine G.known (t := 7) hc7 rfl <| oN rfl rfl rfl <| oN rfl rfl rfl <| oN rfl rfl rfl <| p10 (op_pickF ev (ec rfl) rfl) rfl <| eO <| ?_
 exact G.arr (J6 false hF) z2 trivial rfl

end Go.Ark
