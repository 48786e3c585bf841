/-
  Each function of the cut does what its shallow program says (the text is printed by program).
-/
import Derived.Test.YtjhnjehmbgaciaaSwLpiece1m
set_option maxRecDepth 100000
set_option maxHeartbeats 4000000
set_option linter.unusedVariables false
namespace Go.Proofs.Ytjhnjehmbgaciaa
open Go Go.Sw
noncomputable section
def e_seen_same : Shallow := ⟨[(.agg [.sl, .sl, .sl]), (.agg [.sl, .sl, .sl])], [tB], fun x => F_seen_same ids x.1 x.2.1⟩
def an_seen_same : Ann := { order := Sw.look [], reg := Sw.look [(1, ([(4, tB)], []))], join := Sw.look [], loop := Sw.look [], blk := Sw.lookL [], res := [(4, tB)], anys := [] }
theorem l_seen_same : FnOk Try.prog 24 e_seen_same :=
 fn_ok mixed (l := [(28, e_law5_sameInts), (18, e_law5_sameBytes)]) ⟨l_law5_sameInts, l_law5_sameBytes, trivial⟩ (An := an_seen_same) Try.func24 (c := Try.f24.body.getD .skip) (by kernel_rfl) Try.ntmps24 (by kernel_rfl) (fun _ _ => Try.call24 _ _) _ (by kernel_rfl) (fun x => by kernel_rfl) (by kernel_rfl)
def e_law5_copied : Shallow := ⟨[(.agg [.sl, .sl, .sl])], [(.agg [.sl, .sl, .sl])], fun x => F_law5_copied ids x.1⟩
def an_law5_copied : Ann := { order := Sw.look [(1, ([[0, 1, 3, 4, 6, 7, 2, 5, 8, 9, 10]], [(4, 2), (7, 2), (7, 5)]))], reg := Sw.look [], join := Sw.look [], loop := Sw.look [], blk := Sw.lookL [], res := [(2, tP)], anys := [] }
theorem l_law5_copied : FnOk Try.prog 35 e_law5_copied :=
 fn_ok mixed (l := []) trivial (An := an_law5_copied) Try.func35 (c := Try.f35.body.getD .skip) (by kernel_rfl) Try.ntmps35 (by kernel_rfl) (fun _ _ => Try.call35 _ _) _ (by kernel_rfl) (fun x => by kernel_rfl) (by kernel_rfl)
def e_quiet_ask : Shallow := ⟨[tP, tP, (.agg [bI, bI, bI, bI, .sl])], [], fun x => F_quiet_ask ids x.1 x.2.1 x.2.2.1⟩
def an_quiet_ask : Ann := { order := Sw.look [(4, ([[0, 1, 2, 3, 4, 6, 7, 8, 9, 10, 14, 5, 11, 12, 13]], [(8, 5), (10, 5)])), (8, ([[0, 1, 2, 3, 4, 5, 6, 7, 8, 9, 10, 11]], [(4, 6), (4, 7)])), (18, ([[0, 1, 2, 3, 4, 5, 6, 7, 8, 9, 10, 11]], [(4, 6), (4, 7)]))], reg := Sw.look [], join := Sw.look [(14, ([], [0, 1, 5, 6, 9]))], loop := Sw.look [(2, ([(6, tI)], [0, 1, 5])), (5, ([(31, tI)], [0, 1, 5, 6, 29, 30])), (15, ([(71, tI)], [0, 1, 5, 6, 69, 70]))], blk := Sw.lookL [(0, []), (1, []), (2, []), (3, []), (4, []), (5, [])], res := [], anys := [10, 63, 64, 66] }
theorem l_quiet_ask : FnOk Try.prog 36 e_quiet_ask :=
 fn_ok mixed (l := [(41, e_Text_Atoms), (53, e_Text_Tags), (33, e_Text_Bytes), (13, e_Text_Chunks)]) ⟨l_Text_Atoms, l_Text_Tags, l_Text_Bytes, l_Text_Chunks, trivial⟩ (An := an_quiet_ask) Try.func36 (c := Try.f36.body.getD .skip) (by kernel_rfl) Try.ntmps36 (by kernel_rfl) (fun _ _ => Try.call36 _ _) _ (by kernel_rfl) (fun x => by kernel_rfl) (by kernel_rfl)
def e_law5_reach : Shallow := ⟨[tI], [tI], fun x => F_law5_reach ids x.1⟩
def an_law5_reach : Ann := { order := Sw.look [], reg := Sw.look [], join := Sw.look [], loop := Sw.look [], blk := Sw.lookL [(0, [])], res := [(2, tI)], anys := [] }
theorem l_law5_reach : FnOk Try.prog 94 e_law5_reach :=
 fn_ok mixed (l := []) trivial (An := an_law5_reach) Try.func94 (c := Try.f94.body.getD .skip) (by kernel_rfl) Try.ntmps94 (by kernel_rfl) (fun _ _ => Try.call94 _ _) _ (by kernel_rfl) (fun x => by kernel_rfl) (by kernel_rfl)
def e_shelf_put : Shallow := ⟨[tP, tS], [], fun x => F_shelf_put ids x.1 x.2.1⟩
def an_shelf_put : Ann := { order := Sw.look [], reg := Sw.look [], join := Sw.look [], loop := Sw.look [(2, ([(5, tI)], [0, 1, 4])), (9, ([(8, tS), (9, tI)], [0, 1, 4, 6, 7]))], blk := Sw.lookL [(0, []), (1, []), (2, [(8, tS)]), (3, [(8, tS)])], res := [], anys := [] }
theorem l_shelf_put : FnOk Try.prog 67 e_shelf_put :=
 fn_ok mixed (l := [(94, e_law5_reach)]) ⟨l_law5_reach, trivial⟩ (An := an_shelf_put) Try.func67 (c := Try.f67.body.getD .skip) (by kernel_rfl) Try.ntmps67 (by kernel_rfl) (fun _ _ => Try.call67 _ _) _ (by kernel_rfl) (fun x => by kernel_rfl) (by kernel_rfl)
def e_shelf_putBytes : Shallow := ⟨[tP, tS], [], fun x => F_shelf_putBytes ids x.1 x.2.1⟩
def an_shelf_putBytes : Ann := { order := Sw.look [], reg := Sw.look [], join := Sw.look [], loop := Sw.look [(2, ([(5, tI)], [0, 1, 4])), (9, ([(8, tS), (9, tI)], [0, 1, 4, 6, 7]))], blk := Sw.lookL [(0, []), (1, []), (2, [(8, tS)]), (3, [(8, tS)])], res := [], anys := [] }
theorem l_shelf_putBytes : FnOk Try.prog 68 e_shelf_putBytes :=
 fn_ok mixed (l := [(94, e_law5_reach)]) ⟨l_law5_reach, trivial⟩ (An := an_shelf_putBytes) Try.func68 (c := Try.f68.body.getD .skip) (by kernel_rfl) Try.ntmps68 (by kernel_rfl) (fun _ _ => Try.call68 _ _) _ (by kernel_rfl) (fun x => by kernel_rfl) (by kernel_rfl)
def e_shelf_handOut : Shallow := ⟨[tP, tP, (.agg [bI, bI, bI, bI, .sl])], [], fun x => F_shelf_handOut ids x.1 x.2.1 x.2.2.1⟩
def an_shelf_handOut : Ann := { order := Sw.look [(1, ([[0, 1, 2, 3, 4, 5, 6, 7]], [(0, 6)])), (2, ([[0, 1, 2, 3, 4, 5, 6, 7]], [(0, 6)])), (3, ([[0, 1, 2, 3]], [(0, 2)]))], reg := Sw.look [], join := Sw.look [], loop := Sw.look [], blk := Sw.lookL [], res := [], anys := [6, 31, 32, 34] }
theorem l_shelf_handOut : FnOk Try.prog 37 e_shelf_handOut :=
 fn_ok mixed (l := [(41, e_Text_Atoms), (67, e_shelf_put), (53, e_Text_Tags), (33, e_Text_Bytes), (68, e_shelf_putBytes), (13, e_Text_Chunks)]) ⟨l_Text_Atoms, l_shelf_put, l_Text_Tags, l_Text_Bytes, l_shelf_putBytes, l_Text_Chunks, trivial⟩ (An := an_shelf_handOut) Try.func37 (c := Try.f37.body.getD .skip) (by kernel_rfl) Try.ntmps37 (by kernel_rfl) (fun _ _ => Try.call37 _ _) _ (by kernel_rfl) (fun x => by kernel_rfl) (by kernel_rfl)
def e_shelf_whole : Shallow := ⟨[tP], [tB], fun x => F_shelf_whole ids x.1⟩
def an_shelf_whole : Ann := { order := Sw.look [(7, ([[0, 1, 2, 3, 4, 5, 6, 7, 8, 9, 10, 11, 12, 13, 14, 15, 16, 17]], [])), (15, ([[0, 1, 2, 3, 4, 5, 6, 7, 8, 9, 10, 11, 12, 13, 14, 15, 16, 17]], []))], reg := Sw.look [], join := Sw.look [], loop := Sw.look [(2, ([(3, tI)], [0])), (5, ([(4, tI)], [0, 3])), (10, ([(5, tI)], [0])), (13, ([(6, tI)], [0, 5]))], blk := Sw.lookL [(0, []), (1, []), (2, []), (3, []), (4, []), (5, []), (6, []), (7, [])], res := [(2, tB)], anys := [] }
theorem l_shelf_whole : FnOk Try.prog 38 e_shelf_whole :=
 fn_ok mixed (l := []) trivial (An := an_shelf_whole) Try.func38 (c := Try.f38.body.getD .skip) (by kernel_rfl) Try.ntmps38 (by kernel_rfl) (fun _ _ => Try.call38 _ _) _ (by kernel_rfl) (fun x => by kernel_rfl) (by kernel_rfl)
def e_quiet_whole : Shallow := ⟨[tP], [tB], fun x => F_quiet_whole ids x.1⟩
def an_quiet_whole : Ann := { order := Sw.look [(5, ([[0, 1, 2, 3, 4, 5, 6, 7, 8, 9, 10, 11, 12, 13, 14, 15]], [])), (10, ([[0, 1, 2, 3, 4, 5, 6, 7, 8, 9, 10, 11, 12, 13, 14, 15]], []))], reg := Sw.look [], join := Sw.look [], loop := Sw.look [(3, ([(4, tI)], [0, 3])), (8, ([(5, tI)], [0, 3])), (13, ([(6, tI)], [0, 3])), (17, ([(7, tI)], [0, 3]))], blk := Sw.lookL [(0, []), (1, []), (2, []), (3, []), (4, []), (5, []), (6, []), (7, [])], res := [(2, tB)], anys := [] }
theorem l_quiet_whole : FnOk Try.prog 39 e_quiet_whole :=
 fn_ok mixed (l := [(28, e_law5_sameInts), (18, e_law5_sameBytes), (67, e_shelf_put), (68, e_shelf_putBytes), (38, e_shelf_whole)]) ⟨l_law5_sameInts, l_law5_sameBytes, l_shelf_put, l_shelf_putBytes, l_shelf_whole, trivial⟩ (An := an_quiet_whole) Try.func39 (c := Try.f39.body.getD .skip) (by kernel_rfl) Try.ntmps39 (by kernel_rfl) (fun _ _ => Try.call39 _ _) _ (by kernel_rfl) (fun x => by kernel_rfl) (by kernel_rfl)
def e_law5_PieceApart : Shallow := ⟨[tI, tS, tS], [tB], fun x => F_law5_PieceApart ids x.1 x.2.1 x.2.2.1⟩
def an_law5_PieceApart : Ann := { order := Sw.look [(27, ([[0, 1, 2, 3, 4, 5, 6, 7, 8, 9, 10, 11]], [])), (32, ([[0, 1, 2, 3, 4, 5]], [])), (33, ([[0, 1, 2, 3, 4, 5]], [])), (34, ([[0, 1, 2, 4, 3, 5, 6, 7, 8, 9, 10, 11, 13, 12, 14, 15, 16, 17, 18, 19, 20, 21]], [(4, 3), (13, 12)]))], reg := Sw.look [(3, ([(36, tB)], [0, 1, 2])), (8, ([(70, tB)], [0, 1, 2, 7, 8, 10])), (15, ([(112, tB)], [2, 8, 10])), (34, ([(192, tB)], [2, 15, 16, 17, 18, 19])), (36, ([(6, tB)], []))], join := Sw.look [(33, ([], [2, 15, 16, 17, 18, 19, 20, 21, 22, 25]))], loop := Sw.look [(11, ([(12, tI)], [0, 1, 2, 7, 8, 10])), (22, ([(19, tI)], [2, 15, 16, 17, 18]))], blk := Sw.lookL [(0, []), (1, []), (2, []), (3, [])], res := [(6, tB)], anys := [] }
theorem l_law5_PieceApart : FnOk Try.prog 8 e_law5_PieceApart :=
 fn_ok mixed (l := [(10, e_law5_able), (11, e_law5_known), (21, e_piece_Open), (18, e_law5_sameBytes), (33, e_Text_Bytes), (22, e_law5_see), (34, e_law5_written), (35, e_law5_copied), (36, e_quiet_ask), (37, e_shelf_handOut), (24, e_seen_same), (38, e_shelf_whole), (39, e_quiet_whole)]) ⟨l_law5_able, l_law5_known, l_piece_Open, l_law5_sameBytes, l_Text_Bytes, l_law5_see, l_law5_written, l_law5_copied, l_quiet_ask, l_shelf_handOut, l_seen_same, l_shelf_whole, l_quiet_whole, trivial⟩ (An := an_law5_PieceApart) Try.func8 (c := Try.f8.body.getD .skip) (by kernel_rfl) Try.ntmps8 (by kernel_rfl) (fun _ _ => Try.call8 _ _) _ (by kernel_rfl) (fun x => by kernel_rfl) (by kernel_rfl)
def e_Text_Chunks_1 : Shallow := ⟨[(.one .any), tP, tP], [], fun x => F_Text_Chunks_1 ids x.1 x.2.1 x.2.2.1⟩
def an_Text_Chunks_1 : Ann := { order := Sw.look [(8, ([[0, 1, 2, 3, 4, 5]], []))], reg := Sw.look [], join := Sw.look [], loop := Sw.look [(6, ([(6, tS)], [1, 3, 4]))], blk := Sw.lookL [(0, []), (1, []), (2, []), (3, [(6, tS)])], res := [], anys := [0, 11, 37, 44], rng := Sw.look [(12, ([(12, (.agg b7))], [(5, tP)]))] }
theorem l_Text_Chunks_1 : FnOk Try.prog 46 e_Text_Chunks_1 :=
 fn_ok mixed (l := [(47, e_Tree_part_Items)]) ⟨l_Tree_part_Items, trivial⟩ (An := an_Text_Chunks_1) Try.func46 (c := Try.f46.body.getD .skip) (by kernel_rfl) Try.ntmps46 (by kernel_rfl) (fun _ _ => Try.call46 _ _) _ (by kernel_rfl) (fun x => by kernel_rfl) (by kernel_rfl)
def e_quiet_ask_1 : Shallow := ⟨[tS, tP], [tB], fun x => F_quiet_ask_1 ids x.1 x.2.1⟩
def an_quiet_ask_1 : Ann := { order := Sw.look [], reg := Sw.look [], join := Sw.look [], loop := Sw.look [], blk := Sw.lookL [], res := [(3, tB)], anys := [] }
theorem l_quiet_ask_1 : FnOk Try.prog 66 e_quiet_ask_1 :=
 fn_ok mixed (l := []) trivial (An := an_quiet_ask_1) Try.func66 (c := Try.f66.body.getD .skip) (by kernel_rfl) Try.ntmps66 (by kernel_rfl) (fun _ _ => Try.call66 _ _) _ (by kernel_rfl) (fun x => by kernel_rfl) (by kernel_rfl)
def e_shelf_handOut_1 : Shallow := ⟨[tS, tP, tP], [tB], fun x => F_shelf_handOut_1 ids x.1 x.2.1 x.2.2.1⟩
def an_shelf_handOut_1 : Ann := { order := Sw.look [], reg := Sw.look [], join := Sw.look [], loop := Sw.look [], blk := Sw.lookL [], res := [(4, tB)], anys := [] }
theorem l_shelf_handOut_1 : FnOk Try.prog 69 e_shelf_handOut_1 :=
 fn_ok mixed (l := [(68, e_shelf_putBytes)]) ⟨l_shelf_putBytes, trivial⟩ (An := an_shelf_handOut_1) Try.func69 (c := Try.f69.body.getD .skip) (by kernel_rfl) Try.ntmps69 (by kernel_rfl) (fun _ _ => Try.call69 _ _) _ (by kernel_rfl) (fun x => by kernel_rfl) (by kernel_rfl)
def e_Text_Atoms_1 : Shallow := ⟨[tI, tI, tP], [], fun x => F_Text_Atoms_1 ids x.1 x.2.1 x.2.2.1⟩
def an_Text_Atoms_1 : Ann := { order := Sw.look [], reg := Sw.look [], join := Sw.look [], loop := Sw.look [], blk := Sw.lookL [], res := [], anys := [] }
theorem l_Text_Atoms_1 : FnOk Try.prog 71 e_Text_Atoms_1 :=
 fn_ok mixed (l := []) trivial (An := an_Text_Atoms_1) Try.func71 (c := Try.f71.body.getD .skip) (by kernel_rfl) Try.ntmps71 (by kernel_rfl) (fun _ _ => Try.call71 _ _) _ (by kernel_rfl) (fun x => by kernel_rfl) (by kernel_rfl)
def e_Tree_part_Items_1 : Shallow := ⟨[(.one .any), tP, tP], [], fun x => F_Tree_part_Items_1 ids x.1 x.2.1 x.2.2.1⟩
def an_Tree_part_Items_1 : Ann := { order := Sw.look [], reg := Sw.look [], join := Sw.look [], loop := Sw.look [], blk := Sw.lookL [], res := [], anys := [0, 6] }
theorem l_Tree_part_Items_1 : FnOk Try.prog 78 e_Tree_part_Items_1 :=
 fn_ok mixed (l := []) trivial (An := an_Tree_part_Items_1) Try.func78 (c := Try.f78.body.getD .skip) (by kernel_rfl) Try.ntmps78 (by kernel_rfl) (fun _ _ => Try.call78 _ _) _ (by kernel_rfl) (fun x => by kernel_rfl) (by kernel_rfl)
def e_Tree_part_Items_1_1 : Shallow := ⟨[tP, tI, tP, tP], [tB], fun x => F_Tree_part_Items_1_1 ids x.1 x.2.1 x.2.2.1 x.2.2.2.1⟩
def an_Tree_part_Items_1_1 : Ann := { order := Sw.look [(4, ([[0, 1, 2, 3, 4, 5, 6, 7, 8, 9, 10, 11, 12]], [])), (6, ([[0, 1, 2, 3, 4, 5, 6, 7, 8, 9, 10, 11]], [])), (8, ([[0, 1, 2, 3, 4, 5, 6, 7, 8, 9, 10, 11]], []))], reg := Sw.look [(1, ([(17, tB)], [0, 1, 2, 3])), (4, ([(35, tB)], [0, 1, 2, 3, 7])), (6, ([(47, tB)], [0, 1, 2, 7]))], join := Sw.look [], loop := Sw.look [], blk := Sw.lookL [], res := [(6, tB)], anys := [27, 40, 48] }
theorem l_Tree_part_Items_1_1 : FnOk Try.prog 79 e_Tree_part_Items_1_1 :=
 fn_ok mixed (l := [(80, e_node_part_count)]) ⟨l_node_part_count, trivial⟩ (An := an_Tree_part_Items_1_1) Try.func79 (c := Try.f79.body.getD .skip) (by kernel_rfl) Try.ntmps79 (by kernel_rfl) (fun _ _ => Try.call79 _ _) _ (by kernel_rfl) (fun x => by kernel_rfl) (by kernel_rfl)
def e_Text_Tags_1 : Shallow := ⟨[tI, tI, tP], [], fun x => F_Text_Tags_1 ids x.1 x.2.1 x.2.2.1⟩
def an_Text_Tags_1 : Ann := { order := Sw.look [], reg := Sw.look [], join := Sw.look [], loop := Sw.look [], blk := Sw.lookL [], res := [], anys := [] }
theorem l_Text_Tags_1 : FnOk Try.prog 83 e_Text_Tags_1 :=
 fn_ok mixed (l := []) trivial (An := an_Text_Tags_1) Try.func83 (c := Try.f83.body.getD .skip) (by kernel_rfl) Try.ntmps83 (by kernel_rfl) (fun _ _ => Try.call83 _ _) _ (by kernel_rfl) (fun x => by kernel_rfl) (by kernel_rfl)
def e_codec_bounds : Shallow := ⟨[(.one (.int .u8))], [tI, (.one (.int .u8)), (.one (.int .u8))], fun x => F_codec_bounds ids x.1⟩
def an_codec_bounds : Ann := { order := Sw.look [], reg := Sw.look [], join := Sw.look [], loop := Sw.look [], blk := Sw.lookL [(0, [])], res := [(2, tI), (3, (.one (.int .u8))), (4, (.one (.int .u8)))], anys := [] }
theorem l_codec_bounds : FnOk Try.prog 140 e_codec_bounds :=
 fn_ok mixed (l := []) trivial (An := an_codec_bounds) Try.func140 (c := Try.f140.body.getD .skip) (by kernel_rfl) Try.ntmps140 (by kernel_rfl) (fun _ _ => Try.call140 _ _) _ (by kernel_rfl) (fun x => by kernel_rfl) (by kernel_rfl)
def e_codec_row : Shallow := ⟨[tS], [tI, tI], fun x => F_codec_row ids x.1⟩
def an_codec_row : Ann := { order := Sw.look [], reg := Sw.look [(4, ([(36, tB)], [0, 4])), (7, ([(54, tB)], [0, 4, 7]))], join := Sw.look [], loop := Sw.look [(7, ([(7, tI)], [0, 4]))], blk := Sw.lookL [(0, [(7, tI)]), (1, [(7, tI)])], res := [(2, tI), (3, tI)], anys := [] }
theorem l_codec_row : FnOk Try.prog 139 e_codec_row :=
 fn_ok mixed (l := [(140, e_codec_bounds)]) ⟨l_codec_bounds, trivial⟩ (An := an_codec_row) Try.func139 (c := Try.f139.body.getD .skip) (by kernel_rfl) Try.ntmps139 (by kernel_rfl) (fun _ _ => Try.call139 _ _) _ (by kernel_rfl) (fun x => by kernel_rfl) (by kernel_rfl)
def e_eight_first : Shallow := ⟨[(.agg []), tS], [tI, tI], fun x => F_eight_first ids x.1 x.2.1⟩
def an_eight_first : Ann := { order := Sw.look [], reg := Sw.look [(2, ([(22, tB)], [1, 7]))], join := Sw.look [(12, ([(8, tI)], [1, 7]))], loop := Sw.look [(13, ([(8, tI), (49, tI)], [7, 47, 48]))], blk := Sw.lookL [(0, [(8, tI)]), (1, [(8, tI)]), (2, [(8, tI)])], res := [(4, tI), (5, tI)], anys := [] }
theorem l_eight_first : FnOk Try.prog 134 e_eight_first :=
 fn_ok mixed (l := [(139, e_codec_row)]) ⟨l_codec_row, trivial⟩ (An := an_eight_first) Try.func134 (c := Try.f134.body.getD .skip) (by kernel_rfl) Try.ntmps134 (by kernel_rfl) (fun _ _ => Try.call134 _ _) _ (by kernel_rfl) (fun x => by kernel_rfl) (by kernel_rfl)
def e_eight_size : Shallow := ⟨[(.agg []), tI], [tI], fun x => F_eight_size ids x.1 x.2.1⟩
def an_eight_size : Ann := { order := Sw.look [], reg := Sw.look [(1, ([(5, tB)], [1]))], join := Sw.look [], loop := Sw.look [], blk := Sw.lookL [(0, [])], res := [(4, tI)], anys := [] }
theorem l_eight_size : FnOk Try.prog 138 e_eight_size :=
 fn_ok mixed (l := []) trivial (An := an_eight_size) Try.func138 (c := Try.f138.body.getD .skip) (by kernel_rfl) Try.ntmps138 (by kernel_rfl) (fun _ _ => Try.call138 _ _) _ (by kernel_rfl) (fun x => by kernel_rfl) (by kernel_rfl)
def e_eight_put : Shallow := ⟨[(.agg []), tS, tI], [tS], fun x => F_eight_put ids x.1 x.2.1 x.2.2.1⟩
def an_eight_put : Ann := { order := Sw.look [(7, ([[0, 1, 2, 3, 4, 5, 6, 7, 8, 9, 10, 11, 12, 13]], []))], reg := Sw.look [], join := Sw.look [], loop := Sw.look [(9, ([(1, tS), (9, tI)], [2]))], blk := Sw.lookL [(0, [(1, tS)]), (1, [(1, tS)])], res := [(6, tS)], anys := [] }
theorem l_eight_put : FnOk Try.prog 137 e_eight_put :=
 fn_ok mixed (l := [(138, e_eight_size)]) ⟨l_eight_size, trivial⟩ (An := an_eight_put) Try.func137 (c := Try.f137.body.getD .skip) (by kernel_rfl) Try.ntmps137 (by kernel_rfl) (fun _ _ => Try.call137 _ _) _ (by kernel_rfl) (fun x => by kernel_rfl) (by kernel_rfl)
def e_sixteen_unit : Shallow := ⟨[(.agg [bI]), tS], [tI], fun x => F_sixteen_unit ids x.1 x.2.1⟩
def an_sixteen_unit : Ann := { order := Sw.look [(1, ([[0, 1, 2, 3, 4, 5, 6, 7, 8, 9, 10, 11, 12, 13, 14, 15]], []))], reg := Sw.look [], join := Sw.look [], loop := Sw.look [], blk := Sw.lookL [], res := [(4, tI)], anys := [] }
theorem l_sixteen_unit : FnOk Try.prog 146 e_sixteen_unit :=
 fn_ok mixed (l := []) trivial (An := an_sixteen_unit) Try.func146 (c := Try.f146.body.getD .skip) (by kernel_rfl) Try.ntmps146 (by kernel_rfl) (fun _ _ => Try.call146 _ _) _ (by kernel_rfl) (fun x => by kernel_rfl) (by kernel_rfl)
def e_codec_high : Shallow := ⟨[tI], [tB], fun x => F_codec_high ids x.1⟩
def an_codec_high : Ann := { order := Sw.look [], reg := Sw.look [], join := Sw.look [], loop := Sw.look [], blk := Sw.lookL [], res := [(2, tB)], anys := [] }
theorem l_codec_high : FnOk Try.prog 147 e_codec_high :=
 fn_ok mixed (l := []) trivial (An := an_codec_high) Try.func147 (c := Try.f147.body.getD .skip) (by kernel_rfl) Try.ntmps147 (by kernel_rfl) (fun _ _ => Try.call147 _ _) _ (by kernel_rfl) (fun x => by kernel_rfl) (by kernel_rfl)
def e_codec_low : Shallow := ⟨[tI], [tB], fun x => F_codec_low ids x.1⟩
def an_codec_low : Ann := { order := Sw.look [], reg := Sw.look [], join := Sw.look [], loop := Sw.look [], blk := Sw.lookL [], res := [(2, tB)], anys := [] }
theorem l_codec_low : FnOk Try.prog 148 e_codec_low :=
 fn_ok mixed (l := []) trivial (An := an_codec_low) Try.func148 (c := Try.f148.body.getD .skip) (by kernel_rfl) Try.ntmps148 (by kernel_rfl) (fun _ _ => Try.call148 _ _) _ (by kernel_rfl) (fun x => by kernel_rfl) (by kernel_rfl)
end
end Go.Proofs.Ytjhnjehmbgaciaa
