/-
  Each function of the cut does what its shallow program says (the text is printed by program).
-/
import Derived.Test.YtjhnjehmbgaciaaGreatSwLpieceZ1m
set_option maxRecDepth 100000
set_option maxHeartbeats 4000000
set_option linter.unusedVariables false
namespace Go.Proofs.YtjhnjehmbgaciaaGreat
open Go Go.Sw
noncomputable section
def e_ref_Text_Chunks : Shallow := ⟨[tP, tI], [tS], fun x => F_ref_Text_Chunks ids x.1 x.2.1⟩
def an_ref_Text_Chunks : Ann := { order := Sw.look [], reg := Sw.look [(10, ([(37, tB)], [1, 5, 6, 7, 8]))], join := Sw.look [(8, ([(5, tS), (7, tS)], [1, 6, 8]))], loop := Sw.look [(7, ([(5, tS), (7, tS), (8, tI)], [1, 6]))], blk := Sw.lookL [(0, [(5, tS)]), (1, [(5, tS), (7, tS)])], res := [(4, tS)], anys := [] }
theorem l_ref_Text_Chunks : FnOk Tryz.prog 57 e_ref_Text_Chunks :=
 fn_ok mixed (l := [(25, e_ref_Text_Bytes)]) ⟨l_ref_Text_Bytes, trivial⟩ (An := an_ref_Text_Chunks) Tryz.func57 (c := Tryz.f57.body.getD .skip) (by kernel_rfl) Tryz.ntmps57 (by kernel_rfl) (fun _ _ => Tryz.call57 _ _) _ (by kernel_rfl) (fun x => by kernel_rfl) (by kernel_rfl)
def e_Text_Chunks : Shallow := ⟨[tP, tI], [(.one .any)], fun x => F_Text_Chunks ids x.1 x.2.1⟩
def an_Text_Chunks : Ann := { order := Sw.look [], reg := Sw.look [], join := Sw.look [], loop := Sw.look [], blk := Sw.lookL [], res := [(4, (.one .any))], anys := [] }
theorem l_Text_Chunks : FnOk Tryz.prog 58 e_Text_Chunks :=
 fn_ok mixed (l := []) trivial (An := an_Text_Chunks) Tryz.func58 (c := Tryz.f58.body.getD .skip) (by kernel_rfl) Tryz.ntmps58 (by kernel_rfl) (fun _ _ => Tryz.call58 _ _) _ (by kernel_rfl) (fun x => by kernel_rfl) (by kernel_rfl)
def e_world_chunks : Shallow := ⟨[tP, tI, tI, tI], [tB], fun x => F_world_chunks ids x.1 x.2.1 x.2.2.1 x.2.2.2.1⟩
def an_world_chunks : Ann := { order := Sw.look [], reg := Sw.look [(12, ([(51, tB)], [7, 9, 10, 11]))], join := Sw.look [], loop := Sw.look [(6, ([(11, tI)], [7, 9, 10]))], blk := Sw.lookL [(0, []), (1, [])], res := [(8, tB)], anys := [10, 30, 31, 37] }
theorem l_world_chunks : FnOk Tryz.prog 30 e_world_chunks :=
 fn_ok mixed (l := [(57, e_ref_Text_Chunks), (58, e_Text_Chunks)]) ⟨l_ref_Text_Chunks, l_Text_Chunks, trivial⟩ (An := an_world_chunks) Tryz.func30 (c := Tryz.f30.body.getD .skip) (by kernel_rfl) Tryz.ntmps30 (by kernel_rfl) (fun _ _ => Tryz.call30 _ _) _ (by kernel_rfl) (fun x => by kernel_rfl) (by kernel_rfl)
def e_Text_Snap : Shallow := ⟨[tP], [tP], fun x => F_Text_Snap ids x.1⟩
def an_Text_Snap : Ann := { order := Sw.look [], reg := Sw.look [], join := Sw.look [], loop := Sw.look [], blk := Sw.lookL [], res := [(2, tP)], anys := [] }
theorem l_Text_Snap : FnOk Tryz.prog 60 e_Text_Snap :=
 fn_ok mixed (l := []) trivial (An := an_Text_Snap) Tryz.func60 (c := Tryz.f60.body.getD .skip) (by kernel_rfl) Tryz.ntmps60 (by kernel_rfl) (fun _ _ => Tryz.call60 _ _) _ (by kernel_rfl) (fun x => by kernel_rfl) (by kernel_rfl)
def e_ref_Text_Snap : Shallow := ⟨[tP], [tI], fun x => F_ref_Text_Snap ids x.1⟩
def an_ref_Text_Snap : Ann := { order := Sw.look [(1, ([[0, 1, 2, 3, 4, 5, 6, 7, 8, 9, 10, 11, 12, 13, 14, 15, 16, 17, 18]], [(4, 14)]))], reg := Sw.look [], join := Sw.look [], loop := Sw.look [], blk := Sw.lookL [], res := [(2, tI)], anys := [] }
theorem l_ref_Text_Snap : FnOk Tryz.prog 61 e_ref_Text_Snap :=
 fn_ok mixed (l := []) trivial (An := an_ref_Text_Snap) Tryz.func61 (c := Tryz.f61.body.getD .skip) (by kernel_rfl) Tryz.ntmps61 (by kernel_rfl) (fun _ _ => Tryz.call61 _ _) _ (by kernel_rfl) (fun x => by kernel_rfl) (by kernel_rfl)
def e_world_keep : Shallow := ⟨[tP, tI], [tB], fun x => F_world_keep ids x.1 x.2.1⟩
def an_world_keep : Ann := { order := Sw.look [(4, ([[0, 1, 2, 3, 4, 5, 6, 7, 8, 9, 10, 11, 12, 13, 14, 15, 16]], [(4, 11), (4, 12)]))], reg := Sw.look [], join := Sw.look [], loop := Sw.look [], blk := Sw.lookL [], res := [(4, tB)], anys := [] }
theorem l_world_keep : FnOk Tryz.prog 31 e_world_keep :=
 fn_ok mixed (l := [(60, e_Text_Snap), (61, e_ref_Text_Snap)]) ⟨l_Text_Snap, l_ref_Text_Snap, trivial⟩ (An := an_world_keep) Tryz.func31 (c := Tryz.f31.body.getD .skip) (by kernel_rfl) Tryz.ntmps31 (by kernel_rfl) (fun _ _ => Tryz.call31 _ _) _ (by kernel_rfl) (fun x => by kernel_rfl) (by kernel_rfl)
def e_Text_Back : Shallow := ⟨[tP, tP], [tI], fun x => F_Text_Back ids x.1 x.2.1⟩
def an_Text_Back : Ann := { order := Sw.look [], reg := Sw.look [(1, ([(14, tB)], [0, 1]))], join := Sw.look [], loop := Sw.look [], blk := Sw.lookL [], res := [(4, tI)], anys := [] }
theorem l_Text_Back : FnOk Tryz.prog 62 e_Text_Back :=
 fn_ok mixed (l := []) trivial (An := an_Text_Back) Tryz.func62 (c := Tryz.f62.body.getD .skip) (by kernel_rfl) Tryz.ntmps62 (by kernel_rfl) (fun _ _ => Tryz.call62 _ _) _ (by kernel_rfl) (fun x => by kernel_rfl) (by kernel_rfl)
def e_ref_Text_Back : Shallow := ⟨[tP, tI], [tI], fun x => F_ref_Text_Back ids x.1 x.2.1⟩
def an_ref_Text_Back : Ann := { order := Sw.look [], reg := Sw.look [(1, ([(15, tB)], [0, 1]))], join := Sw.look [], loop := Sw.look [], blk := Sw.lookL [], res := [(4, tI)], anys := [] }
theorem l_ref_Text_Back : FnOk Tryz.prog 63 e_ref_Text_Back :=
 fn_ok mixed (l := []) trivial (An := an_ref_Text_Back) Tryz.func63 (c := Tryz.f63.body.getD .skip) (by kernel_rfl) Tryz.ntmps63 (by kernel_rfl) (fun _ _ => Tryz.call63 _ _) _ (by kernel_rfl) (fun x => by kernel_rfl) (by kernel_rfl)
def e_world_back : Shallow := ⟨[tP, tI, tI], [tB], fun x => F_world_back ids x.1 x.2.1 x.2.2.1⟩
def an_world_back : Ann := { order := Sw.look [], reg := Sw.look [(3, ([(20, tB)], [0, 1, 2, 7, 8]))], join := Sw.look [(7, ([(7, tP), (8, tI)], [0, 1]))], loop := Sw.look [], blk := Sw.lookL [], res := [(6, tB)], anys := [] }
theorem l_world_back : FnOk Tryz.prog 32 e_world_back :=
 fn_ok mixed (l := [(62, e_Text_Back), (63, e_ref_Text_Back)]) ⟨l_Text_Back, l_ref_Text_Back, trivial⟩ (An := an_world_back) Tryz.func32 (c := Tryz.f32.body.getD .skip) (by kernel_rfl) Tryz.ntmps32 (by kernel_rfl) (fun _ _ => Tryz.call32 _ _) _ (by kernel_rfl) (fun x => by kernel_rfl) (by kernel_rfl)
def e_world_step : Shallow := ⟨[tP, (.agg [bI, bI, bI, bI, .sl])], [tB], fun x => F_world_step ids x.1 x.2.1⟩
def an_world_step : Ann := { order := Sw.look [(10, ([[0, 1, 2, 3, 4, 5, 6, 7, 8, 9, 11, 12, 13, 14, 15, 16, 17, 18, 19, 20, 21, 22, 23, 10, 24, 25, 26]], [(16, 10), (19, 10), (21, 10), (23, 10)])), (12, ([[0, 1, 2, 3, 4, 5, 6, 7, 8, 9, 11, 12, 13, 14, 15, 16, 17, 18, 19, 20, 21, 22, 23, 10, 24, 25, 26]], [(16, 10), (19, 10), (21, 10), (23, 10)])), (14, ([[0, 1, 2, 3, 4, 5, 7, 8, 9, 10, 11, 12, 6, 13, 14, 15]], [(12, 6)])), (16, ([[0, 1, 2, 3, 4, 5, 6, 7, 9, 10, 11, 12, 13, 14, 15, 16, 8, 17, 18, 19]], [(14, 8), (16, 8)])), (18, ([[0, 1, 2, 3, 4, 5, 6, 7, 9, 10, 11, 12, 13, 14, 15, 16, 8, 17, 18, 19]], [(14, 8), (16, 8)]))], reg := Sw.look [(2, ([(24, tB)], [0, 3, 5]))], join := Sw.look [], loop := Sw.look [], blk := Sw.lookL [(0, [])], res := [(4, tB)], anys := [] }
theorem l_world_step : FnOk Tryz.prog 11 e_world_step :=
 fn_ok mixed (l := [(18, e_world_change), (19, e_world_look), (21, e_Text_Atoms), (22, e_ref5_Part), (20, e_law5_sameInts), (23, e_Text_Tags), (24, e_Text_Bytes), (25, e_ref_Text_Bytes), (17, e_law5_sameBytes), (26, e_Text_Breaks), (27, e_ref_Text_Breaks), (28, e_Text_Seek), (29, e_ref_Text_Seek), (30, e_world_chunks), (31, e_world_keep), (32, e_world_back)]) ⟨l_world_change, l_world_look, l_Text_Atoms, l_ref5_Part, l_law5_sameInts, l_Text_Tags, l_Text_Bytes, l_ref_Text_Bytes, l_law5_sameBytes, l_Text_Breaks, l_ref_Text_Breaks, l_Text_Seek, l_ref_Text_Seek, l_world_chunks, l_world_keep, l_world_back, trivial⟩ (An := an_world_step) Tryz.func11 (c := Tryz.f11.body.getD .skip) (by kernel_rfl) Tryz.ntmps11 (by kernel_rfl) (fun _ _ => Tryz.call11 _ _) _ (by kernel_rfl) (fun x => by kernel_rfl) (by kernel_rfl)
def e_law5_plays : Shallow := ⟨[(.agg [bI, bI, bI, bI, .sl, .sl, .sl]), tI, tI], [tB], fun x => F_law5_plays ids x.1 x.2.1 x.2.2.1⟩
def an_law5_plays : Ann := { order := Sw.look [], reg := Sw.look [(11, ([(54, tB)], [1, 2, 3, 7, 8]))], join := Sw.look [], loop := Sw.look [(7, ([(8, tI)], [1, 2, 3, 7]))], blk := Sw.lookL [(0, []), (1, [])], res := [(6, tB)], anys := [] }
theorem l_law5_plays : FnOk Tryz.prog 8 e_law5_plays :=
 fn_ok mixed (l := [(9, e_law5_able), (10, e_world_begin), (11, e_world_step)]) ⟨l_law5_able, l_world_begin, l_world_step, trivial⟩ (An := an_law5_plays) Tryz.func8 (c := Tryz.f8.body.getD .skip) (by kernel_rfl) Tryz.ntmps8 (by kernel_rfl) (fun _ _ => Tryz.call8 _ _) _ (by kernel_rfl) (fun x => by kernel_rfl) (by kernel_rfl)
def e_law5_PieceAll : Shallow := ⟨[(.agg [bI, bI, bI, bI, .sl, .sl, .sl])], [tB], fun x => F_law5_PieceAll ids x.1⟩
def an_law5_PieceAll : Ann := { order := Sw.look [], reg := Sw.look [], join := Sw.look [], loop := Sw.look [], blk := Sw.lookL [], res := [(2, tB)], anys := [] }
theorem l_law5_PieceAll : FnOk Tryz.prog 7 e_law5_PieceAll :=
 fn_ok mixed (l := [(8, e_law5_plays)]) ⟨l_law5_plays, trivial⟩ (An := an_law5_PieceAll) Tryz.func7 (c := Tryz.f7.body.getD .skip) (by kernel_rfl) Tryz.ntmps7 (by kernel_rfl) (fun _ _ => Tryz.call7 _ _) _ (by kernel_rfl) (fun x => by kernel_rfl) (by kernel_rfl)
def e_Text_Atoms_1 : Shallow := ⟨[tI, tI, tP], [], fun x => F_Text_Atoms_1 ids x.1 x.2.1 x.2.2.1⟩
def an_Text_Atoms_1 : Ann := { order := Sw.look [], reg := Sw.look [], join := Sw.look [], loop := Sw.look [], blk := Sw.lookL [], res := [], anys := [] }
theorem l_Text_Atoms_1 : FnOk Tryz.prog 46 e_Text_Atoms_1 :=
 fn_ok mixed (l := []) trivial (An := an_Text_Atoms_1) Tryz.func46 (c := Tryz.f46.body.getD .skip) (by kernel_rfl) Tryz.ntmps46 (by kernel_rfl) (fun _ _ => Tryz.call46 _ _) _ (by kernel_rfl) (fun x => by kernel_rfl) (by kernel_rfl)
def e_Text_Tags_1 : Shallow := ⟨[tI, tI, tP], [], fun x => F_Text_Tags_1 ids x.1 x.2.1 x.2.2.1⟩
def an_Text_Tags_1 : Ann := { order := Sw.look [], reg := Sw.look [], join := Sw.look [], loop := Sw.look [], blk := Sw.lookL [], res := [], anys := [] }
theorem l_Text_Tags_1 : FnOk Tryz.prog 47 e_Text_Tags_1 :=
 fn_ok mixed (l := []) trivial (An := an_Text_Tags_1) Tryz.func47 (c := Tryz.f47.body.getD .skip) (by kernel_rfl) Tryz.ntmps47 (by kernel_rfl) (fun _ _ => Tryz.call47 _ _) _ (by kernel_rfl) (fun x => by kernel_rfl) (by kernel_rfl)
def e_world_chunks_1 : Shallow := ⟨[tS, tP, tP, tP, tP, tP], [tB], fun x => F_world_chunks_1 ids x.1 x.2.1 x.2.2.1 x.2.2.2.1 x.2.2.2.2.1 x.2.2.2.2.2.1⟩
def an_world_chunks_1 : Ann := { order := Sw.look [], reg := Sw.look [(1, ([(23, tB)], [1, 2, 4, 5]))], join := Sw.look [], loop := Sw.look [], blk := Sw.lookL [], res := [(7, tB)], anys := [] }
theorem l_world_chunks_1 : FnOk Tryz.prog 59 e_world_chunks_1 :=
 fn_ok mixed (l := [(17, e_law5_sameBytes)]) ⟨l_law5_sameBytes, trivial⟩ (An := an_world_chunks_1) Tryz.func59 (c := Tryz.f59.body.getD .skip) (by kernel_rfl) Tryz.ntmps59 (by kernel_rfl) (fun _ _ => Tryz.call59 _ _) _ (by kernel_rfl) (fun x => by kernel_rfl) (by kernel_rfl)
def e_Tree_part_Items_1 : Shallow := ⟨[(.one .any), tP, tP], [], fun x => F_Tree_part_Items_1 ids x.1 x.2.1 x.2.2.1⟩
def an_Tree_part_Items_1 : Ann := { order := Sw.look [], reg := Sw.look [], join := Sw.look [], loop := Sw.look [], blk := Sw.lookL [], res := [], anys := [0, 6] }
theorem l_Tree_part_Items_1 : FnOk Tryz.prog 79 e_Tree_part_Items_1 :=
 fn_ok mixed (l := []) trivial (An := an_Tree_part_Items_1) Tryz.func79 (c := Tryz.f79.body.getD .skip) (by kernel_rfl) Tryz.ntmps79 (by kernel_rfl) (fun _ _ => Tryz.call79 _ _) _ (by kernel_rfl) (fun x => by kernel_rfl) (by kernel_rfl)
def e_Tree_part_Items_1_1 : Shallow := ⟨[tP, tI, tP, tP], [tB], fun x => F_Tree_part_Items_1_1 ids x.1 x.2.1 x.2.2.1 x.2.2.2.1⟩
def an_Tree_part_Items_1_1 : Ann := { order := Sw.look [(4, ([[0, 1, 2, 3, 4, 5, 6, 7, 8, 9, 10, 11, 12]], [])), (6, ([[0, 1, 2, 3, 4, 5, 6, 7, 8, 9, 10, 11]], [])), (8, ([[0, 1, 2, 3, 4, 5, 6, 7, 8, 9, 10, 11]], []))], reg := Sw.look [(1, ([(17, tB)], [0, 1, 2, 3])), (4, ([(35, tB)], [0, 1, 2, 3, 7])), (6, ([(47, tB)], [0, 1, 2, 7]))], join := Sw.look [], loop := Sw.look [], blk := Sw.lookL [], res := [(6, tB)], anys := [27, 40, 48] }
theorem l_Tree_part_Items_1_1 : FnOk Tryz.prog 80 e_Tree_part_Items_1_1 :=
 fn_ok mixed (l := [(81, e_node_part_count)]) ⟨l_node_part_count, trivial⟩ (An := an_Tree_part_Items_1_1) Tryz.func80 (c := Tryz.f80.body.getD .skip) (by kernel_rfl) Tryz.ntmps80 (by kernel_rfl) (fun _ _ => Tryz.call80 _ _) _ (by kernel_rfl) (fun x => by kernel_rfl) (by kernel_rfl)
def e_Text_Chunks_1 : Shallow := ⟨[(.one .any), tP, tP], [], fun x => F_Text_Chunks_1 ids x.1 x.2.1 x.2.2.1⟩
def an_Text_Chunks_1 : Ann := { order := Sw.look [(8, ([[0, 1, 2, 3, 4, 5]], []))], reg := Sw.look [], join := Sw.look [], loop := Sw.look [(6, ([(6, tS)], [1, 3, 4]))], blk := Sw.lookL [(0, []), (1, []), (2, []), (3, [(6, tS)])], res := [], anys := [0, 11, 37, 44], rng := Sw.look [(12, ([(12, (.agg b7))], [(5, tP)]))] }
theorem l_Text_Chunks_1 : FnOk Tryz.prog 84 e_Text_Chunks_1 :=
 fn_ok mixed (l := [(48, e_Tree_part_Items)]) ⟨l_Tree_part_Items, trivial⟩ (An := an_Text_Chunks_1) Tryz.func84 (c := Tryz.f84.body.getD .skip) (by kernel_rfl) Tryz.ntmps84 (by kernel_rfl) (fun _ _ => Tryz.call84 _ _) _ (by kernel_rfl) (fun x => by kernel_rfl) (by kernel_rfl)
def e_codec_bounds : Shallow := ⟨[(.one (.int .u8))], [tI, (.one (.int .u8)), (.one (.int .u8))], fun x => F_codec_bounds ids x.1⟩
def an_codec_bounds : Ann := { order := Sw.look [], reg := Sw.look [], join := Sw.look [], loop := Sw.look [], blk := Sw.lookL [(0, [])], res := [(2, tI), (3, (.one (.int .u8))), (4, (.one (.int .u8)))], anys := [] }
theorem l_codec_bounds : FnOk Tryz.prog 129 e_codec_bounds :=
 fn_ok mixed (l := []) trivial (An := an_codec_bounds) Tryz.func129 (c := Tryz.f129.body.getD .skip) (by kernel_rfl) Tryz.ntmps129 (by kernel_rfl) (fun _ _ => Tryz.call129 _ _) _ (by kernel_rfl) (fun x => by kernel_rfl) (by kernel_rfl)
def e_codec_row : Shallow := ⟨[tS], [tI, tI], fun x => F_codec_row ids x.1⟩
def an_codec_row : Ann := { order := Sw.look [], reg := Sw.look [(4, ([(36, tB)], [0, 4])), (7, ([(54, tB)], [0, 4, 7]))], join := Sw.look [], loop := Sw.look [(7, ([(7, tI)], [0, 4]))], blk := Sw.lookL [(0, [(7, tI)]), (1, [(7, tI)])], res := [(2, tI), (3, tI)], anys := [] }
theorem l_codec_row : FnOk Tryz.prog 128 e_codec_row :=
 fn_ok mixed (l := [(129, e_codec_bounds)]) ⟨l_codec_bounds, trivial⟩ (An := an_codec_row) Tryz.func128 (c := Tryz.f128.body.getD .skip) (by kernel_rfl) Tryz.ntmps128 (by kernel_rfl) (fun _ _ => Tryz.call128 _ _) _ (by kernel_rfl) (fun x => by kernel_rfl) (by kernel_rfl)
def e_eight_first : Shallow := ⟨[(.agg []), tS], [tI, tI], fun x => F_eight_first ids x.1 x.2.1⟩
def an_eight_first : Ann := { order := Sw.look [], reg := Sw.look [(2, ([(22, tB)], [1, 7]))], join := Sw.look [(12, ([(8, tI)], [1, 7]))], loop := Sw.look [(13, ([(8, tI), (49, tI)], [7, 47, 48]))], blk := Sw.lookL [(0, [(8, tI)]), (1, [(8, tI)]), (2, [(8, tI)])], res := [(4, tI), (5, tI)], anys := [] }
theorem l_eight_first : FnOk Tryz.prog 123 e_eight_first :=
 fn_ok mixed (l := [(128, e_codec_row)]) ⟨l_codec_row, trivial⟩ (An := an_eight_first) Tryz.func123 (c := Tryz.f123.body.getD .skip) (by kernel_rfl) Tryz.ntmps123 (by kernel_rfl) (fun _ _ => Tryz.call123 _ _) _ (by kernel_rfl) (fun x => by kernel_rfl) (by kernel_rfl)
def e_eight_size : Shallow := ⟨[(.agg []), tI], [tI], fun x => F_eight_size ids x.1 x.2.1⟩
def an_eight_size : Ann := { order := Sw.look [], reg := Sw.look [(1, ([(5, tB)], [1]))], join := Sw.look [], loop := Sw.look [], blk := Sw.lookL [(0, [])], res := [(4, tI)], anys := [] }
theorem l_eight_size : FnOk Tryz.prog 127 e_eight_size :=
 fn_ok mixed (l := []) trivial (An := an_eight_size) Tryz.func127 (c := Tryz.f127.body.getD .skip) (by kernel_rfl) Tryz.ntmps127 (by kernel_rfl) (fun _ _ => Tryz.call127 _ _) _ (by kernel_rfl) (fun x => by kernel_rfl) (by kernel_rfl)
def e_eight_put : Shallow := ⟨[(.agg []), tS, tI], [tS], fun x => F_eight_put ids x.1 x.2.1 x.2.2.1⟩
def an_eight_put : Ann := { order := Sw.look [(7, ([[0, 1, 2, 3, 4, 5, 6, 7, 8, 9, 10, 11, 12, 13]], []))], reg := Sw.look [], join := Sw.look [], loop := Sw.look [(9, ([(1, tS), (9, tI)], [2]))], blk := Sw.lookL [(0, [(1, tS)]), (1, [(1, tS)])], res := [(6, tS)], anys := [] }
theorem l_eight_put : FnOk Tryz.prog 126 e_eight_put :=
 fn_ok mixed (l := [(127, e_eight_size)]) ⟨l_eight_size, trivial⟩ (An := an_eight_put) Tryz.func126 (c := Tryz.f126.body.getD .skip) (by kernel_rfl) Tryz.ntmps126 (by kernel_rfl) (fun _ _ => Tryz.call126 _ _) _ (by kernel_rfl) (fun x => by kernel_rfl) (by kernel_rfl)
def e_sixteen_unit : Shallow := ⟨[(.agg [bI]), tS], [tI], fun x => F_sixteen_unit ids x.1 x.2.1⟩
def an_sixteen_unit : Ann := { order := Sw.look [(1, ([[0, 1, 2, 3, 4, 5, 6, 7, 8, 9, 10, 11, 12, 13, 14, 15]], []))], reg := Sw.look [], join := Sw.look [], loop := Sw.look [], blk := Sw.lookL [], res := [(4, tI)], anys := [] }
theorem l_sixteen_unit : FnOk Tryz.prog 135 e_sixteen_unit :=
 fn_ok mixed (l := []) trivial (An := an_sixteen_unit) Tryz.func135 (c := Tryz.f135.body.getD .skip) (by kernel_rfl) Tryz.ntmps135 (by kernel_rfl) (fun _ _ => Tryz.call135 _ _) _ (by kernel_rfl) (fun x => by kernel_rfl) (by kernel_rfl)
def e_codec_high : Shallow := ⟨[tI], [tB], fun x => F_codec_high ids x.1⟩
def an_codec_high : Ann := { order := Sw.look [], reg := Sw.look [], join := Sw.look [], loop := Sw.look [], blk := Sw.lookL [], res := [(2, tB)], anys := [] }
theorem l_codec_high : FnOk Tryz.prog 136 e_codec_high :=
 fn_ok mixed (l := []) trivial (An := an_codec_high) Tryz.func136 (c := Tryz.f136.body.getD .skip) (by kernel_rfl) Tryz.ntmps136 (by kernel_rfl) (fun _ _ => Tryz.call136 _ _) _ (by kernel_rfl) (fun x => by kernel_rfl) (by kernel_rfl)
def e_codec_low : Shallow := ⟨[tI], [tB], fun x => F_codec_low ids x.1⟩
def an_codec_low : Ann := { order := Sw.look [], reg := Sw.look [], join := Sw.look [], loop := Sw.look [], blk := Sw.lookL [], res := [(2, tB)], anys := [] }
theorem l_codec_low : FnOk Tryz.prog 137 e_codec_low :=
 fn_ok mixed (l := []) trivial (An := an_codec_low) Tryz.func137 (c := Tryz.f137.body.getD .skip) (by kernel_rfl) Tryz.ntmps137 (by kernel_rfl) (fun _ _ => Tryz.call137 _ _) _ (by kernel_rfl) (fun x => by kernel_rfl) (by kernel_rfl)
def e_sixteen_first : Shallow := ⟨[(.agg [bI]), tS], [tI, tI], fun x => F_sixteen_first ids x.1 x.2.1⟩
def an_sixteen_first : Ann := { order := Sw.look [(5, ([[0, 1, 2, 3, 4]], []))], reg := Sw.look [(4, ([(25, tB)], [1, 2, 6]))], join := Sw.look [(8, ([], [6]))], loop := Sw.look [], blk := Sw.lookL [], res := [(4, tI), (5, tI)], anys := [] }
theorem l_sixteen_first : FnOk Tryz.prog 130 e_sixteen_first :=
 fn_ok mixed (l := [(135, e_sixteen_unit), (136, e_codec_high), (137, e_codec_low)]) ⟨l_sixteen_unit, l_codec_high, l_codec_low, trivial⟩ (An := an_sixteen_first) Tryz.func130 (c := Tryz.f130.body.getD .skip) (by kernel_rfl) Tryz.ntmps130 (by kernel_rfl) (fun _ _ => Tryz.call130 _ _) _ (by kernel_rfl) (fun x => by kernel_rfl) (by kernel_rfl)
def e_sixteen_half : Shallow := ⟨[(.agg [bI]), tS, tI], [tS], fun x => F_sixteen_half ids x.1 x.2.1 x.2.2.1⟩
def an_sixteen_half : Ann := { order := Sw.look [(2, ([[0, 1, 2, 3, 4, 5, 6, 7, 8, 9, 10, 11, 12, 13]], [(3, 11)]))], reg := Sw.look [], join := Sw.look [], loop := Sw.look [], blk := Sw.lookL [], res := [(6, tS)], anys := [] }
theorem l_sixteen_half : FnOk Tryz.prog 138 e_sixteen_half :=
 fn_ok mixed (l := []) trivial (An := an_sixteen_half) Tryz.func138 (c := Tryz.f138.body.getD .skip) (by kernel_rfl) Tryz.ntmps138 (by kernel_rfl) (fun _ _ => Tryz.call138 _ _) _ (by kernel_rfl) (fun x => by kernel_rfl) (by kernel_rfl)
def e_sixteen_put : Shallow := ⟨[(.agg [bI]), tS, tI], [tS], fun x => F_sixteen_put ids x.1 x.2.1 x.2.2.1⟩
def an_sixteen_put : Ann := { order := Sw.look [(5, ([[0, 1, 2, 3, 4, 5, 6, 8, 9, 10, 7, 11, 12]], [(0, 7)]))], reg := Sw.look [], join := Sw.look [], loop := Sw.look [], blk := Sw.lookL [(0, [])], res := [(6, tS)], anys := [] }
theorem l_sixteen_put : FnOk Tryz.prog 133 e_sixteen_put :=
 fn_ok mixed (l := [(138, e_sixteen_half)]) ⟨l_sixteen_half, trivial⟩ (An := an_sixteen_put) Tryz.func133 (c := Tryz.f133.body.getD .skip) (by kernel_rfl) Tryz.ntmps133 (by kernel_rfl) (fun _ _ => Tryz.call133 _ _) _ (by kernel_rfl) (fun x => by kernel_rfl) (by kernel_rfl)
def e_sixteen_size : Shallow := ⟨[(.agg [bI]), tI], [tI], fun x => F_sixteen_size ids x.1 x.2.1⟩
def an_sixteen_size : Ann := { order := Sw.look [], reg := Sw.look [(1, ([(5, tB)], [1]))], join := Sw.look [], loop := Sw.look [], blk := Sw.lookL [(0, [])], res := [(4, tI)], anys := [] }
theorem l_sixteen_size : FnOk Tryz.prog 134 e_sixteen_size :=
 fn_ok mixed (l := []) trivial (An := an_sixteen_size) Tryz.func134 (c := Tryz.f134.body.getD .skip) (by kernel_rfl) Tryz.ntmps134 (by kernel_rfl) (fun _ _ => Tryz.call134 _ _) _ (by kernel_rfl) (fun x => by kernel_rfl) (by kernel_rfl)
def e_latin_first : Shallow := ⟨[(.agg []), tS], [tI, tI], fun x => F_latin_first ids x.1 x.2.1⟩
def an_latin_first : Ann := { order := Sw.look [], reg := Sw.look [], join := Sw.look [], loop := Sw.look [], blk := Sw.lookL [], res := [(4, tI), (5, tI)], anys := [] }
theorem l_latin_first : FnOk Tryz.prog 139 e_latin_first :=
 fn_ok mixed (l := []) trivial (An := an_latin_first) Tryz.func139 (c := Tryz.f139.body.getD .skip) (by kernel_rfl) Tryz.ntmps139 (by kernel_rfl) (fun _ _ => Tryz.call139 _ _) _ (by kernel_rfl) (fun x => by kernel_rfl) (by kernel_rfl)
def e_latin_put : Shallow := ⟨[(.agg []), tS, tI], [tS], fun x => F_latin_put ids x.1 x.2.1 x.2.2.1⟩
def an_latin_put : Ann := { order := Sw.look [], reg := Sw.look [], join := Sw.look [], loop := Sw.look [], blk := Sw.lookL [], res := [(6, tS)], anys := [] }
theorem l_latin_put : FnOk Tryz.prog 142 e_latin_put :=
 fn_ok mixed (l := []) trivial (An := an_latin_put) Tryz.func142 (c := Tryz.f142.body.getD .skip) (by kernel_rfl) Tryz.ntmps142 (by kernel_rfl) (fun _ _ => Tryz.call142 _ _) _ (by kernel_rfl) (fun x => by kernel_rfl) (by kernel_rfl)
def e_latin_size : Shallow := ⟨[(.agg []), tI], [tI], fun x => F_latin_size ids x.1 x.2.1⟩
def an_latin_size : Ann := { order := Sw.look [], reg := Sw.look [(1, ([(10, tB)], []))], join := Sw.look [], loop := Sw.look [], blk := Sw.lookL [], res := [(4, tI)], anys := [] }
theorem l_latin_size : FnOk Tryz.prog 143 e_latin_size :=
 fn_ok mixed (l := []) trivial (An := an_latin_size) Tryz.func143 (c := Tryz.f143.body.getD .skip) (by kernel_rfl) Tryz.ntmps143 (by kernel_rfl) (fun _ _ => Tryz.call143 _ _) _ (by kernel_rfl) (fun x => by kernel_rfl) (by kernel_rfl)
end
end Go.Proofs.YtjhnjehmbgaciaaGreat
