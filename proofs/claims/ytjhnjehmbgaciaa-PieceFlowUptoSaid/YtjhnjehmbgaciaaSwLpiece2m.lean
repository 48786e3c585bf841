/-
  Each function of the cut does what its shallow program says (the text is printed by program).
-/
import Derived.Test.YtjhnjehmbgaciaaSwLpiece1m
set_option maxRecDepth 100000
set_option maxHeartbeats 4000000
set_option linter.unusedVariables false
namespace Go.Proofs.Ytjhnjehmbgaciaa
open Go Go.Sw
noncomputable section
def e_law5_ranged : Shallow := ⟨[(.one .any)], [tS], fun x => F_law5_ranged ids x.1⟩
def an_law5_ranged : Ann := { order := Sw.look [], reg := Sw.look [], join := Sw.look [], loop := Sw.look [], blk := Sw.lookL [], res := [(2, tS)], anys := [0, 4] }
theorem l_law5_ranged : FnOk Try.prog 15 e_law5_ranged :=
 fn_ok mixed (l := []) trivial (An := an_law5_ranged) Try.func15 (c := Try.f15.body.getD .skip) (by kernel_rfl) Try.ntmps15 (by kernel_rfl) (fun _ _ => Try.call15 _ _) _ (by kernel_rfl) (fun x => by kernel_rfl) (by kernel_rfl)
def e_law5_begun : Shallow := ⟨[(.one .any), tI], [tS, tB], fun x => F_law5_begun ids x.1 x.2.1⟩
def an_law5_begun : Ann := { order := Sw.look [(5, ([[0, 1, 2, 3]], []))], reg := Sw.look [], join := Sw.look [], loop := Sw.look [], blk := Sw.lookL [], res := [(4, tS), (5, tB)], anys := [0, 9] }
theorem l_law5_begun : FnOk Try.prog 16 e_law5_begun :=
 fn_ok mixed (l := []) trivial (An := an_law5_begun) Try.func16 (c := Try.f16.body.getD .skip) (by kernel_rfl) Try.ntmps16 (by kernel_rfl) (fun _ _ => Try.call16 _ _) _ (by kernel_rfl) (fun x => by kernel_rfl) (by kernel_rfl)
def e_law5_PieceFlow_1 : Shallow := ⟨[tS, tP, tP, tP, tP, tP, tP, tP, tP, tP, tP], [tB], fun x => F_law5_PieceFlow_1 ids x.1 x.2.1 x.2.2.1 x.2.2.2.1 x.2.2.2.2.1 x.2.2.2.2.2.1 x.2.2.2.2.2.2.1 x.2.2.2.2.2.2.2.1 x.2.2.2.2.2.2.2.2.1 x.2.2.2.2.2.2.2.2.2.1 x.2.2.2.2.2.2.2.2.2.2.1⟩
def an_law5_PieceFlow_1 : Ann := { order := Sw.look [], reg := Sw.look [(1, ([(32, tB)], [0, 1, 2, 3, 4, 5, 6, 7, 8, 9, 10])), (16, ([], [3, 5]))], join := Sw.look [(3, ([], [0, 1, 2, 3, 4, 5, 6, 7, 8, 9, 10])), (17, ([], [3, 5]))], loop := Sw.look [(6, ([(13, tI)], [0, 2, 3, 5, 6, 7, 8, 9, 10]))], blk := Sw.lookL [(0, []), (1, [])], res := [(12, tB)], anys := [56, 59, 66, 69] }
theorem l_law5_PieceFlow_1 : FnOk Try.prog 14 e_law5_PieceFlow_1 :=
 fn_ok mixed (l := [(15, e_law5_ranged), (16, e_law5_begun), (17, e_law5_changed), (18, e_law5_sameBytes)]) ⟨l_law5_ranged, l_law5_begun, l_law5_changed, l_law5_sameBytes, trivial⟩ (An := an_law5_PieceFlow_1) Try.func14 (c := Try.f14.body.getD .skip) (by kernel_rfl) Try.ntmps14 (by kernel_rfl) (fun _ _ => Try.call14 _ _) _ (by kernel_rfl) (fun x => by kernel_rfl) (by kernel_rfl)
def e_Text_Chunks_1 : Shallow := ⟨[(.one .any), tP, tP], [], fun x => F_Text_Chunks_1 ids x.1 x.2.1 x.2.2.1⟩
def an_Text_Chunks_1 : Ann := { order := Sw.look [(8, ([[0, 1, 2, 3, 4, 5]], []))], reg := Sw.look [], join := Sw.look [], loop := Sw.look [(6, ([(6, tS)], [1, 3, 4]))], blk := Sw.lookL [(0, []), (1, []), (2, []), (3, [(6, tS)])], res := [], anys := [0, 11, 37, 44], rng := Sw.look [(12, ([(12, (.agg b7))], [(5, tP)]))] }
theorem l_Text_Chunks_1 : FnOk Try.prog 46 e_Text_Chunks_1 :=
 fn_ok mixed (l := [(47, e_Tree_part_Items)]) ⟨l_Tree_part_Items, trivial⟩ (An := an_Text_Chunks_1) Try.func46 (c := Try.f46.body.getD .skip) (by kernel_rfl) Try.ntmps46 (by kernel_rfl) (fun _ _ => Try.call46 _ _) _ (by kernel_rfl) (fun x => by kernel_rfl) (by kernel_rfl)
def e_law5_ranged_1 : Shallow := ⟨[tS, tP], [tB], fun x => F_law5_ranged_1 ids x.1 x.2.1⟩
def an_law5_ranged_1 : Ann := { order := Sw.look [], reg := Sw.look [], join := Sw.look [], loop := Sw.look [(3, ([(4, tI)], [0]))], blk := Sw.lookL [(0, []), (1, [])], res := [(3, tB)], anys := [] }
theorem l_law5_ranged_1 : FnOk Try.prog 48 e_law5_ranged_1 :=
 fn_ok mixed (l := []) trivial (An := an_law5_ranged_1) Try.func48 (c := Try.f48.body.getD .skip) (by kernel_rfl) Try.ntmps48 (by kernel_rfl) (fun _ _ => Try.call48 _ _) _ (by kernel_rfl) (fun x => by kernel_rfl) (by kernel_rfl)
def e_law5_begun_1 : Shallow := ⟨[tS, tP, tP, tP, tP], [tB], fun x => F_law5_begun_1 ids x.1 x.2.1 x.2.2.1 x.2.2.2.1 x.2.2.2.2.1⟩
def an_law5_begun_1 : Ann := { order := Sw.look [], reg := Sw.look [], join := Sw.look [], loop := Sw.look [(6, ([(7, tI)], [0, 1, 2]))], blk := Sw.lookL [(0, []), (1, [])], res := [(6, tB)], anys := [] }
theorem l_law5_begun_1 : FnOk Try.prog 49 e_law5_begun_1 :=
 fn_ok mixed (l := []) trivial (An := an_law5_begun_1) Try.func49 (c := Try.f49.body.getD .skip) (by kernel_rfl) Try.ntmps49 (by kernel_rfl) (fun _ _ => Try.call49 _ _) _ (by kernel_rfl) (fun x => by kernel_rfl) (by kernel_rfl)
def e_Text_Atoms_1 : Shallow := ⟨[tI, tI, tP], [], fun x => F_Text_Atoms_1 ids x.1 x.2.1 x.2.2.1⟩
def an_Text_Atoms_1 : Ann := { order := Sw.look [], reg := Sw.look [], join := Sw.look [], loop := Sw.look [], blk := Sw.lookL [], res := [], anys := [] }
theorem l_Text_Atoms_1 : FnOk Try.prog 71 e_Text_Atoms_1 :=
 fn_ok mixed (l := []) trivial (An := an_Text_Atoms_1) Try.func71 (c := Try.f71.body.getD .skip) (by kernel_rfl) Try.ntmps71 (by kernel_rfl) (fun _ _ => Try.call71 _ _) _ (by kernel_rfl) (fun x => by kernel_rfl) (by kernel_rfl)
def e_Tree_part_Items_1 : Shallow := ⟨[(.one .any), tP, tP], [], fun x => F_Tree_part_Items_1 ids x.1 x.2.1 x.2.2.1⟩
def an_Tree_part_Items_1 : Ann := { order := Sw.look [], reg := Sw.look [], join := Sw.look [], loop := Sw.look [], blk := Sw.lookL [], res := [], anys := [0, 6] }
theorem l_Tree_part_Items_1 : FnOk Try.prog 78 e_Tree_part_Items_1 :=
 fn_ok mixed (l := []) trivial (An := an_Tree_part_Items_1) Try.func78 (c := Try.f78.body.getD .skip) (by kernel_rfl) Try.ntmps78 (by kernel_rfl) (fun _ _ => Try.call78 _ _) _ (by kernel_rfl) (fun x => by kernel_rfl) (by kernel_rfl)
def e_Tree_part_Items_1_1 : Shallow := ⟨[tP, tI, tP, tP], [tB], fun x => F_Tree_part_Items_1_1 ids x.1 x.2.1 x.2.2.1 x.2.2.2.1⟩
def an_Tree_part_Items_1_1 : Ann := { order := Sw.look [(4, ([[0, 1, 2, 3, 4, 5, 6, 7, 8, 9, 10, 11, 12]], [])), (6, ([[0, 1, 2, 3, 4, 5, 6, 7, 8, 9, 10, 11]], [])), (8, ([[0, 1, 2, 3, 4, 5, 6, 7, 8, 9, 10, 11]], []))], reg := Sw.look [(1, ([(17, tB)], [0, 1, 2, 3])), (4, ([(35, tB)], [0, 1, 2, 3, 7])), (6, ([(47, tB)], [0, 1, 2, 7]))], join := Sw.look [], loop := Sw.look [], blk := Sw.lookL [], res := [(6, tB)], anys := [27, 40, 48] }
theorem l_Tree_part_Items_1_1 : FnOk Try.prog 79 e_Tree_part_Items_1_1 :=
 fn_ok mixed (l := [(80, e_node_part_count)]) ⟨l_node_part_count, trivial⟩ (An := an_Tree_part_Items_1_1) Try.func79 (c := Try.f79.body.getD .skip) (by kernel_rfl) Try.ntmps79 (by kernel_rfl) (fun _ _ => Try.call79 _ _) _ (by kernel_rfl) (fun x => by kernel_rfl) (by kernel_rfl)
def e_Text_Tags_1 : Shallow := ⟨[tI, tI, tP], [], fun x => F_Text_Tags_1 ids x.1 x.2.1 x.2.2.1⟩
def an_Text_Tags_1 : Ann := { order := Sw.look [], reg := Sw.look [], join := Sw.look [], loop := Sw.look [], blk := Sw.lookL [], res := [], anys := [] }
theorem l_Text_Tags_1 : FnOk Try.prog 83 e_Text_Tags_1 :=
 fn_ok mixed (l := []) trivial (An := an_Text_Tags_1) Try.func83 (c := Try.f83.body.getD .skip) (by kernel_rfl) Try.ntmps83 (by kernel_rfl) (fun _ _ => Try.call83 _ _) _ (by kernel_rfl) (fun x => by kernel_rfl) (by kernel_rfl)
def e_codec_bounds : Shallow := ⟨[(.one (.int .u8))], [tI, (.one (.int .u8)), (.one (.int .u8))], fun x => F_codec_bounds ids x.1⟩
def an_codec_bounds : Ann := { order := Sw.look [], reg := Sw.look [], join := Sw.look [], loop := Sw.look [], blk := Sw.lookL [(0, [])], res := [(2, tI), (3, (.one (.int .u8))), (4, (.one (.int .u8)))], anys := [] }
theorem l_codec_bounds : FnOk Try.prog 140 e_codec_bounds :=
 fn_ok mixed (l := []) trivial (An := an_codec_bounds) Try.func140 (c := Try.f140.body.getD .skip) (by kernel_rfl) Try.ntmps140 (by kernel_rfl) (fun _ _ => Try.call140 _ _) _ (by kernel_rfl) (fun x => by kernel_rfl) (by kernel_rfl)
def e_codec_row : Shallow := ⟨[tS], [tI, tI], fun x => F_codec_row ids x.1⟩
def an_codec_row : Ann := { order := Sw.look [], reg := Sw.look [(4, ([(36, tB)], [0, 4])), (7, ([(54, tB)], [0, 4, 7]))], join := Sw.look [], loop := Sw.look [(7, ([(7, tI)], [0, 4]))], blk := Sw.lookL [(0, [(7, tI)]), (1, [(7, tI)])], res := [(2, tI), (3, tI)], anys := [] }
theorem l_codec_row : FnOk Try.prog 139 e_codec_row :=
 fn_ok mixed (l := [(140, e_codec_bounds)]) ⟨l_codec_bounds, trivial⟩ (An := an_codec_row) Try.func139 (c := Try.f139.body.getD .skip) (by kernel_rfl) Try.ntmps139 (by kernel_rfl) (fun _ _ => Try.call139 _ _) _ (by kernel_rfl) (fun x => by kernel_rfl) (by kernel_rfl)
def e_eight_first : Shallow := ⟨[(.agg []), tS], [tI, tI], fun x => F_eight_first ids x.1 x.2.1⟩
def an_eight_first : Ann := { order := Sw.look [], reg := Sw.look [(2, ([(22, tB)], [1, 7]))], join := Sw.look [(12, ([(8, tI)], [1, 7]))], loop := Sw.look [(13, ([(8, tI), (49, tI)], [7, 47, 48]))], blk := Sw.lookL [(0, [(8, tI)]), (1, [(8, tI)]), (2, [(8, tI)])], res := [(4, tI), (5, tI)], anys := [] }
theorem l_eight_first : FnOk Try.prog 134 e_eight_first :=
 fn_ok mixed (l := [(139, e_codec_row)]) ⟨l_codec_row, trivial⟩ (An := an_eight_first) Try.func134 (c := Try.f134.body.getD .skip) (by kernel_rfl) Try.ntmps134 (by kernel_rfl) (fun _ _ => Try.call134 _ _) _ (by kernel_rfl) (fun x => by kernel_rfl) (by kernel_rfl)
def e_eight_size : Shallow := ⟨[(.agg []), tI], [tI], fun x => F_eight_size ids x.1 x.2.1⟩
def an_eight_size : Ann := { order := Sw.look [], reg := Sw.look [(1, ([(5, tB)], [1]))], join := Sw.look [], loop := Sw.look [], blk := Sw.lookL [(0, [])], res := [(4, tI)], anys := [] }
theorem l_eight_size : FnOk Try.prog 138 e_eight_size :=
 fn_ok mixed (l := []) trivial (An := an_eight_size) Try.func138 (c := Try.f138.body.getD .skip) (by kernel_rfl) Try.ntmps138 (by kernel_rfl) (fun _ _ => Try.call138 _ _) _ (by kernel_rfl) (fun x => by kernel_rfl) (by kernel_rfl)
def e_eight_put : Shallow := ⟨[(.agg []), tS, tI], [tS], fun x => F_eight_put ids x.1 x.2.1 x.2.2.1⟩
def an_eight_put : Ann := { order := Sw.look [(7, ([[0, 1, 2, 3, 4, 5, 6, 7, 8, 9, 10, 11, 12, 13]], []))], reg := Sw.look [], join := Sw.look [], loop := Sw.look [(9, ([(1, tS), (9, tI)], [2]))], blk := Sw.lookL [(0, [(1, tS)]), (1, [(1, tS)])], res := [(6, tS)], anys := [] }
theorem l_eight_put : FnOk Try.prog 137 e_eight_put :=
 fn_ok mixed (l := [(138, e_eight_size)]) ⟨l_eight_size, trivial⟩ (An := an_eight_put) Try.func137 (c := Try.f137.body.getD .skip) (by kernel_rfl) Try.ntmps137 (by kernel_rfl) (fun _ _ => Try.call137 _ _) _ (by kernel_rfl) (fun x => by kernel_rfl) (by kernel_rfl)
def e_sixteen_unit : Shallow := ⟨[(.agg [bI]), tS], [tI], fun x => F_sixteen_unit ids x.1 x.2.1⟩
def an_sixteen_unit : Ann := { order := Sw.look [(1, ([[0, 1, 2, 3, 4, 5, 6, 7, 8, 9, 10, 11, 12, 13, 14, 15]], []))], reg := Sw.look [], join := Sw.look [], loop := Sw.look [], blk := Sw.lookL [], res := [(4, tI)], anys := [] }
theorem l_sixteen_unit : FnOk Try.prog 146 e_sixteen_unit :=
 fn_ok mixed (l := []) trivial (An := an_sixteen_unit) Try.func146 (c := Try.f146.body.getD .skip) (by kernel_rfl) Try.ntmps146 (by kernel_rfl) (fun _ _ => Try.call146 _ _) _ (by kernel_rfl) (fun x => by kernel_rfl) (by kernel_rfl)
def e_codec_high : Shallow := ⟨[tI], [tB], fun x => F_codec_high ids x.1⟩
def an_codec_high : Ann := { order := Sw.look [], reg := Sw.look [], join := Sw.look [], loop := Sw.look [], blk := Sw.lookL [], res := [(2, tB)], anys := [] }
theorem l_codec_high : FnOk Try.prog 147 e_codec_high :=
 fn_ok mixed (l := []) trivial (An := an_codec_high) Try.func147 (c := Try.f147.body.getD .skip) (by kernel_rfl) Try.ntmps147 (by kernel_rfl) (fun _ _ => Try.call147 _ _) _ (by kernel_rfl) (fun x => by kernel_rfl) (by kernel_rfl)
def e_codec_low : Shallow := ⟨[tI], [tB], fun x => F_codec_low ids x.1⟩
def an_codec_low : Ann := { order := Sw.look [], reg := Sw.look [], join := Sw.look [], loop := Sw.look [], blk := Sw.lookL [], res := [(2, tB)], anys := [] }
theorem l_codec_low : FnOk Try.prog 148 e_codec_low :=
 fn_ok mixed (l := []) trivial (An := an_codec_low) Try.func148 (c := Try.f148.body.getD .skip) (by kernel_rfl) Try.ntmps148 (by kernel_rfl) (fun _ _ => Try.call148 _ _) _ (by kernel_rfl) (fun x => by kernel_rfl) (by kernel_rfl)
end
end Go.Proofs.Ytjhnjehmbgaciaa
