/-
  Each function of the cut does what its shallow program says (the text is printed by program).
-/
import Derived.Test.YtaebgdhdldfigaaSwLlines1m
set_option maxRecDepth 100000
set_option maxHeartbeats 4000000
set_option linter.unusedVariables false
namespace Go.Proofs.Ytaebgdhdldfigaa
open Go Go.Sw
noncomputable section
def e_law6_breaks : Shallow := ⟨[tP], [tI], fun x => F_law6_breaks ids x.1⟩
def an_law6_breaks : Ann := { order := Sw.look [], reg := Sw.look [], join := Sw.look [], loop := Sw.look [], blk := Sw.lookL [], res := [(2, tI)], anys := [] }
theorem l_law6_breaks : FnOk Try.prog 38 e_law6_breaks :=
 fn_ok mixed (l := [(20, e_lines_Kinds)]) ⟨l_lines_Kinds, trivial⟩ (An := an_law6_breaks) Try.func38 (c := Try.f38.body.getD .skip) (by kernel_rfl) Try.ntmps38 (by kernel_rfl) (fun _ _ => Try.call38 _ _) _ (by kernel_rfl) (fun x => by kernel_rfl) (by kernel_rfl)
def e_law6_LinesSeam : Shallow := ⟨[(.agg [bI, .sl]), tI], [tB], fun x => F_law6_LinesSeam ids x.1 x.2.1⟩
def an_law6_LinesSeam : Ann := { order := Sw.look [(7, ([[0, 1, 2, 3, 4, 5, 6, 7, 8, 9, 10, 11, 12], [0, 1, 2, 3, 4, 5, 10, 6, 7, 8, 9, 11, 12], [0, 1, 2, 3, 4, 10, 5, 6, 7, 8, 9, 11, 12]], [(1, 5), (1, 10), (3, 10)])), (8, ([[0, 1, 2, 3, 4, 5, 6, 7, 8, 9, 10, 11, 12, 13, 14, 15, 16, 17, 18, 19, 20, 21, 22, 23, 24, 26, 27, 28, 25, 29, 30, 31]], [(27, 25)])), (11, ([[0, 1, 2, 3, 4, 5, 6, 7, 8, 9, 10, 11, 12, 13, 15, 16, 14, 17, 18, 19, 20, 21, 22, 23, 25, 26, 27, 24, 28, 29, 30, 31]], [(1, 6), (1, 8), (26, 24)])), (15, ([[0, 1, 2, 3, 4, 5, 6, 7, 8, 9, 10, 11, 12], [0, 1, 2, 3, 4, 5, 10, 6, 7, 8, 9, 11, 12], [0, 1, 2, 3, 4, 10, 5, 6, 7, 8, 9, 11, 12]], [(1, 5), (1, 10), (3, 10)]))], reg := Sw.look [(2, ([(24, tB)], [1, 5])), (5, ([(49, tB)], [1, 5])), (7, ([(7, tP), (8, tI)], [1, 5])), (8, ([(91, tB)], [1, 5, 7])), (11, ([(126, tB)], [1, 5, 7, 9])), (15, ([(10, tP), (11, tI)], [5, 7, 9])), (16, ([(4, tB)], []))], join := Sw.look [], loop := Sw.look [], blk := Sw.lookL [], res := [(4, tB)], anys := [] }
theorem l_law6_LinesSeam : FnOk Try.prog 7 e_law6_LinesSeam :=
 fn_ok mixed (l := [(10, e_law6_opened), (11, e_lines_Count), (14, e_law6_within), (37, e_Text_Change), (23, e_lines_Of), (19, e_lines_At), (38, e_law6_breaks)]) ⟨l_law6_opened, l_lines_Count, l_law6_within, l_Text_Change, l_lines_Of, l_lines_At, l_law6_breaks, trivial⟩ (An := an_law6_LinesSeam) Try.func7 (c := Try.f7.body.getD .skip) (by kernel_rfl) Try.ntmps7 (by kernel_rfl) (fun _ _ => Try.call7 _ _) _ (by kernel_rfl) (fun x => by kernel_rfl) (by kernel_rfl)
def e_law6_contents : Shallow := ⟨[tP, tS, tI, tI, tI], [tS], fun x => F_law6_contents ids x.1 x.2.1 x.2.2.1 x.2.2.2.1 x.2.2.2.2.1⟩
def an_law6_contents : Ann := { order := Sw.look [], reg := Sw.look [(6, ([(34, tB)], [0, 1, 2, 3, 4, 11, 12, 13, 14])), (8, ([(51, tB)], [0, 1, 2, 3, 4, 11, 12, 13]))], join := Sw.look [(4, ([(11, tS)], [0, 1, 2, 3, 4, 12]))], loop := Sw.look [(3, ([(11, tS), (12, tI)], [0, 1, 2, 3, 4])), (11, ([(11, tS), (15, tI)], [0, 1, 2, 3, 4, 12, 13]))], blk := Sw.lookL [(0, [(11, tS)]), (1, [(11, tS)]), (2, [(11, tS)]), (3, [(11, tS)])], res := [(10, tS)], anys := [] }
theorem l_law6_contents : FnOk Try.prog 39 e_law6_contents :=
 fn_ok mixed (l := [(19, e_lines_At)]) ⟨l_lines_At, trivial⟩ (An := an_law6_contents) Try.func39 (c := Try.f39.body.getD .skip) (by kernel_rfl) Try.ntmps39 (by kernel_rfl) (fun _ _ => Try.call39 _ _) _ (by kernel_rfl) (fun x => by kernel_rfl) (by kernel_rfl)
def e_law6_LinesDeleted : Shallow := ⟨[(.agg [bI, .sl]), tI, tI], [tB], fun x => F_law6_LinesDeleted ids x.1 x.2.1 x.2.2.1⟩
def an_law6_LinesDeleted : Ann := { order := Sw.look [], reg := Sw.look [(5, ([(38, tB)], [1, 2, 7, 9])), (10, ([(85, tB)], [1, 2, 7, 9, 10])), (12, ([(115, tB)], [1, 2, 7, 9, 10])), (16, ([(141, tB)], [1, 2, 7, 9, 10, 12])), (26, ([(6, tB)], [])), (28, ([(6, tB)], []))], join := Sw.look [(18, ([], [1, 2, 7, 9, 10, 12]))], loop := Sw.look [], blk := Sw.lookL [], res := [(6, tB)], anys := [] }
theorem l_law6_LinesDeleted : FnOk Try.prog 8 e_law6_LinesDeleted :=
 fn_ok mixed (l := [(10, e_law6_opened), (11, e_lines_Count), (14, e_law6_within), (21, e_lines_Whole), (20, e_lines_Kinds), (19, e_lines_At), (39, e_law6_contents), (37, e_Text_Change), (40, e_law6_spliced), (24, e_Text_Atoms), (16, e_law6_same)]) ⟨l_law6_opened, l_lines_Count, l_law6_within, l_lines_Whole, l_lines_Kinds, l_lines_At, l_law6_contents, l_Text_Change, l_law6_spliced, l_Text_Atoms, l_law6_same, trivial⟩ (An := an_law6_LinesDeleted) Try.func8 (c := Try.f8.body.getD .skip) (by kernel_rfl) Try.ntmps8 (by kernel_rfl) (fun _ _ => Try.call8 _ _) _ (by kernel_rfl) (fun x => by kernel_rfl) (by kernel_rfl)
def e_law6_LinesGrow : Shallow := ⟨[(.agg [bI, .sl]), tI, tS, tI], [tB], fun x => F_law6_LinesGrow ids x.1 x.2.1 x.2.2.1 x.2.2.2.1⟩
def an_law6_LinesGrow : Ann := { order := Sw.look [(19, ([[0, 1, 2, 3, 5, 4, 6, 7, 8, 9, 10, 11]], [(1, 4)])), (20, ([[0, 1, 2, 3, 4, 5, 6, 7, 8, 9, 10, 11, 12, 13, 14, 15, 16, 17, 18, 19, 20, 21, 22, 24, 25, 23, 26, 27, 28]], [(25, 23)])), (22, ([[0, 1, 2, 3, 4, 5, 6, 7, 8, 9]], [(1, 5), (1, 7)]))], reg := Sw.look [(2, ([(34, tB)], [1, 2, 3, 9])), (5, ([(65, tB)], [1, 2, 3, 9])), (11, ([(76, tB)], [1, 2, 3, 9, 11, 12, 13])), (20, ([(135, tB)], [1, 9, 11, 12, 15, 16])), (30, ([(170, tB)], [11, 16, 18, 19]))], join := Sw.look [(17, ([(12, tI), (14, tI)], [1, 2, 3, 9, 11, 13])), (29, ([(18, tS)], [11, 16, 19])), (35, ([(20, tS)], [11, 18, 21]))], loop := Sw.look [(11, ([(11, tS), (12, tI), (13, tI)], [1, 2, 3, 9])), (28, ([(18, tS), (19, tI)], [11, 16])), (34, ([(20, tS), (21, tI)], [11, 18]))], blk := Sw.lookL [(0, [(11, tS), (12, tI)]), (1, [(11, tS), (12, tI)]), (2, [(18, tS)]), (3, [(18, tS)]), (4, [(20, tS)]), (5, [(20, tS)])], res := [(8, tB)], anys := [] }
theorem l_law6_LinesGrow : FnOk Try.prog 9 e_law6_LinesGrow :=
 fn_ok mixed (l := [(10, e_law6_opened), (11, e_lines_Count), (14, e_law6_within), (38, e_law6_breaks), (12, e_law6_copied), (15, e_lines_Typed), (24, e_Text_Atoms), (16, e_law6_same), (37, e_Text_Change)]) ⟨l_law6_opened, l_lines_Count, l_law6_within, l_law6_breaks, l_law6_copied, l_lines_Typed, l_Text_Atoms, l_law6_same, l_Text_Change, trivial⟩ (An := an_law6_LinesGrow) Try.func9 (c := Try.f9.body.getD .skip) (by kernel_rfl) Try.ntmps9 (by kernel_rfl) (fun _ _ => Try.call9 _ _) _ (by kernel_rfl) (fun x => by kernel_rfl) (by kernel_rfl)
def e_law6_line : Shallow := ⟨[(.agg [bI, bI, bI, bI]), (.agg [bI, bI, bI, bI])], [tB], fun x => F_law6_line ids x.1 x.2.1⟩
def an_law6_line : Ann := { order := Sw.look [], reg := Sw.look [(1, ([(4, tB)], []))], join := Sw.look [], loop := Sw.look [], blk := Sw.lookL [], res := [(4, tB)], anys := [] }
theorem l_law6_line : FnOk Try.prog 29 e_law6_line :=
 fn_ok mixed (l := []) trivial (An := an_law6_line) Try.func29 (c := Try.f29.body.getD .skip) (by kernel_rfl) Try.ntmps29 (by kernel_rfl) (fun _ _ => Try.call29 _ _) _ (by kernel_rfl) (fun x => by kernel_rfl) (by kernel_rfl)
def e_law6_LinesTurned_1 : Shallow := ⟨[tI, (.agg [bI, bI, bI, bI]), tP, tP, tP, tP, tP, tP, tP], [tB], fun x => F_law6_LinesTurned_1 ids x.1 x.2.1 x.2.2.1 x.2.2.2.1 x.2.2.2.2.1 x.2.2.2.2.2.1 x.2.2.2.2.2.2.1 x.2.2.2.2.2.2.2.1 x.2.2.2.2.2.2.2.2.1⟩
def an_law6_LinesTurned_1 : Ann := { order := Sw.look [(1, ([[0, 1, 2, 3, 4, 5, 6, 7, 8, 9, 10, 11, 12, 13, 14, 15, 16]], []))], reg := Sw.look [(1, ([(29, tB)], [2, 3, 5, 6, 7, 8])), (3, ([(45, tB)], [2, 5, 6, 7, 8])), (8, ([], [5]))], join := Sw.look [(3, ([], [2, 3, 5, 6, 7, 8])), (7, ([], [2, 5]))], loop := Sw.look [], blk := Sw.lookL [], res := [(11, tB)], anys := [] }
theorem l_law6_LinesTurned_1 : FnOk Try.prog 28 e_law6_LinesTurned_1 :=
 fn_ok mixed (l := [(29, e_law6_line), (30, e_Both_edited)]) ⟨l_law6_line, l_Both_edited, trivial⟩ (An := an_law6_LinesTurned_1) Try.func28 (c := Try.f28.body.getD .skip) (by kernel_rfl) Try.ntmps28 (by kernel_rfl) (fun _ _ => Try.call28 _ _) _ (by kernel_rfl) (fun x => by kernel_rfl) (by kernel_rfl)
def e_Walk_met : Shallow := ⟨[tP, tI, (.agg [bI, bI, bI, bI])], [tB], fun x => F_Walk_met ids x.1 x.2.1 x.2.2.1⟩
def an_Walk_met : Ann := { order := Sw.look [(1, ([[0, 1, 2, 3, 4, 5, 6, 7, 8, 9, 10, 11, 12, 13, 14, 15, 16, 17, 18, 19, 20, 21, 22, 23, 24, 25, 26, 27, 28, 29, 30, 31, 32, 33, 34, 35, 36, 37]], [])), (6, ([[0, 1, 2, 3, 4, 5, 6, 7, 8, 9, 10, 11, 12]], []))], reg := Sw.look [(1, ([(44, tB)], [0]))], join := Sw.look [], loop := Sw.look [], blk := Sw.lookL [], res := [(6, tB)], anys := [] }
theorem l_Walk_met : FnOk Try.prog 32 e_Walk_met :=
 fn_ok mixed (l := [(29, e_law6_line)]) ⟨l_law6_line, trivial⟩ (An := an_Walk_met) Try.func32 (c := Try.f32.body.getD .skip) (by kernel_rfl) Try.ntmps32 (by kernel_rfl) (fun _ _ => Try.call32 _ _) _ (by kernel_rfl) (fun x => by kernel_rfl) (by kernel_rfl)
def e_law6_LinesTurned_2 : Shallow := ⟨[tI, (.agg [bI, bI, bI, bI]), tP], [tB], fun x => F_law6_LinesTurned_2 ids x.1 x.2.1 x.2.2.1⟩
def an_law6_LinesTurned_2 : Ann := { order := Sw.look [], reg := Sw.look [], join := Sw.look [], loop := Sw.look [], blk := Sw.lookL [], res := [(5, tB)], anys := [] }
theorem l_law6_LinesTurned_2 : FnOk Try.prog 31 e_law6_LinesTurned_2 :=
 fn_ok mixed (l := [(32, e_Walk_met)]) ⟨l_Walk_met, trivial⟩ (An := an_law6_LinesTurned_2) Try.func31 (c := Try.f31.body.getD .skip) (by kernel_rfl) Try.ntmps31 (by kernel_rfl) (fun _ _ => Try.call31 _ _) _ (by kernel_rfl) (fun x => by kernel_rfl) (by kernel_rfl)
def e_Text_Tags_1 : Shallow := ⟨[tI, tI, tP], [], fun x => F_Text_Tags_1 ids x.1 x.2.1 x.2.2.1⟩
def an_Text_Tags_1 : Ann := { order := Sw.look [], reg := Sw.look [], join := Sw.look [], loop := Sw.look [], blk := Sw.lookL [], res := [], anys := [] }
theorem l_Text_Tags_1 : FnOk Try.prog 47 e_Text_Tags_1 :=
 fn_ok mixed (l := []) trivial (An := an_Text_Tags_1) Try.func47 (c := Try.f47.body.getD .skip) (by kernel_rfl) Try.ntmps47 (by kernel_rfl) (fun _ _ => Try.call47 _ _) _ (by kernel_rfl) (fun x => by kernel_rfl) (by kernel_rfl)
def e_Text_Atoms_1 : Shallow := ⟨[tI, tI, tP], [], fun x => F_Text_Atoms_1 ids x.1 x.2.1 x.2.2.1⟩
def an_Text_Atoms_1 : Ann := { order := Sw.look [], reg := Sw.look [], join := Sw.look [], loop := Sw.look [], blk := Sw.lookL [], res := [], anys := [] }
theorem l_Text_Atoms_1 : FnOk Try.prog 51 e_Text_Atoms_1 :=
 fn_ok mixed (l := []) trivial (An := an_Text_Atoms_1) Try.func51 (c := Try.f51.body.getD .skip) (by kernel_rfl) Try.ntmps51 (by kernel_rfl) (fun _ _ => Try.call51 _ _) _ (by kernel_rfl) (fun x => by kernel_rfl) (by kernel_rfl)
def e_lines_All_1 : Shallow := ⟨[(.one .any), tP], [], fun x => F_lines_All_1 ids x.1 x.2.1⟩
def an_lines_All_1 : Ann := { order := Sw.look [], reg := Sw.look [(4, ([(39, tB)], [0, 1, 3]))], join := Sw.look [], loop := Sw.look [(2, ([(3, tI)], [0, 1]))], blk := Sw.lookL [(0, []), (1, [])], res := [], anys := [0, 34] }
theorem l_lines_All_1 : FnOk Try.prog 52 e_lines_All_1 :=
 fn_ok mixed (l := [(19, e_lines_At)]) ⟨l_lines_At, trivial⟩ (An := an_lines_All_1) Try.func52 (c := Try.f52.body.getD .skip) (by kernel_rfl) Try.ntmps52 (by kernel_rfl) (fun _ _ => Try.call52 _ _) _ (by kernel_rfl) (fun x => by kernel_rfl) (by kernel_rfl)
def e_Tree_part_Items_1 : Shallow := ⟨[(.one .any), tP, tP], [], fun x => F_Tree_part_Items_1 ids x.1 x.2.1 x.2.2.1⟩
def an_Tree_part_Items_1 : Ann := { order := Sw.look [], reg := Sw.look [], join := Sw.look [], loop := Sw.look [], blk := Sw.lookL [], res := [], anys := [0, 6] }
theorem l_Tree_part_Items_1 : FnOk Try.prog 81 e_Tree_part_Items_1 :=
 fn_ok mixed (l := []) trivial (An := an_Tree_part_Items_1) Try.func81 (c := Try.f81.body.getD .skip) (by kernel_rfl) Try.ntmps81 (by kernel_rfl) (fun _ _ => Try.call81 _ _) _ (by kernel_rfl) (fun x => by kernel_rfl) (by kernel_rfl)
def e_Tree_part_Items_1_1 : Shallow := ⟨[tP, tI, tP, tP], [tB], fun x => F_Tree_part_Items_1_1 ids x.1 x.2.1 x.2.2.1 x.2.2.2.1⟩
def an_Tree_part_Items_1_1 : Ann := { order := Sw.look [(4, ([[0, 1, 2, 3, 4, 5, 6, 7, 8, 9, 10, 11, 12]], [])), (6, ([[0, 1, 2, 3, 4, 5, 6, 7, 8, 9, 10, 11]], [])), (8, ([[0, 1, 2, 3, 4, 5, 6, 7, 8, 9, 10, 11]], []))], reg := Sw.look [(1, ([(17, tB)], [0, 1, 2, 3])), (4, ([(35, tB)], [0, 1, 2, 3, 7])), (6, ([(47, tB)], [0, 1, 2, 7]))], join := Sw.look [], loop := Sw.look [], blk := Sw.lookL [], res := [(6, tB)], anys := [27, 40, 48] }
theorem l_Tree_part_Items_1_1 : FnOk Try.prog 82 e_Tree_part_Items_1_1 :=
 fn_ok mixed (l := [(83, e_node_part_count)]) ⟨l_node_part_count, trivial⟩ (An := an_Tree_part_Items_1_1) Try.func82 (c := Try.f82.body.getD .skip) (by kernel_rfl) Try.ntmps82 (by kernel_rfl) (fun _ _ => Try.call82 _ _) _ (by kernel_rfl) (fun x => by kernel_rfl) (by kernel_rfl)
def e_codec_bounds : Shallow := ⟨[(.one (.int .u8))], [tI, (.one (.int .u8)), (.one (.int .u8))], fun x => F_codec_bounds ids x.1⟩
def an_codec_bounds : Ann := { order := Sw.look [], reg := Sw.look [], join := Sw.look [], loop := Sw.look [], blk := Sw.lookL [(0, [])], res := [(2, tI), (3, (.one (.int .u8))), (4, (.one (.int .u8)))], anys := [] }
theorem l_codec_bounds : FnOk Try.prog 125 e_codec_bounds :=
 fn_ok mixed (l := []) trivial (An := an_codec_bounds) Try.func125 (c := Try.f125.body.getD .skip) (by kernel_rfl) Try.ntmps125 (by kernel_rfl) (fun _ _ => Try.call125 _ _) _ (by kernel_rfl) (fun x => by kernel_rfl) (by kernel_rfl)
def e_codec_row : Shallow := ⟨[tS], [tI, tI], fun x => F_codec_row ids x.1⟩
def an_codec_row : Ann := { order := Sw.look [], reg := Sw.look [(4, ([(36, tB)], [0, 4])), (7, ([(54, tB)], [0, 4, 7]))], join := Sw.look [], loop := Sw.look [(7, ([(7, tI)], [0, 4]))], blk := Sw.lookL [(0, [(7, tI)]), (1, [(7, tI)])], res := [(2, tI), (3, tI)], anys := [] }
theorem l_codec_row : FnOk Try.prog 124 e_codec_row :=
 fn_ok mixed (l := [(125, e_codec_bounds)]) ⟨l_codec_bounds, trivial⟩ (An := an_codec_row) Try.func124 (c := Try.f124.body.getD .skip) (by kernel_rfl) Try.ntmps124 (by kernel_rfl) (fun _ _ => Try.call124 _ _) _ (by kernel_rfl) (fun x => by kernel_rfl) (by kernel_rfl)
def e_eight_first : Shallow := ⟨[(.agg []), tS], [tI, tI], fun x => F_eight_first ids x.1 x.2.1⟩
def an_eight_first : Ann := { order := Sw.look [], reg := Sw.look [(2, ([(22, tB)], [1, 7]))], join := Sw.look [(12, ([(8, tI)], [1, 7]))], loop := Sw.look [(13, ([(8, tI), (49, tI)], [7, 47, 48]))], blk := Sw.lookL [(0, [(8, tI)]), (1, [(8, tI)]), (2, [(8, tI)])], res := [(4, tI), (5, tI)], anys := [] }
theorem l_eight_first : FnOk Try.prog 119 e_eight_first :=
 fn_ok mixed (l := [(124, e_codec_row)]) ⟨l_codec_row, trivial⟩ (An := an_eight_first) Try.func119 (c := Try.f119.body.getD .skip) (by kernel_rfl) Try.ntmps119 (by kernel_rfl) (fun _ _ => Try.call119 _ _) _ (by kernel_rfl) (fun x => by kernel_rfl) (by kernel_rfl)
def e_eight_size : Shallow := ⟨[(.agg []), tI], [tI], fun x => F_eight_size ids x.1 x.2.1⟩
def an_eight_size : Ann := { order := Sw.look [], reg := Sw.look [(1, ([(5, tB)], [1]))], join := Sw.look [], loop := Sw.look [], blk := Sw.lookL [(0, [])], res := [(4, tI)], anys := [] }
theorem l_eight_size : FnOk Try.prog 123 e_eight_size :=
 fn_ok mixed (l := []) trivial (An := an_eight_size) Try.func123 (c := Try.f123.body.getD .skip) (by kernel_rfl) Try.ntmps123 (by kernel_rfl) (fun _ _ => Try.call123 _ _) _ (by kernel_rfl) (fun x => by kernel_rfl) (by kernel_rfl)
def e_eight_put : Shallow := ⟨[(.agg []), tS, tI], [tS], fun x => F_eight_put ids x.1 x.2.1 x.2.2.1⟩
def an_eight_put : Ann := { order := Sw.look [(7, ([[0, 1, 2, 3, 4, 5, 6, 7, 8, 9, 10, 11, 12, 13]], []))], reg := Sw.look [], join := Sw.look [], loop := Sw.look [(9, ([(1, tS), (9, tI)], [2]))], blk := Sw.lookL [(0, [(1, tS)]), (1, [(1, tS)])], res := [(6, tS)], anys := [] }
theorem l_eight_put : FnOk Try.prog 122 e_eight_put :=
 fn_ok mixed (l := [(123, e_eight_size)]) ⟨l_eight_size, trivial⟩ (An := an_eight_put) Try.func122 (c := Try.f122.body.getD .skip) (by kernel_rfl) Try.ntmps122 (by kernel_rfl) (fun _ _ => Try.call122 _ _) _ (by kernel_rfl) (fun x => by kernel_rfl) (by kernel_rfl)
def e_sixteen_unit : Shallow := ⟨[(.agg [bI]), tS], [tI], fun x => F_sixteen_unit ids x.1 x.2.1⟩
def an_sixteen_unit : Ann := { order := Sw.look [(1, ([[0, 1, 2, 3, 4, 5, 6, 7, 8, 9, 10, 11, 12, 13, 14, 15]], []))], reg := Sw.look [], join := Sw.look [], loop := Sw.look [], blk := Sw.lookL [], res := [(4, tI)], anys := [] }
theorem l_sixteen_unit : FnOk Try.prog 131 e_sixteen_unit :=
 fn_ok mixed (l := []) trivial (An := an_sixteen_unit) Try.func131 (c := Try.f131.body.getD .skip) (by kernel_rfl) Try.ntmps131 (by kernel_rfl) (fun _ _ => Try.call131 _ _) _ (by kernel_rfl) (fun x => by kernel_rfl) (by kernel_rfl)
def e_codec_high : Shallow := ⟨[tI], [tB], fun x => F_codec_high ids x.1⟩
def an_codec_high : Ann := { order := Sw.look [], reg := Sw.look [], join := Sw.look [], loop := Sw.look [], blk := Sw.lookL [], res := [(2, tB)], anys := [] }
theorem l_codec_high : FnOk Try.prog 132 e_codec_high :=
 fn_ok mixed (l := []) trivial (An := an_codec_high) Try.func132 (c := Try.f132.body.getD .skip) (by kernel_rfl) Try.ntmps132 (by kernel_rfl) (fun _ _ => Try.call132 _ _) _ (by kernel_rfl) (fun x => by kernel_rfl) (by kernel_rfl)
def e_codec_low : Shallow := ⟨[tI], [tB], fun x => F_codec_low ids x.1⟩
def an_codec_low : Ann := { order := Sw.look [], reg := Sw.look [], join := Sw.look [], loop := Sw.look [], blk := Sw.lookL [], res := [(2, tB)], anys := [] }
theorem l_codec_low : FnOk Try.prog 133 e_codec_low :=
 fn_ok mixed (l := []) trivial (An := an_codec_low) Try.func133 (c := Try.f133.body.getD .skip) (by kernel_rfl) Try.ntmps133 (by kernel_rfl) (fun _ _ => Try.call133 _ _) _ (by kernel_rfl) (fun x => by kernel_rfl) (by kernel_rfl)
def e_sixteen_first : Shallow := ⟨[(.agg [bI]), tS], [tI, tI], fun x => F_sixteen_first ids x.1 x.2.1⟩
def an_sixteen_first : Ann := { order := Sw.look [(5, ([[0, 1, 2, 3, 4]], []))], reg := Sw.look [(4, ([(25, tB)], [1, 2, 6]))], join := Sw.look [(8, ([], [6]))], loop := Sw.look [], blk := Sw.lookL [], res := [(4, tI), (5, tI)], anys := [] }
theorem l_sixteen_first : FnOk Try.prog 126 e_sixteen_first :=
 fn_ok mixed (l := [(131, e_sixteen_unit), (132, e_codec_high), (133, e_codec_low)]) ⟨l_sixteen_unit, l_codec_high, l_codec_low, trivial⟩ (An := an_sixteen_first) Try.func126 (c := Try.f126.body.getD .skip) (by kernel_rfl) Try.ntmps126 (by kernel_rfl) (fun _ _ => Try.call126 _ _) _ (by kernel_rfl) (fun x => by kernel_rfl) (by kernel_rfl)
def e_sixteen_half : Shallow := ⟨[(.agg [bI]), tS, tI], [tS], fun x => F_sixteen_half ids x.1 x.2.1 x.2.2.1⟩
def an_sixteen_half : Ann := { order := Sw.look [(2, ([[0, 1, 2, 3, 4, 5, 6, 7, 8, 9, 10, 11, 12, 13]], [(3, 11)]))], reg := Sw.look [], join := Sw.look [], loop := Sw.look [], blk := Sw.lookL [], res := [(6, tS)], anys := [] }
theorem l_sixteen_half : FnOk Try.prog 134 e_sixteen_half :=
 fn_ok mixed (l := []) trivial (An := an_sixteen_half) Try.func134 (c := Try.f134.body.getD .skip) (by kernel_rfl) Try.ntmps134 (by kernel_rfl) (fun _ _ => Try.call134 _ _) _ (by kernel_rfl) (fun x => by kernel_rfl) (by kernel_rfl)
def e_sixteen_put : Shallow := ⟨[(.agg [bI]), tS, tI], [tS], fun x => F_sixteen_put ids x.1 x.2.1 x.2.2.1⟩
def an_sixteen_put : Ann := { order := Sw.look [(5, ([[0, 1, 2, 3, 4, 5, 6, 8, 9, 10, 7, 11, 12]], [(0, 7)]))], reg := Sw.look [], join := Sw.look [], loop := Sw.look [], blk := Sw.lookL [(0, [])], res := [(6, tS)], anys := [] }
theorem l_sixteen_put : FnOk Try.prog 129 e_sixteen_put :=
 fn_ok mixed (l := [(134, e_sixteen_half)]) ⟨l_sixteen_half, trivial⟩ (An := an_sixteen_put) Try.func129 (c := Try.f129.body.getD .skip) (by kernel_rfl) Try.ntmps129 (by kernel_rfl) (fun _ _ => Try.call129 _ _) _ (by kernel_rfl) (fun x => by kernel_rfl) (by kernel_rfl)
def e_sixteen_size : Shallow := ⟨[(.agg [bI]), tI], [tI], fun x => F_sixteen_size ids x.1 x.2.1⟩
def an_sixteen_size : Ann := { order := Sw.look [], reg := Sw.look [(1, ([(5, tB)], [1]))], join := Sw.look [], loop := Sw.look [], blk := Sw.lookL [(0, [])], res := [(4, tI)], anys := [] }
theorem l_sixteen_size : FnOk Try.prog 130 e_sixteen_size :=
 fn_ok mixed (l := []) trivial (An := an_sixteen_size) Try.func130 (c := Try.f130.body.getD .skip) (by kernel_rfl) Try.ntmps130 (by kernel_rfl) (fun _ _ => Try.call130 _ _) _ (by kernel_rfl) (fun x => by kernel_rfl) (by kernel_rfl)
def e_latin_first : Shallow := ⟨[(.agg []), tS], [tI, tI], fun x => F_latin_first ids x.1 x.2.1⟩
def an_latin_first : Ann := { order := Sw.look [], reg := Sw.look [], join := Sw.look [], loop := Sw.look [], blk := Sw.lookL [], res := [(4, tI), (5, tI)], anys := [] }
theorem l_latin_first : FnOk Try.prog 135 e_latin_first :=
 fn_ok mixed (l := []) trivial (An := an_latin_first) Try.func135 (c := Try.f135.body.getD .skip) (by kernel_rfl) Try.ntmps135 (by kernel_rfl) (fun _ _ => Try.call135 _ _) _ (by kernel_rfl) (fun x => by kernel_rfl) (by kernel_rfl)
def e_latin_put : Shallow := ⟨[(.agg []), tS, tI], [tS], fun x => F_latin_put ids x.1 x.2.1 x.2.2.1⟩
def an_latin_put : Ann := { order := Sw.look [], reg := Sw.look [], join := Sw.look [], loop := Sw.look [], blk := Sw.lookL [], res := [(6, tS)], anys := [] }
theorem l_latin_put : FnOk Try.prog 138 e_latin_put :=
 fn_ok mixed (l := []) trivial (An := an_latin_put) Try.func138 (c := Try.f138.body.getD .skip) (by kernel_rfl) Try.ntmps138 (by kernel_rfl) (fun _ _ => Try.call138 _ _) _ (by kernel_rfl) (fun x => by kernel_rfl) (by kernel_rfl)
def e_latin_size : Shallow := ⟨[(.agg []), tI], [tI], fun x => F_latin_size ids x.1 x.2.1⟩
def an_latin_size : Ann := { order := Sw.look [], reg := Sw.look [(1, ([(10, tB)], []))], join := Sw.look [], loop := Sw.look [], blk := Sw.lookL [], res := [(4, tI)], anys := [] }
theorem l_latin_size : FnOk Try.prog 139 e_latin_size :=
 fn_ok mixed (l := []) trivial (An := an_latin_size) Try.func139 (c := Try.f139.body.getD .skip) (by kernel_rfl) Try.ntmps139 (by kernel_rfl) (fun _ _ => Try.call139 _ _) _ (by kernel_rfl) (fun x => by kernel_rfl) (by kernel_rfl)
end
end Go.Proofs.Ytaebgdhdldfigaa
