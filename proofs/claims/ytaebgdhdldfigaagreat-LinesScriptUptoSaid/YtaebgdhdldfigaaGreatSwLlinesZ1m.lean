/-
  Each function of the cut does what its shallow program says (the text is printed by program).
-/
import Derived.Test.YtaebgdhdldfigaaGreatSwLlinesZ0m
set_option maxRecDepth 100000
set_option maxHeartbeats 4000000
set_option linter.unusedVariables false
namespace Go.Proofs.YtaebgdhdldfigaaGreat
open Go Go.Sw
noncomputable section
def e_ref6_Count : Shallow := ⟨[tS], [tI], fun x => F_ref6_Count ids x.1⟩
def an_ref6_Count : Ann := { order := Sw.look [], reg := Sw.look [], join := Sw.look [], loop := Sw.look [], blk := Sw.lookL [], res := [(2, tI)], anys := [] }
theorem l_ref6_Count : FnOk Tryz.prog 14 e_ref6_Count :=
 fn_ok mixed (l := [(21, e_ref6_All)]) ⟨l_ref6_All, trivial⟩ (An := an_ref6_Count) Tryz.func14 (c := Tryz.f14.body.getD .skip) (by kernel_rfl) Tryz.ntmps14 (by kernel_rfl) (fun _ _ => Tryz.call14 _ _) _ (by kernel_rfl) (fun x => by kernel_rfl) (by kernel_rfl)
def e_law6_within : Shallow := ⟨[tI, tI], [tI], fun x => F_law6_within ids x.1 x.2.1⟩
def an_law6_within : Ann := { order := Sw.look [], reg := Sw.look [], join := Sw.look [(3, ([(0, tI)], [1]))], loop := Sw.look [], blk := Sw.lookL [], res := [(4, tI)], anys := [] }
theorem l_law6_within : FnOk Tryz.prog 39 e_law6_within :=
 fn_ok mixed (l := []) trivial (An := an_law6_within) Tryz.func39 (c := Tryz.f39.body.getD .skip) (by kernel_rfl) Tryz.ntmps39 (by kernel_rfl) (fun _ _ => Tryz.call39 _ _) _ (by kernel_rfl) (fun x => by kernel_rfl) (by kernel_rfl)
def e_law6_plain : Shallow := ⟨[tS], [tS], fun x => F_law6_plain ids x.1⟩
def an_law6_plain : Ann := { order := Sw.look [], reg := Sw.look [(3, ([(13, tB)], [0, 3, 4])), (6, ([(25, tB)], [0, 3, 4, 5]))], join := Sw.look [(8, ([(5, tI)], [0, 3, 4]))], loop := Sw.look [(3, ([(3, tS), (4, tI)], [0]))], blk := Sw.lookL [(0, [(3, tS)]), (1, [(3, tS)])], res := [(2, tS)], anys := [] }
theorem l_law6_plain : FnOk Tryz.prog 40 e_law6_plain :=
 fn_ok mixed (l := []) trivial (An := an_law6_plain) Tryz.func40 (c := Tryz.f40.body.getD .skip) (by kernel_rfl) Tryz.ntmps40 (by kernel_rfl) (fun _ _ => Tryz.call40 _ _) _ (by kernel_rfl) (fun x => by kernel_rfl) (by kernel_rfl)
def e_law6_copied : Shallow := ⟨[tS], [tS], fun x => F_law6_copied ids x.1⟩
def an_law6_copied : Ann := { order := Sw.look [], reg := Sw.look [], join := Sw.look [], loop := Sw.look [(3, ([(3, tS), (4, tI)], [0]))], blk := Sw.lookL [(0, [(3, tS)]), (1, [(3, tS)])], res := [(2, tS)], anys := [] }
theorem l_law6_copied : FnOk Tryz.prog 42 e_law6_copied :=
 fn_ok mixed (l := []) trivial (An := an_law6_copied) Tryz.func42 (c := Tryz.f42.body.getD .skip) (by kernel_rfl) Tryz.ntmps42 (by kernel_rfl) (fun _ _ => Tryz.call42 _ _) _ (by kernel_rfl) (fun x => by kernel_rfl) (by kernel_rfl)
def e_Text_Size : Shallow := ⟨[tP], [tI], fun x => F_Text_Size ids x.1⟩
def an_Text_Size : Ann := { order := Sw.look [], reg := Sw.look [], join := Sw.look [], loop := Sw.look [], blk := Sw.lookL [], res := [(2, tI)], anys := [] }
theorem l_Text_Size : FnOk Tryz.prog 89 e_Text_Size :=
 fn_ok mixed (l := [(35, e_Tree_part_Sum)]) ⟨l_Tree_part_Sum, trivial⟩ (An := an_Text_Size) Tryz.func89 (c := Tryz.f89.body.getD .skip) (by kernel_rfl) Tryz.ntmps89 (by kernel_rfl) (fun _ _ => Tryz.call89 _ _) _ (by kernel_rfl) (fun x => by kernel_rfl) (by kernel_rfl)
def e_codec_Size : Shallow := ⟨[tI, tI], [tI], fun x => F_codec_Size ids x.1 x.2.1⟩
def an_codec_Size : Ann := { order := Sw.look [], reg := Sw.look [], join := Sw.look [], loop := Sw.look [], blk := Sw.lookL [], res := [(4, tI)], anys := [5, 7, 8, 10] }
theorem l_codec_Size : FnOk Tryz.prog 90 e_codec_Size :=
 fn_ok mixed (l := [(65, e_codec_of)]) ⟨l_codec_of, trivial⟩ (An := an_codec_Size) Tryz.func90 (c := Tryz.f90.body.getD .skip) (by kernel_rfl) Tryz.ntmps90 (by kernel_rfl) (fun _ _ => Tryz.call90 _ _) _ (by kernel_rfl) (fun x => by kernel_rfl) (by kernel_rfl)
def e_Text_refuse : Shallow := ⟨[tP, tS], [tI], fun x => F_Text_refuse ids x.1 x.2.1⟩
def an_Text_refuse : Ann := { order := Sw.look [(28, ([[0, 1, 2, 3, 6, 7, 8, 4, 5, 9, 10, 11, 12, 13]], [(8, 4)]))], reg := Sw.look [(7, ([(44, tB)], [0, 1, 6, 8, 22, 23, 24]))], join := Sw.look [(29, ([(9, tI)], [0, 76, 77, 78]))], loop := Sw.look [(5, ([(5, tI), (24, tI)], [0, 1, 6, 22, 23])), (13, ([(9, tI), (52, tI)], [0, 1, 50, 51])), (16, ([(9, tI), (59, tI)], [0, 1, 50, 51, 52, 57, 58])), (25, ([(9, tI), (78, tI)], [0, 76, 77]))], blk := Sw.lookL [(0, []), (1, [(5, tI)]), (2, [(9, tI)]), (3, [(9, tI)]), (4, [(9, tI)]), (5, [(9, tI)]), (6, [(9, tI)]), (7, [(9, tI)])], res := [(4, tI)], anys := [] }
theorem l_Text_refuse : FnOk Tryz.prog 76 e_Text_refuse :=
 fn_ok mixed (l := [(19, e_Text_Len), (89, e_Text_Size), (90, e_codec_Size), (36, e_Text_ahead)]) ⟨l_Text_Len, l_Text_Size, l_codec_Size, l_Text_ahead, trivial⟩ (An := an_Text_refuse) Tryz.func76 (c := Tryz.f76.body.getD .skip) (by kernel_rfl) Tryz.ntmps76 (by kernel_rfl) (fun _ _ => Tryz.call76 _ _) _ (by kernel_rfl) (fun x => by kernel_rfl) (by kernel_rfl)
def e_Text_fresh_1 : Shallow := ⟨[tP, tP, tP, tP], [], fun x => F_Text_fresh_1 ids x.1 x.2.1 x.2.2.1 x.2.2.2.1⟩
def an_Text_fresh_1 : Ann := { order := Sw.look [(2, ([[0, 1, 2, 3, 4, 5, 6, 7, 8, 9, 10, 11, 12, 13, 14, 15, 16]], [(0, 13), (0, 14)]))], reg := Sw.look [], join := Sw.look [], loop := Sw.look [], blk := Sw.lookL [], res := [], anys := [] }
theorem l_Text_fresh_1 : FnOk Tryz.prog 96 e_Text_fresh_1 :=
 fn_ok mixed (l := [(33, e_piece_newPart)]) ⟨l_piece_newPart, trivial⟩ (An := an_Text_fresh_1) Tryz.func96 (c := Tryz.f96.body.getD .skip) (by kernel_rfl) Tryz.ntmps96 (by kernel_rfl) (fun _ _ => Tryz.call96 _ _) _ (by kernel_rfl) (fun x => by kernel_rfl) (by kernel_rfl)
def e_codec_Encode : Shallow := ⟨[tI, tS], [tS, tI, tI], fun x => F_codec_Encode ids x.1 x.2.1⟩
def an_codec_Encode : Ann := { order := Sw.look [], reg := Sw.look [], join := Sw.look [], loop := Sw.look [(6, ([(8, tS), (17, tI)], [7, 15, 16]))], blk := Sw.lookL [(0, [(8, tS)]), (1, [(8, tS)])], res := [(4, tS), (5, tI), (6, tI)], anys := [7, 12, 13, 22, 27] }
theorem l_codec_Encode : FnOk Tryz.prog 97 e_codec_Encode :=
 fn_ok mixed (l := [(65, e_codec_of)]) ⟨l_codec_of, trivial⟩ (An := an_codec_Encode) Tryz.func97 (c := Tryz.f97.body.getD .skip) (by kernel_rfl) Tryz.ntmps97 (by kernel_rfl) (fun _ _ => Tryz.call97 _ _) _ (by kernel_rfl) (fun x => by kernel_rfl) (by kernel_rfl)
def e_Text_fresh : Shallow := ⟨[tP, tS], [tS], fun x => F_Text_fresh ids x.1 x.2.1⟩
def an_Text_fresh : Ann := { order := Sw.look [(12, ([[0, 1, 2, 3, 4, 5, 6, 7, 8, 9]], [(0, 6)]))], reg := Sw.look [(8, ([(11, tB)], [2, 5, 7, 8, 10, 21, 22, 23])), (9, ([(42, tB)], [2, 5, 7, 8, 10, 11, 21, 22, 23]))], join := Sw.look [(11, ([], [2, 5, 7, 8, 10, 11, 21, 22, 23])), (16, ([], [2, 5, 7, 8, 21, 22, 23]))], loop := Sw.look [(6, ([(23, tI)], [2, 5, 7, 8, 21, 22]))], blk := Sw.lookL [(0, []), (1, [])], res := [(4, tS)], anys := [] }
theorem l_Text_fresh : FnOk Tryz.prog 91 e_Text_fresh :=
 fn_ok mixed (l := [(96, e_Text_fresh_1), (97, e_codec_Encode)]) ⟨l_Text_fresh_1, l_codec_Encode, trivial⟩ (An := an_Text_fresh) Tryz.func91 (c := Tryz.f91.body.getD .skip) (by kernel_rfl) Tryz.ntmps91 (by kernel_rfl) (fun _ _ => Tryz.call91 _ _) _ (by kernel_rfl) (fun x => by kernel_rfl) (by kernel_rfl)
def e_tree_even_part : Shallow := ⟨[tP, (.agg b7), tP], [tP], fun x => F_tree_even_part ids x.1 x.2.1 x.2.2.1⟩
def an_tree_even_part : Ann := { order := Sw.look [(2, ([[0, 1, 2, 3, 5, 6, 7, 8, 4, 9, 10]], [(8, 4)])), (3, ([[0, 1, 2, 3, 4, 5, 6, 7, 8, 9, 10, 11, 12, 13, 14, 15, 16]], [(3, 14), (7, 14)])), (5, ([[0, 1, 2, 3, 4, 5, 6, 7, 8, 9, 10, 11, 13, 14, 15, 16, 17, 18, 19, 20, 21, 22, 12, 23, 24, 25]], [(16, 12), (16, 23), (20, 12), (21, 12)])), (7, ([[0, 1, 2, 3, 5, 6, 7, 8, 4, 9, 10]], [(8, 4)])), (8, ([[0, 1, 2, 3, 4, 5, 7, 8, 9, 10, 11, 12, 13, 14, 6, 15, 16]], [(10, 6), (14, 6)])), (10, ([[0, 1, 2, 3, 4, 5, 7, 8, 9, 10, 11, 12, 13, 14, 15, 16, 17, 18, 19, 20, 21, 22, 6, 23, 24, 25]], [(10, 6), (10, 23), (14, 6), (18, 6), (22, 6)]))], reg := Sw.look [], join := Sw.look [], loop := Sw.look [], blk := Sw.lookL [(0, [])], res := [(6, tP)], anys := [] }
theorem l_tree_even_part : FnOk Tryz.prog 102 e_tree_even_part :=
 fn_ok mixed (l := [(93, e_node_part_tall), (85, e_tree_of_part)]) ⟨l_node_part_tall, l_tree_of_part, trivial⟩ (An := an_tree_even_part) Tryz.func102 (c := Tryz.f102.body.getD .skip) (by kernel_rfl) Tryz.ntmps102 (by kernel_rfl) (fun _ _ => Tryz.call102 _ _) _ (by kernel_rfl) (fun x => by kernel_rfl) (by kernel_rfl)
def e_tree_join_part : Shallow := ⟨[tP, (.agg b7), tP], [tP], fun x => F_tree_join_part ids x.1 x.2.1 x.2.2.1⟩
def an_tree_join_part : Ann := { order := Sw.look [(2, ([[0, 1, 2, 3, 4, 5, 6, 7, 8, 9, 10, 11, 12, 13, 14, 15, 16]], [(3, 14), (7, 14)])), (4, ([[0, 1, 2, 3, 4, 5, 7, 8, 9, 10, 11, 12, 13, 14, 6, 15, 16]], [(10, 6), (14, 6)]))], reg := Sw.look [], join := Sw.look [], loop := Sw.look [], blk := Sw.lookL [(0, [])], res := [(6, tP)], anys := [] }
theorem l_tree_join_part : FnOk Tryz.prog 100 e_tree_join_part :=
 fn_ex (tys := [tP, (.agg b7), tP]) (res := [tP]) (R := fun fuelN => fun x => R_tree_join_part fuelN ids x.1 x.2.1 x.2.2.1) (fun _ => rfl) (fun _ _ => Tryz.call100 _ _) fun fuelN ih =>
 fn_ok mixed (l := [(93, e_node_part_tall), (100, (⟨[tP, (.agg b7), tP], [tP], fun x => R_tree_join_part fuelN ids x.1 x.2.1 x.2.2.1⟩ : Shallow)), (102, e_tree_even_part), (85, e_tree_of_part)]) ⟨l_node_part_tall, ih, l_tree_even_part, l_tree_of_part, trivial⟩ (An := an_tree_join_part) Tryz.func100 (c := Tryz.f100.body.getD .skip) (by kernel_rfl) Tryz.ntmps100 (by kernel_rfl) (fun _ _ => Tryz.call100 _ _) _ (by kernel_rfl) (fun x => by kernel_rfl) (by kernel_rfl)
def e_node_part_cut : Shallow := ⟨[tP, tI], [tP, tP], fun x => F_node_part_cut ids x.1 x.2.1⟩
def an_node_part_cut : Ann := { order := Sw.look [(6, ([[0, 1, 2, 3, 4, 5, 6, 7, 8, 9, 10, 11, 12]], [])), (8, ([[0, 1, 2, 3, 4, 5, 6, 7, 8, 10, 9, 11, 12]], []))], reg := Sw.look [], join := Sw.look [], loop := Sw.look [], blk := Sw.lookL [], res := [(4, tP), (5, tP)], anys := [] }
theorem l_node_part_cut : FnOk Tryz.prog 98 e_node_part_cut :=
 fn_ex (tys := [tP, tI]) (res := [tP, tP]) (R := fun fuelN => fun x => R_node_part_cut fuelN ids x.1 x.2.1) (fun _ => rfl) (fun _ _ => Tryz.call98 _ _) fun fuelN ih =>
 fn_ok mixed (l := [(87, e_node_part_count), (98, (⟨[tP, tI], [tP, tP], fun x => R_node_part_cut fuelN ids x.1 x.2.1⟩ : Shallow)), (100, e_tree_join_part)]) ⟨l_node_part_count, ih, l_tree_join_part, trivial⟩ (An := an_node_part_cut) Tryz.func98 (c := Tryz.f98.body.getD .skip) (by kernel_rfl) Tryz.ntmps98 (by kernel_rfl) (fun _ _ => Tryz.call98 _ _) _ (by kernel_rfl) (fun x => by kernel_rfl) (by kernel_rfl)
def e_node_part_first : Shallow := ⟨[tP], [(.agg b7), tP], fun x => F_node_part_first ids x.1⟩
def an_node_part_first : Ann := { order := Sw.look [(2, ([[0, 1, 2, 3, 4, 5, 6, 7, 8, 9]], [(7, 8)])), (4, ([[0, 1, 2, 3, 4, 5, 6, 7, 8, 9, 10, 11, 12]], [(0, 10)]))], reg := Sw.look [], join := Sw.look [], loop := Sw.look [], blk := Sw.lookL [], res := [(2, tP), (3, tP)], anys := [] }
theorem l_node_part_first : FnOk Tryz.prog 101 e_node_part_first :=
 fn_ex (tys := [tP]) (res := [(.agg b7), tP]) (R := fun fuelN => fun x => R_node_part_first fuelN ids x.1) (fun _ => rfl) (fun _ _ => Tryz.call101 _ _) fun fuelN ih =>
 fn_ok mixed (l := [(101, (⟨[tP], [(.agg b7), tP], fun x => R_node_part_first fuelN ids x.1⟩ : Shallow)), (102, e_tree_even_part)]) ⟨ih, l_tree_even_part, trivial⟩ (An := an_node_part_first) Tryz.func101 (c := Tryz.f101.body.getD .skip) (by kernel_rfl) Tryz.ntmps101 (by kernel_rfl) (fun _ _ => Tryz.call101 _ _) _ (by kernel_rfl) (fun x => by kernel_rfl) (by kernel_rfl)
def e_tree_both_part : Shallow := ⟨[tP, tP], [tP], fun x => F_tree_both_part ids x.1 x.2.1⟩
def an_tree_both_part : Ann := { order := Sw.look [], reg := Sw.look [], join := Sw.look [], loop := Sw.look [], blk := Sw.lookL [], res := [(4, tP)], anys := [] }
theorem l_tree_both_part : FnOk Tryz.prog 99 e_tree_both_part :=
 fn_ok mixed (l := [(101, e_node_part_first), (100, e_tree_join_part)]) ⟨l_node_part_first, l_tree_join_part, trivial⟩ (An := an_tree_both_part) Tryz.func99 (c := Tryz.f99.body.getD .skip) (by kernel_rfl) Tryz.ntmps99 (by kernel_rfl) (fun _ _ => Tryz.call99 _ _) _ (by kernel_rfl) (fun x => by kernel_rfl) (by kernel_rfl)
def e_Tree_part_Replace : Shallow := ⟨[(.agg [.ptr]), tI, tI, tS], [(.agg [.ptr]), tI], fun x => F_Tree_part_Replace ids x.1 x.2.1 x.2.2.1 x.2.2.2.1⟩
def an_Tree_part_Replace : Ann := { order := Sw.look [], reg := Sw.look [(1, ([(26, tB)], [1, 2, 3, 4, 8]))], join := Sw.look [], loop := Sw.look [], blk := Sw.lookL [], res := [(8, tP), (9, tI)], anys := [] }
theorem l_Tree_part_Replace : FnOk Tryz.prog 92 e_Tree_part_Replace :=
 fn_ok mixed (l := [(86, e_Tree_part_Size), (98, e_node_part_cut), (68, e_tree_build_part), (99, e_tree_both_part)]) ⟨l_Tree_part_Size, l_node_part_cut, l_tree_build_part, l_tree_both_part, trivial⟩ (An := an_Tree_part_Replace) Tryz.func92 (c := Tryz.f92.body.getD .skip) (by kernel_rfl) Tryz.ntmps92 (by kernel_rfl) (fun _ _ => Tryz.call92 _ _) _ (by kernel_rfl) (fun x => by kernel_rfl) (by kernel_rfl)
def e_Text_replace : Shallow := ⟨[tP, tI, tI, tS], [], fun x => F_Text_replace ids x.1 x.2.1 x.2.2.1 x.2.2.2.1⟩
def an_Text_replace : Ann := { order := Sw.look [(5, ([[0, 1, 2, 3, 4, 5, 6, 7, 8, 9, 10, 11, 12, 13], [0, 1, 2, 3, 4, 5, 6, 7, 8, 9, 11, 10, 12, 13], [0, 1, 2, 3, 4, 5, 10, 6, 7, 8, 9, 11, 12, 13], [0, 1, 2, 3, 4, 5, 10, 11, 6, 7, 8, 9, 12, 13], [0, 1, 2, 3, 4, 5, 11, 6, 7, 8, 9, 10, 12, 13], [0, 1, 2, 3, 4, 5, 11, 10, 6, 7, 8, 9, 12, 13]], [(0, 10), (0, 11), (4, 10), (4, 11)])), (10, ([[0, 1, 2, 3, 4, 5, 6, 7, 8, 9, 10, 11, 12, 13], [0, 1, 2, 3, 4, 5, 6, 7, 8, 9, 11, 10, 12, 13], [0, 1, 2, 3, 4, 5, 10, 6, 7, 8, 9, 11, 12, 13], [0, 1, 2, 3, 4, 5, 10, 11, 6, 7, 8, 9, 12, 13], [0, 1, 2, 3, 4, 5, 11, 6, 7, 8, 9, 10, 12, 13], [0, 1, 2, 3, 4, 5, 11, 10, 6, 7, 8, 9, 12, 13]], [(0, 10), (0, 11), (4, 10), (4, 11)])), (13, ([[0, 1, 2, 3, 4, 5, 6, 7, 8, 9, 10, 11, 14, 12, 13, 15, 16, 17, 18, 19, 20, 21]], [(4, 12)]))], reg := Sw.look [(4, ([(46, tB)], [0, 3, 8, 9, 10, 11, 12, 13])), (5, ([(15, tP)], [0, 3, 8, 10, 11, 12])), (10, ([(20, tP)], [0, 8, 10, 12]))], join := Sw.look [(7, ([(12, tS)], [0, 3, 8, 10, 11])), (13, ([(12, tS)], [0, 8, 10]))], loop := Sw.look [], blk := Sw.lookL [], res := [], anys := [] }
theorem l_Text_replace : FnOk Tryz.prog 77 e_Text_replace :=
 fn_ok mixed (l := [(69, e_Text_find), (71, e_Tree_part_At), (72, e_part_cut), (91, e_Text_fresh), (86, e_Tree_part_Size), (92, e_Tree_part_Replace)]) ⟨l_Text_find, l_Tree_part_At, l_part_cut, l_Text_fresh, l_Tree_part_Size, l_Tree_part_Replace, trivial⟩ (An := an_Text_replace) Tryz.func77 (c := Tryz.f77.body.getD .skip) (by kernel_rfl) Tryz.ntmps77 (by kernel_rfl) (fun _ _ => Tryz.call77 _ _) _ (by kernel_rfl) (fun x => by kernel_rfl) (by kernel_rfl)
def e_Text_Change : Shallow := ⟨[tP, tS], [tI], fun x => F_Text_Change ids x.1 x.2.1⟩
def an_Text_Change : Ann := { order := Sw.look [], reg := Sw.look [(8, ([(35, tB)], [0, 1, 6, 7]))], join := Sw.look [(6, ([], [0, 1, 6]))], loop := Sw.look [(5, ([(6, tI)], [0, 1]))], blk := Sw.lookL [(0, []), (1, [])], res := [(4, tI)], anys := [] }
theorem l_Text_Change : FnOk Tryz.prog 41 e_Text_Change :=
 fn_ok mixed (l := [(76, e_Text_refuse), (77, e_Text_replace)]) ⟨l_Text_refuse, l_Text_replace, trivial⟩ (An := an_Text_Change) Tryz.func41 (c := Tryz.f41.body.getD .skip) (by kernel_rfl) Tryz.ntmps41 (by kernel_rfl) (fun _ _ => Tryz.call41 _ _) _ (by kernel_rfl) (fun x => by kernel_rfl) (by kernel_rfl)
def e_law6_spliced : Shallow := ⟨[tS, tI, tI, tS], [tS], fun x => F_law6_spliced ids x.1 x.2.1 x.2.2.1 x.2.2.2.1⟩
def an_law6_spliced : Ann := { order := Sw.look [], reg := Sw.look [], join := Sw.look [], loop := Sw.look [(3, ([(9, tS), (10, tI)], [0, 2, 3])), (7, ([(9, tS), (11, tI)], [0]))], blk := Sw.lookL [(0, [(9, tS)]), (1, [(9, tS)]), (2, [(9, tS)]), (3, [(9, tS)])], res := [(8, tS)], anys := [] }
theorem l_law6_spliced : FnOk Tryz.prog 43 e_law6_spliced :=
 fn_ok mixed (l := [(42, e_law6_copied)]) ⟨l_law6_copied, trivial⟩ (An := an_law6_spliced) Tryz.func43 (c := Tryz.f43.body.getD .skip) (by kernel_rfl) Tryz.ntmps43 (by kernel_rfl) (fun _ _ => Tryz.call43 _ _) _ (by kernel_rfl) (fun x => by kernel_rfl) (by kernel_rfl)
def e_Both_edited : Shallow := ⟨[tP, tI, tI, tS], [tB], fun x => F_Both_edited ids x.1 x.2.1 x.2.2.1 x.2.2.2.1⟩
def an_Both_edited : Ann := { order := Sw.look [(4, ([[0, 1, 2, 3, 4, 5, 6, 7, 8, 9, 10, 11]], [(3, 7), (3, 9)]))], reg := Sw.look [], join := Sw.look [], loop := Sw.look [], blk := Sw.lookL [], res := [(8, tB)], anys := [] }
theorem l_Both_edited : FnOk Tryz.prog 22 e_Both_edited :=
 fn_ok mixed (l := [(39, e_law6_within), (40, e_law6_plain), (42, e_law6_copied), (41, e_Text_Change), (43, e_law6_spliced)]) ⟨l_law6_within, l_law6_plain, l_law6_copied, l_Text_Change, l_law6_spliced, trivial⟩ (An := an_Both_edited) Tryz.func22 (c := Tryz.f22.body.getD .skip) (by kernel_rfl) Tryz.ntmps22 (by kernel_rfl) (fun _ _ => Tryz.call22 _ _) _ (by kernel_rfl) (fun x => by kernel_rfl) (by kernel_rfl)
def e_lines_All : Shallow := ⟨[tP], [(.one .any)], fun x => F_lines_All ids x.1⟩
def an_lines_All : Ann := { order := Sw.look [], reg := Sw.look [], join := Sw.look [], loop := Sw.look [], blk := Sw.lookL [], res := [(2, (.one .any))], anys := [] }
theorem l_lines_All : FnOk Tryz.prog 51 e_lines_All :=
 fn_ok mixed (l := []) trivial (An := an_lines_All) Tryz.func51 (c := Tryz.f51.body.getD .skip) (by kernel_rfl) Tryz.ntmps51 (by kernel_rfl) (fun _ _ => Tryz.call51 _ _) _ (by kernel_rfl) (fun x => by kernel_rfl) (by kernel_rfl)
def e_lines_Kinds : Shallow := ⟨[tP], [(.agg [bI, bI, bI, bI])], fun x => F_lines_Kinds ids x.1⟩
def an_lines_Kinds : Ann := { order := Sw.look [], reg := Sw.look [], join := Sw.look [], loop := Sw.look [], blk := Sw.lookL [(0, []), (1, [])], res := [(2, tP)], anys := [7], rng := Sw.look [(8, ([(8, tI), (9, (.agg [bI, bI, bI, bI]))], [(5, tP)]))] }
theorem l_lines_Kinds : FnOk Tryz.prog 44 e_lines_Kinds :=
 fn_okR mixed (l := [(51, e_lines_All)]) ⟨l_lines_All, trivial⟩ (An := an_lines_Kinds) Tryz.func44 (c := Tryz.f44.body.getD .skip) (by kernel_rfl) Tryz.ntmps44 (by kernel_rfl) (fun _ _ => Tryz.call44 _ _) _ (by kernel_rfl) (fun x => by kernel_rfl)
def e_ref6_Kinds : Shallow := ⟨[tS], [(.agg [bI, bI, bI, bI])], fun x => F_ref6_Kinds ids x.1⟩
def an_ref6_Kinds : Ann := { order := Sw.look [], reg := Sw.look [], join := Sw.look [], loop := Sw.look [(4, ([(6, tI)], [2, 3, 4, 5]))], blk := Sw.lookL [(0, []), (1, [])], res := [(2, tP)], anys := [] }
theorem l_ref6_Kinds : FnOk Tryz.prog 45 e_ref6_Kinds :=
 fn_ok mixed (l := [(21, e_ref6_All)]) ⟨l_ref6_All, trivial⟩ (An := an_ref6_Kinds) Tryz.func45 (c := Tryz.f45.body.getD .skip) (by kernel_rfl) Tryz.ntmps45 (by kernel_rfl) (fun _ _ => Tryz.call45 _ _) _ (by kernel_rfl) (fun x => by kernel_rfl) (by kernel_rfl)
def e_lines_closed : Shallow := ⟨[tP, tI, tI], [(.agg [bI, bI, bI, bI])], fun x => F_lines_closed ids x.1 x.2.1 x.2.2.1⟩
def an_lines_closed : Ann := { order := Sw.look [], reg := Sw.look [(5, ([(30, tB)], [1, 2, 6]))], join := Sw.look [], loop := Sw.look [], blk := Sw.lookL [(0, [])], res := [(6, tP)], anys := [] }
theorem l_lines_closed : FnOk Tryz.prog 78 e_lines_closed :=
 fn_ok mixed (l := [(37, e_Text_Atoms)]) ⟨l_Text_Atoms, trivial⟩ (An := an_lines_closed) Tryz.func78 (c := Tryz.f78.body.getD .skip) (by kernel_rfl) Tryz.ntmps78 (by kernel_rfl) (fun _ _ => Tryz.call78 _ _) _ (by kernel_rfl) (fun x => by kernel_rfl) (by kernel_rfl)
def e_lines_At : Shallow := ⟨[tP, tI], [(.agg [bI, bI, bI, bI]), tI], fun x => F_lines_At ids x.1 x.2.1⟩
def an_lines_At : Ann := { order := Sw.look [], reg := Sw.look [], join := Sw.look [], loop := Sw.look [], blk := Sw.lookL [], res := [(4, tP), (5, tI)], anys := [] }
theorem l_lines_At : FnOk Tryz.prog 48 e_lines_At :=
 fn_ok mixed (l := [(38, e_Text_Seek), (19, e_Text_Len), (18, e_Text_Breaks), (78, e_lines_closed)]) ⟨l_Text_Seek, l_Text_Len, l_Text_Breaks, l_lines_closed, trivial⟩ (An := an_lines_At) Tryz.func48 (c := Tryz.f48.body.getD .skip) (by kernel_rfl) Tryz.ntmps48 (by kernel_rfl) (fun _ _ => Tryz.call48 _ _) _ (by kernel_rfl) (fun x => by kernel_rfl) (by kernel_rfl)
def e_lines_Native : Shallow := ⟨[tP, tI], [tI], fun x => F_lines_Native ids x.1 x.2.1⟩
def an_lines_Native : Ann := { order := Sw.look [], reg := Sw.look [(2, ([(18, tB)], [1, 5]))], join := Sw.look [], loop := Sw.look [], blk := Sw.lookL [], res := [(4, tI)], anys := [] }
theorem l_lines_Native : FnOk Tryz.prog 46 e_lines_Native :=
 fn_ok mixed (l := [(48, e_lines_At)]) ⟨l_lines_At, trivial⟩ (An := an_lines_Native) Tryz.func46 (c := Tryz.f46.body.getD .skip) (by kernel_rfl) Tryz.ntmps46 (by kernel_rfl) (fun _ _ => Tryz.call46 _ _) _ (by kernel_rfl) (fun x => by kernel_rfl) (by kernel_rfl)
def e_ref6_Native : Shallow := ⟨[tS, tI], [tI], fun x => F_ref6_Native ids x.1 x.2.1⟩
def an_ref6_Native : Ann := { order := Sw.look [], reg := Sw.look [], join := Sw.look [], loop := Sw.look [], blk := Sw.lookL [], res := [(4, tI)], anys := [] }
theorem l_ref6_Native : FnOk Tryz.prog 47 e_ref6_Native :=
 fn_ok mixed (l := [(21, e_ref6_All)]) ⟨l_ref6_All, trivial⟩ (An := an_ref6_Native) Tryz.func47 (c := Tryz.f47.body.getD .skip) (by kernel_rfl) Tryz.ntmps47 (by kernel_rfl) (fun _ _ => Tryz.call47 _ _) _ (by kernel_rfl) (fun x => by kernel_rfl) (by kernel_rfl)
def e_Both_counts : Shallow := ⟨[tP, (.agg [bI, bI, bI, bI, .sl])], [tB], fun x => F_Both_counts ids x.1 x.2.1⟩
def an_Both_counts : Ann := { order := Sw.look [(3, ([[0, 1, 2, 3, 5, 6, 7, 8, 4, 9, 10, 11]], [(8, 4)])), (8, ([[0, 1, 2, 3, 4, 5, 7, 8, 9, 10, 11, 12, 6, 13, 14, 15]], [(10, 6), (12, 6)]))], reg := Sw.look [(7, ([(4, tB)], []))], join := Sw.look [], loop := Sw.look [], blk := Sw.lookL [(0, [])], res := [(4, tB)], anys := [] }
theorem l_Both_counts : FnOk Tryz.prog 23 e_Both_counts :=
 fn_ok mixed (l := [(13, e_lines_Count), (14, e_ref6_Count), (44, e_lines_Kinds), (45, e_ref6_Kinds), (46, e_lines_Native), (47, e_ref6_Native)]) ⟨l_lines_Count, l_ref6_Count, l_lines_Kinds, l_ref6_Kinds, l_lines_Native, l_ref6_Native, trivial⟩ (An := an_Both_counts) Tryz.func23 (c := Tryz.f23.body.getD .skip) (by kernel_rfl) Tryz.ntmps23 (by kernel_rfl) (fun _ _ => Tryz.call23 _ _) _ (by kernel_rfl) (fun x => by kernel_rfl) (by kernel_rfl)
def e_ref6_At : Shallow := ⟨[tS, tI], [(.agg [bI, bI, bI, bI]), tI], fun x => F_ref6_At ids x.1 x.2.1⟩
def an_ref6_At : Ann := { order := Sw.look [], reg := Sw.look [(2, ([(20, tB)], [1, 4, 6]))], join := Sw.look [], loop := Sw.look [], blk := Sw.lookL [], res := [(4, tP), (5, tI)], anys := [] }
theorem l_ref6_At : FnOk Tryz.prog 49 e_ref6_At :=
 fn_ok mixed (l := [(21, e_ref6_All)]) ⟨l_ref6_All, trivial⟩ (An := an_ref6_At) Tryz.func49 (c := Tryz.f49.body.getD .skip) (by kernel_rfl) Tryz.ntmps49 (by kernel_rfl) (fun _ _ => Tryz.call49 _ _) _ (by kernel_rfl) (fun x => by kernel_rfl) (by kernel_rfl)
def e_law6_line : Shallow := ⟨[(.agg [bI, bI, bI, bI]), (.agg [bI, bI, bI, bI])], [tB], fun x => F_law6_line ids x.1 x.2.1⟩
def an_law6_line : Ann := { order := Sw.look [], reg := Sw.look [(1, ([(4, tB)], []))], join := Sw.look [], loop := Sw.look [], blk := Sw.lookL [], res := [(4, tB)], anys := [] }
theorem l_law6_line : FnOk Tryz.prog 50 e_law6_line :=
 fn_ok mixed (l := []) trivial (An := an_law6_line) Tryz.func50 (c := Tryz.f50.body.getD .skip) (by kernel_rfl) Tryz.ntmps50 (by kernel_rfl) (fun _ _ => Tryz.call50 _ _) _ (by kernel_rfl) (fun x => by kernel_rfl) (by kernel_rfl)
def e_Both_ats : Shallow := ⟨[tP, (.agg [bI, bI, bI, bI, .sl])], [tB], fun x => F_Both_ats ids x.1 x.2.1⟩
def an_Both_ats : Ann := { order := Sw.look [(1, ([[0, 1, 2, 3, 4, 5, 6, 7, 8, 9, 10, 11, 12], [0, 1, 2, 3, 4, 5, 10, 6, 7, 8, 9, 11, 12]], [(3, 10), (5, 10)])), (2, ([[0, 1, 2, 3, 4, 5, 6, 7, 8, 9, 10, 11, 12], [0, 1, 2, 3, 4, 5, 10, 6, 7, 8, 9, 11, 12]], [(3, 10), (5, 10)]))], reg := Sw.look [(1, ([(5, tP), (6, tI)], [0, 3])), (2, ([(7, tP), (8, tI)], [5, 6])), (3, ([(4, tB)], []))], join := Sw.look [], loop := Sw.look [], blk := Sw.lookL [], res := [(4, tB)], anys := [] }
theorem l_Both_ats : FnOk Tryz.prog 24 e_Both_ats :=
 fn_ok mixed (l := [(48, e_lines_At), (49, e_ref6_At), (50, e_law6_line)]) ⟨l_lines_At, l_ref6_At, l_law6_line, trivial⟩ (An := an_Both_ats) Tryz.func24 (c := Tryz.f24.body.getD .skip) (by kernel_rfl) Tryz.ntmps24 (by kernel_rfl) (fun _ _ => Tryz.call24 _ _) _ (by kernel_rfl) (fun x => by kernel_rfl) (by kernel_rfl)
def e_lines_Of : Shallow := ⟨[tP, tI], [tI], fun x => F_lines_Of ids x.1 x.2.1⟩
def an_lines_Of : Ann := { order := Sw.look [], reg := Sw.look [], join := Sw.look [], loop := Sw.look [], blk := Sw.lookL [], res := [(4, tI)], anys := [] }
theorem l_lines_Of : FnOk Tryz.prog 25 e_lines_Of :=
 fn_ok mixed (l := [(19, e_Text_Len), (18, e_Text_Breaks)]) ⟨l_Text_Len, l_Text_Breaks, trivial⟩ (An := an_lines_Of) Tryz.func25 (c := Tryz.f25.body.getD .skip) (by kernel_rfl) Tryz.ntmps25 (by kernel_rfl) (fun _ _ => Tryz.call25 _ _) _ (by kernel_rfl) (fun x => by kernel_rfl) (by kernel_rfl)
def e_ref6_Of : Shallow := ⟨[tS, tI], [tI], fun x => F_ref6_Of ids x.1 x.2.1⟩
def an_ref6_Of : Ann := { order := Sw.look [], reg := Sw.look [], join := Sw.look [], loop := Sw.look [(3, ([(7, tI)], [1, 5]))], blk := Sw.lookL [(0, []), (1, [])], res := [(4, tI)], anys := [] }
theorem l_ref6_Of : FnOk Tryz.prog 26 e_ref6_Of :=
 fn_ok mixed (l := [(21, e_ref6_All)]) ⟨l_ref6_All, trivial⟩ (An := an_ref6_Of) Tryz.func26 (c := Tryz.f26.body.getD .skip) (by kernel_rfl) Tryz.ntmps26 (by kernel_rfl) (fun _ _ => Tryz.call26 _ _) _ (by kernel_rfl) (fun x => by kernel_rfl) (by kernel_rfl)
def e_Walk_well : Shallow := ⟨[tP], [tB], fun x => F_Walk_well ids x.1⟩
def an_Walk_well : Ann := { order := Sw.look [(1, ([[0, 1, 2, 3, 4, 5, 6, 7, 8, 9, 10, 11, 12, 13, 14, 15, 16, 17, 18, 19, 20, 21, 22, 23, 24, 25, 26, 27]], []))], reg := Sw.look [(1, ([(2, tB)], []))], join := Sw.look [], loop := Sw.look [], blk := Sw.lookL [], res := [(2, tB)], anys := [] }
theorem l_Walk_well : FnOk Tryz.prog 57 e_Walk_well :=
 fn_ok mixed (l := []) trivial (An := an_Walk_well) Tryz.func57 (c := Tryz.f57.body.getD .skip) (by kernel_rfl) Tryz.ntmps57 (by kernel_rfl) (fun _ _ => Tryz.call57 _ _) _ (by kernel_rfl) (fun x => by kernel_rfl) (by kernel_rfl)
def e_Both_alls : Shallow := ⟨[tP, (.agg [bI, bI, bI, bI, .sl])], [tB], fun x => F_Both_alls ids x.1 x.2.1⟩
def an_Both_alls : Ann := { order := Sw.look [], reg := Sw.look [(12, ([(4, tB)], []))], join := Sw.look [], loop := Sw.look [], blk := Sw.lookL [], res := [(4, tB)], anys := [24, 25, 33, 40, 51] }
theorem l_Both_alls : FnOk Tryz.prog 27 e_Both_alls :=
 fn_ok mixed (l := [(21, e_ref6_All), (51, e_lines_All), (57, e_Walk_well)]) ⟨l_ref6_All, l_lines_All, l_Walk_well, trivial⟩ (An := an_Both_alls) Tryz.func27 (c := Tryz.f27.body.getD .skip) (by kernel_rfl) Tryz.ntmps27 (by kernel_rfl) (fun _ _ => Tryz.call27 _ _) _ (by kernel_rfl) (fun x => by kernel_rfl) (by kernel_rfl)
def e_lines_Typed : Shallow := ⟨[tP, tI, tS, tI], [tS, tI], fun x => F_lines_Typed ids x.1 x.2.1 x.2.2.1 x.2.2.2.1⟩
def an_lines_Typed : Ann := { order := Sw.look [], reg := Sw.look [(10, ([(34, tB)], [0, 1, 2, 3, 10])), (26, ([(71, tB)], [2, 3, 10, 13, 14, 15, 54, 55, 56])), (27, ([(71, tB)], [2, 3, 10, 13, 14, 54, 55, 56]))], join := Sw.look [(10, ([(10, tS)], [0, 1, 2, 3])), (17, ([(11, tS), (12, tI)], [2, 3, 10, 13])), (19, ([(13, tI)], [2, 3, 10, 12])), (29, ([(14, tS)], [2, 3, 10, 13, 54, 55, 56]))], loop := Sw.look [(21, ([(12, tI), (14, tS), (56, tI)], [2, 3, 10, 13, 54, 55]))], blk := Sw.lookL [(0, [(10, tS)]), (1, [(14, tS)]), (2, [(12, tI), (14, tS)]), (3, [(14, tS)])], res := [(8, tS), (9, tI)], anys := [] }
theorem l_lines_Typed : FnOk Tryz.prog 58 e_lines_Typed :=
 fn_ok mixed (l := [(19, e_Text_Len), (37, e_Text_Atoms)]) ⟨l_Text_Len, l_Text_Atoms, trivial⟩ (An := an_lines_Typed) Tryz.func58 (c := Tryz.f58.body.getD .skip) (by kernel_rfl) Tryz.ntmps58 (by kernel_rfl) (fun _ _ => Tryz.call58 _ _) _ (by kernel_rfl) (fun x => by kernel_rfl) (by kernel_rfl)
def e_ref6_ahead : Shallow := ⟨[tS, tI, tS], [tI], fun x => F_ref6_ahead ids x.1 x.2.1 x.2.2.1⟩
def an_ref6_ahead : Ann := { order := Sw.look [], reg := Sw.look [], join := Sw.look [], loop := Sw.look [], blk := Sw.lookL [], res := [(6, tI)], anys := [] }
theorem l_ref6_ahead : FnOk Tryz.prog 80 e_ref6_ahead :=
 fn_ok mixed (l := []) trivial (An := an_ref6_ahead) Tryz.func80 (c := Tryz.f80.body.getD .skip) (by kernel_rfl) Tryz.ntmps80 (by kernel_rfl) (fun _ _ => Tryz.call80 _ _) _ (by kernel_rfl) (fun x => by kernel_rfl) (by kernel_rfl)
def e_ref6_Typed : Shallow := ⟨[tS, tI, tS, tI], [tS, tI], fun x => F_ref6_Typed ids x.1 x.2.1 x.2.2.1 x.2.2.2.1⟩
def an_ref6_Typed : Ann := { order := Sw.look [], reg := Sw.look [(1, ([(19, tB)], [0, 1, 2, 3])), (3, ([(27, tB)], [0, 1, 2, 3])), (12, ([(13, tB)], [0, 1, 2, 3, 10, 11])), (13, ([(77, tB)], [0, 1, 2, 3, 10, 11, 13])), (15, ([(86, tB)], [0, 1, 2, 3, 10, 11, 13])), (17, ([(98, tB)], [0, 1, 2, 3, 10, 11]))], join := Sw.look [(8, ([(10, tS)], [0, 1, 2, 3, 11])), (15, ([(13, tB)], [0, 1, 2, 3, 10, 11])), (17, ([(10, tS)], [0, 1, 2, 3, 11, 13]))], loop := Sw.look [(7, ([(10, tS), (11, tI)], [0, 1, 2, 3]))], blk := Sw.lookL [(0, [(10, tS)]), (1, [(10, tS)])], res := [(8, tS), (9, tI)], anys := [] }
theorem l_ref6_Typed : FnOk Tryz.prog 59 e_ref6_Typed :=
 fn_ok mixed (l := [(80, e_ref6_ahead)]) ⟨l_ref6_ahead, trivial⟩ (An := an_ref6_Typed) Tryz.func59 (c := Tryz.f59.body.getD .skip) (by kernel_rfl) Tryz.ntmps59 (by kernel_rfl) (fun _ _ => Tryz.call59 _ _) _ (by kernel_rfl) (fun x => by kernel_rfl) (by kernel_rfl)
def e_law6_same : Shallow := ⟨[tS, tS], [tB], fun x => F_law6_same ids x.1 x.2.1⟩
def an_law6_same : Ann := { order := Sw.look [(6, ([[0, 1, 2, 3, 4, 5, 6, 7, 8]], []))], reg := Sw.look [], join := Sw.look [], loop := Sw.look [(4, ([(5, tI)], [0, 1]))], blk := Sw.lookL [(0, []), (1, [])], res := [(4, tB)], anys := [] }
theorem l_law6_same : FnOk Tryz.prog 60 e_law6_same :=
 fn_ok mixed (l := []) trivial (An := an_law6_same) Tryz.func60 (c := Tryz.f60.body.getD .skip) (by kernel_rfl) Tryz.ntmps60 (by kernel_rfl) (fun _ _ => Tryz.call60 _ _) _ (by kernel_rfl) (fun x => by kernel_rfl) (by kernel_rfl)
def e_Both_typeds : Shallow := ⟨[tP, (.agg [bI, bI, bI, bI, .sl])], [tB], fun x => F_Both_typeds ids x.1 x.2.1⟩
def an_Both_typeds : Ann := { order := Sw.look [(1, ([[0, 1, 2, 3, 4, 5, 6, 7, 9, 10, 8, 11, 12, 13, 14, 15, 16]], [(3, 8), (5, 8), (10, 8)])), (2, ([[0, 1, 2, 3, 4, 5, 6, 7, 8, 9, 10, 11, 12, 13, 14, 15]], []))], reg := Sw.look [(3, ([(4, tB)], []))], join := Sw.look [], loop := Sw.look [], blk := Sw.lookL [], res := [(4, tB)], anys := [] }
theorem l_Both_typeds : FnOk Tryz.prog 28 e_Both_typeds :=
 fn_ok mixed (l := [(42, e_law6_copied), (58, e_lines_Typed), (59, e_ref6_Typed), (60, e_law6_same)]) ⟨l_law6_copied, l_lines_Typed, l_ref6_Typed, l_law6_same, trivial⟩ (An := an_Both_typeds) Tryz.func28 (c := Tryz.f28.body.getD .skip) (by kernel_rfl) Tryz.ntmps28 (by kernel_rfl) (fun _ _ => Tryz.call28 _ _) _ (by kernel_rfl) (fun x => by kernel_rfl) (by kernel_rfl)
end
end Go.Proofs.YtaebgdhdldfigaaGreat
