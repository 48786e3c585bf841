/-
  Each function of the cut does what its shallow program says (the text is printed by program).
-/
import Derived.Test.YtncolficnfcdcaaSwLhistory0m
set_option maxRecDepth 100000
set_option maxHeartbeats 4000000
set_option linter.unusedVariables false
namespace Go.Proofs.Ytncolficnfcdcaa
open Go Go.Sw
noncomputable section
def e_tree_even_part : Shallow := ⟨[tP, (.agg b7), tP], [tP], fun x => F_tree_even_part ids x.1 x.2.1 x.2.2.1⟩
def an_tree_even_part : Ann := { order := Sw.look [(2, ([[0, 1, 2, 3, 5, 6, 7, 8, 4, 9, 10]], [(8, 4)])), (3, ([[0, 1, 2, 3, 4, 5, 6, 7, 8, 9, 10, 11, 12, 13, 14, 15, 16]], [(3, 14), (7, 14)])), (5, ([[0, 1, 2, 3, 4, 5, 6, 7, 8, 9, 10, 11, 13, 14, 15, 16, 17, 18, 19, 20, 21, 22, 12, 23, 24, 25]], [(16, 12), (16, 23), (20, 12), (21, 12)])), (7, ([[0, 1, 2, 3, 5, 6, 7, 8, 4, 9, 10]], [(8, 4)])), (8, ([[0, 1, 2, 3, 4, 5, 7, 8, 9, 10, 11, 12, 13, 14, 6, 15, 16]], [(10, 6), (14, 6)])), (10, ([[0, 1, 2, 3, 4, 5, 7, 8, 9, 10, 11, 12, 13, 14, 15, 16, 17, 18, 19, 20, 21, 22, 6, 23, 24, 25]], [(10, 6), (10, 23), (14, 6), (18, 6), (22, 6)]))], reg := Sw.look [], join := Sw.look [], loop := Sw.look [], blk := Sw.lookL [(0, [])], res := [(6, tP)], anys := [] }
theorem l_tree_even_part : FnOk Try.prog 74 e_tree_even_part :=
 fn_ok mixed (l := [(71, e_node_part_tall), (66, e_tree_of_part)]) ⟨l_node_part_tall, l_tree_of_part, trivial⟩ (An := an_tree_even_part) Try.func74 (c := Try.f74.body.getD .skip) (by kernel_rfl) Try.ntmps74 (by kernel_rfl) (fun _ _ => Try.call74 _ _) _ (by kernel_rfl) (fun x => by kernel_rfl) (by kernel_rfl)
def e_tree_join_part : Shallow := ⟨[tP, (.agg b7), tP], [tP], fun x => F_tree_join_part ids x.1 x.2.1 x.2.2.1⟩
def an_tree_join_part : Ann := { order := Sw.look [(2, ([[0, 1, 2, 3, 4, 5, 6, 7, 8, 9, 10, 11, 12, 13, 14, 15, 16]], [(3, 14), (7, 14)])), (4, ([[0, 1, 2, 3, 4, 5, 7, 8, 9, 10, 11, 12, 13, 14, 6, 15, 16]], [(10, 6), (14, 6)]))], reg := Sw.look [], join := Sw.look [], loop := Sw.look [], blk := Sw.lookL [(0, [])], res := [(6, tP)], anys := [] }
theorem l_tree_join_part : FnOk Try.prog 72 e_tree_join_part :=
 fn_ex (tys := [tP, (.agg b7), tP]) (res := [tP]) (R := fun fuelN => fun x => R_tree_join_part fuelN ids x.1 x.2.1 x.2.2.1) (fun _ => rfl) (fun _ _ => Try.call72 _ _) fun fuelN ih =>
 fn_ok mixed (l := [(71, e_node_part_tall), (72, (⟨[tP, (.agg b7), tP], [tP], fun x => R_tree_join_part fuelN ids x.1 x.2.1 x.2.2.1⟩ : Shallow)), (74, e_tree_even_part), (66, e_tree_of_part)]) ⟨l_node_part_tall, ih, l_tree_even_part, l_tree_of_part, trivial⟩ (An := an_tree_join_part) Try.func72 (c := Try.f72.body.getD .skip) (by kernel_rfl) Try.ntmps72 (by kernel_rfl) (fun _ _ => Try.call72 _ _) _ (by kernel_rfl) (fun x => by kernel_rfl) (by kernel_rfl)
def e_node_part_cut : Shallow := ⟨[tP, tI], [tP, tP], fun x => F_node_part_cut ids x.1 x.2.1⟩
def an_node_part_cut : Ann := { order := Sw.look [(6, ([[0, 1, 2, 3, 4, 5, 6, 7, 8, 9, 10, 11, 12]], [])), (8, ([[0, 1, 2, 3, 4, 5, 6, 7, 8, 10, 9, 11, 12]], []))], reg := Sw.look [], join := Sw.look [], loop := Sw.look [], blk := Sw.lookL [], res := [(4, tP), (5, tP)], anys := [] }
theorem l_node_part_cut : FnOk Try.prog 69 e_node_part_cut :=
 fn_ex (tys := [tP, tI]) (res := [tP, tP]) (R := fun fuelN => fun x => R_node_part_cut fuelN ids x.1 x.2.1) (fun _ => rfl) (fun _ _ => Try.call69 _ _) fun fuelN ih =>
 fn_ok mixed (l := [(53, e_node_part_count), (69, (⟨[tP, tI], [tP, tP], fun x => R_node_part_cut fuelN ids x.1 x.2.1⟩ : Shallow)), (72, e_tree_join_part)]) ⟨l_node_part_count, ih, l_tree_join_part, trivial⟩ (An := an_node_part_cut) Try.func69 (c := Try.f69.body.getD .skip) (by kernel_rfl) Try.ntmps69 (by kernel_rfl) (fun _ _ => Try.call69 _ _) _ (by kernel_rfl) (fun x => by kernel_rfl) (by kernel_rfl)
def e_node_part_first : Shallow := ⟨[tP], [(.agg b7), tP], fun x => F_node_part_first ids x.1⟩
def an_node_part_first : Ann := { order := Sw.look [(2, ([[0, 1, 2, 3, 4, 5, 6, 7, 8, 9]], [(7, 8)])), (4, ([[0, 1, 2, 3, 4, 5, 6, 7, 8, 9, 10, 11, 12]], [(0, 10)]))], reg := Sw.look [], join := Sw.look [], loop := Sw.look [], blk := Sw.lookL [], res := [(2, tP), (3, tP)], anys := [] }
theorem l_node_part_first : FnOk Try.prog 73 e_node_part_first :=
 fn_ex (tys := [tP]) (res := [(.agg b7), tP]) (R := fun fuelN => fun x => R_node_part_first fuelN ids x.1) (fun _ => rfl) (fun _ _ => Try.call73 _ _) fun fuelN ih =>
 fn_ok mixed (l := [(73, (⟨[tP], [(.agg b7), tP], fun x => R_node_part_first fuelN ids x.1⟩ : Shallow)), (74, e_tree_even_part)]) ⟨ih, l_tree_even_part, trivial⟩ (An := an_node_part_first) Try.func73 (c := Try.f73.body.getD .skip) (by kernel_rfl) Try.ntmps73 (by kernel_rfl) (fun _ _ => Try.call73 _ _) _ (by kernel_rfl) (fun x => by kernel_rfl) (by kernel_rfl)
def e_tree_both_part : Shallow := ⟨[tP, tP], [tP], fun x => F_tree_both_part ids x.1 x.2.1⟩
def an_tree_both_part : Ann := { order := Sw.look [], reg := Sw.look [], join := Sw.look [], loop := Sw.look [], blk := Sw.lookL [], res := [(4, tP)], anys := [] }
theorem l_tree_both_part : FnOk Try.prog 70 e_tree_both_part :=
 fn_ok mixed (l := [(73, e_node_part_first), (72, e_tree_join_part)]) ⟨l_node_part_first, l_tree_join_part, trivial⟩ (An := an_tree_both_part) Try.func70 (c := Try.f70.body.getD .skip) (by kernel_rfl) Try.ntmps70 (by kernel_rfl) (fun _ _ => Try.call70 _ _) _ (by kernel_rfl) (fun x => by kernel_rfl) (by kernel_rfl)
def e_Tree_part_Replace : Shallow := ⟨[(.agg [.ptr]), tI, tI, tS], [(.agg [.ptr]), tI], fun x => F_Tree_part_Replace ids x.1 x.2.1 x.2.2.1 x.2.2.2.1⟩
def an_Tree_part_Replace : Ann := { order := Sw.look [], reg := Sw.look [(1, ([(26, tB)], [1, 2, 3, 4, 8]))], join := Sw.look [], loop := Sw.look [], blk := Sw.lookL [], res := [(8, tP), (9, tI)], anys := [] }
theorem l_Tree_part_Replace : FnOk Try.prog 64 e_Tree_part_Replace :=
 fn_ok mixed (l := [(65, e_Tree_part_Size), (69, e_node_part_cut), (57, e_tree_build_part), (70, e_tree_both_part)]) ⟨l_Tree_part_Size, l_node_part_cut, l_tree_build_part, l_tree_both_part, trivial⟩ (An := an_Tree_part_Replace) Try.func64 (c := Try.f64.body.getD .skip) (by kernel_rfl) Try.ntmps64 (by kernel_rfl) (fun _ _ => Try.call64 _ _) _ (by kernel_rfl) (fun x => by kernel_rfl) (by kernel_rfl)
def e_Text_replace : Shallow := ⟨[tP, tI, tI, tS], [], fun x => F_Text_replace ids x.1 x.2.1 x.2.2.1 x.2.2.2.1⟩
def an_Text_replace : Ann := { order := Sw.look [(5, ([[0, 1, 2, 3, 4, 5, 6, 7, 8, 9, 10, 11, 12, 13], [0, 1, 2, 3, 4, 5, 6, 7, 8, 9, 11, 10, 12, 13], [0, 1, 2, 3, 4, 5, 10, 6, 7, 8, 9, 11, 12, 13], [0, 1, 2, 3, 4, 5, 10, 11, 6, 7, 8, 9, 12, 13], [0, 1, 2, 3, 4, 5, 11, 6, 7, 8, 9, 10, 12, 13], [0, 1, 2, 3, 4, 5, 11, 10, 6, 7, 8, 9, 12, 13]], [(0, 10), (0, 11), (4, 10), (4, 11)])), (10, ([[0, 1, 2, 3, 4, 5, 6, 7, 8, 9, 10, 11, 12, 13], [0, 1, 2, 3, 4, 5, 6, 7, 8, 9, 11, 10, 12, 13], [0, 1, 2, 3, 4, 5, 10, 6, 7, 8, 9, 11, 12, 13], [0, 1, 2, 3, 4, 5, 10, 11, 6, 7, 8, 9, 12, 13], [0, 1, 2, 3, 4, 5, 11, 6, 7, 8, 9, 10, 12, 13], [0, 1, 2, 3, 4, 5, 11, 10, 6, 7, 8, 9, 12, 13]], [(0, 10), (0, 11), (4, 10), (4, 11)])), (13, ([[0, 1, 2, 3, 4, 5, 6, 7, 8, 9, 10, 11, 14, 12, 13, 15, 16, 17, 18, 19, 20, 21]], [(4, 12)]))], reg := Sw.look [(4, ([(46, tB)], [0, 3, 8, 9, 10, 11, 12, 13])), (5, ([(15, tP)], [0, 3, 8, 10, 11, 12])), (10, ([(20, tP)], [0, 8, 10, 12]))], join := Sw.look [(7, ([(12, tS)], [0, 3, 8, 10, 11])), (13, ([(12, tS)], [0, 8, 10]))], loop := Sw.look [], blk := Sw.lookL [], res := [], anys := [] }
theorem l_Text_replace : FnOk Try.prog 48 e_Text_replace :=
 fn_ok mixed (l := [(42, e_Text_find), (61, e_Tree_part_At), (62, e_part_cut), (63, e_Text_fresh), (65, e_Tree_part_Size), (64, e_Tree_part_Replace)]) ⟨l_Text_find, l_Tree_part_At, l_part_cut, l_Text_fresh, l_Tree_part_Size, l_Tree_part_Replace, trivial⟩ (An := an_Text_replace) Try.func48 (c := Try.f48.body.getD .skip) (by kernel_rfl) Try.ntmps48 (by kernel_rfl) (fun _ _ => Try.call48 _ _) _ (by kernel_rfl) (fun x => by kernel_rfl) (by kernel_rfl)
def e_Text_Change : Shallow := ⟨[tP, tS], [tI], fun x => F_Text_Change ids x.1 x.2.1⟩
def an_Text_Change : Ann := { order := Sw.look [], reg := Sw.look [(8, ([(35, tB)], [0, 1, 6, 7]))], join := Sw.look [(6, ([], [0, 1, 6]))], loop := Sw.look [(5, ([(6, tI)], [0, 1]))], blk := Sw.lookL [(0, []), (1, [])], res := [(4, tI)], anys := [] }
theorem l_Text_Change : FnOk Try.prog 38 e_Text_Change :=
 fn_ok mixed (l := [(47, e_Text_refuse), (48, e_Text_replace)]) ⟨l_Text_refuse, l_Text_replace, trivial⟩ (An := an_Text_Change) Try.func38 (c := Try.f38.body.getD .skip) (by kernel_rfl) Try.ntmps38 (by kernel_rfl) (fun _ _ => Try.call38 _ _) _ (by kernel_rfl) (fun x => by kernel_rfl) (by kernel_rfl)
def e_history_goes : Shallow := ⟨[tI, tS], [tI, tB], fun x => F_history_goes ids x.1 x.2.1⟩
def an_history_goes : Ann := { order := Sw.look [], reg := Sw.look [], join := Sw.look [(4, ([(0, tI), (6, tB)], [1, 7]))], loop := Sw.look [(3, ([(0, tI), (6, tB), (7, tI)], [1]))], blk := Sw.lookL [(0, [(0, tI), (6, tB)]), (1, [(0, tI), (6, tB)]), (2, [(0, tI), (6, tB)])], res := [(4, tI), (5, tB)], anys := [] }
theorem l_history_goes : FnOk Try.prog 41 e_history_goes :=
 fn_ok mixed (l := []) trivial (An := an_history_goes) Try.func41 (c := Try.f41.body.getD .skip) (by kernel_rfl) Try.ntmps41 (by kernel_rfl) (fun _ _ => Try.call41 _ _) _ (by kernel_rfl) (fun x => by kernel_rfl) (by kernel_rfl)
def e_Book_follow : Shallow := ⟨[tP, tS], [], fun x => F_Book_follow ids x.1 x.2.1⟩
def an_Book_follow : Ann := { order := Sw.look [(3, ([[0, 1, 2, 3, 4, 5, 6, 7, 8, 9, 10, 11]], [(3, 7)]))], reg := Sw.look [], join := Sw.look [(11, ([(8, tI)], [0, 1, 6, 34, 35, 36])), (12, ([], [0, 1, 34, 35, 36]))], loop := Sw.look [(1, ([], [0, 1, 14])), (5, ([(36, tI)], [0, 1, 34, 35]))], blk := Sw.lookL [(0, []), (1, []), (2, []), (3, [])], res := [], anys := [] }
theorem l_Book_follow : FnOk Try.prog 28 e_Book_follow :=
 fn_ok mixed (l := [(41, e_history_goes)]) ⟨l_history_goes, trivial⟩ (An := an_Book_follow) Try.func28 (c := Try.f28.body.getD .skip) (by kernel_rfl) Try.ntmps28 (by kernel_rfl) (fun _ _ => Try.call28 _ _) _ (by kernel_rfl) (fun x => by kernel_rfl) (by kernel_rfl)
def e_Book_Change : Shallow := ⟨[tP, tS], [tI], fun x => F_Book_Change ids x.1 x.2.1⟩
def an_Book_Change : Ann := { order := Sw.look [(14, ([[0, 1, 2, 3, 4, 5, 6, 7, 8, 9, 10, 11, 12, 13, 14, 15, 16, 17, 18]], [(3, 13), (3, 14), (7, 13), (11, 13)]))], reg := Sw.look [(11, ([(54, tB)], [0, 6, 26, 27, 28]))], join := Sw.look [(13, ([], [0, 6, 26, 27, 28]))], loop := Sw.look [(8, ([(28, tI)], [0, 6, 26, 27]))], blk := Sw.lookL [(0, []), (1, [])], res := [(4, tI)], anys := [] }
theorem l_Book_Change : FnOk Try.prog 24 e_Book_Change :=
 fn_ok mixed (l := [(38, e_Text_Change), (28, e_Book_follow)]) ⟨l_Text_Change, l_Book_follow, trivial⟩ (An := an_Book_Change) Try.func24 (c := Try.f24.body.getD .skip) (by kernel_rfl) Try.ntmps24 (by kernel_rfl) (fun _ _ => Try.call24 _ _) _ (by kernel_rfl) (fun x => by kernel_rfl) (by kernel_rfl)
def e_Book_shut : Shallow := ⟨[tP], [], fun x => F_Book_shut ids x.1⟩
def an_Book_shut : Ann := { order := Sw.look [], reg := Sw.look [], join := Sw.look [], loop := Sw.look [], blk := Sw.lookL [], res := [], anys := [] }
theorem l_Book_shut : FnOk Try.prog 39 e_Book_shut :=
 fn_ok mixed (l := []) trivial (An := an_Book_shut) Try.func39 (c := Try.f39.body.getD .skip) (by kernel_rfl) Try.ntmps39 (by kernel_rfl) (fun _ _ => Try.call39 _ _) _ (by kernel_rfl) (fun x => by kernel_rfl) (by kernel_rfl)
theorem ld_Book_shut : FnOkD Try.prog 39 e_Book_shut :=
 fn_okD mixed (l := []) trivial (An := an_Book_shut) Try.func39 (c := Try.f39.body.getD .skip) (by kernel_rfl) Try.ntmps39 (by kernel_rfl) _ (by kernel_rfl) (fun x => by kernel_rfl) (by kernel_rfl) (by kernel_rfl)
def e_slices_Delete_history_group__history_group___ : Shallow := ⟨[tS, tI, tI], [tS], fun x => F_slices_Delete_history_group__history_group___ ids x.1 x.2.1 x.2.2.1⟩
def an_slices_Delete_history_group__history_group___ : Ann := { order := Sw.look [(5, ([[0, 1, 2, 3, 4, 5, 6, 7]], []))], reg := Sw.look [], join := Sw.look [], loop := Sw.look [], blk := Sw.lookL [], res := [(6, tS)], anys := [] }
theorem l_slices_Delete_history_group__history_group___ : FnOk Try.prog 40 e_slices_Delete_history_group__history_group___ :=
 fn_ok mixed (l := []) trivial (An := an_slices_Delete_history_group__history_group___) Try.func40 (c := Try.f40.body.getD .skip) (by kernel_rfl) Try.ntmps40 (by kernel_rfl) (fun _ _ => Try.call40 _ _) _ (by kernel_rfl) (fun x => by kernel_rfl) (by kernel_rfl)
def e_Book_End : Shallow := ⟨[tP, tI], [tI], fun x => F_Book_End ids x.1 x.2.1⟩
def an_Book_End : Ann := { order := Sw.look [(10, ([[0, 1, 2, 3, 5, 6, 7, 8, 9, 4, 10, 11, 12, 13, 14, 15]], [(9, 4)])), (14, ([[0, 1, 2, 3, 4, 5, 6, 7, 8, 9]], []))], reg := Sw.look [], join := Sw.look [(16, ([], []))], loop := Sw.look [], blk := Sw.lookL [], res := [(4, tI)], anys := [] }
theorem l_Book_End : FnOk Try.prog 26 e_Book_End :=
 fn_ok mixed (l := [(34, e_Book_inside), (39, e_Book_shut), (37, e_Text_Snap), (40, e_slices_Delete_history_group__history_group___)]) ⟨l_Book_inside, l_Book_shut, l_Text_Snap, l_slices_Delete_history_group__history_group___, trivial⟩ (An := an_Book_End) Try.func26 (c := Try.f26.body.getD .skip) (by kernel_rfl) Try.ntmps26 (by kernel_rfl) (fun _ _ => Try.call26 _ _) _ (by kernel_rfl) (fun x => by kernel_rfl) (by kernel_rfl)
def e_law7_group : Shallow := ⟨[tP, tS, tI], [tB], fun x => F_law7_group ids x.1 x.2.1 x.2.2.1⟩
def an_law7_group : Ann := { order := Sw.look [(7, ([[0, 1, 2, 3, 4, 5, 6, 7, 8, 9, 10, 11]], [(4, 6)]))], reg := Sw.look [], join := Sw.look [], loop := Sw.look [(5, ([(8, tI)], [0, 1, 2, 7]))], blk := Sw.lookL [(0, []), (1, [])], res := [(6, tB)], anys := [] }
theorem l_law7_group : FnOk Try.prog 8 e_law7_group :=
 fn_ok mixed (l := [(15, e_Book_Text), (16, e_Text_Len), (10, e_law7_slot), (23, e_Book_Begin), (12, e_law7_num), (25, e_law7_edit), (24, e_Book_Change), (26, e_Book_End)]) ⟨l_Book_Text, l_Text_Len, l_law7_slot, l_Book_Begin, l_law7_num, l_law7_edit, l_Book_Change, l_Book_End, trivial⟩ (An := an_law7_group) Try.func8 (c := Try.f8.body.getD .skip) (by kernel_rfl) Try.ntmps8 (by kernel_rfl) (fun _ _ => Try.call8 _ _) _ (by kernel_rfl) (fun x => by kernel_rfl) (by kernel_rfl)
def e_Tree_part_Items : Shallow := ⟨[(.agg [.ptr]), tI], [(.one .any)], fun x => F_Tree_part_Items ids x.1 x.2.1⟩
def an_Tree_part_Items : Ann := { order := Sw.look [], reg := Sw.look [], join := Sw.look [], loop := Sw.look [], blk := Sw.lookL [], res := [(4, (.one .any))], anys := [] }
theorem l_Tree_part_Items : FnOk Try.prog 43 e_Tree_part_Items :=
 fn_ok mixed (l := []) trivial (An := an_Tree_part_Items) Try.func43 (c := Try.f43.body.getD .skip) (by kernel_rfl) Try.ntmps43 (by kernel_rfl) (fun _ _ => Try.call43 _ _) _ (by kernel_rfl) (fun x => by kernel_rfl) (by kernel_rfl)
def e_Text_walk : Shallow := ⟨[tP, tI, tI, (.one .any)], [], fun x => F_Text_walk ids x.1 x.2.1 x.2.2.1 x.2.2.2.1⟩
def an_Text_walk : Ann := { order := Sw.look [(9, ([[0, 1, 2, 3, 4, 5, 6, 7, 8, 9, 10, 11, 12]], []))], reg := Sw.look [], join := Sw.look [(15, ([], [4, 7, 9, 10, 11, 12, 14])), (17, ([], [4, 7, 9, 10, 11, 12, 14]))], loop := Sw.look [(8, ([(12, tI)], [4, 7, 9, 10, 11]))], blk := Sw.lookL [(0, []), (1, []), (2, []), (3, [(12, tI)])], res := [], anys := [3, 38, 63, 66], rng := Sw.look [(39, ([(39, (.agg b7))], [(11, tP)]))] }
theorem l_Text_walk : FnOk Try.prog 31 e_Text_walk :=
 fn_ok mixed (l := [(16, e_Text_Len), (42, e_Text_find), (43, e_Tree_part_Items), (44, e_codec_Next)]) ⟨l_Text_Len, l_Text_find, l_Tree_part_Items, l_codec_Next, trivial⟩ (An := an_Text_walk) Try.func31 (c := Try.f31.body.getD .skip) (by kernel_rfl) Try.ntmps31 (by kernel_rfl) (fun _ _ => Try.call31 _ _) _ (by kernel_rfl) (fun x => by kernel_rfl) (by kernel_rfl)
def e_Text_Tags : Shallow := ⟨[tP, tI, tI], [tS], fun x => F_Text_Tags ids x.1 x.2.1 x.2.2.1⟩
def an_Text_Tags : Ann := { order := Sw.look [], reg := Sw.look [], join := Sw.look [], loop := Sw.look [], blk := Sw.lookL [], res := [(6, tS)], anys := [] }
theorem l_Text_Tags : FnOk Try.prog 17 e_Text_Tags :=
 fn_ok mixed (l := [(31, e_Text_walk)]) ⟨l_Text_walk, trivial⟩ (An := an_Text_Tags) Try.func17 (c := Try.f17.body.getD .skip) (by kernel_rfl) Try.ntmps17 (by kernel_rfl) (fun _ _ => Try.call17 _ _) _ (by kernel_rfl) (fun x => by kernel_rfl) (by kernel_rfl)
def e_history_isName : Shallow := ⟨[tI], [tB], fun x => F_history_isName ids x.1⟩
def an_history_isName : Ann := { order := Sw.look [], reg := Sw.look [(1, ([(2, tB)], []))], join := Sw.look [], loop := Sw.look [], blk := Sw.lookL [], res := [(2, tB)], anys := [] }
theorem l_history_isName : FnOk Try.prog 33 e_history_isName :=
 fn_ok mixed (l := []) trivial (An := an_history_isName) Try.func33 (c := Try.f33.body.getD .skip) (by kernel_rfl) Try.ntmps33 (by kernel_rfl) (fun _ _ => Try.call33 _ _) _ (by kernel_rfl) (fun x => by kernel_rfl) (by kernel_rfl)
def e_Book_SetMark : Shallow := ⟨[tP, tI, tI], [tI], fun x => F_Book_SetMark ids x.1 x.2.1 x.2.2.1⟩
def an_Book_SetMark : Ann := { order := Sw.look [], reg := Sw.look [], join := Sw.look [], loop := Sw.look [], blk := Sw.lookL [], res := [(6, tI)], anys := [] }
theorem l_Book_SetMark : FnOk Try.prog 18 e_Book_SetMark :=
 fn_ok mixed (l := [(33, e_history_isName), (34, e_Book_inside)]) ⟨l_history_isName, l_Book_inside, trivial⟩ (An := an_Book_SetMark) Try.func18 (c := Try.f18.body.getD .skip) (by kernel_rfl) Try.ntmps18 (by kernel_rfl) (fun _ _ => Try.call18 _ _) _ (by kernel_rfl) (fun x => by kernel_rfl) (by kernel_rfl)
def e_Book_Watch : Shallow := ⟨[tP, tS], [tI], fun x => F_Book_Watch ids x.1 x.2.1⟩
def an_Book_Watch : Ann := { order := Sw.look [], reg := Sw.look [], join := Sw.look [], loop := Sw.look [(2, ([(9, tI)], [0, 1, 7, 8]))], blk := Sw.lookL [(0, []), (1, [])], res := [(4, tI)], anys := [] }
theorem l_Book_Watch : FnOk Try.prog 19 e_Book_Watch :=
 fn_ok mixed (l := [(34, e_Book_inside), (35, e_slices_Cloneint_int___)]) ⟨l_Book_inside, l_slices_Cloneint_int___, trivial⟩ (An := an_Book_Watch) Try.func19 (c := Try.f19.body.getD .skip) (by kernel_rfl) Try.ntmps19 (by kernel_rfl) (fun _ _ => Try.call19 _ _) _ (by kernel_rfl) (fun x => by kernel_rfl) (by kernel_rfl)
def e_Book_Mark : Shallow := ⟨[tP, tI], [tI, tI], fun x => F_Book_Mark ids x.1 x.2.1⟩
def an_Book_Mark : Ann := { order := Sw.look [], reg := Sw.look [], join := Sw.look [], loop := Sw.look [], blk := Sw.lookL [], res := [(4, tI), (5, tI)], anys := [] }
theorem l_Book_Mark : FnOk Try.prog 20 e_Book_Mark :=
 fn_ok mixed (l := []) trivial (An := an_Book_Mark) Try.func20 (c := Try.f20.body.getD .skip) (by kernel_rfl) Try.ntmps20 (by kernel_rfl) (fun _ _ => Try.call20 _ _) _ (by kernel_rfl) (fun x => by kernel_rfl) (by kernel_rfl)
def e_Book_Watched : Shallow := ⟨[tP], [tS], fun x => F_Book_Watched ids x.1⟩
def an_Book_Watched : Ann := { order := Sw.look [], reg := Sw.look [], join := Sw.look [], loop := Sw.look [], blk := Sw.lookL [], res := [(2, tS)], anys := [] }
theorem l_Book_Watched : FnOk Try.prog 21 e_Book_Watched :=
 fn_ok mixed (l := [(35, e_slices_Cloneint_int___)]) ⟨l_slices_Cloneint_int___, trivial⟩ (An := an_Book_Watched) Try.func21 (c := Try.f21.body.getD .skip) (by kernel_rfl) Try.ntmps21 (by kernel_rfl) (fun _ _ => Try.call21 _ _) _ (by kernel_rfl) (fun x => by kernel_rfl) (by kernel_rfl)
def e_law7_HistoryFollows : Shallow := ⟨[tS, tI, tS], [tB], fun x => F_law7_HistoryFollows ids x.1 x.2.1 x.2.2.1⟩
def an_law7_HistoryFollows : Ann := { order := Sw.look [(22, ([[0, 1, 2, 3, 4, 5, 6, 7]], []))], reg := Sw.look [(9, ([(62, tB)], [1, 2, 7, 10])), (24, ([(11, tB)], [1, 2, 7, 10, 12, 13, 14])), (27, ([(142, tB)], [1, 2, 7, 10, 11, 12, 14, 16])), (29, ([(149, tB)], [1, 2, 7, 10, 11, 12])), (32, ([(6, tB)], []))], join := Sw.look [(21, ([(14, tI)], [1, 2, 7, 10, 11, 12, 13, 15]))], loop := Sw.look [(13, ([(11, tB), (12, tI)], [1, 2, 7, 10])), (20, ([(14, tI), (15, tI)], [1, 2, 7, 10, 11, 12, 13]))], blk := Sw.lookL [(0, []), (1, [(11, tB)]), (2, [(14, tI)]), (3, [(14, tI)])], res := [(6, tB)], anys := [] }
theorem l_law7_HistoryFollows : FnOk Try.prog 4 e_law7_HistoryFollows :=
 fn_ok mixed (l := [(5, e_law7_short), (6, e_law7_book), (15, e_Book_Text), (16, e_Text_Len), (10, e_law7_slot), (17, e_Text_Tags), (18, e_Book_SetMark), (12, e_law7_num), (19, e_Book_Watch), (8, e_law7_group), (20, e_Book_Mark), (21, e_Book_Watched)]) ⟨l_law7_short, l_law7_book, l_Book_Text, l_Text_Len, l_law7_slot, l_Text_Tags, l_Book_SetMark, l_law7_num, l_Book_Watch, l_law7_group, l_Book_Mark, l_Book_Watched, trivial⟩ (An := an_law7_HistoryFollows) Try.func4 (c := Try.f4.body.getD .skip) (by kernel_rfl) Try.ntmps4 (by kernel_rfl) (fun _ _ => Try.call4 _ _) _ (by kernel_rfl) (fun x => by kernel_rfl) (by kernel_rfl)
def e_Text_Tags_1 : Shallow := ⟨[tI, tI, tP], [], fun x => F_Text_Tags_1 ids x.1 x.2.1 x.2.2.1⟩
def an_Text_Tags_1 : Ann := { order := Sw.look [], reg := Sw.look [], join := Sw.look [], loop := Sw.look [], blk := Sw.lookL [], res := [], anys := [] }
theorem l_Text_Tags_1 : FnOk Try.prog 32 e_Text_Tags_1 :=
 fn_ok mixed (l := []) trivial (An := an_Text_Tags_1) Try.func32 (c := Try.f32.body.getD .skip) (by kernel_rfl) Try.ntmps32 (by kernel_rfl) (fun _ _ => Try.call32 _ _) _ (by kernel_rfl) (fun x => by kernel_rfl) (by kernel_rfl)
def e_Tree_part_Items_1 : Shallow := ⟨[(.one .any), tP, tP], [], fun x => F_Tree_part_Items_1 ids x.1 x.2.1 x.2.2.1⟩
def an_Tree_part_Items_1 : Ann := { order := Sw.look [], reg := Sw.look [], join := Sw.look [], loop := Sw.look [], blk := Sw.lookL [], res := [], anys := [0, 6] }
theorem l_Tree_part_Items_1 : FnOk Try.prog 51 e_Tree_part_Items_1 :=
 fn_ok mixed (l := []) trivial (An := an_Tree_part_Items_1) Try.func51 (c := Try.f51.body.getD .skip) (by kernel_rfl) Try.ntmps51 (by kernel_rfl) (fun _ _ => Try.call51 _ _) _ (by kernel_rfl) (fun x => by kernel_rfl) (by kernel_rfl)
def e_Tree_part_Items_1_1 : Shallow := ⟨[tP, tI, tP, tP], [tB], fun x => F_Tree_part_Items_1_1 ids x.1 x.2.1 x.2.2.1 x.2.2.2.1⟩
def an_Tree_part_Items_1_1 : Ann := { order := Sw.look [(4, ([[0, 1, 2, 3, 4, 5, 6, 7, 8, 9, 10, 11, 12]], [])), (6, ([[0, 1, 2, 3, 4, 5, 6, 7, 8, 9, 10, 11]], [])), (8, ([[0, 1, 2, 3, 4, 5, 6, 7, 8, 9, 10, 11]], []))], reg := Sw.look [(1, ([(17, tB)], [0, 1, 2, 3])), (4, ([(35, tB)], [0, 1, 2, 3, 7])), (6, ([(47, tB)], [0, 1, 2, 7]))], join := Sw.look [], loop := Sw.look [], blk := Sw.lookL [], res := [(6, tB)], anys := [27, 40, 48] }
theorem l_Tree_part_Items_1_1 : FnOk Try.prog 52 e_Tree_part_Items_1_1 :=
 fn_ok mixed (l := [(53, e_node_part_count)]) ⟨l_node_part_count, trivial⟩ (An := an_Tree_part_Items_1_1) Try.func52 (c := Try.f52.body.getD .skip) (by kernel_rfl) Try.ntmps52 (by kernel_rfl) (fun _ _ => Try.call52 _ _) _ (by kernel_rfl) (fun x => by kernel_rfl) (by kernel_rfl)
def e_codec_bounds : Shallow := ⟨[(.one (.int .u8))], [tI, (.one (.int .u8)), (.one (.int .u8))], fun x => F_codec_bounds ids x.1⟩
def an_codec_bounds : Ann := { order := Sw.look [], reg := Sw.look [], join := Sw.look [], loop := Sw.look [], blk := Sw.lookL [(0, [])], res := [(2, tI), (3, (.one (.int .u8))), (4, (.one (.int .u8)))], anys := [] }
theorem l_codec_bounds : FnOk Try.prog 102 e_codec_bounds :=
 fn_ok mixed (l := []) trivial (An := an_codec_bounds) Try.func102 (c := Try.f102.body.getD .skip) (by kernel_rfl) Try.ntmps102 (by kernel_rfl) (fun _ _ => Try.call102 _ _) _ (by kernel_rfl) (fun x => by kernel_rfl) (by kernel_rfl)
def e_codec_row : Shallow := ⟨[tS], [tI, tI], fun x => F_codec_row ids x.1⟩
def an_codec_row : Ann := { order := Sw.look [], reg := Sw.look [(4, ([(36, tB)], [0, 4])), (7, ([(54, tB)], [0, 4, 7]))], join := Sw.look [], loop := Sw.look [(7, ([(7, tI)], [0, 4]))], blk := Sw.lookL [(0, [(7, tI)]), (1, [(7, tI)])], res := [(2, tI), (3, tI)], anys := [] }
theorem l_codec_row : FnOk Try.prog 101 e_codec_row :=
 fn_ok mixed (l := [(102, e_codec_bounds)]) ⟨l_codec_bounds, trivial⟩ (An := an_codec_row) Try.func101 (c := Try.f101.body.getD .skip) (by kernel_rfl) Try.ntmps101 (by kernel_rfl) (fun _ _ => Try.call101 _ _) _ (by kernel_rfl) (fun x => by kernel_rfl) (by kernel_rfl)
def e_eight_first : Shallow := ⟨[(.agg []), tS], [tI, tI], fun x => F_eight_first ids x.1 x.2.1⟩
def an_eight_first : Ann := { order := Sw.look [], reg := Sw.look [(2, ([(22, tB)], [1, 7]))], join := Sw.look [(12, ([(8, tI)], [1, 7]))], loop := Sw.look [(13, ([(8, tI), (49, tI)], [7, 47, 48]))], blk := Sw.lookL [(0, [(8, tI)]), (1, [(8, tI)]), (2, [(8, tI)])], res := [(4, tI), (5, tI)], anys := [] }
theorem l_eight_first : FnOk Try.prog 96 e_eight_first :=
 fn_ok mixed (l := [(101, e_codec_row)]) ⟨l_codec_row, trivial⟩ (An := an_eight_first) Try.func96 (c := Try.f96.body.getD .skip) (by kernel_rfl) Try.ntmps96 (by kernel_rfl) (fun _ _ => Try.call96 _ _) _ (by kernel_rfl) (fun x => by kernel_rfl) (by kernel_rfl)
def e_eight_size : Shallow := ⟨[(.agg []), tI], [tI], fun x => F_eight_size ids x.1 x.2.1⟩
def an_eight_size : Ann := { order := Sw.look [], reg := Sw.look [(1, ([(5, tB)], [1]))], join := Sw.look [], loop := Sw.look [], blk := Sw.lookL [(0, [])], res := [(4, tI)], anys := [] }
theorem l_eight_size : FnOk Try.prog 100 e_eight_size :=
 fn_ok mixed (l := []) trivial (An := an_eight_size) Try.func100 (c := Try.f100.body.getD .skip) (by kernel_rfl) Try.ntmps100 (by kernel_rfl) (fun _ _ => Try.call100 _ _) _ (by kernel_rfl) (fun x => by kernel_rfl) (by kernel_rfl)
def e_eight_put : Shallow := ⟨[(.agg []), tS, tI], [tS], fun x => F_eight_put ids x.1 x.2.1 x.2.2.1⟩
def an_eight_put : Ann := { order := Sw.look [(7, ([[0, 1, 2, 3, 4, 5, 6, 7, 8, 9, 10, 11, 12, 13]], []))], reg := Sw.look [], join := Sw.look [], loop := Sw.look [(9, ([(1, tS), (9, tI)], [2]))], blk := Sw.lookL [(0, [(1, tS)]), (1, [(1, tS)])], res := [(6, tS)], anys := [] }
theorem l_eight_put : FnOk Try.prog 99 e_eight_put :=
 fn_ok mixed (l := [(100, e_eight_size)]) ⟨l_eight_size, trivial⟩ (An := an_eight_put) Try.func99 (c := Try.f99.body.getD .skip) (by kernel_rfl) Try.ntmps99 (by kernel_rfl) (fun _ _ => Try.call99 _ _) _ (by kernel_rfl) (fun x => by kernel_rfl) (by kernel_rfl)
def e_sixteen_unit : Shallow := ⟨[(.agg [bI]), tS], [tI], fun x => F_sixteen_unit ids x.1 x.2.1⟩
def an_sixteen_unit : Ann := { order := Sw.look [(1, ([[0, 1, 2, 3, 4, 5, 6, 7, 8, 9, 10, 11, 12, 13, 14, 15]], []))], reg := Sw.look [], join := Sw.look [], loop := Sw.look [], blk := Sw.lookL [], res := [(4, tI)], anys := [] }
theorem l_sixteen_unit : FnOk Try.prog 108 e_sixteen_unit :=
 fn_ok mixed (l := []) trivial (An := an_sixteen_unit) Try.func108 (c := Try.f108.body.getD .skip) (by kernel_rfl) Try.ntmps108 (by kernel_rfl) (fun _ _ => Try.call108 _ _) _ (by kernel_rfl) (fun x => by kernel_rfl) (by kernel_rfl)
end
end Go.Proofs.Ytncolficnfcdcaa
