/-
  Each function of the cut does what its shallow program says (the text is printed by program).
-/
import Derived.Test.YtjhnjehmbgaciaaProg
import Derived.KernelRfl
import Derived.Test.YtjhnjehmbgaciaaSwS10
import Derived.Test.YtjhnjehmbgaciaaSwFcodec
set_option maxRecDepth 100000
set_option maxHeartbeats 4000000
set_option linter.unusedVariables false
namespace Go.Proofs.Ytjhnjehmbgaciaa
open Go Go.Sw
noncomputable section
def ids : Ids := { f_Both_alls_1 := 0, f_Both_alls_2 := 0, f_Both_alls_3 := 0, f_Both_alls_3_1 := 0, f_Text_Atoms_1 := 71, f_Text_Chunks_1 := 46, f_Text_Tags_1 := 83, f_Tree_part_Items_1 := 78, f_Tree_part_Items_1_1 := 79, f_law5_PieceFlow_1 := 14, f_law5_begun_1 := 49, f_law5_ranged_1 := 48, f_law6_LinesLater_1 := 0, f_law6_LinesLater_2 := 0, f_law6_LinesTurned_1 := 0, f_law6_LinesTurned_2 := 0, f_lines_All_1 := 0, f_quiet_ask_1 := 66, f_shelf_handOut_1 := 69, f_world_chunks_1 := 0, m_first := methName Try.prog 162 0, m_put := methName Try.prog 162 3, m_size := methName Try.prog 162 4, t_codec_eight := 162, t_codec_latin := 165, t_codec_sixteen := 164, none := () }
theorem mixed : Try.prog.follows .mixedOrders = true := by kernel_rfl
def e_codec_of : Shallow := ⟨[tI], [(.one .any)], fun x => F_codec_of ids x.1⟩
def an_codec_of : Ann := { order := Sw.look [], reg := Sw.look [], join := Sw.look [], loop := Sw.look [], blk := Sw.lookL [(0, [])], res := [(2, (.one .any))], anys := [] }
theorem l_codec_of : FnOk Try.prog 60 e_codec_of :=
 fn_ok mixed (l := []) trivial (An := an_codec_of) Try.func60 (c := Try.f60.body.getD .skip) (by kernel_rfl) Try.ntmps60 (by kernel_rfl) (fun _ _ => Try.call60 _ _) _ (by kernel_rfl) (fun x => by kernel_rfl) (by kernel_rfl)
def e_codec_Next : Shallow := ⟨[tI, tS, tI], [tI, tI], fun x => F_codec_Next ids x.1 x.2.1 x.2.2.1⟩
def an_codec_Next : Ann := { order := Sw.look [(4, ([[0, 1, 2, 3, 4, 5, 6, 7, 8, 9, 10, 11]], []))], reg := Sw.look [(2, ([(22, tB)], [1, 2, 8]))], join := Sw.look [], loop := Sw.look [], blk := Sw.lookL [], res := [(6, tI), (7, tI)], anys := [8, 10, 11, 23, 29] }
theorem l_codec_Next : FnOk Try.prog 45 e_codec_Next :=
 fn_ok mixed (l := [(60, e_codec_of)]) ⟨l_codec_of, trivial⟩ (An := an_codec_Next) Try.func45 (c := Try.f45.body.getD .skip) (by kernel_rfl) Try.ntmps45 (by kernel_rfl) (fun _ _ => Try.call45 _ _) _ (by kernel_rfl) (fun x => by kernel_rfl) (by kernel_rfl)
def e_piece_single : Shallow := ⟨[tI, tI], [(.agg b5)], fun x => F_piece_single ids x.1 x.2.1⟩
def an_piece_single : Ann := { order := Sw.look [], reg := Sw.look [(2, ([(17, tB)], [4, 5]))], join := Sw.look [(4, ([], [4, 5]))], loop := Sw.look [], blk := Sw.lookL [], res := [(4, tP)], anys := [] }
theorem l_piece_single : FnOk Try.prog 77 e_piece_single :=
 fn_ok mixed (l := []) trivial (An := an_piece_single) Try.func77 (c := Try.f77.body.getD .skip) (by kernel_rfl) Try.ntmps77 (by kernel_rfl) (fun _ _ => Try.call77 _ _) _ (by kernel_rfl) (fun x => by kernel_rfl) (by kernel_rfl)
def e_sums_Add : Shallow := ⟨[(.agg b5), (.agg b5)], [(.agg b5)], fun x => F_sums_Add ids x.1 x.2.1⟩
def an_sums_Add : Ann := { order := Sw.look [], reg := Sw.look [(6, ([(39, tB)], [4, 5]))], join := Sw.look [(8, ([], [4, 5]))], loop := Sw.look [], blk := Sw.lookL [], res := [(4, tP)], anys := [] }
theorem l_sums_Add : FnOk Try.prog 76 e_sums_Add :=
 fn_ok mixed (l := []) trivial (An := an_sums_Add) Try.func76 (c := Try.f76.body.getD .skip) (by kernel_rfl) Try.ntmps76 (by kernel_rfl) (fun _ _ => Try.call76 _ _) _ (by kernel_rfl) (fun x => by kernel_rfl) (by kernel_rfl)
def e_piece_newPart : Shallow := ⟨[tI, tS, tI], [(.agg b7)], fun x => F_piece_newPart ids x.1 x.2.1 x.2.2.1⟩
def an_piece_newPart : Ann := { order := Sw.look [(5, ([[0, 1, 2, 3, 4, 5, 6, 7]], [(1, 4)]))], reg := Sw.look [], join := Sw.look [], loop := Sw.look [(3, ([(8, tI)], [0, 1, 6, 7]))], blk := Sw.lookL [(0, []), (1, [(8, tI)])], res := [(6, tP)], anys := [] }
theorem l_piece_newPart : FnOk Try.prog 55 e_piece_newPart :=
 fn_ok mixed (l := [(45, e_codec_Next), (77, e_piece_single), (76, e_sums_Add)]) ⟨l_codec_Next, l_piece_single, l_sums_Add, trivial⟩ (An := an_piece_newPart) Try.func55 (c := Try.f55.body.getD .skip) (by kernel_rfl) Try.ntmps55 (by kernel_rfl) (fun _ _ => Try.call55 _ _) _ (by kernel_rfl) (fun x => by kernel_rfl) (by kernel_rfl)
def e_node_part_count : Shallow := ⟨[tP], [tI], fun x => F_node_part_count ids x.1⟩
def an_node_part_count : Ann := { order := Sw.look [], reg := Sw.look [], join := Sw.look [], loop := Sw.look [], blk := Sw.lookL [], res := [(2, tI)], anys := [] }
theorem l_node_part_count : FnOk Try.prog 80 e_node_part_count :=
 fn_ok mixed (l := []) trivial (An := an_node_part_count) Try.func80 (c := Try.f80.body.getD .skip) (by kernel_rfl) Try.ntmps80 (by kernel_rfl) (fun _ _ => Try.call80 _ _) _ (by kernel_rfl) (fun x => by kernel_rfl) (by kernel_rfl)
def e_node_part_tall : Shallow := ⟨[tP], [tI], fun x => F_node_part_tall ids x.1⟩
def an_node_part_tall : Ann := { order := Sw.look [], reg := Sw.look [], join := Sw.look [], loop := Sw.look [], blk := Sw.lookL [], res := [(2, tI)], anys := [] }
theorem l_node_part_tall : FnOk Try.prog 107 e_node_part_tall :=
 fn_ok mixed (l := []) trivial (An := an_node_part_tall) Try.func107 (c := Try.f107.body.getD .skip) (by kernel_rfl) Try.ntmps107 (by kernel_rfl) (fun _ _ => Try.call107 _ _) _ (by kernel_rfl) (fun x => by kernel_rfl) (by kernel_rfl)
def e_part_Measure : Shallow := ⟨[(.agg b7)], [(.agg b5)], fun x => F_part_Measure ids x.1⟩
def an_part_Measure : Ann := { order := Sw.look [], reg := Sw.look [], join := Sw.look [], loop := Sw.look [], blk := Sw.lookL [], res := [(2, tP)], anys := [] }
theorem l_part_Measure : FnOk Try.prog 133 e_part_Measure :=
 fn_ok mixed (l := []) trivial (An := an_part_Measure) Try.func133 (c := Try.f133.body.getD .skip) (by kernel_rfl) Try.ntmps133 (by kernel_rfl) (fun _ _ => Try.call133 _ _) _ (by kernel_rfl) (fun x => by kernel_rfl) (by kernel_rfl)
def e_tree_of_part : Shallow := ⟨[tP, (.agg b7), tP], [tP], fun x => F_tree_of_part ids x.1 x.2.1 x.2.2.1⟩
def an_tree_of_part : Ann := { order := Sw.look [(1, ([[0, 1, 2, 3, 6, 9, 11, 4, 5, 7, 8, 10, 12, 13, 14, 15, 16, 17]], [(1, 4), (1, 7), (1, 10), (1, 12)])), (4, ([[0, 1, 2, 3, 4, 5, 6, 7, 8, 9, 10, 11, 12, 13]], [])), (6, ([[0, 1, 2, 3, 4, 5, 6, 7, 8, 9, 10, 11, 12, 13]], []))], reg := Sw.look [], join := Sw.look [(5, ([], [2, 7])), (7, ([], [7]))], loop := Sw.look [], blk := Sw.lookL [], res := [(6, tP)], anys := [] }
theorem l_tree_of_part : FnOk Try.prog 100 e_tree_of_part :=
 fn_ok mixed (l := [(80, e_node_part_count), (107, e_node_part_tall), (133, e_part_Measure), (76, e_sums_Add)]) ⟨l_node_part_count, l_node_part_tall, l_part_Measure, l_sums_Add, trivial⟩ (An := an_tree_of_part) Try.func100 (c := Try.f100.body.getD .skip) (by kernel_rfl) Try.ntmps100 (by kernel_rfl) (fun _ _ => Try.call100 _ _) _ (by kernel_rfl) (fun x => by kernel_rfl) (by kernel_rfl)
def e_tree_build_part : Shallow := ⟨[tS], [tP], fun x => F_tree_build_part ids x.1⟩
def an_tree_build_part : Ann := { order := Sw.look [(4, ([[0, 1, 2, 4, 5, 6, 7, 8, 9, 10, 11, 3, 12, 13, 14]], [(7, 3), (7, 12)]))], reg := Sw.look [], join := Sw.look [], loop := Sw.look [], blk := Sw.lookL [], res := [(2, tP)], anys := [] }
theorem l_tree_build_part : FnOk Try.prog 85 e_tree_build_part :=
 fn_ex (tys := [tS]) (res := [tP]) (R := fun fuelN => fun x => R_tree_build_part fuelN ids x.1) (fun _ => rfl) (fun _ _ => Try.call85 _ _) fun fuelN ih =>
 fn_ok mixed (l := [(85, (⟨[tS], [tP], fun x => R_tree_build_part fuelN ids x.1⟩ : Shallow)), (100, e_tree_of_part)]) ⟨ih, l_tree_of_part, trivial⟩ (An := an_tree_build_part) Try.func85 (c := Try.f85.body.getD .skip) (by kernel_rfl) Try.ntmps85 (by kernel_rfl) (fun _ _ => Try.call85 _ _) _ (by kernel_rfl) (fun x => by kernel_rfl) (by kernel_rfl)
def e_tree_Of_part : Shallow := ⟨[tS], [(.agg [.ptr])], fun x => F_tree_Of_part ids x.1⟩
def an_tree_Of_part : Ann := { order := Sw.look [], reg := Sw.look [], join := Sw.look [], loop := Sw.look [], blk := Sw.lookL [], res := [(2, tP)], anys := [] }
theorem l_tree_Of_part : FnOk Try.prog 56 e_tree_Of_part :=
 fn_ok mixed (l := [(85, e_tree_build_part)]) ⟨l_tree_build_part, trivial⟩ (An := an_tree_Of_part) Try.func56 (c := Try.f56.body.getD .skip) (by kernel_rfl) Try.ntmps56 (by kernel_rfl) (fun _ _ => Try.call56 _ _) _ (by kernel_rfl) (fun x => by kernel_rfl) (by kernel_rfl)
def e_piece_Open : Shallow := ⟨[tI, tS, tI], [tP, tI], fun x => F_piece_Open ids x.1 x.2.1 x.2.2.1⟩
def an_piece_Open : Ann := { order := Sw.look [], reg := Sw.look [(1, ([(16, tB)], [0, 1, 2])), (3, ([(23, tB)], [0, 1, 2])), (14, ([(57, tB)], [0, 8, 9, 10, 11, 12, 13]))], join := Sw.look [], loop := Sw.look [(12, ([(10, tS), (11, tI)], [0, 8, 9])), (14, ([(12, tI), (13, tI)], [0, 8, 9, 10, 11]))], blk := Sw.lookL [(0, []), (1, [(10, tS)]), (2, [(10, tS), (11, tI)]), (3, [(12, tI)]), (4, [(12, tI)])], res := [(6, tP), (7, tI)], anys := [] }
theorem l_piece_Open : FnOk Try.prog 21 e_piece_Open :=
 fn_ok mixed (l := [(45, e_codec_Next), (55, e_piece_newPart), (56, e_tree_Of_part)]) ⟨l_codec_Next, l_piece_newPart, l_tree_Of_part, trivial⟩ (An := an_piece_Open) Try.func21 (c := Try.f21.body.getD .skip) (by kernel_rfl) Try.ntmps21 (by kernel_rfl) (fun _ _ => Try.call21 _ _) _ (by kernel_rfl) (fun x => by kernel_rfl) (by kernel_rfl)
def e_Tree_part_Sum : Shallow := ⟨[(.agg [.ptr])], [(.agg b5)], fun x => F_Tree_part_Sum ids x.1⟩
def an_Tree_part_Sum : Ann := { order := Sw.look [], reg := Sw.look [], join := Sw.look [], loop := Sw.look [], blk := Sw.lookL [], res := [(2, tP)], anys := [] }
theorem l_Tree_part_Sum : FnOk Try.prog 61 e_Tree_part_Sum :=
 fn_ok mixed (l := []) trivial (An := an_Tree_part_Sum) Try.func61 (c := Try.f61.body.getD .skip) (by kernel_rfl) Try.ntmps61 (by kernel_rfl) (fun _ _ => Try.call61 _ _) _ (by kernel_rfl) (fun x => by kernel_rfl) (by kernel_rfl)
def e_Text_Len : Shallow := ⟨[tP], [tI], fun x => F_Text_Len ids x.1⟩
def an_Text_Len : Ann := { order := Sw.look [], reg := Sw.look [], join := Sw.look [], loop := Sw.look [], blk := Sw.lookL [], res := [(2, tI)], anys := [] }
theorem l_Text_Len : FnOk Try.prog 42 e_Text_Len :=
 fn_ok mixed (l := [(61, e_Tree_part_Sum)]) ⟨l_Tree_part_Sum, trivial⟩ (An := an_Text_Len) Try.func42 (c := Try.f42.body.getD .skip) (by kernel_rfl) Try.ntmps42 (by kernel_rfl) (fun _ _ => Try.call42 _ _) _ (by kernel_rfl) (fun x => by kernel_rfl) (by kernel_rfl)
def e_Text_Size : Shallow := ⟨[tP], [tI], fun x => F_Text_Size ids x.1⟩
def an_Text_Size : Ann := { order := Sw.look [], reg := Sw.look [], join := Sw.look [], loop := Sw.look [], blk := Sw.lookL [], res := [(2, tI)], anys := [] }
theorem l_Text_Size : FnOk Try.prog 29 e_Text_Size :=
 fn_ok mixed (l := [(61, e_Tree_part_Sum)]) ⟨l_Tree_part_Sum, trivial⟩ (An := an_Text_Size) Try.func29 (c := Try.f29.body.getD .skip) (by kernel_rfl) Try.ntmps29 (by kernel_rfl) (fun _ _ => Try.call29 _ _) _ (by kernel_rfl) (fun x => by kernel_rfl) (by kernel_rfl)
def e_codec_Size : Shallow := ⟨[tI, tI], [tI], fun x => F_codec_Size ids x.1 x.2.1⟩
def an_codec_Size : Ann := { order := Sw.look [], reg := Sw.look [], join := Sw.look [], loop := Sw.look [], blk := Sw.lookL [], res := [(4, tI)], anys := [5, 7, 8, 10] }
theorem l_codec_Size : FnOk Try.prog 57 e_codec_Size :=
 fn_ok mixed (l := [(60, e_codec_of)]) ⟨l_codec_of, trivial⟩ (An := an_codec_Size) Try.func57 (c := Try.f57.body.getD .skip) (by kernel_rfl) Try.ntmps57 (by kernel_rfl) (fun _ _ => Try.call57 _ _) _ (by kernel_rfl) (fun x => by kernel_rfl) (by kernel_rfl)
def e_sums_Key : Shallow := ⟨[(.agg b5), tI], [tI], fun x => F_sums_Key ids x.1 x.2.1⟩
def an_sums_Key : Ann := { order := Sw.look [], reg := Sw.look [], join := Sw.look [], loop := Sw.look [], blk := Sw.lookL [(0, [])], res := [(4, tI)], anys := [] }
theorem l_sums_Key : FnOk Try.prog 132 e_sums_Key :=
 fn_ok mixed (l := []) trivial (An := an_sums_Key) Try.func132 (c := Try.f132.body.getD .skip) (by kernel_rfl) Try.ntmps132 (by kernel_rfl) (fun _ _ => Try.call132 _ _) _ (by kernel_rfl) (fun x => by kernel_rfl) (by kernel_rfl)
def e_Tree_part_Find : Shallow := ⟨[(.agg [.ptr]), tI, tI], [tI], fun x => F_Tree_part_Find ids x.1 x.2.1 x.2.2.1⟩
def an_Tree_part_Find : Ann := { order := Sw.look [(9, ([[0, 1, 2, 3, 4, 5, 6, 7, 8, 9, 10]], [])), (13, ([[0, 1, 2, 3, 4, 5, 6, 7, 8, 9]], [(0, 7)]))], reg := Sw.look [], join := Sw.look [(10, ([], [1, 2, 7, 8, 9, 10]))], loop := Sw.look [(6, ([(8, tI), (9, tP)], [1, 2, 7]))], blk := Sw.lookL [(0, [(8, tI)]), (1, [(8, tI), (9, tP)])], res := [(6, tI)], anys := [] }
theorem l_Tree_part_Find : FnOk Try.prog 73 e_Tree_part_Find :=
 fn_ok mixed (l := [(76, e_sums_Add), (132, e_sums_Key), (80, e_node_part_count), (133, e_part_Measure)]) ⟨l_sums_Add, l_sums_Key, l_node_part_count, l_part_Measure, trivial⟩ (An := an_Tree_part_Find) Try.func73 (c := Try.f73.body.getD .skip) (by kernel_rfl) Try.ntmps73 (by kernel_rfl) (fun _ _ => Try.call73 _ _) _ (by kernel_rfl) (fun x => by kernel_rfl) (by kernel_rfl)
def e_Tree_part_Size : Shallow := ⟨[(.agg [.ptr])], [tI], fun x => F_Tree_part_Size ids x.1⟩
def an_Tree_part_Size : Ann := { order := Sw.look [], reg := Sw.look [], join := Sw.look [], loop := Sw.look [], blk := Sw.lookL [], res := [(2, tI)], anys := [] }
theorem l_Tree_part_Size : FnOk Try.prog 90 e_Tree_part_Size :=
 fn_ok mixed (l := [(80, e_node_part_count)]) ⟨l_node_part_count, trivial⟩ (An := an_Tree_part_Size) Try.func90 (c := Try.f90.body.getD .skip) (by kernel_rfl) Try.ntmps90 (by kernel_rfl) (fun _ _ => Try.call90 _ _) _ (by kernel_rfl) (fun x => by kernel_rfl) (by kernel_rfl)
def e_Tree_part_Upto : Shallow := ⟨[(.agg [.ptr]), tI], [(.agg b5)], fun x => F_Tree_part_Upto ids x.1 x.2.1⟩
def an_Tree_part_Upto : Ann := { order := Sw.look [(9, ([[0, 1, 2, 3, 4, 5, 6, 7, 8, 9, 10]], [])), (10, ([[0, 1, 2, 3, 4, 5, 6, 7, 8, 9]], [(0, 7)]))], reg := Sw.look [(4, ([(19, tB)], [1, 4, 5, 6]))], join := Sw.look [(10, ([], [1, 4, 5, 6, 7]))], loop := Sw.look [(4, ([(1, tI), (6, tP)], [4, 5]))], blk := Sw.lookL [(0, []), (1, [(1, tI), (6, tP)])], res := [(4, tP)], anys := [] }
theorem l_Tree_part_Upto : FnOk Try.prog 74 e_Tree_part_Upto :=
 fn_ok mixed (l := [(90, e_Tree_part_Size), (80, e_node_part_count), (76, e_sums_Add), (133, e_part_Measure)]) ⟨l_Tree_part_Size, l_node_part_count, l_sums_Add, l_part_Measure, trivial⟩ (An := an_Tree_part_Upto) Try.func74 (c := Try.f74.body.getD .skip) (by kernel_rfl) Try.ntmps74 (by kernel_rfl) (fun _ _ => Try.call74 _ _) _ (by kernel_rfl) (fun x => by kernel_rfl) (by kernel_rfl)
def e_Text_find : Shallow := ⟨[tP, tI], [tI, tI], fun x => F_Text_find ids x.1 x.2.1⟩
def an_Text_find : Ann := { order := Sw.look [], reg := Sw.look [], join := Sw.look [], loop := Sw.look [], blk := Sw.lookL [], res := [(4, tI), (5, tI)], anys := [] }
theorem l_Text_find : FnOk Try.prog 86 e_Text_find :=
 fn_ok mixed (l := [(73, e_Tree_part_Find), (74, e_Tree_part_Upto)]) ⟨l_Tree_part_Find, l_Tree_part_Upto, trivial⟩ (An := an_Text_find) Try.func86 (c := Try.f86.body.getD .skip) (by kernel_rfl) Try.ntmps86 (by kernel_rfl) (fun _ _ => Try.call86 _ _) _ (by kernel_rfl) (fun x => by kernel_rfl) (by kernel_rfl)
def e_Tree_part_At : Shallow := ⟨[(.agg [.ptr]), tI], [(.agg b7), tB], fun x => F_Tree_part_At ids x.1 x.2.1⟩
def an_Tree_part_At : Ann := { order := Sw.look [], reg := Sw.look [(2, ([(16, tB)], [1, 4, 6]))], join := Sw.look [], loop := Sw.look [(2, ([(1, tI), (6, tP)], [4]))], blk := Sw.lookL [(0, []), (1, [(1, tI), (6, tP)]), (2, [(1, tI), (6, tP)])], res := [(4, tP), (5, tB)], anys := [] }
theorem l_Tree_part_At : FnOk Try.prog 75 e_Tree_part_At :=
 fn_ok mixed (l := [(80, e_node_part_count)]) ⟨l_node_part_count, trivial⟩ (An := an_Tree_part_At) Try.func75 (c := Try.f75.body.getD .skip) (by kernel_rfl) Try.ntmps75 (by kernel_rfl) (fun _ _ => Try.call75 _ _) _ (by kernel_rfl) (fun x => by kernel_rfl) (by kernel_rfl)
def e_part_cut : Shallow := ⟨[(.agg b7), tI, tI], [(.agg b7), (.agg b7)], fun x => F_part_cut ids x.1 x.2.1 x.2.2.1⟩
def an_part_cut : Ann := { order := Sw.look [(9, ([[0, 1, 2, 3, 4, 5, 6, 7, 9, 10, 11, 12, 13, 14, 8, 15, 16, 17]], [(11, 8)]))], reg := Sw.look [(2, ([(20, tB)], [1, 2, 3, 6, 7, 8]))], join := Sw.look [(9, ([(11, tI)], [1, 3, 6, 7, 8]))], loop := Sw.look [(2, ([(2, tI), (8, tI)], [1, 3, 6, 7]))], blk := Sw.lookL [(0, [(8, tI)]), (1, [(8, tI)])], res := [(6, tP), (7, tP)], anys := [] }
theorem l_part_cut : FnOk Try.prog 87 e_part_cut :=
 fn_ok mixed (l := [(45, e_codec_Next), (55, e_piece_newPart)]) ⟨l_codec_Next, l_piece_newPart, trivial⟩ (An := an_part_cut) Try.func87 (c := Try.f87.body.getD .skip) (by kernel_rfl) Try.ntmps87 (by kernel_rfl) (fun _ _ => Try.call87 _ _) _ (by kernel_rfl) (fun x => by kernel_rfl) (by kernel_rfl)
def e_Text_ahead : Shallow := ⟨[tP, tI], [(.agg b5)], fun x => F_Text_ahead ids x.1 x.2.1⟩
def an_Text_ahead : Ann := { order := Sw.look [(5, ([[0, 1, 2, 3, 4, 5, 6, 7, 8, 9, 10, 11, 12, 13], [0, 1, 2, 3, 4, 5, 6, 7, 8, 9, 11, 10, 12, 13], [0, 1, 2, 3, 4, 5, 10, 6, 7, 8, 9, 11, 12, 13], [0, 1, 2, 3, 4, 5, 10, 11, 6, 7, 8, 9, 12, 13], [0, 1, 2, 3, 4, 5, 11, 6, 7, 8, 9, 10, 12, 13], [0, 1, 2, 3, 4, 5, 11, 10, 6, 7, 8, 9, 12, 13]], [(0, 10), (0, 11), (4, 10), (4, 11)]))], reg := Sw.look [(5, ([(10, tP)], [4, 7]))], join := Sw.look [(7, ([], [4, 7]))], loop := Sw.look [], blk := Sw.lookL [], res := [(4, tP)], anys := [] }
theorem l_Text_ahead : FnOk Try.prog 72 e_Text_ahead :=
 fn_ok mixed (l := [(86, e_Text_find), (74, e_Tree_part_Upto), (75, e_Tree_part_At), (87, e_part_cut), (76, e_sums_Add)]) ⟨l_Text_find, l_Tree_part_Upto, l_Tree_part_At, l_part_cut, l_sums_Add, trivial⟩ (An := an_Text_ahead) Try.func72 (c := Try.f72.body.getD .skip) (by kernel_rfl) Try.ntmps72 (by kernel_rfl) (fun _ _ => Try.call72 _ _) _ (by kernel_rfl) (fun x => by kernel_rfl) (by kernel_rfl)
def e_Text_refuse : Shallow := ⟨[tP, tS], [tI], fun x => F_Text_refuse ids x.1 x.2.1⟩
def an_Text_refuse : Ann := { order := Sw.look [(28, ([[0, 1, 2, 3, 6, 7, 8, 4, 5, 9, 10, 11, 12, 13]], [(8, 4)]))], reg := Sw.look [(7, ([(44, tB)], [0, 1, 6, 8, 22, 23, 24]))], join := Sw.look [(29, ([(9, tI)], [0, 76, 77, 78]))], loop := Sw.look [(5, ([(5, tI), (24, tI)], [0, 1, 6, 22, 23])), (13, ([(9, tI), (52, tI)], [0, 1, 50, 51])), (16, ([(9, tI), (59, tI)], [0, 1, 50, 51, 52, 57, 58])), (25, ([(9, tI), (78, tI)], [0, 76, 77]))], blk := Sw.lookL [(0, []), (1, [(5, tI)]), (2, [(9, tI)]), (3, [(9, tI)]), (4, [(9, tI)]), (5, [(9, tI)]), (6, [(9, tI)]), (7, [(9, tI)])], res := [(4, tI)], anys := [] }
theorem l_Text_refuse : FnOk Try.prog 58 e_Text_refuse :=
 fn_ok mixed (l := [(42, e_Text_Len), (29, e_Text_Size), (57, e_codec_Size), (72, e_Text_ahead)]) ⟨l_Text_Len, l_Text_Size, l_codec_Size, l_Text_ahead, trivial⟩ (An := an_Text_refuse) Try.func58 (c := Try.f58.body.getD .skip) (by kernel_rfl) Try.ntmps58 (by kernel_rfl) (fun _ _ => Try.call58 _ _) _ (by kernel_rfl) (fun x => by kernel_rfl) (by kernel_rfl)
def e_Text_fresh_1 : Shallow := ⟨[tP, tP, tP, tP], [], fun x => F_Text_fresh_1 ids x.1 x.2.1 x.2.2.1 x.2.2.2.1⟩
def an_Text_fresh_1 : Ann := { order := Sw.look [(2, ([[0, 1, 2, 3, 4, 5, 6, 7, 8, 9, 10, 11, 12, 13, 14, 15, 16]], [(0, 13), (0, 14)]))], reg := Sw.look [], join := Sw.look [], loop := Sw.look [], blk := Sw.lookL [], res := [], anys := [] }
theorem l_Text_fresh_1 : FnOk Try.prog 101 e_Text_fresh_1 :=
 fn_ok mixed (l := [(55, e_piece_newPart)]) ⟨l_piece_newPart, trivial⟩ (An := an_Text_fresh_1) Try.func101 (c := Try.f101.body.getD .skip) (by kernel_rfl) Try.ntmps101 (by kernel_rfl) (fun _ _ => Try.call101 _ _) _ (by kernel_rfl) (fun x => by kernel_rfl) (by kernel_rfl)
def e_codec_Encode : Shallow := ⟨[tI, tS], [tS, tI, tI], fun x => F_codec_Encode ids x.1 x.2.1⟩
def an_codec_Encode : Ann := { order := Sw.look [], reg := Sw.look [], join := Sw.look [], loop := Sw.look [(6, ([(8, tS), (17, tI)], [7, 15, 16]))], blk := Sw.lookL [(0, [(8, tS)]), (1, [(8, tS)])], res := [(4, tS), (5, tI), (6, tI)], anys := [7, 12, 13, 22, 27] }
theorem l_codec_Encode : FnOk Try.prog 27 e_codec_Encode :=
 fn_ok mixed (l := [(60, e_codec_of)]) ⟨l_codec_of, trivial⟩ (An := an_codec_Encode) Try.func27 (c := Try.f27.body.getD .skip) (by kernel_rfl) Try.ntmps27 (by kernel_rfl) (fun _ _ => Try.call27 _ _) _ (by kernel_rfl) (fun x => by kernel_rfl) (by kernel_rfl)
def e_Text_fresh : Shallow := ⟨[tP, tS], [tS], fun x => F_Text_fresh ids x.1 x.2.1⟩
def an_Text_fresh : Ann := { order := Sw.look [(12, ([[0, 1, 2, 3, 4, 5, 6, 7, 8, 9]], [(0, 6)]))], reg := Sw.look [(8, ([(11, tB)], [2, 5, 7, 8, 10, 21, 22, 23])), (9, ([(42, tB)], [2, 5, 7, 8, 10, 11, 21, 22, 23]))], join := Sw.look [(11, ([], [2, 5, 7, 8, 10, 11, 21, 22, 23])), (16, ([], [2, 5, 7, 8, 21, 22, 23]))], loop := Sw.look [(6, ([(23, tI)], [2, 5, 7, 8, 21, 22]))], blk := Sw.lookL [(0, []), (1, [])], res := [(4, tS)], anys := [] }
theorem l_Text_fresh : FnOk Try.prog 88 e_Text_fresh :=
 fn_ok mixed (l := [(101, e_Text_fresh_1), (27, e_codec_Encode)]) ⟨l_Text_fresh_1, l_codec_Encode, trivial⟩ (An := an_Text_fresh) Try.func88 (c := Try.f88.body.getD .skip) (by kernel_rfl) Try.ntmps88 (by kernel_rfl) (fun _ _ => Try.call88 _ _) _ (by kernel_rfl) (fun x => by kernel_rfl) (by kernel_rfl)
def e_tree_even_part : Shallow := ⟨[tP, (.agg b7), tP], [tP], fun x => F_tree_even_part ids x.1 x.2.1 x.2.2.1⟩
def an_tree_even_part : Ann := { order := Sw.look [(2, ([[0, 1, 2, 3, 5, 6, 7, 8, 4, 9, 10]], [(8, 4)])), (3, ([[0, 1, 2, 3, 4, 5, 6, 7, 8, 9, 10, 11, 12, 13, 14, 15, 16]], [(3, 14), (7, 14)])), (5, ([[0, 1, 2, 3, 4, 5, 6, 7, 8, 9, 10, 11, 13, 14, 15, 16, 17, 18, 19, 20, 21, 22, 12, 23, 24, 25]], [(16, 12), (16, 23), (20, 12), (21, 12)])), (7, ([[0, 1, 2, 3, 5, 6, 7, 8, 4, 9, 10]], [(8, 4)])), (8, ([[0, 1, 2, 3, 4, 5, 7, 8, 9, 10, 11, 12, 13, 14, 6, 15, 16]], [(10, 6), (14, 6)])), (10, ([[0, 1, 2, 3, 4, 5, 7, 8, 9, 10, 11, 12, 13, 14, 15, 16, 17, 18, 19, 20, 21, 22, 6, 23, 24, 25]], [(10, 6), (10, 23), (14, 6), (18, 6), (22, 6)]))], reg := Sw.look [], join := Sw.look [], loop := Sw.look [], blk := Sw.lookL [(0, [])], res := [(6, tP)], anys := [] }
theorem l_tree_even_part : FnOk Try.prog 112 e_tree_even_part :=
 fn_ok mixed (l := [(107, e_node_part_tall), (100, e_tree_of_part)]) ⟨l_node_part_tall, l_tree_of_part, trivial⟩ (An := an_tree_even_part) Try.func112 (c := Try.f112.body.getD .skip) (by kernel_rfl) Try.ntmps112 (by kernel_rfl) (fun _ _ => Try.call112 _ _) _ (by kernel_rfl) (fun x => by kernel_rfl) (by kernel_rfl)
def e_tree_join_part : Shallow := ⟨[tP, (.agg b7), tP], [tP], fun x => F_tree_join_part ids x.1 x.2.1 x.2.2.1⟩
def an_tree_join_part : Ann := { order := Sw.look [(2, ([[0, 1, 2, 3, 4, 5, 6, 7, 8, 9, 10, 11, 12, 13, 14, 15, 16]], [(3, 14), (7, 14)])), (4, ([[0, 1, 2, 3, 4, 5, 7, 8, 9, 10, 11, 12, 13, 14, 6, 15, 16]], [(10, 6), (14, 6)]))], reg := Sw.look [], join := Sw.look [], loop := Sw.look [], blk := Sw.lookL [(0, [])], res := [(6, tP)], anys := [] }
theorem l_tree_join_part : FnOk Try.prog 108 e_tree_join_part :=
 fn_ex (tys := [tP, (.agg b7), tP]) (res := [tP]) (R := fun fuelN => fun x => R_tree_join_part fuelN ids x.1 x.2.1 x.2.2.1) (fun _ => rfl) (fun _ _ => Try.call108 _ _) fun fuelN ih =>
 fn_ok mixed (l := [(107, e_node_part_tall), (108, (⟨[tP, (.agg b7), tP], [tP], fun x => R_tree_join_part fuelN ids x.1 x.2.1 x.2.2.1⟩ : Shallow)), (112, e_tree_even_part), (100, e_tree_of_part)]) ⟨l_node_part_tall, ih, l_tree_even_part, l_tree_of_part, trivial⟩ (An := an_tree_join_part) Try.func108 (c := Try.f108.body.getD .skip) (by kernel_rfl) Try.ntmps108 (by kernel_rfl) (fun _ _ => Try.call108 _ _) _ (by kernel_rfl) (fun x => by kernel_rfl) (by kernel_rfl)
def e_node_part_cut : Shallow := ⟨[tP, tI], [tP, tP], fun x => F_node_part_cut ids x.1 x.2.1⟩
def an_node_part_cut : Ann := { order := Sw.look [(6, ([[0, 1, 2, 3, 4, 5, 6, 7, 8, 9, 10, 11, 12]], [])), (8, ([[0, 1, 2, 3, 4, 5, 6, 7, 8, 10, 9, 11, 12]], []))], reg := Sw.look [], join := Sw.look [], loop := Sw.look [], blk := Sw.lookL [], res := [(4, tP), (5, tP)], anys := [] }
theorem l_node_part_cut : FnOk Try.prog 102 e_node_part_cut :=
 fn_ex (tys := [tP, tI]) (res := [tP, tP]) (R := fun fuelN => fun x => R_node_part_cut fuelN ids x.1 x.2.1) (fun _ => rfl) (fun _ _ => Try.call102 _ _) fun fuelN ih =>
 fn_ok mixed (l := [(80, e_node_part_count), (102, (⟨[tP, tI], [tP, tP], fun x => R_node_part_cut fuelN ids x.1 x.2.1⟩ : Shallow)), (108, e_tree_join_part)]) ⟨l_node_part_count, ih, l_tree_join_part, trivial⟩ (An := an_node_part_cut) Try.func102 (c := Try.f102.body.getD .skip) (by kernel_rfl) Try.ntmps102 (by kernel_rfl) (fun _ _ => Try.call102 _ _) _ (by kernel_rfl) (fun x => by kernel_rfl) (by kernel_rfl)
def e_node_part_first : Shallow := ⟨[tP], [(.agg b7), tP], fun x => F_node_part_first ids x.1⟩
def an_node_part_first : Ann := { order := Sw.look [(2, ([[0, 1, 2, 3, 4, 5, 6, 7, 8, 9]], [(7, 8)])), (4, ([[0, 1, 2, 3, 4, 5, 6, 7, 8, 9, 10, 11, 12]], [(0, 10)]))], reg := Sw.look [], join := Sw.look [], loop := Sw.look [], blk := Sw.lookL [], res := [(2, tP), (3, tP)], anys := [] }
theorem l_node_part_first : FnOk Try.prog 109 e_node_part_first :=
 fn_ex (tys := [tP]) (res := [(.agg b7), tP]) (R := fun fuelN => fun x => R_node_part_first fuelN ids x.1) (fun _ => rfl) (fun _ _ => Try.call109 _ _) fun fuelN ih =>
 fn_ok mixed (l := [(109, (⟨[tP], [(.agg b7), tP], fun x => R_node_part_first fuelN ids x.1⟩ : Shallow)), (112, e_tree_even_part)]) ⟨ih, l_tree_even_part, trivial⟩ (An := an_node_part_first) Try.func109 (c := Try.f109.body.getD .skip) (by kernel_rfl) Try.ntmps109 (by kernel_rfl) (fun _ _ => Try.call109 _ _) _ (by kernel_rfl) (fun x => by kernel_rfl) (by kernel_rfl)
def e_tree_both_part : Shallow := ⟨[tP, tP], [tP], fun x => F_tree_both_part ids x.1 x.2.1⟩
def an_tree_both_part : Ann := { order := Sw.look [], reg := Sw.look [], join := Sw.look [], loop := Sw.look [], blk := Sw.lookL [], res := [(4, tP)], anys := [] }
theorem l_tree_both_part : FnOk Try.prog 103 e_tree_both_part :=
 fn_ok mixed (l := [(109, e_node_part_first), (108, e_tree_join_part)]) ⟨l_node_part_first, l_tree_join_part, trivial⟩ (An := an_tree_both_part) Try.func103 (c := Try.f103.body.getD .skip) (by kernel_rfl) Try.ntmps103 (by kernel_rfl) (fun _ _ => Try.call103 _ _) _ (by kernel_rfl) (fun x => by kernel_rfl) (by kernel_rfl)
def e_Tree_part_Replace : Shallow := ⟨[(.agg [.ptr]), tI, tI, tS], [(.agg [.ptr]), tI], fun x => F_Tree_part_Replace ids x.1 x.2.1 x.2.2.1 x.2.2.2.1⟩
def an_Tree_part_Replace : Ann := { order := Sw.look [], reg := Sw.look [(1, ([(26, tB)], [1, 2, 3, 4, 8]))], join := Sw.look [], loop := Sw.look [], blk := Sw.lookL [], res := [(8, tP), (9, tI)], anys := [] }
theorem l_Tree_part_Replace : FnOk Try.prog 89 e_Tree_part_Replace :=
 fn_ok mixed (l := [(90, e_Tree_part_Size), (102, e_node_part_cut), (85, e_tree_build_part), (103, e_tree_both_part)]) ⟨l_Tree_part_Size, l_node_part_cut, l_tree_build_part, l_tree_both_part, trivial⟩ (An := an_Tree_part_Replace) Try.func89 (c := Try.f89.body.getD .skip) (by kernel_rfl) Try.ntmps89 (by kernel_rfl) (fun _ _ => Try.call89 _ _) _ (by kernel_rfl) (fun x => by kernel_rfl) (by kernel_rfl)
def e_Text_replace : Shallow := ⟨[tP, tI, tI, tS], [], fun x => F_Text_replace ids x.1 x.2.1 x.2.2.1 x.2.2.2.1⟩
def an_Text_replace : Ann := { order := Sw.look [(5, ([[0, 1, 2, 3, 4, 5, 6, 7, 8, 9, 10, 11, 12, 13], [0, 1, 2, 3, 4, 5, 6, 7, 8, 9, 11, 10, 12, 13], [0, 1, 2, 3, 4, 5, 10, 6, 7, 8, 9, 11, 12, 13], [0, 1, 2, 3, 4, 5, 10, 11, 6, 7, 8, 9, 12, 13], [0, 1, 2, 3, 4, 5, 11, 6, 7, 8, 9, 10, 12, 13], [0, 1, 2, 3, 4, 5, 11, 10, 6, 7, 8, 9, 12, 13]], [(0, 10), (0, 11), (4, 10), (4, 11)])), (10, ([[0, 1, 2, 3, 4, 5, 6, 7, 8, 9, 10, 11, 12, 13], [0, 1, 2, 3, 4, 5, 6, 7, 8, 9, 11, 10, 12, 13], [0, 1, 2, 3, 4, 5, 10, 6, 7, 8, 9, 11, 12, 13], [0, 1, 2, 3, 4, 5, 10, 11, 6, 7, 8, 9, 12, 13], [0, 1, 2, 3, 4, 5, 11, 6, 7, 8, 9, 10, 12, 13], [0, 1, 2, 3, 4, 5, 11, 10, 6, 7, 8, 9, 12, 13]], [(0, 10), (0, 11), (4, 10), (4, 11)])), (13, ([[0, 1, 2, 3, 4, 5, 6, 7, 8, 9, 10, 11, 14, 12, 13, 15, 16, 17, 18, 19, 20, 21]], [(4, 12)]))], reg := Sw.look [(4, ([(46, tB)], [0, 3, 8, 9, 10, 11, 12, 13])), (5, ([(15, tP)], [0, 3, 8, 10, 11, 12])), (10, ([(20, tP)], [0, 8, 10, 12]))], join := Sw.look [(7, ([(12, tS)], [0, 3, 8, 10, 11])), (13, ([(12, tS)], [0, 8, 10]))], loop := Sw.look [], blk := Sw.lookL [], res := [], anys := [] }
theorem l_Text_replace : FnOk Try.prog 59 e_Text_replace :=
 fn_ok mixed (l := [(86, e_Text_find), (75, e_Tree_part_At), (87, e_part_cut), (88, e_Text_fresh), (90, e_Tree_part_Size), (89, e_Tree_part_Replace)]) ⟨l_Text_find, l_Tree_part_At, l_part_cut, l_Text_fresh, l_Tree_part_Size, l_Tree_part_Replace, trivial⟩ (An := an_Text_replace) Try.func59 (c := Try.f59.body.getD .skip) (by kernel_rfl) Try.ntmps59 (by kernel_rfl) (fun _ _ => Try.call59 _ _) _ (by kernel_rfl) (fun x => by kernel_rfl) (by kernel_rfl)
def e_Text_Change : Shallow := ⟨[tP, tS], [tI], fun x => F_Text_Change ids x.1 x.2.1⟩
def an_Text_Change : Ann := { order := Sw.look [], reg := Sw.look [(8, ([(35, tB)], [0, 1, 6, 7]))], join := Sw.look [(6, ([], [0, 1, 6]))], loop := Sw.look [(5, ([(6, tI)], [0, 1]))], blk := Sw.lookL [(0, []), (1, [])], res := [(4, tI)], anys := [] }
theorem l_Text_Change : FnOk Try.prog 26 e_Text_Change :=
 fn_ok mixed (l := [(58, e_Text_refuse), (59, e_Text_replace)]) ⟨l_Text_refuse, l_Text_replace, trivial⟩ (An := an_Text_Change) Try.func26 (c := Try.f26.body.getD .skip) (by kernel_rfl) Try.ntmps26 (by kernel_rfl) (fun _ _ => Try.call26 _ _) _ (by kernel_rfl) (fun x => by kernel_rfl) (by kernel_rfl)
def e_law5_able : Shallow := ⟨[], [tB], fun x => F_law5_able ids⟩
def an_law5_able : Ann := { order := Sw.look [], reg := Sw.look [(2, ([(15, tB)], [])), (5, ([(31, tB)], [3])), (7, ([(0, tB)], []))], join := Sw.look [], loop := Sw.look [], blk := Sw.lookL [], res := [(0, tB)], anys := [] }
theorem l_law5_able : FnOk Try.prog 10 e_law5_able :=
 fn_ok mixed (l := [(45, e_codec_Next), (21, e_piece_Open), (42, e_Text_Len), (26, e_Text_Change)]) ⟨l_codec_Next, l_piece_Open, l_Text_Len, l_Text_Change, trivial⟩ (An := an_law5_able) Try.func10 (c := Try.f10.body.getD .skip) (by kernel_rfl) Try.ntmps10 (by kernel_rfl) (fun _ _ => Try.call10 _ _) _ (by kernel_rfl) (fun x => by kernel_rfl) (by kernel_rfl)
def e_law5_known : Shallow := ⟨[tI, tS], [tB], fun x => F_law5_known ids x.1 x.2.1⟩
def an_law5_known : Ann := { order := Sw.look [], reg := Sw.look [(1, ([(4, tB)], []))], join := Sw.look [], loop := Sw.look [], blk := Sw.lookL [], res := [(4, tB)], anys := [] }
theorem l_law5_known : FnOk Try.prog 11 e_law5_known :=
 fn_ok mixed (l := []) trivial (An := an_law5_known) Try.func11 (c := Try.f11.body.getD .skip) (by kernel_rfl) Try.ntmps11 (by kernel_rfl) (fun _ _ => Try.call11 _ _) _ (by kernel_rfl) (fun x => by kernel_rfl) (by kernel_rfl)
def e_Text_Chunks : Shallow := ⟨[tP, tI], [(.one .any)], fun x => F_Text_Chunks ids x.1 x.2.1⟩
def an_Text_Chunks : Ann := { order := Sw.look [], reg := Sw.look [], join := Sw.look [], loop := Sw.look [], blk := Sw.lookL [], res := [(4, (.one .any))], anys := [] }
theorem l_Text_Chunks : FnOk Try.prog 13 e_Text_Chunks :=
 fn_ok mixed (l := []) trivial (An := an_Text_Chunks) Try.func13 (c := Try.f13.body.getD .skip) (by kernel_rfl) Try.ntmps13 (by kernel_rfl) (fun _ _ => Try.call13 _ _) _ (by kernel_rfl) (fun x => by kernel_rfl) (by kernel_rfl)
end
end Go.Proofs.Ytjhnjehmbgaciaa
