/-
  Each function of the cut does what its shallow program says (the text is printed by program).
-/
import Derived.Test.YtncolficnfcdcaaProg
import Derived.KernelRfl
import Derived.Test.YtncolficnfcdcaaSwS11
import Derived.Test.YtncolficnfcdcaaSwFcodec
set_option maxRecDepth 100000
set_option maxHeartbeats 4000000
set_option linter.unusedVariables false
namespace Go.Proofs.Ytncolficnfcdcaa
open Go Go.Sw
noncomputable section
def ids : Ids := { f_Book_Marks_1 := 0, f_Book_shut := 39, f_Text_Atoms_1 := 0, f_Text_Tags_1 := 32, f_Tree_part_Items_1 := 51, f_Tree_part_Items_1_1 := 52, m_first := methName Try.prog 128 0, m_put := methName Try.prog 128 3, m_size := methName Try.prog 128 4, t_codec_eight := 128, t_codec_latin := 131, t_codec_sixteen := 130, none := () }
theorem mixed : Try.prog.follows .mixedOrders = true := by kernel_rfl
def e_law7_short : Shallow := ⟨[tS, tS], [tB], fun x => F_law7_short ids x.1 x.2.1⟩
def an_law7_short : Ann := { order := Sw.look [], reg := Sw.look [(10, ([(4, tB)], []))], join := Sw.look [], loop := Sw.look [(3, ([(5, tI), (6, tI)], [1])), (7, ([(5, tI), (7, tI)], [1, 6]))], blk := Sw.lookL [(0, [(5, tI)]), (1, [(5, tI)]), (2, [(5, tI)]), (3, [(5, tI)])], res := [(4, tB)], anys := [] }
theorem l_law7_short : FnOk Try.prog 5 e_law7_short :=
 fn_ok mixed (l := []) trivial (An := an_law7_short) Try.func5 (c := Try.f5.body.getD .skip) (by kernel_rfl) Try.ntmps5 (by kernel_rfl) (fun _ _ => Try.call5 _ _) _ (by kernel_rfl) (fun x => by kernel_rfl) (by kernel_rfl)
def e_codec_of : Shallow := ⟨[tI], [(.one .any)], fun x => F_codec_of ids x.1⟩
def an_codec_of : Ann := { order := Sw.look [], reg := Sw.look [], join := Sw.look [], loop := Sw.look [], blk := Sw.lookL [(0, [])], res := [(2, (.one .any))], anys := [] }
theorem l_codec_of : FnOk Try.prog 54 e_codec_of :=
 fn_ok mixed (l := []) trivial (An := an_codec_of) Try.func54 (c := Try.f54.body.getD .skip) (by kernel_rfl) Try.ntmps54 (by kernel_rfl) (fun _ _ => Try.call54 _ _) _ (by kernel_rfl) (fun x => by kernel_rfl) (by kernel_rfl)
def e_codec_Next : Shallow := ⟨[tI, tS, tI], [tI, tI], fun x => F_codec_Next ids x.1 x.2.1 x.2.2.1⟩
def an_codec_Next : Ann := { order := Sw.look [(4, ([[0, 1, 2, 3, 4, 5, 6, 7, 8, 9, 10, 11]], []))], reg := Sw.look [(2, ([(22, tB)], [1, 2, 8]))], join := Sw.look [], loop := Sw.look [], blk := Sw.lookL [], res := [(6, tI), (7, tI)], anys := [8, 10, 11, 23, 29] }
theorem l_codec_Next : FnOk Try.prog 44 e_codec_Next :=
 fn_ok mixed (l := [(54, e_codec_of)]) ⟨l_codec_of, trivial⟩ (An := an_codec_Next) Try.func44 (c := Try.f44.body.getD .skip) (by kernel_rfl) Try.ntmps44 (by kernel_rfl) (fun _ _ => Try.call44 _ _) _ (by kernel_rfl) (fun x => by kernel_rfl) (by kernel_rfl)
def e_piece_single : Shallow := ⟨[tI, tI], [(.agg b5)], fun x => F_piece_single ids x.1 x.2.1⟩
def an_piece_single : Ann := { order := Sw.look [], reg := Sw.look [(2, ([(17, tB)], [4, 5]))], join := Sw.look [(4, ([], [4, 5]))], loop := Sw.look [], blk := Sw.lookL [], res := [(4, tP)], anys := [] }
theorem l_piece_single : FnOk Try.prog 56 e_piece_single :=
 fn_ok mixed (l := []) trivial (An := an_piece_single) Try.func56 (c := Try.f56.body.getD .skip) (by kernel_rfl) Try.ntmps56 (by kernel_rfl) (fun _ _ => Try.call56 _ _) _ (by kernel_rfl) (fun x => by kernel_rfl) (by kernel_rfl)
def e_sums_Add : Shallow := ⟨[(.agg b5), (.agg b5)], [(.agg b5)], fun x => F_sums_Add ids x.1 x.2.1⟩
def an_sums_Add : Ann := { order := Sw.look [], reg := Sw.look [(6, ([(39, tB)], [4, 5]))], join := Sw.look [(8, ([], [4, 5]))], loop := Sw.look [], blk := Sw.lookL [], res := [(4, tP)], anys := [] }
theorem l_sums_Add : FnOk Try.prog 55 e_sums_Add :=
 fn_ok mixed (l := []) trivial (An := an_sums_Add) Try.func55 (c := Try.f55.body.getD .skip) (by kernel_rfl) Try.ntmps55 (by kernel_rfl) (fun _ _ => Try.call55 _ _) _ (by kernel_rfl) (fun x => by kernel_rfl) (by kernel_rfl)
def e_piece_newPart : Shallow := ⟨[tI, tS, tI], [(.agg b7)], fun x => F_piece_newPart ids x.1 x.2.1 x.2.2.1⟩
def an_piece_newPart : Ann := { order := Sw.look [(5, ([[0, 1, 2, 3, 4, 5, 6, 7]], [(1, 4)]))], reg := Sw.look [], join := Sw.look [], loop := Sw.look [(3, ([(8, tI)], [0, 1, 6, 7]))], blk := Sw.lookL [(0, []), (1, [(8, tI)])], res := [(6, tP)], anys := [] }
theorem l_piece_newPart : FnOk Try.prog 45 e_piece_newPart :=
 fn_ok mixed (l := [(44, e_codec_Next), (56, e_piece_single), (55, e_sums_Add)]) ⟨l_codec_Next, l_piece_single, l_sums_Add, trivial⟩ (An := an_piece_newPart) Try.func45 (c := Try.f45.body.getD .skip) (by kernel_rfl) Try.ntmps45 (by kernel_rfl) (fun _ _ => Try.call45 _ _) _ (by kernel_rfl) (fun x => by kernel_rfl) (by kernel_rfl)
def e_node_part_count : Shallow := ⟨[tP], [tI], fun x => F_node_part_count ids x.1⟩
def an_node_part_count : Ann := { order := Sw.look [], reg := Sw.look [], join := Sw.look [], loop := Sw.look [], blk := Sw.lookL [], res := [(2, tI)], anys := [] }
theorem l_node_part_count : FnOk Try.prog 53 e_node_part_count :=
 fn_ok mixed (l := []) trivial (An := an_node_part_count) Try.func53 (c := Try.f53.body.getD .skip) (by kernel_rfl) Try.ntmps53 (by kernel_rfl) (fun _ _ => Try.call53 _ _) _ (by kernel_rfl) (fun x => by kernel_rfl) (by kernel_rfl)
def e_node_part_tall : Shallow := ⟨[tP], [tI], fun x => F_node_part_tall ids x.1⟩
def an_node_part_tall : Ann := { order := Sw.look [], reg := Sw.look [], join := Sw.look [], loop := Sw.look [], blk := Sw.lookL [], res := [(2, tI)], anys := [] }
theorem l_node_part_tall : FnOk Try.prog 71 e_node_part_tall :=
 fn_ok mixed (l := []) trivial (An := an_node_part_tall) Try.func71 (c := Try.f71.body.getD .skip) (by kernel_rfl) Try.ntmps71 (by kernel_rfl) (fun _ _ => Try.call71 _ _) _ (by kernel_rfl) (fun x => by kernel_rfl) (by kernel_rfl)
def e_part_Measure : Shallow := ⟨[(.agg b7)], [(.agg b5)], fun x => F_part_Measure ids x.1⟩
def an_part_Measure : Ann := { order := Sw.look [], reg := Sw.look [], join := Sw.look [], loop := Sw.look [], blk := Sw.lookL [], res := [(2, tP)], anys := [] }
theorem l_part_Measure : FnOk Try.prog 95 e_part_Measure :=
 fn_ok mixed (l := []) trivial (An := an_part_Measure) Try.func95 (c := Try.f95.body.getD .skip) (by kernel_rfl) Try.ntmps95 (by kernel_rfl) (fun _ _ => Try.call95 _ _) _ (by kernel_rfl) (fun x => by kernel_rfl) (by kernel_rfl)
def e_tree_of_part : Shallow := ⟨[tP, (.agg b7), tP], [tP], fun x => F_tree_of_part ids x.1 x.2.1 x.2.2.1⟩
def an_tree_of_part : Ann := { order := Sw.look [(1, ([[0, 1, 2, 3, 6, 9, 11, 4, 5, 7, 8, 10, 12, 13, 14, 15, 16, 17]], [(1, 4), (1, 7), (1, 10), (1, 12)])), (4, ([[0, 1, 2, 3, 4, 5, 6, 7, 8, 9, 10, 11, 12, 13]], [])), (6, ([[0, 1, 2, 3, 4, 5, 6, 7, 8, 9, 10, 11, 12, 13]], []))], reg := Sw.look [], join := Sw.look [(5, ([], [2, 7])), (7, ([], [7]))], loop := Sw.look [], blk := Sw.lookL [], res := [(6, tP)], anys := [] }
theorem l_tree_of_part : FnOk Try.prog 66 e_tree_of_part :=
 fn_ok mixed (l := [(53, e_node_part_count), (71, e_node_part_tall), (95, e_part_Measure), (55, e_sums_Add)]) ⟨l_node_part_count, l_node_part_tall, l_part_Measure, l_sums_Add, trivial⟩ (An := an_tree_of_part) Try.func66 (c := Try.f66.body.getD .skip) (by kernel_rfl) Try.ntmps66 (by kernel_rfl) (fun _ _ => Try.call66 _ _) _ (by kernel_rfl) (fun x => by kernel_rfl) (by kernel_rfl)
def e_tree_build_part : Shallow := ⟨[tS], [tP], fun x => F_tree_build_part ids x.1⟩
def an_tree_build_part : Ann := { order := Sw.look [(4, ([[0, 1, 2, 4, 5, 6, 7, 8, 9, 10, 11, 3, 12, 13, 14]], [(7, 3), (7, 12)]))], reg := Sw.look [], join := Sw.look [], loop := Sw.look [], blk := Sw.lookL [], res := [(2, tP)], anys := [] }
theorem l_tree_build_part : FnOk Try.prog 57 e_tree_build_part :=
 fn_ex (tys := [tS]) (res := [tP]) (R := fun fuelN => fun x => R_tree_build_part fuelN ids x.1) (fun _ => rfl) (fun _ _ => Try.call57 _ _) fun fuelN ih =>
 fn_ok mixed (l := [(57, (⟨[tS], [tP], fun x => R_tree_build_part fuelN ids x.1⟩ : Shallow)), (66, e_tree_of_part)]) ⟨ih, l_tree_of_part, trivial⟩ (An := an_tree_build_part) Try.func57 (c := Try.f57.body.getD .skip) (by kernel_rfl) Try.ntmps57 (by kernel_rfl) (fun _ _ => Try.call57 _ _) _ (by kernel_rfl) (fun x => by kernel_rfl) (by kernel_rfl)
def e_tree_Of_part : Shallow := ⟨[tS], [(.agg [.ptr])], fun x => F_tree_Of_part ids x.1⟩
def an_tree_Of_part : Ann := { order := Sw.look [], reg := Sw.look [], join := Sw.look [], loop := Sw.look [], blk := Sw.lookL [], res := [(2, tP)], anys := [] }
theorem l_tree_Of_part : FnOk Try.prog 46 e_tree_Of_part :=
 fn_ok mixed (l := [(57, e_tree_build_part)]) ⟨l_tree_build_part, trivial⟩ (An := an_tree_Of_part) Try.func46 (c := Try.f46.body.getD .skip) (by kernel_rfl) Try.ntmps46 (by kernel_rfl) (fun _ _ => Try.call46 _ _) _ (by kernel_rfl) (fun x => by kernel_rfl) (by kernel_rfl)
def e_piece_Open : Shallow := ⟨[tI, tS, tI], [tP, tI], fun x => F_piece_Open ids x.1 x.2.1 x.2.2.1⟩
def an_piece_Open : Ann := { order := Sw.look [], reg := Sw.look [(1, ([(16, tB)], [0, 1, 2])), (3, ([(23, tB)], [0, 1, 2])), (14, ([(57, tB)], [0, 8, 9, 10, 11, 12, 13]))], join := Sw.look [], loop := Sw.look [(12, ([(10, tS), (11, tI)], [0, 8, 9])), (14, ([(12, tI), (13, tI)], [0, 8, 9, 10, 11]))], blk := Sw.lookL [(0, []), (1, [(10, tS)]), (2, [(10, tS), (11, tI)]), (3, [(12, tI)]), (4, [(12, tI)])], res := [(6, tP), (7, tI)], anys := [] }
theorem l_piece_Open : FnOk Try.prog 36 e_piece_Open :=
 fn_ok mixed (l := [(44, e_codec_Next), (45, e_piece_newPart), (46, e_tree_Of_part)]) ⟨l_codec_Next, l_piece_newPart, l_tree_Of_part, trivial⟩ (An := an_piece_Open) Try.func36 (c := Try.f36.body.getD .skip) (by kernel_rfl) Try.ntmps36 (by kernel_rfl) (fun _ _ => Try.call36 _ _) _ (by kernel_rfl) (fun x => by kernel_rfl) (by kernel_rfl)
def e_history_Open : Shallow := ⟨[tI, tS, tI, tI], [tP, tI], fun x => F_history_Open ids x.1 x.2.1 x.2.2.1 x.2.2.2.1⟩
def an_history_Open : Ann := { order := Sw.look [], reg := Sw.look [(1, ([(17, tB)], [0, 1, 2, 3]))], join := Sw.look [], loop := Sw.look [], blk := Sw.lookL [], res := [(8, tP), (9, tI)], anys := [] }
theorem l_history_Open : FnOk Try.prog 22 e_history_Open :=
 fn_ok mixed (l := [(36, e_piece_Open)]) ⟨l_piece_Open, trivial⟩ (An := an_history_Open) Try.func22 (c := Try.f22.body.getD .skip) (by kernel_rfl) Try.ntmps22 (by kernel_rfl) (fun _ _ => Try.call22 _ _) _ (by kernel_rfl) (fun x => by kernel_rfl) (by kernel_rfl)
def e_law7_num : Shallow := ⟨[tI], [tI], fun x => F_law7_num ids x.1⟩
def an_law7_num : Ann := { order := Sw.look [], reg := Sw.look [], join := Sw.look [], loop := Sw.look [], blk := Sw.lookL [], res := [(2, tI)], anys := [] }
theorem l_law7_num : FnOk Try.prog 12 e_law7_num :=
 fn_ok mixed (l := []) trivial (An := an_law7_num) Try.func12 (c := Try.f12.body.getD .skip) (by kernel_rfl) Try.ntmps12 (by kernel_rfl) (fun _ _ => Try.call12 _ _) _ (by kernel_rfl) (fun x => by kernel_rfl) (by kernel_rfl)
def e_Book_Text : Shallow := ⟨[tP], [tP], fun x => F_Book_Text ids x.1⟩
def an_Book_Text : Ann := { order := Sw.look [], reg := Sw.look [], join := Sw.look [], loop := Sw.look [], blk := Sw.lookL [], res := [(2, tP)], anys := [] }
theorem l_Book_Text : FnOk Try.prog 15 e_Book_Text :=
 fn_ok mixed (l := []) trivial (An := an_Book_Text) Try.func15 (c := Try.f15.body.getD .skip) (by kernel_rfl) Try.ntmps15 (by kernel_rfl) (fun _ _ => Try.call15 _ _) _ (by kernel_rfl) (fun x => by kernel_rfl) (by kernel_rfl)
def e_law7_book : Shallow := ⟨[tI, tS, tI], [tP], fun x => F_law7_book ids x.1 x.2.1 x.2.2.1⟩
def an_law7_book : Ann := { order := Sw.look [], reg := Sw.look [(2, ([(30, tB)], [7]))], join := Sw.look [], loop := Sw.look [], blk := Sw.lookL [], res := [(6, tP)], anys := [] }
theorem l_law7_book : FnOk Try.prog 6 e_law7_book :=
 fn_ok mixed (l := [(22, e_history_Open), (12, e_law7_num), (15, e_Book_Text)]) ⟨l_history_Open, l_law7_num, l_Book_Text, trivial⟩ (An := an_law7_book) Try.func6 (c := Try.f6.body.getD .skip) (by kernel_rfl) Try.ntmps6 (by kernel_rfl) (fun _ _ => Try.call6 _ _) _ (by kernel_rfl) (fun x => by kernel_rfl) (by kernel_rfl)
def e_Tree_part_Sum : Shallow := ⟨[(.agg [.ptr])], [(.agg b5)], fun x => F_Tree_part_Sum ids x.1⟩
def an_Tree_part_Sum : Ann := { order := Sw.look [], reg := Sw.look [], join := Sw.look [], loop := Sw.look [], blk := Sw.lookL [], res := [(2, tP)], anys := [] }
theorem l_Tree_part_Sum : FnOk Try.prog 30 e_Tree_part_Sum :=
 fn_ok mixed (l := []) trivial (An := an_Tree_part_Sum) Try.func30 (c := Try.f30.body.getD .skip) (by kernel_rfl) Try.ntmps30 (by kernel_rfl) (fun _ _ => Try.call30 _ _) _ (by kernel_rfl) (fun x => by kernel_rfl) (by kernel_rfl)
def e_Text_Len : Shallow := ⟨[tP], [tI], fun x => F_Text_Len ids x.1⟩
def an_Text_Len : Ann := { order := Sw.look [], reg := Sw.look [], join := Sw.look [], loop := Sw.look [], blk := Sw.lookL [], res := [(2, tI)], anys := [] }
theorem l_Text_Len : FnOk Try.prog 16 e_Text_Len :=
 fn_ok mixed (l := [(30, e_Tree_part_Sum)]) ⟨l_Tree_part_Sum, trivial⟩ (An := an_Text_Len) Try.func16 (c := Try.f16.body.getD .skip) (by kernel_rfl) Try.ntmps16 (by kernel_rfl) (fun _ _ => Try.call16 _ _) _ (by kernel_rfl) (fun x => by kernel_rfl) (by kernel_rfl)
def e_law7_slot : Shallow := ⟨[tI, tI], [tI], fun x => F_law7_slot ids x.1 x.2.1⟩
def an_law7_slot : Ann := { order := Sw.look [], reg := Sw.look [], join := Sw.look [(4, ([(0, tI)], []))], loop := Sw.look [], blk := Sw.lookL [], res := [(4, tI)], anys := [] }
theorem l_law7_slot : FnOk Try.prog 10 e_law7_slot :=
 fn_ok mixed (l := []) trivial (An := an_law7_slot) Try.func10 (c := Try.f10.body.getD .skip) (by kernel_rfl) Try.ntmps10 (by kernel_rfl) (fun _ _ => Try.call10 _ _) _ (by kernel_rfl) (fun x => by kernel_rfl) (by kernel_rfl)
def e_Book_inside : Shallow := ⟨[tP, tI], [tB], fun x => F_Book_inside ids x.1 x.2.1⟩
def an_Book_inside : Ann := { order := Sw.look [], reg := Sw.look [(1, ([(4, tB)], []))], join := Sw.look [], loop := Sw.look [], blk := Sw.lookL [], res := [(4, tB)], anys := [] }
theorem l_Book_inside : FnOk Try.prog 34 e_Book_inside :=
 fn_ok mixed (l := [(16, e_Text_Len)]) ⟨l_Text_Len, trivial⟩ (An := an_Book_inside) Try.func34 (c := Try.f34.body.getD .skip) (by kernel_rfl) Try.ntmps34 (by kernel_rfl) (fun _ _ => Try.call34 _ _) _ (by kernel_rfl) (fun x => by kernel_rfl) (by kernel_rfl)
def e_slices_Cloneint_int___ : Shallow := ⟨[tS], [tS], fun x => F_slices_Cloneint_int___ ids x.1⟩
def an_slices_Cloneint_int___ : Ann := { order := Sw.look [], reg := Sw.look [], join := Sw.look [], loop := Sw.look [], blk := Sw.lookL [], res := [(2, tS)], anys := [] }
theorem l_slices_Cloneint_int___ : FnOk Try.prog 35 e_slices_Cloneint_int___ :=
 fn_ok mixed (l := []) trivial (An := an_slices_Cloneint_int___) Try.func35 (c := Try.f35.body.getD .skip) (by kernel_rfl) Try.ntmps35 (by kernel_rfl) (fun _ _ => Try.call35 _ _) _ (by kernel_rfl) (fun x => by kernel_rfl) (by kernel_rfl)
def e_Text_Snap : Shallow := ⟨[tP], [tP], fun x => F_Text_Snap ids x.1⟩
def an_Text_Snap : Ann := { order := Sw.look [], reg := Sw.look [], join := Sw.look [], loop := Sw.look [], blk := Sw.lookL [], res := [(2, tP)], anys := [] }
theorem l_Text_Snap : FnOk Try.prog 37 e_Text_Snap :=
 fn_ok mixed (l := []) trivial (An := an_Text_Snap) Try.func37 (c := Try.f37.body.getD .skip) (by kernel_rfl) Try.ntmps37 (by kernel_rfl) (fun _ _ => Try.call37 _ _) _ (by kernel_rfl) (fun x => by kernel_rfl) (by kernel_rfl)
def e_Book_Begin : Shallow := ⟨[tP, tI], [tI], fun x => F_Book_Begin ids x.1 x.2.1⟩
def an_Book_Begin : Ann := { order := Sw.look [(6, ([[0, 1, 2, 3, 4, 5, 6, 8, 9, 10, 11, 12, 7, 13, 14, 15, 16, 17, 18, 19, 20, 21, 22, 23, 24]], [(12, 7)]))], reg := Sw.look [], join := Sw.look [], loop := Sw.look [(8, ([], [0, 5, 51]))], blk := Sw.lookL [(0, []), (1, [])], res := [(4, tI)], anys := [] }
theorem l_Book_Begin : FnOk Try.prog 23 e_Book_Begin :=
 fn_ok mixed (l := [(34, e_Book_inside), (35, e_slices_Cloneint_int___), (37, e_Text_Snap)]) ⟨l_Book_inside, l_slices_Cloneint_int___, l_Text_Snap, trivial⟩ (An := an_Book_Begin) Try.func23 (c := Try.f23.body.getD .skip) (by kernel_rfl) Try.ntmps23 (by kernel_rfl) (fun _ _ => Try.call23 _ _) _ (by kernel_rfl) (fun x => by kernel_rfl) (by kernel_rfl)
def e_law7_edit : Shallow := ⟨[(.agg [bI, bI, .sl]), tI], [(.agg [bI, bI, .sl])], fun x => F_law7_edit ids x.1 x.2.1⟩
def an_law7_edit : Ann := { order := Sw.look [], reg := Sw.look [], join := Sw.look [], loop := Sw.look [(5, ([(7, tS), (8, tI)], [2, 4, 5, 6]))], blk := Sw.lookL [(0, [(7, tS)]), (1, [(7, tS)])], res := [(4, tP)], anys := [] }
theorem l_law7_edit : FnOk Try.prog 25 e_law7_edit :=
 fn_ok mixed (l := [(10, e_law7_slot)]) ⟨l_law7_slot, trivial⟩ (An := an_law7_edit) Try.func25 (c := Try.f25.body.getD .skip) (by kernel_rfl) Try.ntmps25 (by kernel_rfl) (fun _ _ => Try.call25 _ _) _ (by kernel_rfl) (fun x => by kernel_rfl) (by kernel_rfl)
def e_Text_Size : Shallow := ⟨[tP], [tI], fun x => F_Text_Size ids x.1⟩
def an_Text_Size : Ann := { order := Sw.look [], reg := Sw.look [], join := Sw.look [], loop := Sw.look [], blk := Sw.lookL [], res := [(2, tI)], anys := [] }
theorem l_Text_Size : FnOk Try.prog 58 e_Text_Size :=
 fn_ok mixed (l := [(30, e_Tree_part_Sum)]) ⟨l_Tree_part_Sum, trivial⟩ (An := an_Text_Size) Try.func58 (c := Try.f58.body.getD .skip) (by kernel_rfl) Try.ntmps58 (by kernel_rfl) (fun _ _ => Try.call58 _ _) _ (by kernel_rfl) (fun x => by kernel_rfl) (by kernel_rfl)
def e_codec_Size : Shallow := ⟨[tI, tI], [tI], fun x => F_codec_Size ids x.1 x.2.1⟩
def an_codec_Size : Ann := { order := Sw.look [], reg := Sw.look [], join := Sw.look [], loop := Sw.look [], blk := Sw.lookL [], res := [(4, tI)], anys := [5, 7, 8, 10] }
theorem l_codec_Size : FnOk Try.prog 59 e_codec_Size :=
 fn_ok mixed (l := [(54, e_codec_of)]) ⟨l_codec_of, trivial⟩ (An := an_codec_Size) Try.func59 (c := Try.f59.body.getD .skip) (by kernel_rfl) Try.ntmps59 (by kernel_rfl) (fun _ _ => Try.call59 _ _) _ (by kernel_rfl) (fun x => by kernel_rfl) (by kernel_rfl)
def e_sums_Key : Shallow := ⟨[(.agg b5), tI], [tI], fun x => F_sums_Key ids x.1 x.2.1⟩
def an_sums_Key : Ann := { order := Sw.look [], reg := Sw.look [], join := Sw.look [], loop := Sw.look [], blk := Sw.lookL [(0, [])], res := [(4, tI)], anys := [] }
theorem l_sums_Key : FnOk Try.prog 93 e_sums_Key :=
 fn_ok mixed (l := []) trivial (An := an_sums_Key) Try.func93 (c := Try.f93.body.getD .skip) (by kernel_rfl) Try.ntmps93 (by kernel_rfl) (fun _ _ => Try.call93 _ _) _ (by kernel_rfl) (fun x => by kernel_rfl) (by kernel_rfl)
def e_Tree_part_Find : Shallow := ⟨[(.agg [.ptr]), tI, tI], [tI], fun x => F_Tree_part_Find ids x.1 x.2.1 x.2.2.1⟩
def an_Tree_part_Find : Ann := { order := Sw.look [(9, ([[0, 1, 2, 3, 4, 5, 6, 7, 8, 9, 10]], [])), (13, ([[0, 1, 2, 3, 4, 5, 6, 7, 8, 9]], [(0, 7)]))], reg := Sw.look [], join := Sw.look [(10, ([], [1, 2, 7, 8, 9, 10]))], loop := Sw.look [(6, ([(8, tI), (9, tP)], [1, 2, 7]))], blk := Sw.lookL [(0, [(8, tI)]), (1, [(8, tI), (9, tP)])], res := [(6, tI)], anys := [] }
theorem l_Tree_part_Find : FnOk Try.prog 49 e_Tree_part_Find :=
 fn_ok mixed (l := [(55, e_sums_Add), (93, e_sums_Key), (53, e_node_part_count), (95, e_part_Measure)]) ⟨l_sums_Add, l_sums_Key, l_node_part_count, l_part_Measure, trivial⟩ (An := an_Tree_part_Find) Try.func49 (c := Try.f49.body.getD .skip) (by kernel_rfl) Try.ntmps49 (by kernel_rfl) (fun _ _ => Try.call49 _ _) _ (by kernel_rfl) (fun x => by kernel_rfl) (by kernel_rfl)
def e_Tree_part_Size : Shallow := ⟨[(.agg [.ptr])], [tI], fun x => F_Tree_part_Size ids x.1⟩
def an_Tree_part_Size : Ann := { order := Sw.look [], reg := Sw.look [], join := Sw.look [], loop := Sw.look [], blk := Sw.lookL [], res := [(2, tI)], anys := [] }
theorem l_Tree_part_Size : FnOk Try.prog 65 e_Tree_part_Size :=
 fn_ok mixed (l := [(53, e_node_part_count)]) ⟨l_node_part_count, trivial⟩ (An := an_Tree_part_Size) Try.func65 (c := Try.f65.body.getD .skip) (by kernel_rfl) Try.ntmps65 (by kernel_rfl) (fun _ _ => Try.call65 _ _) _ (by kernel_rfl) (fun x => by kernel_rfl) (by kernel_rfl)
def e_Tree_part_Upto : Shallow := ⟨[(.agg [.ptr]), tI], [(.agg b5)], fun x => F_Tree_part_Upto ids x.1 x.2.1⟩
def an_Tree_part_Upto : Ann := { order := Sw.look [(9, ([[0, 1, 2, 3, 4, 5, 6, 7, 8, 9, 10]], [])), (10, ([[0, 1, 2, 3, 4, 5, 6, 7, 8, 9]], [(0, 7)]))], reg := Sw.look [(4, ([(19, tB)], [1, 4, 5, 6]))], join := Sw.look [(10, ([], [1, 4, 5, 6, 7]))], loop := Sw.look [(4, ([(1, tI), (6, tP)], [4, 5]))], blk := Sw.lookL [(0, []), (1, [(1, tI), (6, tP)])], res := [(4, tP)], anys := [] }
theorem l_Tree_part_Upto : FnOk Try.prog 50 e_Tree_part_Upto :=
 fn_ok mixed (l := [(65, e_Tree_part_Size), (53, e_node_part_count), (55, e_sums_Add), (95, e_part_Measure)]) ⟨l_Tree_part_Size, l_node_part_count, l_sums_Add, l_part_Measure, trivial⟩ (An := an_Tree_part_Upto) Try.func50 (c := Try.f50.body.getD .skip) (by kernel_rfl) Try.ntmps50 (by kernel_rfl) (fun _ _ => Try.call50 _ _) _ (by kernel_rfl) (fun x => by kernel_rfl) (by kernel_rfl)
def e_Text_find : Shallow := ⟨[tP, tI], [tI, tI], fun x => F_Text_find ids x.1 x.2.1⟩
def an_Text_find : Ann := { order := Sw.look [], reg := Sw.look [], join := Sw.look [], loop := Sw.look [], blk := Sw.lookL [], res := [(4, tI), (5, tI)], anys := [] }
theorem l_Text_find : FnOk Try.prog 42 e_Text_find :=
 fn_ok mixed (l := [(49, e_Tree_part_Find), (50, e_Tree_part_Upto)]) ⟨l_Tree_part_Find, l_Tree_part_Upto, trivial⟩ (An := an_Text_find) Try.func42 (c := Try.f42.body.getD .skip) (by kernel_rfl) Try.ntmps42 (by kernel_rfl) (fun _ _ => Try.call42 _ _) _ (by kernel_rfl) (fun x => by kernel_rfl) (by kernel_rfl)
def e_Tree_part_At : Shallow := ⟨[(.agg [.ptr]), tI], [(.agg b7), tB], fun x => F_Tree_part_At ids x.1 x.2.1⟩
def an_Tree_part_At : Ann := { order := Sw.look [], reg := Sw.look [(2, ([(16, tB)], [1, 4, 6]))], join := Sw.look [], loop := Sw.look [(2, ([(1, tI), (6, tP)], [4]))], blk := Sw.lookL [(0, []), (1, [(1, tI), (6, tP)]), (2, [(1, tI), (6, tP)])], res := [(4, tP), (5, tB)], anys := [] }
theorem l_Tree_part_At : FnOk Try.prog 61 e_Tree_part_At :=
 fn_ok mixed (l := [(53, e_node_part_count)]) ⟨l_node_part_count, trivial⟩ (An := an_Tree_part_At) Try.func61 (c := Try.f61.body.getD .skip) (by kernel_rfl) Try.ntmps61 (by kernel_rfl) (fun _ _ => Try.call61 _ _) _ (by kernel_rfl) (fun x => by kernel_rfl) (by kernel_rfl)
def e_part_cut : Shallow := ⟨[(.agg b7), tI, tI], [(.agg b7), (.agg b7)], fun x => F_part_cut ids x.1 x.2.1 x.2.2.1⟩
def an_part_cut : Ann := { order := Sw.look [(9, ([[0, 1, 2, 3, 4, 5, 6, 7, 9, 10, 11, 12, 13, 14, 8, 15, 16, 17]], [(11, 8)]))], reg := Sw.look [(2, ([(20, tB)], [1, 2, 3, 6, 7, 8]))], join := Sw.look [(9, ([(11, tI)], [1, 3, 6, 7, 8]))], loop := Sw.look [(2, ([(2, tI), (8, tI)], [1, 3, 6, 7]))], blk := Sw.lookL [(0, [(8, tI)]), (1, [(8, tI)])], res := [(6, tP), (7, tP)], anys := [] }
theorem l_part_cut : FnOk Try.prog 62 e_part_cut :=
 fn_ok mixed (l := [(44, e_codec_Next), (45, e_piece_newPart)]) ⟨l_codec_Next, l_piece_newPart, trivial⟩ (An := an_part_cut) Try.func62 (c := Try.f62.body.getD .skip) (by kernel_rfl) Try.ntmps62 (by kernel_rfl) (fun _ _ => Try.call62 _ _) _ (by kernel_rfl) (fun x => by kernel_rfl) (by kernel_rfl)
def e_Text_ahead : Shallow := ⟨[tP, tI], [(.agg b5)], fun x => F_Text_ahead ids x.1 x.2.1⟩
def an_Text_ahead : Ann := { order := Sw.look [(5, ([[0, 1, 2, 3, 4, 5, 6, 7, 8, 9, 10, 11, 12, 13], [0, 1, 2, 3, 4, 5, 6, 7, 8, 9, 11, 10, 12, 13], [0, 1, 2, 3, 4, 5, 10, 6, 7, 8, 9, 11, 12, 13], [0, 1, 2, 3, 4, 5, 10, 11, 6, 7, 8, 9, 12, 13], [0, 1, 2, 3, 4, 5, 11, 6, 7, 8, 9, 10, 12, 13], [0, 1, 2, 3, 4, 5, 11, 10, 6, 7, 8, 9, 12, 13]], [(0, 10), (0, 11), (4, 10), (4, 11)]))], reg := Sw.look [(5, ([(10, tP)], [4, 7]))], join := Sw.look [(7, ([], [4, 7]))], loop := Sw.look [], blk := Sw.lookL [], res := [(4, tP)], anys := [] }
theorem l_Text_ahead : FnOk Try.prog 60 e_Text_ahead :=
 fn_ok mixed (l := [(42, e_Text_find), (50, e_Tree_part_Upto), (61, e_Tree_part_At), (62, e_part_cut), (55, e_sums_Add)]) ⟨l_Text_find, l_Tree_part_Upto, l_Tree_part_At, l_part_cut, l_sums_Add, trivial⟩ (An := an_Text_ahead) Try.func60 (c := Try.f60.body.getD .skip) (by kernel_rfl) Try.ntmps60 (by kernel_rfl) (fun _ _ => Try.call60 _ _) _ (by kernel_rfl) (fun x => by kernel_rfl) (by kernel_rfl)
def e_Text_refuse : Shallow := ⟨[tP, tS], [tI], fun x => F_Text_refuse ids x.1 x.2.1⟩
def an_Text_refuse : Ann := { order := Sw.look [(28, ([[0, 1, 2, 3, 6, 7, 8, 4, 5, 9, 10, 11, 12, 13]], [(8, 4)]))], reg := Sw.look [(7, ([(44, tB)], [0, 1, 6, 8, 22, 23, 24]))], join := Sw.look [(29, ([(9, tI)], [0, 76, 77, 78]))], loop := Sw.look [(5, ([(5, tI), (24, tI)], [0, 1, 6, 22, 23])), (13, ([(9, tI), (52, tI)], [0, 1, 50, 51])), (16, ([(9, tI), (59, tI)], [0, 1, 50, 51, 52, 57, 58])), (25, ([(9, tI), (78, tI)], [0, 76, 77]))], blk := Sw.lookL [(0, []), (1, [(5, tI)]), (2, [(9, tI)]), (3, [(9, tI)]), (4, [(9, tI)]), (5, [(9, tI)]), (6, [(9, tI)]), (7, [(9, tI)])], res := [(4, tI)], anys := [] }
theorem l_Text_refuse : FnOk Try.prog 47 e_Text_refuse :=
 fn_ok mixed (l := [(16, e_Text_Len), (58, e_Text_Size), (59, e_codec_Size), (60, e_Text_ahead)]) ⟨l_Text_Len, l_Text_Size, l_codec_Size, l_Text_ahead, trivial⟩ (An := an_Text_refuse) Try.func47 (c := Try.f47.body.getD .skip) (by kernel_rfl) Try.ntmps47 (by kernel_rfl) (fun _ _ => Try.call47 _ _) _ (by kernel_rfl) (fun x => by kernel_rfl) (by kernel_rfl)
def e_Text_fresh_1 : Shallow := ⟨[tP, tP, tP, tP], [], fun x => F_Text_fresh_1 ids x.1 x.2.1 x.2.2.1 x.2.2.2.1⟩
def an_Text_fresh_1 : Ann := { order := Sw.look [(2, ([[0, 1, 2, 3, 4, 5, 6, 7, 8, 9, 10, 11, 12, 13, 14, 15, 16]], [(0, 13), (0, 14)]))], reg := Sw.look [], join := Sw.look [], loop := Sw.look [], blk := Sw.lookL [], res := [], anys := [] }
theorem l_Text_fresh_1 : FnOk Try.prog 67 e_Text_fresh_1 :=
 fn_ok mixed (l := [(45, e_piece_newPart)]) ⟨l_piece_newPart, trivial⟩ (An := an_Text_fresh_1) Try.func67 (c := Try.f67.body.getD .skip) (by kernel_rfl) Try.ntmps67 (by kernel_rfl) (fun _ _ => Try.call67 _ _) _ (by kernel_rfl) (fun x => by kernel_rfl) (by kernel_rfl)
def e_codec_Encode : Shallow := ⟨[tI, tS], [tS, tI, tI], fun x => F_codec_Encode ids x.1 x.2.1⟩
def an_codec_Encode : Ann := { order := Sw.look [], reg := Sw.look [], join := Sw.look [], loop := Sw.look [(6, ([(8, tS), (17, tI)], [7, 15, 16]))], blk := Sw.lookL [(0, [(8, tS)]), (1, [(8, tS)])], res := [(4, tS), (5, tI), (6, tI)], anys := [7, 12, 13, 22, 27] }
theorem l_codec_Encode : FnOk Try.prog 68 e_codec_Encode :=
 fn_ok mixed (l := [(54, e_codec_of)]) ⟨l_codec_of, trivial⟩ (An := an_codec_Encode) Try.func68 (c := Try.f68.body.getD .skip) (by kernel_rfl) Try.ntmps68 (by kernel_rfl) (fun _ _ => Try.call68 _ _) _ (by kernel_rfl) (fun x => by kernel_rfl) (by kernel_rfl)
def e_Text_fresh : Shallow := ⟨[tP, tS], [tS], fun x => F_Text_fresh ids x.1 x.2.1⟩
def an_Text_fresh : Ann := { order := Sw.look [(12, ([[0, 1, 2, 3, 4, 5, 6, 7, 8, 9]], [(0, 6)]))], reg := Sw.look [(8, ([(11, tB)], [2, 5, 7, 8, 10, 21, 22, 23])), (9, ([(42, tB)], [2, 5, 7, 8, 10, 11, 21, 22, 23]))], join := Sw.look [(11, ([], [2, 5, 7, 8, 10, 11, 21, 22, 23])), (16, ([], [2, 5, 7, 8, 21, 22, 23]))], loop := Sw.look [(6, ([(23, tI)], [2, 5, 7, 8, 21, 22]))], blk := Sw.lookL [(0, []), (1, [])], res := [(4, tS)], anys := [] }
theorem l_Text_fresh : FnOk Try.prog 63 e_Text_fresh :=
 fn_ok mixed (l := [(67, e_Text_fresh_1), (68, e_codec_Encode)]) ⟨l_Text_fresh_1, l_codec_Encode, trivial⟩ (An := an_Text_fresh) Try.func63 (c := Try.f63.body.getD .skip) (by kernel_rfl) Try.ntmps63 (by kernel_rfl) (fun _ _ => Try.call63 _ _) _ (by kernel_rfl) (fun x => by kernel_rfl) (by kernel_rfl)
end
end Go.Proofs.Ytncolficnfcdcaa
