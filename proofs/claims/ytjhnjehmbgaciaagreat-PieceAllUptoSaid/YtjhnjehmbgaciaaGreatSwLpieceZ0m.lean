/-
  Each function of the cut does what its shallow program says (the text is printed by program).
-/
import Derived.Test.YtjhnjehmbgaciaaGreatProg
import Derived.KernelRfl
import Derived.Test.YtjhnjehmbgaciaaGreatSwS10
import Derived.Test.YtjhnjehmbgaciaaGreatSwFcodec
set_option maxRecDepth 100000
set_option maxHeartbeats 4000000
set_option linter.unusedVariables false
namespace Go.Proofs.YtjhnjehmbgaciaaGreat
open Go Go.Sw
noncomputable section
def ids : Ids := { f_Text_Atoms_1 := 46, f_Text_Chunks_1 := 84, f_Text_Tags_1 := 47, f_Tree_part_Items_1 := 79, f_Tree_part_Items_1_1 := 80, f_law5_PieceFlow_1 := 0, f_law5_begun_1 := 0, f_law5_ranged_1 := 0, f_quiet_ask_1 := 0, f_shelf_handOut_1 := 0, f_world_chunks_1 := 59, m_first := methName Tryz.prog 116 0, m_put := methName Tryz.prog 116 3, m_size := methName Tryz.prog 116 4, t_codec_eight := 116, t_codec_latin := 119, t_codec_sixteen := 118, none := () }
theorem mixed : Tryz.prog.follows .mixedOrders = true := by kernel_rfl
def e_codec_of : Shallow := ⟨[tI], [(.one .any)], fun x => F_codec_of ids x.1⟩
def an_codec_of : Ann := { order := Sw.look [], reg := Sw.look [], join := Sw.look [], loop := Sw.look [], blk := Sw.lookL [(0, [])], res := [(2, (.one .any))], anys := [] }
theorem l_codec_of : FnOk Tryz.prog 33 e_codec_of :=
 fn_ok mixed (l := []) trivial (An := an_codec_of) Tryz.func33 (c := Tryz.f33.body.getD .skip) (by kernel_rfl) Tryz.ntmps33 (by kernel_rfl) (fun _ _ => Tryz.call33 _ _) _ (by kernel_rfl) (fun x => by kernel_rfl) (by kernel_rfl)
def e_codec_Next : Shallow := ⟨[tI, tS, tI], [tI, tI], fun x => F_codec_Next ids x.1 x.2.1 x.2.2.1⟩
def an_codec_Next : Ann := { order := Sw.look [(4, ([[0, 1, 2, 3, 4, 5, 6, 7, 8, 9, 10, 11]], []))], reg := Sw.look [(2, ([(22, tB)], [1, 2, 8]))], join := Sw.look [], loop := Sw.look [], blk := Sw.lookL [], res := [(6, tI), (7, tI)], anys := [8, 10, 11, 23, 29] }
theorem l_codec_Next : FnOk Tryz.prog 12 e_codec_Next :=
 fn_ok mixed (l := [(33, e_codec_of)]) ⟨l_codec_of, trivial⟩ (An := an_codec_Next) Tryz.func12 (c := Tryz.f12.body.getD .skip) (by kernel_rfl) Tryz.ntmps12 (by kernel_rfl) (fun _ _ => Tryz.call12 _ _) _ (by kernel_rfl) (fun x => by kernel_rfl) (by kernel_rfl)
def e_piece_single : Shallow := ⟨[tI, tI], [(.agg b5)], fun x => F_piece_single ids x.1 x.2.1⟩
def an_piece_single : Ann := { order := Sw.look [], reg := Sw.look [(2, ([(17, tB)], [4, 5]))], join := Sw.look [(4, ([], [4, 5]))], loop := Sw.look [], blk := Sw.lookL [], res := [(4, tP)], anys := [] }
theorem l_piece_single : FnOk Tryz.prog 56 e_piece_single :=
 fn_ok mixed (l := []) trivial (An := an_piece_single) Tryz.func56 (c := Tryz.f56.body.getD .skip) (by kernel_rfl) Tryz.ntmps56 (by kernel_rfl) (fun _ _ => Tryz.call56 _ _) _ (by kernel_rfl) (fun x => by kernel_rfl) (by kernel_rfl)
def e_sums_Add : Shallow := ⟨[(.agg b5), (.agg b5)], [(.agg b5)], fun x => F_sums_Add ids x.1 x.2.1⟩
def an_sums_Add : Ann := { order := Sw.look [], reg := Sw.look [(6, ([(39, tB)], [4, 5]))], join := Sw.look [(8, ([], [4, 5]))], loop := Sw.look [], blk := Sw.lookL [], res := [(4, tP)], anys := [] }
theorem l_sums_Add : FnOk Tryz.prog 55 e_sums_Add :=
 fn_ok mixed (l := []) trivial (An := an_sums_Add) Tryz.func55 (c := Tryz.f55.body.getD .skip) (by kernel_rfl) Tryz.ntmps55 (by kernel_rfl) (fun _ _ => Tryz.call55 _ _) _ (by kernel_rfl) (fun x => by kernel_rfl) (by kernel_rfl)
def e_piece_newPart : Shallow := ⟨[tI, tS, tI], [(.agg b7)], fun x => F_piece_newPart ids x.1 x.2.1 x.2.2.1⟩
def an_piece_newPart : Ann := { order := Sw.look [(5, ([[0, 1, 2, 3, 4, 5, 6, 7]], [(1, 4)]))], reg := Sw.look [], join := Sw.look [], loop := Sw.look [(3, ([(8, tI)], [0, 1, 6, 7]))], blk := Sw.lookL [(0, []), (1, [(8, tI)])], res := [(6, tP)], anys := [] }
theorem l_piece_newPart : FnOk Tryz.prog 34 e_piece_newPart :=
 fn_ok mixed (l := [(12, e_codec_Next), (56, e_piece_single), (55, e_sums_Add)]) ⟨l_codec_Next, l_piece_single, l_sums_Add, trivial⟩ (An := an_piece_newPart) Tryz.func34 (c := Tryz.f34.body.getD .skip) (by kernel_rfl) Tryz.ntmps34 (by kernel_rfl) (fun _ _ => Tryz.call34 _ _) _ (by kernel_rfl) (fun x => by kernel_rfl) (by kernel_rfl)
def e_node_part_count : Shallow := ⟨[tP], [tI], fun x => F_node_part_count ids x.1⟩
def an_node_part_count : Ann := { order := Sw.look [], reg := Sw.look [], join := Sw.look [], loop := Sw.look [], blk := Sw.lookL [], res := [(2, tI)], anys := [] }
theorem l_node_part_count : FnOk Tryz.prog 81 e_node_part_count :=
 fn_ok mixed (l := []) trivial (An := an_node_part_count) Tryz.func81 (c := Tryz.f81.body.getD .skip) (by kernel_rfl) Tryz.ntmps81 (by kernel_rfl) (fun _ _ => Tryz.call81 _ _) _ (by kernel_rfl) (fun x => by kernel_rfl) (by kernel_rfl)
def e_node_part_tall : Shallow := ⟨[tP], [tI], fun x => F_node_part_tall ids x.1⟩
def an_node_part_tall : Ann := { order := Sw.look [], reg := Sw.look [], join := Sw.look [], loop := Sw.look [], blk := Sw.lookL [], res := [(2, tI)], anys := [] }
theorem l_node_part_tall : FnOk Tryz.prog 96 e_node_part_tall :=
 fn_ok mixed (l := []) trivial (An := an_node_part_tall) Tryz.func96 (c := Tryz.f96.body.getD .skip) (by kernel_rfl) Tryz.ntmps96 (by kernel_rfl) (fun _ _ => Tryz.call96 _ _) _ (by kernel_rfl) (fun x => by kernel_rfl) (by kernel_rfl)
def e_part_Measure : Shallow := ⟨[(.agg b7)], [(.agg b5)], fun x => F_part_Measure ids x.1⟩
def an_part_Measure : Ann := { order := Sw.look [], reg := Sw.look [], join := Sw.look [], loop := Sw.look [], blk := Sw.lookL [], res := [(2, tP)], anys := [] }
theorem l_part_Measure : FnOk Tryz.prog 122 e_part_Measure :=
 fn_ok mixed (l := []) trivial (An := an_part_Measure) Tryz.func122 (c := Tryz.f122.body.getD .skip) (by kernel_rfl) Tryz.ntmps122 (by kernel_rfl) (fun _ _ => Tryz.call122 _ _) _ (by kernel_rfl) (fun x => by kernel_rfl) (by kernel_rfl)
def e_tree_of_part : Shallow := ⟨[tP, (.agg b7), tP], [tP], fun x => F_tree_of_part ids x.1 x.2.1 x.2.2.1⟩
def an_tree_of_part : Ann := { order := Sw.look [(1, ([[0, 1, 2, 3, 6, 9, 11, 4, 5, 7, 8, 10, 12, 13, 14, 15, 16, 17]], [(1, 4), (1, 7), (1, 10), (1, 12)])), (4, ([[0, 1, 2, 3, 4, 5, 6, 7, 8, 9, 10, 11, 12, 13]], [])), (6, ([[0, 1, 2, 3, 4, 5, 6, 7, 8, 9, 10, 11, 12, 13]], []))], reg := Sw.look [], join := Sw.look [(5, ([], [2, 7])), (7, ([], [7]))], loop := Sw.look [], blk := Sw.lookL [], res := [(6, tP)], anys := [] }
theorem l_tree_of_part : FnOk Tryz.prog 85 e_tree_of_part :=
 fn_ok mixed (l := [(81, e_node_part_count), (96, e_node_part_tall), (122, e_part_Measure), (55, e_sums_Add)]) ⟨l_node_part_count, l_node_part_tall, l_part_Measure, l_sums_Add, trivial⟩ (An := an_tree_of_part) Tryz.func85 (c := Tryz.f85.body.getD .skip) (by kernel_rfl) Tryz.ntmps85 (by kernel_rfl) (fun _ _ => Tryz.call85 _ _) _ (by kernel_rfl) (fun x => by kernel_rfl) (by kernel_rfl)
def e_tree_build_part : Shallow := ⟨[tS], [tP], fun x => F_tree_build_part ids x.1⟩
def an_tree_build_part : Ann := { order := Sw.look [(4, ([[0, 1, 2, 4, 5, 6, 7, 8, 9, 10, 11, 3, 12, 13, 14]], [(7, 3), (7, 12)]))], reg := Sw.look [], join := Sw.look [], loop := Sw.look [], blk := Sw.lookL [], res := [(2, tP)], anys := [] }
theorem l_tree_build_part : FnOk Tryz.prog 64 e_tree_build_part :=
 fn_ex (tys := [tS]) (res := [tP]) (R := fun fuelN => fun x => R_tree_build_part fuelN ids x.1) (fun _ => rfl) (fun _ _ => Tryz.call64 _ _) fun fuelN ih =>
 fn_ok mixed (l := [(64, (⟨[tS], [tP], fun x => R_tree_build_part fuelN ids x.1⟩ : Shallow)), (85, e_tree_of_part)]) ⟨ih, l_tree_of_part, trivial⟩ (An := an_tree_build_part) Tryz.func64 (c := Tryz.f64.body.getD .skip) (by kernel_rfl) Tryz.ntmps64 (by kernel_rfl) (fun _ _ => Tryz.call64 _ _) _ (by kernel_rfl) (fun x => by kernel_rfl) (by kernel_rfl)
def e_tree_Of_part : Shallow := ⟨[tS], [(.agg [.ptr])], fun x => F_tree_Of_part ids x.1⟩
def an_tree_Of_part : Ann := { order := Sw.look [], reg := Sw.look [], join := Sw.look [], loop := Sw.look [], blk := Sw.lookL [], res := [(2, tP)], anys := [] }
theorem l_tree_Of_part : FnOk Tryz.prog 35 e_tree_Of_part :=
 fn_ok mixed (l := [(64, e_tree_build_part)]) ⟨l_tree_build_part, trivial⟩ (An := an_tree_Of_part) Tryz.func35 (c := Tryz.f35.body.getD .skip) (by kernel_rfl) Tryz.ntmps35 (by kernel_rfl) (fun _ _ => Tryz.call35 _ _) _ (by kernel_rfl) (fun x => by kernel_rfl) (by kernel_rfl)
def e_piece_Open : Shallow := ⟨[tI, tS, tI], [tP, tI], fun x => F_piece_Open ids x.1 x.2.1 x.2.2.1⟩
def an_piece_Open : Ann := { order := Sw.look [], reg := Sw.look [(1, ([(16, tB)], [0, 1, 2])), (3, ([(23, tB)], [0, 1, 2])), (14, ([(57, tB)], [0, 8, 9, 10, 11, 12, 13]))], join := Sw.look [], loop := Sw.look [(12, ([(10, tS), (11, tI)], [0, 8, 9])), (14, ([(12, tI), (13, tI)], [0, 8, 9, 10, 11]))], blk := Sw.lookL [(0, []), (1, [(10, tS)]), (2, [(10, tS), (11, tI)]), (3, [(12, tI)]), (4, [(12, tI)])], res := [(6, tP), (7, tI)], anys := [] }
theorem l_piece_Open : FnOk Tryz.prog 13 e_piece_Open :=
 fn_ok mixed (l := [(12, e_codec_Next), (34, e_piece_newPart), (35, e_tree_Of_part)]) ⟨l_codec_Next, l_piece_newPart, l_tree_Of_part, trivial⟩ (An := an_piece_Open) Tryz.func13 (c := Tryz.f13.body.getD .skip) (by kernel_rfl) Tryz.ntmps13 (by kernel_rfl) (fun _ _ => Tryz.call13 _ _) _ (by kernel_rfl) (fun x => by kernel_rfl) (by kernel_rfl)
def e_Tree_part_Sum : Shallow := ⟨[(.agg [.ptr])], [(.agg b5)], fun x => F_Tree_part_Sum ids x.1⟩
def an_Tree_part_Sum : Ann := { order := Sw.look [], reg := Sw.look [], join := Sw.look [], loop := Sw.look [], blk := Sw.lookL [], res := [(2, tP)], anys := [] }
theorem l_Tree_part_Sum : FnOk Tryz.prog 36 e_Tree_part_Sum :=
 fn_ok mixed (l := []) trivial (An := an_Tree_part_Sum) Tryz.func36 (c := Tryz.f36.body.getD .skip) (by kernel_rfl) Tryz.ntmps36 (by kernel_rfl) (fun _ _ => Tryz.call36 _ _) _ (by kernel_rfl) (fun x => by kernel_rfl) (by kernel_rfl)
def e_Text_Len : Shallow := ⟨[tP], [tI], fun x => F_Text_Len ids x.1⟩
def an_Text_Len : Ann := { order := Sw.look [], reg := Sw.look [], join := Sw.look [], loop := Sw.look [], blk := Sw.lookL [], res := [(2, tI)], anys := [] }
theorem l_Text_Len : FnOk Tryz.prog 14 e_Text_Len :=
 fn_ok mixed (l := [(36, e_Tree_part_Sum)]) ⟨l_Tree_part_Sum, trivial⟩ (An := an_Text_Len) Tryz.func14 (c := Tryz.f14.body.getD .skip) (by kernel_rfl) Tryz.ntmps14 (by kernel_rfl) (fun _ _ => Tryz.call14 _ _) _ (by kernel_rfl) (fun x => by kernel_rfl) (by kernel_rfl)
def e_Text_Size : Shallow := ⟨[tP], [tI], fun x => F_Text_Size ids x.1⟩
def an_Text_Size : Ann := { order := Sw.look [], reg := Sw.look [], join := Sw.look [], loop := Sw.look [], blk := Sw.lookL [], res := [(2, tI)], anys := [] }
theorem l_Text_Size : FnOk Tryz.prog 43 e_Text_Size :=
 fn_ok mixed (l := [(36, e_Tree_part_Sum)]) ⟨l_Tree_part_Sum, trivial⟩ (An := an_Text_Size) Tryz.func43 (c := Tryz.f43.body.getD .skip) (by kernel_rfl) Tryz.ntmps43 (by kernel_rfl) (fun _ _ => Tryz.call43 _ _) _ (by kernel_rfl) (fun x => by kernel_rfl) (by kernel_rfl)
def e_codec_Size : Shallow := ⟨[tI, tI], [tI], fun x => F_codec_Size ids x.1 x.2.1⟩
def an_codec_Size : Ann := { order := Sw.look [], reg := Sw.look [], join := Sw.look [], loop := Sw.look [], blk := Sw.lookL [], res := [(4, tI)], anys := [5, 7, 8, 10] }
theorem l_codec_Size : FnOk Tryz.prog 65 e_codec_Size :=
 fn_ok mixed (l := [(33, e_codec_of)]) ⟨l_codec_of, trivial⟩ (An := an_codec_Size) Tryz.func65 (c := Tryz.f65.body.getD .skip) (by kernel_rfl) Tryz.ntmps65 (by kernel_rfl) (fun _ _ => Tryz.call65 _ _) _ (by kernel_rfl) (fun x => by kernel_rfl) (by kernel_rfl)
def e_sums_Key : Shallow := ⟨[(.agg b5), tI], [tI], fun x => F_sums_Key ids x.1 x.2.1⟩
def an_sums_Key : Ann := { order := Sw.look [], reg := Sw.look [], join := Sw.look [], loop := Sw.look [], blk := Sw.lookL [(0, [])], res := [(4, tI)], anys := [] }
theorem l_sums_Key : FnOk Tryz.prog 121 e_sums_Key :=
 fn_ok mixed (l := []) trivial (An := an_sums_Key) Tryz.func121 (c := Tryz.f121.body.getD .skip) (by kernel_rfl) Tryz.ntmps121 (by kernel_rfl) (fun _ _ => Tryz.call121 _ _) _ (by kernel_rfl) (fun x => by kernel_rfl) (by kernel_rfl)
def e_Tree_part_Find : Shallow := ⟨[(.agg [.ptr]), tI, tI], [tI], fun x => F_Tree_part_Find ids x.1 x.2.1 x.2.2.1⟩
def an_Tree_part_Find : Ann := { order := Sw.look [(9, ([[0, 1, 2, 3, 4, 5, 6, 7, 8, 9, 10]], [])), (13, ([[0, 1, 2, 3, 4, 5, 6, 7, 8, 9]], [(0, 7)]))], reg := Sw.look [], join := Sw.look [(10, ([], [1, 2, 7, 8, 9, 10]))], loop := Sw.look [(6, ([(8, tI), (9, tP)], [1, 2, 7]))], blk := Sw.lookL [(0, [(8, tI)]), (1, [(8, tI), (9, tP)])], res := [(6, tI)], anys := [] }
theorem l_Tree_part_Find : FnOk Tryz.prog 52 e_Tree_part_Find :=
 fn_ok mixed (l := [(55, e_sums_Add), (121, e_sums_Key), (81, e_node_part_count), (122, e_part_Measure)]) ⟨l_sums_Add, l_sums_Key, l_node_part_count, l_part_Measure, trivial⟩ (An := an_Tree_part_Find) Tryz.func52 (c := Tryz.f52.body.getD .skip) (by kernel_rfl) Tryz.ntmps52 (by kernel_rfl) (fun _ _ => Tryz.call52 _ _) _ (by kernel_rfl) (fun x => by kernel_rfl) (by kernel_rfl)
def e_Tree_part_Size : Shallow := ⟨[(.agg [.ptr])], [tI], fun x => F_Tree_part_Size ids x.1⟩
def an_Tree_part_Size : Ann := { order := Sw.look [], reg := Sw.look [], join := Sw.look [], loop := Sw.look [], blk := Sw.lookL [], res := [(2, tI)], anys := [] }
theorem l_Tree_part_Size : FnOk Tryz.prog 70 e_Tree_part_Size :=
 fn_ok mixed (l := [(81, e_node_part_count)]) ⟨l_node_part_count, trivial⟩ (An := an_Tree_part_Size) Tryz.func70 (c := Tryz.f70.body.getD .skip) (by kernel_rfl) Tryz.ntmps70 (by kernel_rfl) (fun _ _ => Tryz.call70 _ _) _ (by kernel_rfl) (fun x => by kernel_rfl) (by kernel_rfl)
def e_Tree_part_Upto : Shallow := ⟨[(.agg [.ptr]), tI], [(.agg b5)], fun x => F_Tree_part_Upto ids x.1 x.2.1⟩
def an_Tree_part_Upto : Ann := { order := Sw.look [(9, ([[0, 1, 2, 3, 4, 5, 6, 7, 8, 9, 10]], [])), (10, ([[0, 1, 2, 3, 4, 5, 6, 7, 8, 9]], [(0, 7)]))], reg := Sw.look [(4, ([(19, tB)], [1, 4, 5, 6]))], join := Sw.look [(10, ([], [1, 4, 5, 6, 7]))], loop := Sw.look [(4, ([(1, tI), (6, tP)], [4, 5]))], blk := Sw.lookL [(0, []), (1, [(1, tI), (6, tP)])], res := [(4, tP)], anys := [] }
theorem l_Tree_part_Upto : FnOk Tryz.prog 53 e_Tree_part_Upto :=
 fn_ok mixed (l := [(70, e_Tree_part_Size), (81, e_node_part_count), (55, e_sums_Add), (122, e_part_Measure)]) ⟨l_Tree_part_Size, l_node_part_count, l_sums_Add, l_part_Measure, trivial⟩ (An := an_Tree_part_Upto) Tryz.func53 (c := Tryz.f53.body.getD .skip) (by kernel_rfl) Tryz.ntmps53 (by kernel_rfl) (fun _ _ => Tryz.call53 _ _) _ (by kernel_rfl) (fun x => by kernel_rfl) (by kernel_rfl)
def e_Text_find : Shallow := ⟨[tP, tI], [tI, tI], fun x => F_Text_find ids x.1 x.2.1⟩
def an_Text_find : Ann := { order := Sw.look [], reg := Sw.look [], join := Sw.look [], loop := Sw.look [], blk := Sw.lookL [], res := [(4, tI), (5, tI)], anys := [] }
theorem l_Text_find : FnOk Tryz.prog 66 e_Text_find :=
 fn_ok mixed (l := [(52, e_Tree_part_Find), (53, e_Tree_part_Upto)]) ⟨l_Tree_part_Find, l_Tree_part_Upto, trivial⟩ (An := an_Text_find) Tryz.func66 (c := Tryz.f66.body.getD .skip) (by kernel_rfl) Tryz.ntmps66 (by kernel_rfl) (fun _ _ => Tryz.call66 _ _) _ (by kernel_rfl) (fun x => by kernel_rfl) (by kernel_rfl)
def e_Tree_part_At : Shallow := ⟨[(.agg [.ptr]), tI], [(.agg b7), tB], fun x => F_Tree_part_At ids x.1 x.2.1⟩
def an_Tree_part_At : Ann := { order := Sw.look [], reg := Sw.look [(2, ([(16, tB)], [1, 4, 6]))], join := Sw.look [], loop := Sw.look [(2, ([(1, tI), (6, tP)], [4]))], blk := Sw.lookL [(0, []), (1, [(1, tI), (6, tP)]), (2, [(1, tI), (6, tP)])], res := [(4, tP), (5, tB)], anys := [] }
theorem l_Tree_part_At : FnOk Tryz.prog 54 e_Tree_part_At :=
 fn_ok mixed (l := [(81, e_node_part_count)]) ⟨l_node_part_count, trivial⟩ (An := an_Tree_part_At) Tryz.func54 (c := Tryz.f54.body.getD .skip) (by kernel_rfl) Tryz.ntmps54 (by kernel_rfl) (fun _ _ => Tryz.call54 _ _) _ (by kernel_rfl) (fun x => by kernel_rfl) (by kernel_rfl)
def e_part_cut : Shallow := ⟨[(.agg b7), tI, tI], [(.agg b7), (.agg b7)], fun x => F_part_cut ids x.1 x.2.1 x.2.2.1⟩
def an_part_cut : Ann := { order := Sw.look [(9, ([[0, 1, 2, 3, 4, 5, 6, 7, 9, 10, 11, 12, 13, 14, 8, 15, 16, 17]], [(11, 8)]))], reg := Sw.look [(2, ([(20, tB)], [1, 2, 3, 6, 7, 8]))], join := Sw.look [(9, ([(11, tI)], [1, 3, 6, 7, 8]))], loop := Sw.look [(2, ([(2, tI), (8, tI)], [1, 3, 6, 7]))], blk := Sw.lookL [(0, [(8, tI)]), (1, [(8, tI)])], res := [(6, tP), (7, tP)], anys := [] }
theorem l_part_cut : FnOk Tryz.prog 67 e_part_cut :=
 fn_ok mixed (l := [(12, e_codec_Next), (34, e_piece_newPart)]) ⟨l_codec_Next, l_piece_newPart, trivial⟩ (An := an_part_cut) Tryz.func67 (c := Tryz.f67.body.getD .skip) (by kernel_rfl) Tryz.ntmps67 (by kernel_rfl) (fun _ _ => Tryz.call67 _ _) _ (by kernel_rfl) (fun x => by kernel_rfl) (by kernel_rfl)
def e_Text_ahead : Shallow := ⟨[tP, tI], [(.agg b5)], fun x => F_Text_ahead ids x.1 x.2.1⟩
def an_Text_ahead : Ann := { order := Sw.look [(5, ([[0, 1, 2, 3, 4, 5, 6, 7, 8, 9, 10, 11, 12, 13], [0, 1, 2, 3, 4, 5, 6, 7, 8, 9, 11, 10, 12, 13], [0, 1, 2, 3, 4, 5, 10, 6, 7, 8, 9, 11, 12, 13], [0, 1, 2, 3, 4, 5, 10, 11, 6, 7, 8, 9, 12, 13], [0, 1, 2, 3, 4, 5, 11, 6, 7, 8, 9, 10, 12, 13], [0, 1, 2, 3, 4, 5, 11, 10, 6, 7, 8, 9, 12, 13]], [(0, 10), (0, 11), (4, 10), (4, 11)]))], reg := Sw.look [(5, ([(10, tP)], [4, 7]))], join := Sw.look [(7, ([], [4, 7]))], loop := Sw.look [], blk := Sw.lookL [], res := [(4, tP)], anys := [] }
theorem l_Text_ahead : FnOk Tryz.prog 50 e_Text_ahead :=
 fn_ok mixed (l := [(66, e_Text_find), (53, e_Tree_part_Upto), (54, e_Tree_part_At), (67, e_part_cut), (55, e_sums_Add)]) ⟨l_Text_find, l_Tree_part_Upto, l_Tree_part_At, l_part_cut, l_sums_Add, trivial⟩ (An := an_Text_ahead) Tryz.func50 (c := Tryz.f50.body.getD .skip) (by kernel_rfl) Tryz.ntmps50 (by kernel_rfl) (fun _ _ => Tryz.call50 _ _) _ (by kernel_rfl) (fun x => by kernel_rfl) (by kernel_rfl)
def e_Text_refuse : Shallow := ⟨[tP, tS], [tI], fun x => F_Text_refuse ids x.1 x.2.1⟩
def an_Text_refuse : Ann := { order := Sw.look [(28, ([[0, 1, 2, 3, 6, 7, 8, 4, 5, 9, 10, 11, 12, 13]], [(8, 4)]))], reg := Sw.look [(7, ([(44, tB)], [0, 1, 6, 8, 22, 23, 24]))], join := Sw.look [(29, ([(9, tI)], [0, 76, 77, 78]))], loop := Sw.look [(5, ([(5, tI), (24, tI)], [0, 1, 6, 22, 23])), (13, ([(9, tI), (52, tI)], [0, 1, 50, 51])), (16, ([(9, tI), (59, tI)], [0, 1, 50, 51, 52, 57, 58])), (25, ([(9, tI), (78, tI)], [0, 76, 77]))], blk := Sw.lookL [(0, []), (1, [(5, tI)]), (2, [(9, tI)]), (3, [(9, tI)]), (4, [(9, tI)]), (5, [(9, tI)]), (6, [(9, tI)]), (7, [(9, tI)])], res := [(4, tI)], anys := [] }
theorem l_Text_refuse : FnOk Tryz.prog 37 e_Text_refuse :=
 fn_ok mixed (l := [(14, e_Text_Len), (43, e_Text_Size), (65, e_codec_Size), (50, e_Text_ahead)]) ⟨l_Text_Len, l_Text_Size, l_codec_Size, l_Text_ahead, trivial⟩ (An := an_Text_refuse) Tryz.func37 (c := Tryz.f37.body.getD .skip) (by kernel_rfl) Tryz.ntmps37 (by kernel_rfl) (fun _ _ => Tryz.call37 _ _) _ (by kernel_rfl) (fun x => by kernel_rfl) (by kernel_rfl)
def e_Text_fresh_1 : Shallow := ⟨[tP, tP, tP, tP], [], fun x => F_Text_fresh_1 ids x.1 x.2.1 x.2.2.1 x.2.2.2.1⟩
def an_Text_fresh_1 : Ann := { order := Sw.look [(2, ([[0, 1, 2, 3, 4, 5, 6, 7, 8, 9, 10, 11, 12, 13, 14, 15, 16]], [(0, 13), (0, 14)]))], reg := Sw.look [], join := Sw.look [], loop := Sw.look [], blk := Sw.lookL [], res := [], anys := [] }
theorem l_Text_fresh_1 : FnOk Tryz.prog 86 e_Text_fresh_1 :=
 fn_ok mixed (l := [(34, e_piece_newPart)]) ⟨l_piece_newPart, trivial⟩ (An := an_Text_fresh_1) Tryz.func86 (c := Tryz.f86.body.getD .skip) (by kernel_rfl) Tryz.ntmps86 (by kernel_rfl) (fun _ _ => Tryz.call86 _ _) _ (by kernel_rfl) (fun x => by kernel_rfl) (by kernel_rfl)
def e_codec_Encode : Shallow := ⟨[tI, tS], [tS, tI, tI], fun x => F_codec_Encode ids x.1 x.2.1⟩
def an_codec_Encode : Ann := { order := Sw.look [], reg := Sw.look [], join := Sw.look [], loop := Sw.look [(6, ([(8, tS), (17, tI)], [7, 15, 16]))], blk := Sw.lookL [(0, [(8, tS)]), (1, [(8, tS)])], res := [(4, tS), (5, tI), (6, tI)], anys := [7, 12, 13, 22, 27] }
theorem l_codec_Encode : FnOk Tryz.prog 87 e_codec_Encode :=
 fn_ok mixed (l := [(33, e_codec_of)]) ⟨l_codec_of, trivial⟩ (An := an_codec_Encode) Tryz.func87 (c := Tryz.f87.body.getD .skip) (by kernel_rfl) Tryz.ntmps87 (by kernel_rfl) (fun _ _ => Tryz.call87 _ _) _ (by kernel_rfl) (fun x => by kernel_rfl) (by kernel_rfl)
def e_Text_fresh : Shallow := ⟨[tP, tS], [tS], fun x => F_Text_fresh ids x.1 x.2.1⟩
def an_Text_fresh : Ann := { order := Sw.look [(12, ([[0, 1, 2, 3, 4, 5, 6, 7, 8, 9]], [(0, 6)]))], reg := Sw.look [(8, ([(11, tB)], [2, 5, 7, 8, 10, 21, 22, 23])), (9, ([(42, tB)], [2, 5, 7, 8, 10, 11, 21, 22, 23]))], join := Sw.look [(11, ([], [2, 5, 7, 8, 10, 11, 21, 22, 23])), (16, ([], [2, 5, 7, 8, 21, 22, 23]))], loop := Sw.look [(6, ([(23, tI)], [2, 5, 7, 8, 21, 22]))], blk := Sw.lookL [(0, []), (1, [])], res := [(4, tS)], anys := [] }
theorem l_Text_fresh : FnOk Tryz.prog 68 e_Text_fresh :=
 fn_ok mixed (l := [(86, e_Text_fresh_1), (87, e_codec_Encode)]) ⟨l_Text_fresh_1, l_codec_Encode, trivial⟩ (An := an_Text_fresh) Tryz.func68 (c := Tryz.f68.body.getD .skip) (by kernel_rfl) Tryz.ntmps68 (by kernel_rfl) (fun _ _ => Tryz.call68 _ _) _ (by kernel_rfl) (fun x => by kernel_rfl) (by kernel_rfl)
def e_tree_even_part : Shallow := ⟨[tP, (.agg b7), tP], [tP], fun x => F_tree_even_part ids x.1 x.2.1 x.2.2.1⟩
def an_tree_even_part : Ann := { order := Sw.look [(2, ([[0, 1, 2, 3, 5, 6, 7, 8, 4, 9, 10]], [(8, 4)])), (3, ([[0, 1, 2, 3, 4, 5, 6, 7, 8, 9, 10, 11, 12, 13, 14, 15, 16]], [(3, 14), (7, 14)])), (5, ([[0, 1, 2, 3, 4, 5, 6, 7, 8, 9, 10, 11, 13, 14, 15, 16, 17, 18, 19, 20, 21, 22, 12, 23, 24, 25]], [(16, 12), (16, 23), (20, 12), (21, 12)])), (7, ([[0, 1, 2, 3, 5, 6, 7, 8, 4, 9, 10]], [(8, 4)])), (8, ([[0, 1, 2, 3, 4, 5, 7, 8, 9, 10, 11, 12, 13, 14, 6, 15, 16]], [(10, 6), (14, 6)])), (10, ([[0, 1, 2, 3, 4, 5, 7, 8, 9, 10, 11, 12, 13, 14, 15, 16, 17, 18, 19, 20, 21, 22, 6, 23, 24, 25]], [(10, 6), (10, 23), (14, 6), (18, 6), (22, 6)]))], reg := Sw.look [], join := Sw.look [], loop := Sw.look [], blk := Sw.lookL [(0, [])], res := [(6, tP)], anys := [] }
theorem l_tree_even_part : FnOk Tryz.prog 102 e_tree_even_part :=
 fn_ok mixed (l := [(96, e_node_part_tall), (85, e_tree_of_part)]) ⟨l_node_part_tall, l_tree_of_part, trivial⟩ (An := an_tree_even_part) Tryz.func102 (c := Tryz.f102.body.getD .skip) (by kernel_rfl) Tryz.ntmps102 (by kernel_rfl) (fun _ _ => Tryz.call102 _ _) _ (by kernel_rfl) (fun x => by kernel_rfl) (by kernel_rfl)
def e_tree_join_part : Shallow := ⟨[tP, (.agg b7), tP], [tP], fun x => F_tree_join_part ids x.1 x.2.1 x.2.2.1⟩
def an_tree_join_part : Ann := { order := Sw.look [(2, ([[0, 1, 2, 3, 4, 5, 6, 7, 8, 9, 10, 11, 12, 13, 14, 15, 16]], [(3, 14), (7, 14)])), (4, ([[0, 1, 2, 3, 4, 5, 7, 8, 9, 10, 11, 12, 13, 14, 6, 15, 16]], [(10, 6), (14, 6)]))], reg := Sw.look [], join := Sw.look [], loop := Sw.look [], blk := Sw.lookL [(0, [])], res := [(6, tP)], anys := [] }
theorem l_tree_join_part : FnOk Tryz.prog 97 e_tree_join_part :=
 fn_ex (tys := [tP, (.agg b7), tP]) (res := [tP]) (R := fun fuelN => fun x => R_tree_join_part fuelN ids x.1 x.2.1 x.2.2.1) (fun _ => rfl) (fun _ _ => Tryz.call97 _ _) fun fuelN ih =>
 fn_ok mixed (l := [(96, e_node_part_tall), (97, (⟨[tP, (.agg b7), tP], [tP], fun x => R_tree_join_part fuelN ids x.1 x.2.1 x.2.2.1⟩ : Shallow)), (102, e_tree_even_part), (85, e_tree_of_part)]) ⟨l_node_part_tall, ih, l_tree_even_part, l_tree_of_part, trivial⟩ (An := an_tree_join_part) Tryz.func97 (c := Tryz.f97.body.getD .skip) (by kernel_rfl) Tryz.ntmps97 (by kernel_rfl) (fun _ _ => Tryz.call97 _ _) _ (by kernel_rfl) (fun x => by kernel_rfl) (by kernel_rfl)
def e_node_part_cut : Shallow := ⟨[tP, tI], [tP, tP], fun x => F_node_part_cut ids x.1 x.2.1⟩
def an_node_part_cut : Ann := { order := Sw.look [(6, ([[0, 1, 2, 3, 4, 5, 6, 7, 8, 9, 10, 11, 12]], [])), (8, ([[0, 1, 2, 3, 4, 5, 6, 7, 8, 10, 9, 11, 12]], []))], reg := Sw.look [], join := Sw.look [], loop := Sw.look [], blk := Sw.lookL [], res := [(4, tP), (5, tP)], anys := [] }
theorem l_node_part_cut : FnOk Tryz.prog 88 e_node_part_cut :=
 fn_ex (tys := [tP, tI]) (res := [tP, tP]) (R := fun fuelN => fun x => R_node_part_cut fuelN ids x.1 x.2.1) (fun _ => rfl) (fun _ _ => Tryz.call88 _ _) fun fuelN ih =>
 fn_ok mixed (l := [(81, e_node_part_count), (88, (⟨[tP, tI], [tP, tP], fun x => R_node_part_cut fuelN ids x.1 x.2.1⟩ : Shallow)), (97, e_tree_join_part)]) ⟨l_node_part_count, ih, l_tree_join_part, trivial⟩ (An := an_node_part_cut) Tryz.func88 (c := Tryz.f88.body.getD .skip) (by kernel_rfl) Tryz.ntmps88 (by kernel_rfl) (fun _ _ => Tryz.call88 _ _) _ (by kernel_rfl) (fun x => by kernel_rfl) (by kernel_rfl)
def e_node_part_first : Shallow := ⟨[tP], [(.agg b7), tP], fun x => F_node_part_first ids x.1⟩
def an_node_part_first : Ann := { order := Sw.look [(2, ([[0, 1, 2, 3, 4, 5, 6, 7, 8, 9]], [(7, 8)])), (4, ([[0, 1, 2, 3, 4, 5, 6, 7, 8, 9, 10, 11, 12]], [(0, 10)]))], reg := Sw.look [], join := Sw.look [], loop := Sw.look [], blk := Sw.lookL [], res := [(2, tP), (3, tP)], anys := [] }
theorem l_node_part_first : FnOk Tryz.prog 98 e_node_part_first :=
 fn_ex (tys := [tP]) (res := [(.agg b7), tP]) (R := fun fuelN => fun x => R_node_part_first fuelN ids x.1) (fun _ => rfl) (fun _ _ => Tryz.call98 _ _) fun fuelN ih =>
 fn_ok mixed (l := [(98, (⟨[tP], [(.agg b7), tP], fun x => R_node_part_first fuelN ids x.1⟩ : Shallow)), (102, e_tree_even_part)]) ⟨ih, l_tree_even_part, trivial⟩ (An := an_node_part_first) Tryz.func98 (c := Tryz.f98.body.getD .skip) (by kernel_rfl) Tryz.ntmps98 (by kernel_rfl) (fun _ _ => Tryz.call98 _ _) _ (by kernel_rfl) (fun x => by kernel_rfl) (by kernel_rfl)
def e_tree_both_part : Shallow := ⟨[tP, tP], [tP], fun x => F_tree_both_part ids x.1 x.2.1⟩
def an_tree_both_part : Ann := { order := Sw.look [], reg := Sw.look [], join := Sw.look [], loop := Sw.look [], blk := Sw.lookL [], res := [(4, tP)], anys := [] }
theorem l_tree_both_part : FnOk Tryz.prog 89 e_tree_both_part :=
 fn_ok mixed (l := [(98, e_node_part_first), (97, e_tree_join_part)]) ⟨l_node_part_first, l_tree_join_part, trivial⟩ (An := an_tree_both_part) Tryz.func89 (c := Tryz.f89.body.getD .skip) (by kernel_rfl) Tryz.ntmps89 (by kernel_rfl) (fun _ _ => Tryz.call89 _ _) _ (by kernel_rfl) (fun x => by kernel_rfl) (by kernel_rfl)
def e_Tree_part_Replace : Shallow := ⟨[(.agg [.ptr]), tI, tI, tS], [(.agg [.ptr]), tI], fun x => F_Tree_part_Replace ids x.1 x.2.1 x.2.2.1 x.2.2.2.1⟩
def an_Tree_part_Replace : Ann := { order := Sw.look [], reg := Sw.look [(1, ([(26, tB)], [1, 2, 3, 4, 8]))], join := Sw.look [], loop := Sw.look [], blk := Sw.lookL [], res := [(8, tP), (9, tI)], anys := [] }
theorem l_Tree_part_Replace : FnOk Tryz.prog 69 e_Tree_part_Replace :=
 fn_ok mixed (l := [(70, e_Tree_part_Size), (88, e_node_part_cut), (64, e_tree_build_part), (89, e_tree_both_part)]) ⟨l_Tree_part_Size, l_node_part_cut, l_tree_build_part, l_tree_both_part, trivial⟩ (An := an_Tree_part_Replace) Tryz.func69 (c := Tryz.f69.body.getD .skip) (by kernel_rfl) Tryz.ntmps69 (by kernel_rfl) (fun _ _ => Tryz.call69 _ _) _ (by kernel_rfl) (fun x => by kernel_rfl) (by kernel_rfl)
def e_Text_replace : Shallow := ⟨[tP, tI, tI, tS], [], fun x => F_Text_replace ids x.1 x.2.1 x.2.2.1 x.2.2.2.1⟩
def an_Text_replace : Ann := { order := Sw.look [(5, ([[0, 1, 2, 3, 4, 5, 6, 7, 8, 9, 10, 11, 12, 13], [0, 1, 2, 3, 4, 5, 6, 7, 8, 9, 11, 10, 12, 13], [0, 1, 2, 3, 4, 5, 10, 6, 7, 8, 9, 11, 12, 13], [0, 1, 2, 3, 4, 5, 10, 11, 6, 7, 8, 9, 12, 13], [0, 1, 2, 3, 4, 5, 11, 6, 7, 8, 9, 10, 12, 13], [0, 1, 2, 3, 4, 5, 11, 10, 6, 7, 8, 9, 12, 13]], [(0, 10), (0, 11), (4, 10), (4, 11)])), (10, ([[0, 1, 2, 3, 4, 5, 6, 7, 8, 9, 10, 11, 12, 13], [0, 1, 2, 3, 4, 5, 6, 7, 8, 9, 11, 10, 12, 13], [0, 1, 2, 3, 4, 5, 10, 6, 7, 8, 9, 11, 12, 13], [0, 1, 2, 3, 4, 5, 10, 11, 6, 7, 8, 9, 12, 13], [0, 1, 2, 3, 4, 5, 11, 6, 7, 8, 9, 10, 12, 13], [0, 1, 2, 3, 4, 5, 11, 10, 6, 7, 8, 9, 12, 13]], [(0, 10), (0, 11), (4, 10), (4, 11)])), (13, ([[0, 1, 2, 3, 4, 5, 6, 7, 8, 9, 10, 11, 14, 12, 13, 15, 16, 17, 18, 19, 20, 21]], [(4, 12)]))], reg := Sw.look [(4, ([(46, tB)], [0, 3, 8, 9, 10, 11, 12, 13])), (5, ([(15, tP)], [0, 3, 8, 10, 11, 12])), (10, ([(20, tP)], [0, 8, 10, 12]))], join := Sw.look [(7, ([(12, tS)], [0, 3, 8, 10, 11])), (13, ([(12, tS)], [0, 8, 10]))], loop := Sw.look [], blk := Sw.lookL [], res := [], anys := [] }
theorem l_Text_replace : FnOk Tryz.prog 38 e_Text_replace :=
 fn_ok mixed (l := [(66, e_Text_find), (54, e_Tree_part_At), (67, e_part_cut), (68, e_Text_fresh), (70, e_Tree_part_Size), (69, e_Tree_part_Replace)]) ⟨l_Text_find, l_Tree_part_At, l_part_cut, l_Text_fresh, l_Tree_part_Size, l_Tree_part_Replace, trivial⟩ (An := an_Text_replace) Tryz.func38 (c := Tryz.f38.body.getD .skip) (by kernel_rfl) Tryz.ntmps38 (by kernel_rfl) (fun _ _ => Tryz.call38 _ _) _ (by kernel_rfl) (fun x => by kernel_rfl) (by kernel_rfl)
def e_Text_Change : Shallow := ⟨[tP, tS], [tI], fun x => F_Text_Change ids x.1 x.2.1⟩
def an_Text_Change : Ann := { order := Sw.look [], reg := Sw.look [(8, ([(35, tB)], [0, 1, 6, 7]))], join := Sw.look [(6, ([], [0, 1, 6]))], loop := Sw.look [(5, ([(6, tI)], [0, 1]))], blk := Sw.lookL [(0, []), (1, [])], res := [(4, tI)], anys := [] }
theorem l_Text_Change : FnOk Tryz.prog 15 e_Text_Change :=
 fn_ok mixed (l := [(37, e_Text_refuse), (38, e_Text_replace)]) ⟨l_Text_refuse, l_Text_replace, trivial⟩ (An := an_Text_Change) Tryz.func15 (c := Tryz.f15.body.getD .skip) (by kernel_rfl) Tryz.ntmps15 (by kernel_rfl) (fun _ _ => Tryz.call15 _ _) _ (by kernel_rfl) (fun x => by kernel_rfl) (by kernel_rfl)
def e_law5_able : Shallow := ⟨[], [tB], fun x => F_law5_able ids⟩
def an_law5_able : Ann := { order := Sw.look [], reg := Sw.look [(2, ([(15, tB)], [])), (5, ([(31, tB)], [3])), (7, ([(0, tB)], []))], join := Sw.look [], loop := Sw.look [], blk := Sw.lookL [], res := [(0, tB)], anys := [] }
theorem l_law5_able : FnOk Tryz.prog 9 e_law5_able :=
 fn_ok mixed (l := [(12, e_codec_Next), (13, e_piece_Open), (14, e_Text_Len), (15, e_Text_Change)]) ⟨l_codec_Next, l_piece_Open, l_Text_Len, l_Text_Change, trivial⟩ (An := an_law5_able) Tryz.func9 (c := Tryz.f9.body.getD .skip) (by kernel_rfl) Tryz.ntmps9 (by kernel_rfl) (fun _ _ => Tryz.call9 _ _) _ (by kernel_rfl) (fun x => by kernel_rfl) (by kernel_rfl)
def e_ref1_known : Shallow := ⟨[tI], [tB], fun x => F_ref1_known ids x.1⟩
def an_ref1_known : Ann := { order := Sw.look [], reg := Sw.look [(1, ([(2, tB)], []))], join := Sw.look [], loop := Sw.look [], blk := Sw.lookL [], res := [(2, tB)], anys := [] }
theorem l_ref1_known : FnOk Tryz.prog 71 e_ref1_known :=
 fn_ok mixed (l := []) trivial (An := an_ref1_known) Tryz.func71 (c := Tryz.f71.body.getD .skip) (by kernel_rfl) Tryz.ntmps71 (by kernel_rfl) (fun _ _ => Tryz.call71 _ _) _ (by kernel_rfl) (fun x => by kernel_rfl) (by kernel_rfl)
def e_ref1_meant : Shallow := ⟨[tS, tI, tI], [tI], fun x => F_ref1_meant ids x.1 x.2.1 x.2.2.1⟩
def an_ref1_meant : Ann := { order := Sw.look [(2, ([[0, 1, 2, 3, 4, 5, 6, 7, 8, 9]], []))], reg := Sw.look [], join := Sw.look [], loop := Sw.look [(4, ([(8, tI), (9, tI)], [0, 1, 2]))], blk := Sw.lookL [(0, [(8, tI)]), (1, [(8, tI)])], res := [(6, tI)], anys := [] }
theorem l_ref1_meant : FnOk Tryz.prog 99 e_ref1_meant :=
 fn_ok mixed (l := []) trivial (An := an_ref1_meant) Tryz.func99 (c := Tryz.f99.body.getD .skip) (by kernel_rfl) Tryz.ntmps99 (by kernel_rfl) (fun _ _ => Tryz.call99 _ _) _ (by kernel_rfl) (fun x => by kernel_rfl) (by kernel_rfl)
def e_ref1_Scalar : Shallow := ⟨[tI], [tB], fun x => F_ref1_Scalar ids x.1⟩
def an_ref1_Scalar : Ann := { order := Sw.look [], reg := Sw.look [(1, ([(2, tB)], []))], join := Sw.look [], loop := Sw.look [], blk := Sw.lookL [], res := [(2, tB)], anys := [] }
theorem l_ref1_Scalar : FnOk Tryz.prog 100 e_ref1_Scalar :=
 fn_ok mixed (l := []) trivial (An := an_ref1_Scalar) Tryz.func100 (c := Tryz.f100.body.getD .skip) (by kernel_rfl) Tryz.ntmps100 (by kernel_rfl) (fun _ _ => Tryz.call100 _ _) _ (by kernel_rfl) (fun x => by kernel_rfl) (by kernel_rfl)
end
end Go.Proofs.YtjhnjehmbgaciaaGreat
