/-
  Each function of the cut does what its shallow program says (the text is printed by program).
-/
import Derived.Test.YtaebgdhdldfigaaGreatSwS11
import Derived.Test.YtaebgdhdldfigaaGreatProg
import Derived.KernelRfl
import Derived.Test.YtaebgdhdldfigaaGreatSwS10
import Derived.Test.YtaebgdhdldfigaaGreatSwFcodec
set_option maxRecDepth 100000
set_option maxHeartbeats 4000000
set_option linter.unusedVariables false
namespace Go.Proofs.YtaebgdhdldfigaaGreat
open Go Go.Sw
noncomputable section
def ids : Ids := { f_Both_alls_1 := 52, f_Both_alls_2 := 54, f_Both_alls_3 := 55, f_Both_alls_3_1 := 56, f_Text_Atoms_1 := 74, f_Text_Chunks_1 := 0, f_Text_Tags_1 := 0, f_Tree_part_Items_1 := 94, f_Tree_part_Items_1_1 := 95, f_law5_PieceFlow_1 := 0, f_law5_begun_1 := 0, f_law5_ranged_1 := 0, f_law6_LinesLater_1 := 0, f_law6_LinesLater_2 := 0, f_law6_LinesTurned_1 := 0, f_law6_LinesTurned_2 := 0, f_lines_All_1 := 79, f_quiet_ask_1 := 0, f_shelf_handOut_1 := 0, f_world_chunks_1 := 0, m_first := methName Tryz.prog 134 0, m_put := methName Tryz.prog 134 3, m_size := methName Tryz.prog 134 4, t_codec_eight := 134, t_codec_latin := 137, t_codec_sixteen := 136, none := () }
theorem mixed : Tryz.prog.follows .mixedOrders = true := by kernel_rfl
def e_ref1_known : Shallow := ⟨[tI], [tB], fun x => F_ref1_known ids x.1⟩
def an_ref1_known : Ann := { order := Sw.look [], reg := Sw.look [(1, ([(2, tB)], []))], join := Sw.look [], loop := Sw.look [], blk := Sw.lookL [], res := [(2, tB)], anys := [] }
theorem l_ref1_known : FnOk Tryz.prog 30 e_ref1_known :=
 fn_ok mixed (l := []) trivial (An := an_ref1_known) Tryz.func30 (c := Tryz.f30.body.getD .skip) (by kernel_rfl) Tryz.ntmps30 (by kernel_rfl) (fun _ _ => Tryz.call30 _ _) _ (by kernel_rfl) (fun x => by kernel_rfl) (by kernel_rfl)
def e_ref1_meant : Shallow := ⟨[tS, tI, tI], [tI], fun x => F_ref1_meant ids x.1 x.2.1 x.2.2.1⟩
def an_ref1_meant : Ann := { order := Sw.look [(2, ([[0, 1, 2, 3, 4, 5, 6, 7, 8, 9]], []))], reg := Sw.look [], join := Sw.look [], loop := Sw.look [(4, ([(8, tI), (9, tI)], [0, 1, 2]))], blk := Sw.lookL [(0, [(8, tI)]), (1, [(8, tI)])], res := [(6, tI)], anys := [] }
theorem l_ref1_meant : FnOk Tryz.prog 81 e_ref1_meant :=
 fn_ok mixed (l := []) trivial (An := an_ref1_meant) Tryz.func81 (c := Tryz.f81.body.getD .skip) (by kernel_rfl) Tryz.ntmps81 (by kernel_rfl) (fun _ _ => Tryz.call81 _ _) _ (by kernel_rfl) (fun x => by kernel_rfl) (by kernel_rfl)
def e_ref1_Scalar : Shallow := ⟨[tI], [tB], fun x => F_ref1_Scalar ids x.1⟩
def an_ref1_Scalar : Ann := { order := Sw.look [], reg := Sw.look [(1, ([(2, tB)], []))], join := Sw.look [], loop := Sw.look [], blk := Sw.lookL [], res := [(2, tB)], anys := [] }
theorem l_ref1_Scalar : FnOk Tryz.prog 82 e_ref1_Scalar :=
 fn_ok mixed (l := []) trivial (An := an_ref1_Scalar) Tryz.func82 (c := Tryz.f82.body.getD .skip) (by kernel_rfl) Tryz.ntmps82 (by kernel_rfl) (fun _ _ => Tryz.call82 _ _) _ (by kernel_rfl) (fun x => by kernel_rfl) (by kernel_rfl)
def e_ref1_eight : Shallow := ⟨[tI], [tS], fun x => F_ref1_eight ids x.1⟩
def an_ref1_eight : Ann := { order := Sw.look [], reg := Sw.look [], join := Sw.look [], loop := Sw.look [], blk := Sw.lookL [(0, [])], res := [(2, tS)], anys := [] }
theorem l_ref1_eight : FnOk Tryz.prog 83 e_ref1_eight :=
 fn_ok mixed (l := []) trivial (An := an_ref1_eight) Tryz.func83 (c := Tryz.f83.body.getD .skip) (by kernel_rfl) Tryz.ntmps83 (by kernel_rfl) (fun _ _ => Tryz.call83 _ _) _ (by kernel_rfl) (fun x => by kernel_rfl) (by kernel_rfl)
def e_ref1_begins : Shallow := ⟨[tS, tI, tS], [tB], fun x => F_ref1_begins ids x.1 x.2.1 x.2.2.1⟩
def an_ref1_begins : Ann := { order := Sw.look [(6, ([[0, 1, 2, 3, 4, 5, 6, 7, 8, 9, 10]], []))], reg := Sw.look [], join := Sw.look [], loop := Sw.look [(4, ([(7, tI)], [0, 1, 2]))], blk := Sw.lookL [(0, []), (1, [])], res := [(6, tB)], anys := [] }
theorem l_ref1_begins : FnOk Tryz.prog 84 e_ref1_begins :=
 fn_ok mixed (l := []) trivial (An := an_ref1_begins) Tryz.func84 (c := Tryz.f84.body.getD .skip) (by kernel_rfl) Tryz.ntmps84 (by kernel_rfl) (fun _ _ => Tryz.call84 _ _) _ (by kernel_rfl) (fun x => by kernel_rfl) (by kernel_rfl)
def e_ref1_eightAt : Shallow := ⟨[tS, tI], [tI, tI], fun x => F_ref1_eightAt ids x.1 x.2.1⟩
def an_ref1_eightAt : Ann := { order := Sw.look [], reg := Sw.look [(2, ([(20, tB)], [0, 1, 6])), (9, ([(43, tB)], [0, 1, 6, 7]))], join := Sw.look [(3, ([], [0, 1, 6]))], loop := Sw.look [(2, ([(6, tI)], [0, 1]))], blk := Sw.lookL [(0, []), (1, [])], res := [(4, tI), (5, tI)], anys := [] }
theorem l_ref1_eightAt : FnOk Tryz.prog 63 e_ref1_eightAt :=
 fn_ok mixed (l := [(81, e_ref1_meant), (82, e_ref1_Scalar), (83, e_ref1_eight), (84, e_ref1_begins)]) ⟨l_ref1_meant, l_ref1_Scalar, l_ref1_eight, l_ref1_begins, trivial⟩ (An := an_ref1_eightAt) Tryz.func63 (c := Tryz.f63.body.getD .skip) (by kernel_rfl) Tryz.ntmps63 (by kernel_rfl) (fun _ _ => Tryz.call63 _ _) _ (by kernel_rfl) (fun x => by kernel_rfl) (by kernel_rfl)
def e_ref1_unitAt : Shallow := ⟨[tI, tS, tI], [tI], fun x => F_ref1_unitAt ids x.1 x.2.1 x.2.2.1⟩
def an_ref1_unitAt : Ann := { order := Sw.look [(4, ([[0, 1, 2, 3, 4, 5, 6, 7, 8, 9, 10, 11, 12, 13]], [])), (5, ([[0, 1, 2, 3, 4, 5, 6, 7, 8, 9, 10, 11, 12, 13]], []))], reg := Sw.look [], join := Sw.look [], loop := Sw.look [], blk := Sw.lookL [], res := [(6, tI)], anys := [] }
theorem l_ref1_unitAt : FnOk Tryz.prog 64 e_ref1_unitAt :=
 fn_ok mixed (l := []) trivial (An := an_ref1_unitAt) Tryz.func64 (c := Tryz.f64.body.getD .skip) (by kernel_rfl) Tryz.ntmps64 (by kernel_rfl) (fun _ _ => Tryz.call64 _ _) _ (by kernel_rfl) (fun x => by kernel_rfl) (by kernel_rfl)
def e_ref1_At : Shallow := ⟨[tI, tS, tI], [tI, tI], fun x => F_ref1_At ids x.1 x.2.1 x.2.2.1⟩
def an_ref1_At : Ann := { order := Sw.look [], reg := Sw.look [(9, ([(54, tB)], [8, 9]))], join := Sw.look [], loop := Sw.look [], blk := Sw.lookL [], res := [(6, tI), (7, tI)], anys := [] }
theorem l_ref1_At : FnOk Tryz.prog 31 e_ref1_At :=
 fn_ok mixed (l := [(63, e_ref1_eightAt), (64, e_ref1_unitAt)]) ⟨l_ref1_eightAt, l_ref1_unitAt, trivial⟩ (An := an_ref1_At) Tryz.func31 (c := Tryz.f31.body.getD .skip) (by kernel_rfl) Tryz.ntmps31 (by kernel_rfl) (fun _ _ => Tryz.call31 _ _) _ (by kernel_rfl) (fun x => by kernel_rfl) (by kernel_rfl)
def e_ref1_Decode : Shallow := ⟨[tI, tS], [tS, tI], fun x => F_ref1_Decode ids x.1 x.2.1⟩
def an_ref1_Decode : Ann := { order := Sw.look [], reg := Sw.look [], join := Sw.look [], loop := Sw.look [(6, ([(7, tS), (8, tI)], [0, 1]))], blk := Sw.lookL [(0, [(7, tS)]), (1, [(7, tS), (8, tI)])], res := [(4, tS), (5, tI)], anys := [] }
theorem l_ref1_Decode : FnOk Tryz.prog 16 e_ref1_Decode :=
 fn_ok mixed (l := [(30, e_ref1_known), (31, e_ref1_At)]) ⟨l_ref1_known, l_ref1_At, trivial⟩ (An := an_ref1_Decode) Tryz.func16 (c := Tryz.f16.body.getD .skip) (by kernel_rfl) Tryz.ntmps16 (by kernel_rfl) (fun _ _ => Tryz.call16 _ _) _ (by kernel_rfl) (fun x => by kernel_rfl) (by kernel_rfl)
def e_codec_of : Shallow := ⟨[tI], [(.one .any)], fun x => F_codec_of ids x.1⟩
def an_codec_of : Ann := { order := Sw.look [], reg := Sw.look [], join := Sw.look [], loop := Sw.look [], blk := Sw.lookL [(0, [])], res := [(2, (.one .any))], anys := [] }
theorem l_codec_of : FnOk Tryz.prog 65 e_codec_of :=
 fn_ok mixed (l := []) trivial (An := an_codec_of) Tryz.func65 (c := Tryz.f65.body.getD .skip) (by kernel_rfl) Tryz.ntmps65 (by kernel_rfl) (fun _ _ => Tryz.call65 _ _) _ (by kernel_rfl) (fun x => by kernel_rfl) (by kernel_rfl)
def e_codec_Next : Shallow := ⟨[tI, tS, tI], [tI, tI], fun x => F_codec_Next ids x.1 x.2.1 x.2.2.1⟩
def an_codec_Next : Ann := { order := Sw.look [(4, ([[0, 1, 2, 3, 4, 5, 6, 7, 8, 9, 10, 11]], []))], reg := Sw.look [(2, ([(22, tB)], [1, 2, 8]))], join := Sw.look [], loop := Sw.look [], blk := Sw.lookL [], res := [(6, tI), (7, tI)], anys := [8, 10, 11, 23, 29] }
theorem l_codec_Next : FnOk Tryz.prog 32 e_codec_Next :=
 fn_ok mixed (l := [(65, e_codec_of)]) ⟨l_codec_of, trivial⟩ (An := an_codec_Next) Tryz.func32 (c := Tryz.f32.body.getD .skip) (by kernel_rfl) Tryz.ntmps32 (by kernel_rfl) (fun _ _ => Tryz.call32 _ _) _ (by kernel_rfl) (fun x => by kernel_rfl) (by kernel_rfl)
def e_piece_single : Shallow := ⟨[tI, tI], [(.agg b5)], fun x => F_piece_single ids x.1 x.2.1⟩
def an_piece_single : Ann := { order := Sw.look [], reg := Sw.look [(2, ([(17, tB)], [4, 5]))], join := Sw.look [(4, ([], [4, 5]))], loop := Sw.look [], blk := Sw.lookL [], res := [(4, tP)], anys := [] }
theorem l_piece_single : FnOk Tryz.prog 67 e_piece_single :=
 fn_ok mixed (l := []) trivial (An := an_piece_single) Tryz.func67 (c := Tryz.f67.body.getD .skip) (by kernel_rfl) Tryz.ntmps67 (by kernel_rfl) (fun _ _ => Tryz.call67 _ _) _ (by kernel_rfl) (fun x => by kernel_rfl) (by kernel_rfl)
def e_sums_Add : Shallow := ⟨[(.agg b5), (.agg b5)], [(.agg b5)], fun x => F_sums_Add ids x.1 x.2.1⟩
def an_sums_Add : Ann := { order := Sw.look [], reg := Sw.look [(6, ([(39, tB)], [4, 5]))], join := Sw.look [(8, ([], [4, 5]))], loop := Sw.look [], blk := Sw.lookL [], res := [(4, tP)], anys := [] }
theorem l_sums_Add : FnOk Tryz.prog 66 e_sums_Add :=
 fn_ok mixed (l := []) trivial (An := an_sums_Add) Tryz.func66 (c := Tryz.f66.body.getD .skip) (by kernel_rfl) Tryz.ntmps66 (by kernel_rfl) (fun _ _ => Tryz.call66 _ _) _ (by kernel_rfl) (fun x => by kernel_rfl) (by kernel_rfl)
def e_piece_newPart : Shallow := ⟨[tI, tS, tI], [(.agg b7)], fun x => F_piece_newPart ids x.1 x.2.1 x.2.2.1⟩
def an_piece_newPart : Ann := { order := Sw.look [(5, ([[0, 1, 2, 3, 4, 5, 6, 7]], [(1, 4)]))], reg := Sw.look [], join := Sw.look [], loop := Sw.look [(3, ([(8, tI)], [0, 1, 6, 7]))], blk := Sw.lookL [(0, []), (1, [(8, tI)])], res := [(6, tP)], anys := [] }
theorem l_piece_newPart : FnOk Tryz.prog 33 e_piece_newPart :=
 fn_ok mixed (l := [(32, e_codec_Next), (67, e_piece_single), (66, e_sums_Add)]) ⟨l_codec_Next, l_piece_single, l_sums_Add, trivial⟩ (An := an_piece_newPart) Tryz.func33 (c := Tryz.f33.body.getD .skip) (by kernel_rfl) Tryz.ntmps33 (by kernel_rfl) (fun _ _ => Tryz.call33 _ _) _ (by kernel_rfl) (fun x => by kernel_rfl) (by kernel_rfl)
def e_node_part_count : Shallow := ⟨[tP], [tI], fun x => F_node_part_count ids x.1⟩
def an_node_part_count : Ann := { order := Sw.look [], reg := Sw.look [], join := Sw.look [], loop := Sw.look [], blk := Sw.lookL [], res := [(2, tI)], anys := [] }
theorem l_node_part_count : FnOk Tryz.prog 87 e_node_part_count :=
 fn_ok mixed (l := []) trivial (An := an_node_part_count) Tryz.func87 (c := Tryz.f87.body.getD .skip) (by kernel_rfl) Tryz.ntmps87 (by kernel_rfl) (fun _ _ => Tryz.call87 _ _) _ (by kernel_rfl) (fun x => by kernel_rfl) (by kernel_rfl)
def e_node_part_tall : Shallow := ⟨[tP], [tI], fun x => F_node_part_tall ids x.1⟩
def an_node_part_tall : Ann := { order := Sw.look [], reg := Sw.look [], join := Sw.look [], loop := Sw.look [], blk := Sw.lookL [], res := [(2, tI)], anys := [] }
theorem l_node_part_tall : FnOk Tryz.prog 93 e_node_part_tall :=
 fn_ok mixed (l := []) trivial (An := an_node_part_tall) Tryz.func93 (c := Tryz.f93.body.getD .skip) (by kernel_rfl) Tryz.ntmps93 (by kernel_rfl) (fun _ _ => Tryz.call93 _ _) _ (by kernel_rfl) (fun x => by kernel_rfl) (by kernel_rfl)
def e_part_Measure : Shallow := ⟨[(.agg b7)], [(.agg b5)], fun x => F_part_Measure ids x.1⟩
def an_part_Measure : Ann := { order := Sw.look [], reg := Sw.look [], join := Sw.look [], loop := Sw.look [], blk := Sw.lookL [], res := [(2, tP)], anys := [] }
theorem l_part_Measure : FnOk Tryz.prog 123 e_part_Measure :=
 fn_ok mixed (l := []) trivial (An := an_part_Measure) Tryz.func123 (c := Tryz.f123.body.getD .skip) (by kernel_rfl) Tryz.ntmps123 (by kernel_rfl) (fun _ _ => Tryz.call123 _ _) _ (by kernel_rfl) (fun x => by kernel_rfl) (by kernel_rfl)
def e_tree_of_part : Shallow := ⟨[tP, (.agg b7), tP], [tP], fun x => F_tree_of_part ids x.1 x.2.1 x.2.2.1⟩
def an_tree_of_part : Ann := { order := Sw.look [(1, ([[0, 1, 2, 3, 6, 9, 11, 4, 5, 7, 8, 10, 12, 13, 14, 15, 16, 17]], [(1, 4), (1, 7), (1, 10), (1, 12)])), (4, ([[0, 1, 2, 3, 4, 5, 6, 7, 8, 9, 10, 11, 12, 13]], [])), (6, ([[0, 1, 2, 3, 4, 5, 6, 7, 8, 9, 10, 11, 12, 13]], []))], reg := Sw.look [], join := Sw.look [(5, ([], [2, 7])), (7, ([], [7]))], loop := Sw.look [], blk := Sw.lookL [], res := [(6, tP)], anys := [] }
theorem l_tree_of_part : FnOk Tryz.prog 85 e_tree_of_part :=
 fn_ok mixed (l := [(87, e_node_part_count), (93, e_node_part_tall), (123, e_part_Measure), (66, e_sums_Add)]) ⟨l_node_part_count, l_node_part_tall, l_part_Measure, l_sums_Add, trivial⟩ (An := an_tree_of_part) Tryz.func85 (c := Tryz.f85.body.getD .skip) (by kernel_rfl) Tryz.ntmps85 (by kernel_rfl) (fun _ _ => Tryz.call85 _ _) _ (by kernel_rfl) (fun x => by kernel_rfl) (by kernel_rfl)
def e_tree_build_part : Shallow := ⟨[tS], [tP], fun x => F_tree_build_part ids x.1⟩
def an_tree_build_part : Ann := { order := Sw.look [(4, ([[0, 1, 2, 4, 5, 6, 7, 8, 9, 10, 11, 3, 12, 13, 14]], [(7, 3), (7, 12)]))], reg := Sw.look [], join := Sw.look [], loop := Sw.look [], blk := Sw.lookL [], res := [(2, tP)], anys := [] }
theorem l_tree_build_part : FnOk Tryz.prog 68 e_tree_build_part :=
 fn_ex (tys := [tS]) (res := [tP]) (R := fun fuelN => fun x => R_tree_build_part fuelN ids x.1) (fun _ => rfl) (fun _ _ => Tryz.call68 _ _) fun fuelN ih =>
 fn_ok mixed (l := [(68, (⟨[tS], [tP], fun x => R_tree_build_part fuelN ids x.1⟩ : Shallow)), (85, e_tree_of_part)]) ⟨ih, l_tree_of_part, trivial⟩ (An := an_tree_build_part) Tryz.func68 (c := Tryz.f68.body.getD .skip) (by kernel_rfl) Tryz.ntmps68 (by kernel_rfl) (fun _ _ => Tryz.call68 _ _) _ (by kernel_rfl) (fun x => by kernel_rfl) (by kernel_rfl)
def e_tree_Of_part : Shallow := ⟨[tS], [(.agg [.ptr])], fun x => F_tree_Of_part ids x.1⟩
def an_tree_Of_part : Ann := { order := Sw.look [], reg := Sw.look [], join := Sw.look [], loop := Sw.look [], blk := Sw.lookL [], res := [(2, tP)], anys := [] }
theorem l_tree_Of_part : FnOk Tryz.prog 34 e_tree_Of_part :=
 fn_ok mixed (l := [(68, e_tree_build_part)]) ⟨l_tree_build_part, trivial⟩ (An := an_tree_Of_part) Tryz.func34 (c := Tryz.f34.body.getD .skip) (by kernel_rfl) Tryz.ntmps34 (by kernel_rfl) (fun _ _ => Tryz.call34 _ _) _ (by kernel_rfl) (fun x => by kernel_rfl) (by kernel_rfl)
def e_piece_Open : Shallow := ⟨[tI, tS, tI], [tP, tI], fun x => F_piece_Open ids x.1 x.2.1 x.2.2.1⟩
def an_piece_Open : Ann := { order := Sw.look [], reg := Sw.look [(1, ([(16, tB)], [0, 1, 2])), (3, ([(23, tB)], [0, 1, 2])), (14, ([(57, tB)], [0, 8, 9, 10, 11, 12, 13]))], join := Sw.look [], loop := Sw.look [(12, ([(10, tS), (11, tI)], [0, 8, 9])), (14, ([(12, tI), (13, tI)], [0, 8, 9, 10, 11]))], blk := Sw.lookL [(0, []), (1, [(10, tS)]), (2, [(10, tS), (11, tI)]), (3, [(12, tI)]), (4, [(12, tI)])], res := [(6, tP), (7, tI)], anys := [] }
theorem l_piece_Open : FnOk Tryz.prog 17 e_piece_Open :=
 fn_ok mixed (l := [(32, e_codec_Next), (33, e_piece_newPart), (34, e_tree_Of_part)]) ⟨l_codec_Next, l_piece_newPart, l_tree_Of_part, trivial⟩ (An := an_piece_Open) Tryz.func17 (c := Tryz.f17.body.getD .skip) (by kernel_rfl) Tryz.ntmps17 (by kernel_rfl) (fun _ _ => Tryz.call17 _ _) _ (by kernel_rfl) (fun x => by kernel_rfl) (by kernel_rfl)
def e_law6_opened : Shallow := ⟨[(.agg [bI, .sl])], [(.agg [.ptr, .sl]), tB], fun x => F_law6_opened ids x.1⟩
def an_law6_opened : Ann := { order := Sw.look [], reg := Sw.look [(4, ([(23, tB)], [1, 2, 4, 5, 6])), (9, ([(51, tB)], [2, 7, 9]))], join := Sw.look [], loop := Sw.look [(4, ([(5, tS), (6, tI)], [1, 2, 4]))], blk := Sw.lookL [(0, [(5, tS)]), (1, [(5, tS)])], res := [(2, tP), (3, tB)], anys := [] }
theorem l_law6_opened : FnOk Tryz.prog 12 e_law6_opened :=
 fn_ok mixed (l := [(16, e_ref1_Decode), (17, e_piece_Open)]) ⟨l_ref1_Decode, l_piece_Open, trivial⟩ (An := an_law6_opened) Tryz.func12 (c := Tryz.f12.body.getD .skip) (by kernel_rfl) Tryz.ntmps12 (by kernel_rfl) (fun _ _ => Tryz.call12 _ _) _ (by kernel_rfl) (fun x => by kernel_rfl) (by kernel_rfl)
def e_Tree_part_Sum : Shallow := ⟨[(.agg [.ptr])], [(.agg b5)], fun x => F_Tree_part_Sum ids x.1⟩
def an_Tree_part_Sum : Ann := { order := Sw.look [], reg := Sw.look [], join := Sw.look [], loop := Sw.look [], blk := Sw.lookL [], res := [(2, tP)], anys := [] }
theorem l_Tree_part_Sum : FnOk Tryz.prog 35 e_Tree_part_Sum :=
 fn_ok mixed (l := []) trivial (An := an_Tree_part_Sum) Tryz.func35 (c := Tryz.f35.body.getD .skip) (by kernel_rfl) Tryz.ntmps35 (by kernel_rfl) (fun _ _ => Tryz.call35 _ _) _ (by kernel_rfl) (fun x => by kernel_rfl) (by kernel_rfl)
def e_Text_Len : Shallow := ⟨[tP], [tI], fun x => F_Text_Len ids x.1⟩
def an_Text_Len : Ann := { order := Sw.look [], reg := Sw.look [], join := Sw.look [], loop := Sw.look [], blk := Sw.lookL [], res := [(2, tI)], anys := [] }
theorem l_Text_Len : FnOk Tryz.prog 19 e_Text_Len :=
 fn_ok mixed (l := [(35, e_Tree_part_Sum)]) ⟨l_Tree_part_Sum, trivial⟩ (An := an_Text_Len) Tryz.func19 (c := Tryz.f19.body.getD .skip) (by kernel_rfl) Tryz.ntmps19 (by kernel_rfl) (fun _ _ => Tryz.call19 _ _) _ (by kernel_rfl) (fun x => by kernel_rfl) (by kernel_rfl)
def e_sums_Key : Shallow := ⟨[(.agg b5), tI], [tI], fun x => F_sums_Key ids x.1 x.2.1⟩
def an_sums_Key : Ann := { order := Sw.look [], reg := Sw.look [], join := Sw.look [], loop := Sw.look [], blk := Sw.lookL [(0, [])], res := [(4, tI)], anys := [] }
theorem l_sums_Key : FnOk Tryz.prog 122 e_sums_Key :=
 fn_ok mixed (l := []) trivial (An := an_sums_Key) Tryz.func122 (c := Tryz.f122.body.getD .skip) (by kernel_rfl) Tryz.ntmps122 (by kernel_rfl) (fun _ _ => Tryz.call122 _ _) _ (by kernel_rfl) (fun x => by kernel_rfl) (by kernel_rfl)
def e_Tree_part_Find : Shallow := ⟨[(.agg [.ptr]), tI, tI], [tI], fun x => F_Tree_part_Find ids x.1 x.2.1 x.2.2.1⟩
def an_Tree_part_Find : Ann := { order := Sw.look [(9, ([[0, 1, 2, 3, 4, 5, 6, 7, 8, 9, 10]], [])), (13, ([[0, 1, 2, 3, 4, 5, 6, 7, 8, 9]], [(0, 7)]))], reg := Sw.look [], join := Sw.look [(10, ([], [1, 2, 7, 8, 9, 10]))], loop := Sw.look [(6, ([(8, tI), (9, tP)], [1, 2, 7]))], blk := Sw.lookL [(0, [(8, tI)]), (1, [(8, tI), (9, tP)])], res := [(6, tI)], anys := [] }
theorem l_Tree_part_Find : FnOk Tryz.prog 75 e_Tree_part_Find :=
 fn_ok mixed (l := [(66, e_sums_Add), (122, e_sums_Key), (87, e_node_part_count), (123, e_part_Measure)]) ⟨l_sums_Add, l_sums_Key, l_node_part_count, l_part_Measure, trivial⟩ (An := an_Tree_part_Find) Tryz.func75 (c := Tryz.f75.body.getD .skip) (by kernel_rfl) Tryz.ntmps75 (by kernel_rfl) (fun _ _ => Tryz.call75 _ _) _ (by kernel_rfl) (fun x => by kernel_rfl) (by kernel_rfl)
def e_Tree_part_Size : Shallow := ⟨[(.agg [.ptr])], [tI], fun x => F_Tree_part_Size ids x.1⟩
def an_Tree_part_Size : Ann := { order := Sw.look [], reg := Sw.look [], join := Sw.look [], loop := Sw.look [], blk := Sw.lookL [], res := [(2, tI)], anys := [] }
theorem l_Tree_part_Size : FnOk Tryz.prog 86 e_Tree_part_Size :=
 fn_ok mixed (l := [(87, e_node_part_count)]) ⟨l_node_part_count, trivial⟩ (An := an_Tree_part_Size) Tryz.func86 (c := Tryz.f86.body.getD .skip) (by kernel_rfl) Tryz.ntmps86 (by kernel_rfl) (fun _ _ => Tryz.call86 _ _) _ (by kernel_rfl) (fun x => by kernel_rfl) (by kernel_rfl)
def e_Tree_part_Upto : Shallow := ⟨[(.agg [.ptr]), tI], [(.agg b5)], fun x => F_Tree_part_Upto ids x.1 x.2.1⟩
def an_Tree_part_Upto : Ann := { order := Sw.look [(9, ([[0, 1, 2, 3, 4, 5, 6, 7, 8, 9, 10]], [])), (10, ([[0, 1, 2, 3, 4, 5, 6, 7, 8, 9]], [(0, 7)]))], reg := Sw.look [(4, ([(19, tB)], [1, 4, 5, 6]))], join := Sw.look [(10, ([], [1, 4, 5, 6, 7]))], loop := Sw.look [(4, ([(1, tI), (6, tP)], [4, 5]))], blk := Sw.lookL [(0, []), (1, [(1, tI), (6, tP)])], res := [(4, tP)], anys := [] }
theorem l_Tree_part_Upto : FnOk Tryz.prog 70 e_Tree_part_Upto :=
 fn_ok mixed (l := [(86, e_Tree_part_Size), (87, e_node_part_count), (66, e_sums_Add), (123, e_part_Measure)]) ⟨l_Tree_part_Size, l_node_part_count, l_sums_Add, l_part_Measure, trivial⟩ (An := an_Tree_part_Upto) Tryz.func70 (c := Tryz.f70.body.getD .skip) (by kernel_rfl) Tryz.ntmps70 (by kernel_rfl) (fun _ _ => Tryz.call70 _ _) _ (by kernel_rfl) (fun x => by kernel_rfl) (by kernel_rfl)
def e_Text_find : Shallow := ⟨[tP, tI], [tI, tI], fun x => F_Text_find ids x.1 x.2.1⟩
def an_Text_find : Ann := { order := Sw.look [], reg := Sw.look [], join := Sw.look [], loop := Sw.look [], blk := Sw.lookL [], res := [(4, tI), (5, tI)], anys := [] }
theorem l_Text_find : FnOk Tryz.prog 69 e_Text_find :=
 fn_ok mixed (l := [(75, e_Tree_part_Find), (70, e_Tree_part_Upto)]) ⟨l_Tree_part_Find, l_Tree_part_Upto, trivial⟩ (An := an_Text_find) Tryz.func69 (c := Tryz.f69.body.getD .skip) (by kernel_rfl) Tryz.ntmps69 (by kernel_rfl) (fun _ _ => Tryz.call69 _ _) _ (by kernel_rfl) (fun x => by kernel_rfl) (by kernel_rfl)
def e_Tree_part_At : Shallow := ⟨[(.agg [.ptr]), tI], [(.agg b7), tB], fun x => F_Tree_part_At ids x.1 x.2.1⟩
def an_Tree_part_At : Ann := { order := Sw.look [], reg := Sw.look [(2, ([(16, tB)], [1, 4, 6]))], join := Sw.look [], loop := Sw.look [(2, ([(1, tI), (6, tP)], [4]))], blk := Sw.lookL [(0, []), (1, [(1, tI), (6, tP)]), (2, [(1, tI), (6, tP)])], res := [(4, tP), (5, tB)], anys := [] }
theorem l_Tree_part_At : FnOk Tryz.prog 71 e_Tree_part_At :=
 fn_ok mixed (l := [(87, e_node_part_count)]) ⟨l_node_part_count, trivial⟩ (An := an_Tree_part_At) Tryz.func71 (c := Tryz.f71.body.getD .skip) (by kernel_rfl) Tryz.ntmps71 (by kernel_rfl) (fun _ _ => Tryz.call71 _ _) _ (by kernel_rfl) (fun x => by kernel_rfl) (by kernel_rfl)
def e_part_cut : Shallow := ⟨[(.agg b7), tI, tI], [(.agg b7), (.agg b7)], fun x => F_part_cut ids x.1 x.2.1 x.2.2.1⟩
def an_part_cut : Ann := { order := Sw.look [(9, ([[0, 1, 2, 3, 4, 5, 6, 7, 9, 10, 11, 12, 13, 14, 8, 15, 16, 17]], [(11, 8)]))], reg := Sw.look [(2, ([(20, tB)], [1, 2, 3, 6, 7, 8]))], join := Sw.look [(9, ([(11, tI)], [1, 3, 6, 7, 8]))], loop := Sw.look [(2, ([(2, tI), (8, tI)], [1, 3, 6, 7]))], blk := Sw.lookL [(0, [(8, tI)]), (1, [(8, tI)])], res := [(6, tP), (7, tP)], anys := [] }
theorem l_part_cut : FnOk Tryz.prog 72 e_part_cut :=
 fn_ok mixed (l := [(32, e_codec_Next), (33, e_piece_newPart)]) ⟨l_codec_Next, l_piece_newPart, trivial⟩ (An := an_part_cut) Tryz.func72 (c := Tryz.f72.body.getD .skip) (by kernel_rfl) Tryz.ntmps72 (by kernel_rfl) (fun _ _ => Tryz.call72 _ _) _ (by kernel_rfl) (fun x => by kernel_rfl) (by kernel_rfl)
def e_Text_ahead : Shallow := ⟨[tP, tI], [(.agg b5)], fun x => F_Text_ahead ids x.1 x.2.1⟩
def an_Text_ahead : Ann := { order := Sw.look [(5, ([[0, 1, 2, 3, 4, 5, 6, 7, 8, 9, 10, 11, 12, 13], [0, 1, 2, 3, 4, 5, 6, 7, 8, 9, 11, 10, 12, 13], [0, 1, 2, 3, 4, 5, 10, 6, 7, 8, 9, 11, 12, 13], [0, 1, 2, 3, 4, 5, 10, 11, 6, 7, 8, 9, 12, 13], [0, 1, 2, 3, 4, 5, 11, 6, 7, 8, 9, 10, 12, 13], [0, 1, 2, 3, 4, 5, 11, 10, 6, 7, 8, 9, 12, 13]], [(0, 10), (0, 11), (4, 10), (4, 11)]))], reg := Sw.look [(5, ([(10, tP)], [4, 7]))], join := Sw.look [(7, ([], [4, 7]))], loop := Sw.look [], blk := Sw.lookL [], res := [(4, tP)], anys := [] }
theorem l_Text_ahead : FnOk Tryz.prog 36 e_Text_ahead :=
 fn_ok mixed (l := [(69, e_Text_find), (70, e_Tree_part_Upto), (71, e_Tree_part_At), (72, e_part_cut), (66, e_sums_Add)]) ⟨l_Text_find, l_Tree_part_Upto, l_Tree_part_At, l_part_cut, l_sums_Add, trivial⟩ (An := an_Text_ahead) Tryz.func36 (c := Tryz.f36.body.getD .skip) (by kernel_rfl) Tryz.ntmps36 (by kernel_rfl) (fun _ _ => Tryz.call36 _ _) _ (by kernel_rfl) (fun x => by kernel_rfl) (by kernel_rfl)
def e_Tree_part_Items : Shallow := ⟨[(.agg [.ptr]), tI], [(.one .any)], fun x => F_Tree_part_Items ids x.1 x.2.1⟩
def an_Tree_part_Items : Ann := { order := Sw.look [], reg := Sw.look [], join := Sw.look [], loop := Sw.look [], blk := Sw.lookL [], res := [(4, (.one .any))], anys := [] }
theorem l_Tree_part_Items : FnOk Tryz.prog 88 e_Tree_part_Items :=
 fn_ok mixed (l := []) trivial (An := an_Tree_part_Items) Tryz.func88 (c := Tryz.f88.body.getD .skip) (by kernel_rfl) Tryz.ntmps88 (by kernel_rfl) (fun _ _ => Tryz.call88 _ _) _ (by kernel_rfl) (fun x => by kernel_rfl) (by kernel_rfl)
def e_Text_walk : Shallow := ⟨[tP, tI, tI, (.one .any)], [], fun x => F_Text_walk ids x.1 x.2.1 x.2.2.1 x.2.2.2.1⟩
def an_Text_walk : Ann := { order := Sw.look [(9, ([[0, 1, 2, 3, 4, 5, 6, 7, 8, 9, 10, 11, 12]], []))], reg := Sw.look [], join := Sw.look [(15, ([], [4, 7, 9, 10, 11, 12, 14])), (17, ([], [4, 7, 9, 10, 11, 12, 14]))], loop := Sw.look [(8, ([(12, tI)], [4, 7, 9, 10, 11]))], blk := Sw.lookL [(0, []), (1, []), (2, []), (3, [(12, tI)])], res := [], anys := [3, 38, 63, 66], rng := Sw.look [(39, ([(39, (.agg b7))], [(11, tP)]))] }
theorem l_Text_walk : FnOk Tryz.prog 73 e_Text_walk :=
 fn_ok mixed (l := [(19, e_Text_Len), (69, e_Text_find), (88, e_Tree_part_Items), (32, e_codec_Next)]) ⟨l_Text_Len, l_Text_find, l_Tree_part_Items, l_codec_Next, trivial⟩ (An := an_Text_walk) Tryz.func73 (c := Tryz.f73.body.getD .skip) (by kernel_rfl) Tryz.ntmps73 (by kernel_rfl) (fun _ _ => Tryz.call73 _ _) _ (by kernel_rfl) (fun x => by kernel_rfl) (by kernel_rfl)
def e_Text_Atoms : Shallow := ⟨[tP, tI, tI], [tS], fun x => F_Text_Atoms ids x.1 x.2.1 x.2.2.1⟩
def an_Text_Atoms : Ann := { order := Sw.look [], reg := Sw.look [], join := Sw.look [], loop := Sw.look [], blk := Sw.lookL [], res := [(6, tS)], anys := [] }
theorem l_Text_Atoms : FnOk Tryz.prog 37 e_Text_Atoms :=
 fn_ok mixed (l := [(73, e_Text_walk)]) ⟨l_Text_walk, trivial⟩ (An := an_Text_Atoms) Tryz.func37 (c := Tryz.f37.body.getD .skip) (by kernel_rfl) Tryz.ntmps37 (by kernel_rfl) (fun _ _ => Tryz.call37 _ _) _ (by kernel_rfl) (fun x => by kernel_rfl) (by kernel_rfl)
def e_Text_Breaks : Shallow := ⟨[tP, tI], [tI], fun x => F_Text_Breaks ids x.1 x.2.1⟩
def an_Text_Breaks : Ann := { order := Sw.look [], reg := Sw.look [(6, ([(34, tB)], [5]))], join := Sw.look [], loop := Sw.look [], blk := Sw.lookL [(0, [])], res := [(4, tI)], anys := [] }
theorem l_Text_Breaks : FnOk Tryz.prog 18 e_Text_Breaks :=
 fn_ok mixed (l := [(19, e_Text_Len), (35, e_Tree_part_Sum), (36, e_Text_ahead), (37, e_Text_Atoms)]) ⟨l_Text_Len, l_Tree_part_Sum, l_Text_ahead, l_Text_Atoms, trivial⟩ (An := an_Text_Breaks) Tryz.func18 (c := Tryz.f18.body.getD .skip) (by kernel_rfl) Tryz.ntmps18 (by kernel_rfl) (fun _ _ => Tryz.call18 _ _) _ (by kernel_rfl) (fun x => by kernel_rfl) (by kernel_rfl)
def e_Text_Seek : Shallow := ⟨[tP, tI], [tI], fun x => F_Text_Seek ids x.1 x.2.1⟩
def an_Text_Seek : Ann := { order := Sw.look [(10, ([[0, 1, 2, 3, 4, 5, 6, 7, 8, 9, 10, 11, 12]], [])), (11, ([[0, 1, 2, 3, 4, 5]], [(0, 3)]))], reg := Sw.look [(3, ([(16, tB)], [0, 1])), (9, ([(61, tB)], [0, 1, 6, 7, 9])), (14, ([(100, tB)], [6]))], join := Sw.look [], loop := Sw.look [(9, ([(9, tI)], [0, 1, 6, 7]))], blk := Sw.lookL [(0, []), (1, []), (2, [(9, tI)])], res := [(4, tI)], anys := [] }
theorem l_Text_Seek : FnOk Tryz.prog 38 e_Text_Seek :=
 fn_ok mixed (l := [(35, e_Tree_part_Sum), (75, e_Tree_part_Find), (70, e_Tree_part_Upto), (71, e_Tree_part_At), (32, e_codec_Next), (67, e_piece_single), (66, e_sums_Add), (37, e_Text_Atoms)]) ⟨l_Tree_part_Sum, l_Tree_part_Find, l_Tree_part_Upto, l_Tree_part_At, l_codec_Next, l_piece_single, l_sums_Add, l_Text_Atoms, trivial⟩ (An := an_Text_Seek) Tryz.func38 (c := Tryz.f38.body.getD .skip) (by kernel_rfl) Tryz.ntmps38 (by kernel_rfl) (fun _ _ => Tryz.call38 _ _) _ (by kernel_rfl) (fun x => by kernel_rfl) (by kernel_rfl)
def e_lines_ended : Shallow := ⟨[tP], [tB], fun x => F_lines_ended ids x.1⟩
def an_lines_ended : Ann := { order := Sw.look [], reg := Sw.look [(2, ([(2, tB)], []))], join := Sw.look [], loop := Sw.look [], blk := Sw.lookL [], res := [(2, tB)], anys := [] }
theorem l_lines_ended : FnOk Tryz.prog 20 e_lines_ended :=
 fn_ok mixed (l := [(19, e_Text_Len), (18, e_Text_Breaks), (38, e_Text_Seek)]) ⟨l_Text_Len, l_Text_Breaks, l_Text_Seek, trivial⟩ (An := an_lines_ended) Tryz.func20 (c := Tryz.f20.body.getD .skip) (by kernel_rfl) Tryz.ntmps20 (by kernel_rfl) (fun _ _ => Tryz.call20 _ _) _ (by kernel_rfl) (fun x => by kernel_rfl) (by kernel_rfl)
def e_lines_Count : Shallow := ⟨[tP], [tI], fun x => F_lines_Count ids x.1⟩
def an_lines_Count : Ann := { order := Sw.look [], reg := Sw.look [], join := Sw.look [(4, ([(3, tI)], []))], loop := Sw.look [], blk := Sw.lookL [], res := [(2, tI)], anys := [] }
theorem l_lines_Count : FnOk Tryz.prog 13 e_lines_Count :=
 fn_ok mixed (l := [(19, e_Text_Len), (18, e_Text_Breaks), (20, e_lines_ended)]) ⟨l_Text_Len, l_Text_Breaks, l_lines_ended, trivial⟩ (An := an_lines_Count) Tryz.func13 (c := Tryz.f13.body.getD .skip) (by kernel_rfl) Tryz.ntmps13 (by kernel_rfl) (fun _ _ => Tryz.call13 _ _) _ (by kernel_rfl) (fun x => by kernel_rfl) (by kernel_rfl)
def e_ref6_All : Shallow := ⟨[tS], [tS, tI], fun x => F_ref6_All ids x.1⟩
def an_ref6_All : Ann := { order := Sw.look [], reg := Sw.look [(9, ([(48, tB)], [0, 4, 5, 6])), (18, ([(95, tB)], [4, 7]))], join := Sw.look [(5, ([(4, tS), (5, tI), (6, tI)], [0])), (20, ([(7, tI)], [4]))], loop := Sw.look [(4, ([(4, tS), (5, tI), (6, tI)], [0]))], blk := Sw.lookL [(0, [(4, tS), (5, tI)]), (1, [(4, tS), (5, tI), (6, tI)])], res := [(2, tS), (3, tI)], anys := [] }
theorem l_ref6_All : FnOk Tryz.prog 21 e_ref6_All :=
 fn_ok mixed (l := []) trivial (An := an_ref6_All) Tryz.func21 (c := Tryz.f21.body.getD .skip) (by kernel_rfl) Tryz.ntmps21 (by kernel_rfl) (fun _ _ => Tryz.call21 _ _) _ (by kernel_rfl) (fun x => by kernel_rfl) (by kernel_rfl)
end
end Go.Proofs.YtaebgdhdldfigaaGreat
