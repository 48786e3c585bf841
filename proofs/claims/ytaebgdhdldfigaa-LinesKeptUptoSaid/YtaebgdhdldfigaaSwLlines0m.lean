/-
  Each function of the cut does what its shallow program says (the text is printed by program).
-/
import Derived.Test.YtaebgdhdldfigaaProg
import Derived.Test.YtaebgdhdldfigaaSwS11
import Derived.KernelRfl
import Derived.Test.YtaebgdhdldfigaaSwS10
import Derived.Test.YtaebgdhdldfigaaSwFcodec
set_option maxRecDepth 100000
set_option maxHeartbeats 4000000
set_option linter.unusedVariables false
namespace Go.Proofs.Ytaebgdhdldfigaa
open Go Go.Sw
noncomputable section
def ids : Ids := { f_Both_alls_1 := 0, f_Both_alls_2 := 0, f_Both_alls_3 := 0, f_Both_alls_3_1 := 0, f_Text_Atoms_1 := 51, f_Text_Chunks_1 := 0, f_Text_Tags_1 := 47, f_Tree_part_Items_1 := 81, f_Tree_part_Items_1_1 := 82, f_law5_PieceFlow_1 := 0, f_law5_begun_1 := 0, f_law5_ranged_1 := 0, f_law6_LinesLater_1 := 34, f_law6_LinesLater_2 := 35, f_law6_LinesTurned_1 := 28, f_law6_LinesTurned_2 := 31, f_lines_All_1 := 52, f_quiet_ask_1 := 0, f_shelf_handOut_1 := 0, f_world_chunks_1 := 0, m_first := methName Try.prog 150 0, m_put := methName Try.prog 150 3, m_size := methName Try.prog 150 4, t_codec_eight := 150, t_codec_latin := 153, t_codec_sixteen := 152, none := () }
theorem mixed : Try.prog.follows .mixedOrders = true := by kernel_rfl
def e_ref1_known : Shallow := ⟨[tI], [tB], fun x => F_ref1_known ids x.1⟩
def an_ref1_known : Ann := { order := Sw.look [], reg := Sw.look [(1, ([(2, tB)], []))], join := Sw.look [], loop := Sw.look [], blk := Sw.lookL [], res := [(2, tB)], anys := [] }
theorem l_ref1_known : FnOk Try.prog 57 e_ref1_known :=
 fn_ok mixed (l := []) trivial (An := an_ref1_known) Try.func57 (c := Try.f57.body.getD .skip) (by kernel_rfl) Try.ntmps57 (by kernel_rfl) (fun _ _ => Try.call57 _ _) _ (by kernel_rfl) (fun x => by kernel_rfl) (by kernel_rfl)
def e_ref1_meant : Shallow := ⟨[tS, tI, tI], [tI], fun x => F_ref1_meant ids x.1 x.2.1 x.2.2.1⟩
def an_ref1_meant : Ann := { order := Sw.look [(2, ([[0, 1, 2, 3, 4, 5, 6, 7, 8, 9]], []))], reg := Sw.look [], join := Sw.look [], loop := Sw.look [(4, ([(8, tI), (9, tI)], [0, 1, 2]))], blk := Sw.lookL [(0, [(8, tI)]), (1, [(8, tI)])], res := [(6, tI)], anys := [] }
theorem l_ref1_meant : FnOk Try.prog 88 e_ref1_meant :=
 fn_ok mixed (l := []) trivial (An := an_ref1_meant) Try.func88 (c := Try.f88.body.getD .skip) (by kernel_rfl) Try.ntmps88 (by kernel_rfl) (fun _ _ => Try.call88 _ _) _ (by kernel_rfl) (fun x => by kernel_rfl) (by kernel_rfl)
def e_ref1_Scalar : Shallow := ⟨[tI], [tB], fun x => F_ref1_Scalar ids x.1⟩
def an_ref1_Scalar : Ann := { order := Sw.look [], reg := Sw.look [(1, ([(2, tB)], []))], join := Sw.look [], loop := Sw.look [], blk := Sw.lookL [], res := [(2, tB)], anys := [] }
theorem l_ref1_Scalar : FnOk Try.prog 89 e_ref1_Scalar :=
 fn_ok mixed (l := []) trivial (An := an_ref1_Scalar) Try.func89 (c := Try.f89.body.getD .skip) (by kernel_rfl) Try.ntmps89 (by kernel_rfl) (fun _ _ => Try.call89 _ _) _ (by kernel_rfl) (fun x => by kernel_rfl) (by kernel_rfl)
def e_ref1_eight : Shallow := ⟨[tI], [tS], fun x => F_ref1_eight ids x.1⟩
def an_ref1_eight : Ann := { order := Sw.look [], reg := Sw.look [], join := Sw.look [], loop := Sw.look [], blk := Sw.lookL [(0, [])], res := [(2, tS)], anys := [] }
theorem l_ref1_eight : FnOk Try.prog 90 e_ref1_eight :=
 fn_ok mixed (l := []) trivial (An := an_ref1_eight) Try.func90 (c := Try.f90.body.getD .skip) (by kernel_rfl) Try.ntmps90 (by kernel_rfl) (fun _ _ => Try.call90 _ _) _ (by kernel_rfl) (fun x => by kernel_rfl) (by kernel_rfl)
def e_ref1_begins : Shallow := ⟨[tS, tI, tS], [tB], fun x => F_ref1_begins ids x.1 x.2.1 x.2.2.1⟩
def an_ref1_begins : Ann := { order := Sw.look [(6, ([[0, 1, 2, 3, 4, 5, 6, 7, 8, 9, 10]], []))], reg := Sw.look [], join := Sw.look [], loop := Sw.look [(4, ([(7, tI)], [0, 1, 2]))], blk := Sw.lookL [(0, []), (1, [])], res := [(6, tB)], anys := [] }
theorem l_ref1_begins : FnOk Try.prog 91 e_ref1_begins :=
 fn_ok mixed (l := []) trivial (An := an_ref1_begins) Try.func91 (c := Try.f91.body.getD .skip) (by kernel_rfl) Try.ntmps91 (by kernel_rfl) (fun _ _ => Try.call91 _ _) _ (by kernel_rfl) (fun x => by kernel_rfl) (by kernel_rfl)
def e_ref1_eightAt : Shallow := ⟨[tS, tI], [tI, tI], fun x => F_ref1_eightAt ids x.1 x.2.1⟩
def an_ref1_eightAt : Ann := { order := Sw.look [], reg := Sw.look [(2, ([(20, tB)], [0, 1, 6])), (9, ([(43, tB)], [0, 1, 6, 7]))], join := Sw.look [(3, ([], [0, 1, 6]))], loop := Sw.look [(2, ([(6, tI)], [0, 1]))], blk := Sw.lookL [(0, []), (1, [])], res := [(4, tI), (5, tI)], anys := [] }
theorem l_ref1_eightAt : FnOk Try.prog 77 e_ref1_eightAt :=
 fn_ok mixed (l := [(88, e_ref1_meant), (89, e_ref1_Scalar), (90, e_ref1_eight), (91, e_ref1_begins)]) ⟨l_ref1_meant, l_ref1_Scalar, l_ref1_eight, l_ref1_begins, trivial⟩ (An := an_ref1_eightAt) Try.func77 (c := Try.f77.body.getD .skip) (by kernel_rfl) Try.ntmps77 (by kernel_rfl) (fun _ _ => Try.call77 _ _) _ (by kernel_rfl) (fun x => by kernel_rfl) (by kernel_rfl)
def e_ref1_unitAt : Shallow := ⟨[tI, tS, tI], [tI], fun x => F_ref1_unitAt ids x.1 x.2.1 x.2.2.1⟩
def an_ref1_unitAt : Ann := { order := Sw.look [(4, ([[0, 1, 2, 3, 4, 5, 6, 7, 8, 9, 10, 11, 12, 13]], [])), (5, ([[0, 1, 2, 3, 4, 5, 6, 7, 8, 9, 10, 11, 12, 13]], []))], reg := Sw.look [], join := Sw.look [], loop := Sw.look [], blk := Sw.lookL [], res := [(6, tI)], anys := [] }
theorem l_ref1_unitAt : FnOk Try.prog 78 e_ref1_unitAt :=
 fn_ok mixed (l := []) trivial (An := an_ref1_unitAt) Try.func78 (c := Try.f78.body.getD .skip) (by kernel_rfl) Try.ntmps78 (by kernel_rfl) (fun _ _ => Try.call78 _ _) _ (by kernel_rfl) (fun x => by kernel_rfl) (by kernel_rfl)
def e_ref1_At : Shallow := ⟨[tI, tS, tI], [tI, tI], fun x => F_ref1_At ids x.1 x.2.1 x.2.2.1⟩
def an_ref1_At : Ann := { order := Sw.look [], reg := Sw.look [(9, ([(54, tB)], [8, 9]))], join := Sw.look [], loop := Sw.look [], blk := Sw.lookL [], res := [(6, tI), (7, tI)], anys := [] }
theorem l_ref1_At : FnOk Try.prog 58 e_ref1_At :=
 fn_ok mixed (l := [(77, e_ref1_eightAt), (78, e_ref1_unitAt)]) ⟨l_ref1_eightAt, l_ref1_unitAt, trivial⟩ (An := an_ref1_At) Try.func58 (c := Try.f58.body.getD .skip) (by kernel_rfl) Try.ntmps58 (by kernel_rfl) (fun _ _ => Try.call58 _ _) _ (by kernel_rfl) (fun x => by kernel_rfl) (by kernel_rfl)
def e_ref1_Decode : Shallow := ⟨[tI, tS], [tS, tI], fun x => F_ref1_Decode ids x.1 x.2.1⟩
def an_ref1_Decode : Ann := { order := Sw.look [], reg := Sw.look [], join := Sw.look [], loop := Sw.look [(6, ([(7, tS), (8, tI)], [0, 1]))], blk := Sw.lookL [(0, [(7, tS)]), (1, [(7, tS), (8, tI)])], res := [(4, tS), (5, tI)], anys := [] }
theorem l_ref1_Decode : FnOk Try.prog 41 e_ref1_Decode :=
 fn_ok mixed (l := [(57, e_ref1_known), (58, e_ref1_At)]) ⟨l_ref1_known, l_ref1_At, trivial⟩ (An := an_ref1_Decode) Try.func41 (c := Try.f41.body.getD .skip) (by kernel_rfl) Try.ntmps41 (by kernel_rfl) (fun _ _ => Try.call41 _ _) _ (by kernel_rfl) (fun x => by kernel_rfl) (by kernel_rfl)
def e_codec_of : Shallow := ⟨[tI], [(.one .any)], fun x => F_codec_of ids x.1⟩
def an_codec_of : Ann := { order := Sw.look [], reg := Sw.look [], join := Sw.look [], loop := Sw.look [], blk := Sw.lookL [(0, [])], res := [(2, (.one .any))], anys := [] }
theorem l_codec_of : FnOk Try.prog 79 e_codec_of :=
 fn_ok mixed (l := []) trivial (An := an_codec_of) Try.func79 (c := Try.f79.body.getD .skip) (by kernel_rfl) Try.ntmps79 (by kernel_rfl) (fun _ _ => Try.call79 _ _) _ (by kernel_rfl) (fun x => by kernel_rfl) (by kernel_rfl)
def e_codec_Next : Shallow := ⟨[tI, tS, tI], [tI, tI], fun x => F_codec_Next ids x.1 x.2.1 x.2.2.1⟩
def an_codec_Next : Ann := { order := Sw.look [(4, ([[0, 1, 2, 3, 4, 5, 6, 7, 8, 9, 10, 11]], []))], reg := Sw.look [(2, ([(22, tB)], [1, 2, 8]))], join := Sw.look [], loop := Sw.look [], blk := Sw.lookL [], res := [(6, tI), (7, tI)], anys := [8, 10, 11, 23, 29] }
theorem l_codec_Next : FnOk Try.prog 59 e_codec_Next :=
 fn_ok mixed (l := [(79, e_codec_of)]) ⟨l_codec_of, trivial⟩ (An := an_codec_Next) Try.func59 (c := Try.f59.body.getD .skip) (by kernel_rfl) Try.ntmps59 (by kernel_rfl) (fun _ _ => Try.call59 _ _) _ (by kernel_rfl) (fun x => by kernel_rfl) (by kernel_rfl)
def e_piece_single : Shallow := ⟨[tI, tI], [(.agg b5)], fun x => F_piece_single ids x.1 x.2.1⟩
def an_piece_single : Ann := { order := Sw.look [], reg := Sw.look [(2, ([(17, tB)], [4, 5]))], join := Sw.look [(4, ([], [4, 5]))], loop := Sw.look [], blk := Sw.lookL [], res := [(4, tP)], anys := [] }
theorem l_piece_single : FnOk Try.prog 70 e_piece_single :=
 fn_ok mixed (l := []) trivial (An := an_piece_single) Try.func70 (c := Try.f70.body.getD .skip) (by kernel_rfl) Try.ntmps70 (by kernel_rfl) (fun _ _ => Try.call70 _ _) _ (by kernel_rfl) (fun x => by kernel_rfl) (by kernel_rfl)
def e_sums_Add : Shallow := ⟨[(.agg b5), (.agg b5)], [(.agg b5)], fun x => F_sums_Add ids x.1 x.2.1⟩
def an_sums_Add : Ann := { order := Sw.look [], reg := Sw.look [(6, ([(39, tB)], [4, 5]))], join := Sw.look [(8, ([], [4, 5]))], loop := Sw.look [], blk := Sw.lookL [], res := [(4, tP)], anys := [] }
theorem l_sums_Add : FnOk Try.prog 69 e_sums_Add :=
 fn_ok mixed (l := []) trivial (An := an_sums_Add) Try.func69 (c := Try.f69.body.getD .skip) (by kernel_rfl) Try.ntmps69 (by kernel_rfl) (fun _ _ => Try.call69 _ _) _ (by kernel_rfl) (fun x => by kernel_rfl) (by kernel_rfl)
def e_piece_newPart : Shallow := ⟨[tI, tS, tI], [(.agg b7)], fun x => F_piece_newPart ids x.1 x.2.1 x.2.2.1⟩
def an_piece_newPart : Ann := { order := Sw.look [(5, ([[0, 1, 2, 3, 4, 5, 6, 7]], [(1, 4)]))], reg := Sw.look [], join := Sw.look [], loop := Sw.look [(3, ([(8, tI)], [0, 1, 6, 7]))], blk := Sw.lookL [(0, []), (1, [(8, tI)])], res := [(6, tP)], anys := [] }
theorem l_piece_newPart : FnOk Try.prog 60 e_piece_newPart :=
 fn_ok mixed (l := [(59, e_codec_Next), (70, e_piece_single), (69, e_sums_Add)]) ⟨l_codec_Next, l_piece_single, l_sums_Add, trivial⟩ (An := an_piece_newPart) Try.func60 (c := Try.f60.body.getD .skip) (by kernel_rfl) Try.ntmps60 (by kernel_rfl) (fun _ _ => Try.call60 _ _) _ (by kernel_rfl) (fun x => by kernel_rfl) (by kernel_rfl)
def e_node_part_count : Shallow := ⟨[tP], [tI], fun x => F_node_part_count ids x.1⟩
def an_node_part_count : Ann := { order := Sw.look [], reg := Sw.look [], join := Sw.look [], loop := Sw.look [], blk := Sw.lookL [], res := [(2, tI)], anys := [] }
theorem l_node_part_count : FnOk Try.prog 83 e_node_part_count :=
 fn_ok mixed (l := []) trivial (An := an_node_part_count) Try.func83 (c := Try.f83.body.getD .skip) (by kernel_rfl) Try.ntmps83 (by kernel_rfl) (fun _ _ => Try.call83 _ _) _ (by kernel_rfl) (fun x => by kernel_rfl) (by kernel_rfl)
def e_node_part_tall : Shallow := ⟨[tP], [tI], fun x => F_node_part_tall ids x.1⟩
def an_node_part_tall : Ann := { order := Sw.look [], reg := Sw.look [], join := Sw.look [], loop := Sw.look [], blk := Sw.lookL [], res := [(2, tI)], anys := [] }
theorem l_node_part_tall : FnOk Try.prog 95 e_node_part_tall :=
 fn_ok mixed (l := []) trivial (An := an_node_part_tall) Try.func95 (c := Try.f95.body.getD .skip) (by kernel_rfl) Try.ntmps95 (by kernel_rfl) (fun _ _ => Try.call95 _ _) _ (by kernel_rfl) (fun x => by kernel_rfl) (by kernel_rfl)
def e_part_Measure : Shallow := ⟨[(.agg b7)], [(.agg b5)], fun x => F_part_Measure ids x.1⟩
def an_part_Measure : Ann := { order := Sw.look [], reg := Sw.look [], join := Sw.look [], loop := Sw.look [], blk := Sw.lookL [], res := [(2, tP)], anys := [] }
theorem l_part_Measure : FnOk Try.prog 118 e_part_Measure :=
 fn_ok mixed (l := []) trivial (An := an_part_Measure) Try.func118 (c := Try.f118.body.getD .skip) (by kernel_rfl) Try.ntmps118 (by kernel_rfl) (fun _ _ => Try.call118 _ _) _ (by kernel_rfl) (fun x => by kernel_rfl) (by kernel_rfl)
def e_tree_of_part : Shallow := ⟨[tP, (.agg b7), tP], [tP], fun x => F_tree_of_part ids x.1 x.2.1 x.2.2.1⟩
def an_tree_of_part : Ann := { order := Sw.look [(1, ([[0, 1, 2, 3, 6, 9, 11, 4, 5, 7, 8, 10, 12, 13, 14, 15, 16, 17]], [(1, 4), (1, 7), (1, 10), (1, 12)])), (4, ([[0, 1, 2, 3, 4, 5, 6, 7, 8, 9, 10, 11, 12, 13]], [])), (6, ([[0, 1, 2, 3, 4, 5, 6, 7, 8, 9, 10, 11, 12, 13]], []))], reg := Sw.look [], join := Sw.look [(5, ([], [2, 7])), (7, ([], [7]))], loop := Sw.look [], blk := Sw.lookL [], res := [(6, tP)], anys := [] }
theorem l_tree_of_part : FnOk Try.prog 92 e_tree_of_part :=
 fn_ok mixed (l := [(83, e_node_part_count), (95, e_node_part_tall), (118, e_part_Measure), (69, e_sums_Add)]) ⟨l_node_part_count, l_node_part_tall, l_part_Measure, l_sums_Add, trivial⟩ (An := an_tree_of_part) Try.func92 (c := Try.f92.body.getD .skip) (by kernel_rfl) Try.ntmps92 (by kernel_rfl) (fun _ _ => Try.call92 _ _) _ (by kernel_rfl) (fun x => by kernel_rfl) (by kernel_rfl)
def e_tree_build_part : Shallow := ⟨[tS], [tP], fun x => F_tree_build_part ids x.1⟩
def an_tree_build_part : Ann := { order := Sw.look [(4, ([[0, 1, 2, 4, 5, 6, 7, 8, 9, 10, 11, 3, 12, 13, 14]], [(7, 3), (7, 12)]))], reg := Sw.look [], join := Sw.look [], loop := Sw.look [], blk := Sw.lookL [], res := [(2, tP)], anys := [] }
theorem l_tree_build_part : FnOk Try.prog 80 e_tree_build_part :=
 fn_ex (tys := [tS]) (res := [tP]) (R := fun fuelN => fun x => R_tree_build_part fuelN ids x.1) (fun _ => rfl) (fun _ _ => Try.call80 _ _) fun fuelN ih =>
 fn_ok mixed (l := [(80, (⟨[tS], [tP], fun x => R_tree_build_part fuelN ids x.1⟩ : Shallow)), (92, e_tree_of_part)]) ⟨ih, l_tree_of_part, trivial⟩ (An := an_tree_build_part) Try.func80 (c := Try.f80.body.getD .skip) (by kernel_rfl) Try.ntmps80 (by kernel_rfl) (fun _ _ => Try.call80 _ _) _ (by kernel_rfl) (fun x => by kernel_rfl) (by kernel_rfl)
def e_tree_Of_part : Shallow := ⟨[tS], [(.agg [.ptr])], fun x => F_tree_Of_part ids x.1⟩
def an_tree_Of_part : Ann := { order := Sw.look [], reg := Sw.look [], join := Sw.look [], loop := Sw.look [], blk := Sw.lookL [], res := [(2, tP)], anys := [] }
theorem l_tree_Of_part : FnOk Try.prog 61 e_tree_Of_part :=
 fn_ok mixed (l := [(80, e_tree_build_part)]) ⟨l_tree_build_part, trivial⟩ (An := an_tree_Of_part) Try.func61 (c := Try.f61.body.getD .skip) (by kernel_rfl) Try.ntmps61 (by kernel_rfl) (fun _ _ => Try.call61 _ _) _ (by kernel_rfl) (fun x => by kernel_rfl) (by kernel_rfl)
def e_piece_Open : Shallow := ⟨[tI, tS, tI], [tP, tI], fun x => F_piece_Open ids x.1 x.2.1 x.2.2.1⟩
def an_piece_Open : Ann := { order := Sw.look [], reg := Sw.look [(1, ([(16, tB)], [0, 1, 2])), (3, ([(23, tB)], [0, 1, 2])), (14, ([(57, tB)], [0, 8, 9, 10, 11, 12, 13]))], join := Sw.look [], loop := Sw.look [(12, ([(10, tS), (11, tI)], [0, 8, 9])), (14, ([(12, tI), (13, tI)], [0, 8, 9, 10, 11]))], blk := Sw.lookL [(0, []), (1, [(10, tS)]), (2, [(10, tS), (11, tI)]), (3, [(12, tI)]), (4, [(12, tI)])], res := [(6, tP), (7, tI)], anys := [] }
theorem l_piece_Open : FnOk Try.prog 42 e_piece_Open :=
 fn_ok mixed (l := [(59, e_codec_Next), (60, e_piece_newPart), (61, e_tree_Of_part)]) ⟨l_codec_Next, l_piece_newPart, l_tree_Of_part, trivial⟩ (An := an_piece_Open) Try.func42 (c := Try.f42.body.getD .skip) (by kernel_rfl) Try.ntmps42 (by kernel_rfl) (fun _ _ => Try.call42 _ _) _ (by kernel_rfl) (fun x => by kernel_rfl) (by kernel_rfl)
def e_law6_opened : Shallow := ⟨[(.agg [bI, .sl])], [(.agg [.ptr, .sl]), tB], fun x => F_law6_opened ids x.1⟩
def an_law6_opened : Ann := { order := Sw.look [], reg := Sw.look [(4, ([(23, tB)], [1, 2, 4, 5, 6])), (9, ([(51, tB)], [2, 7, 9]))], join := Sw.look [], loop := Sw.look [(4, ([(5, tS), (6, tI)], [1, 2, 4]))], blk := Sw.lookL [(0, [(5, tS)]), (1, [(5, tS)])], res := [(2, tP), (3, tB)], anys := [] }
theorem l_law6_opened : FnOk Try.prog 10 e_law6_opened :=
 fn_ok mixed (l := [(41, e_ref1_Decode), (42, e_piece_Open)]) ⟨l_ref1_Decode, l_piece_Open, trivial⟩ (An := an_law6_opened) Try.func10 (c := Try.f10.body.getD .skip) (by kernel_rfl) Try.ntmps10 (by kernel_rfl) (fun _ _ => Try.call10 _ _) _ (by kernel_rfl) (fun x => by kernel_rfl) (by kernel_rfl)
def e_Tree_part_Sum : Shallow := ⟨[(.agg [.ptr])], [(.agg b5)], fun x => F_Tree_part_Sum ids x.1⟩
def an_Tree_part_Sum : Ann := { order := Sw.look [], reg := Sw.look [], join := Sw.look [], loop := Sw.look [], blk := Sw.lookL [], res := [(2, tP)], anys := [] }
theorem l_Tree_part_Sum : FnOk Try.prog 62 e_Tree_part_Sum :=
 fn_ok mixed (l := []) trivial (An := an_Tree_part_Sum) Try.func62 (c := Try.f62.body.getD .skip) (by kernel_rfl) Try.ntmps62 (by kernel_rfl) (fun _ _ => Try.call62 _ _) _ (by kernel_rfl) (fun x => by kernel_rfl) (by kernel_rfl)
def e_Text_Len : Shallow := ⟨[tP], [tI], fun x => F_Text_Len ids x.1⟩
def an_Text_Len : Ann := { order := Sw.look [], reg := Sw.look [], join := Sw.look [], loop := Sw.look [], blk := Sw.lookL [], res := [(2, tI)], anys := [] }
theorem l_Text_Len : FnOk Try.prog 44 e_Text_Len :=
 fn_ok mixed (l := [(62, e_Tree_part_Sum)]) ⟨l_Tree_part_Sum, trivial⟩ (An := an_Text_Len) Try.func44 (c := Try.f44.body.getD .skip) (by kernel_rfl) Try.ntmps44 (by kernel_rfl) (fun _ _ => Try.call44 _ _) _ (by kernel_rfl) (fun x => by kernel_rfl) (by kernel_rfl)
def e_sums_Key : Shallow := ⟨[(.agg b5), tI], [tI], fun x => F_sums_Key ids x.1 x.2.1⟩
def an_sums_Key : Ann := { order := Sw.look [], reg := Sw.look [], join := Sw.look [], loop := Sw.look [], blk := Sw.lookL [(0, [])], res := [(4, tI)], anys := [] }
theorem l_sums_Key : FnOk Try.prog 117 e_sums_Key :=
 fn_ok mixed (l := []) trivial (An := an_sums_Key) Try.func117 (c := Try.f117.body.getD .skip) (by kernel_rfl) Try.ntmps117 (by kernel_rfl) (fun _ _ => Try.call117 _ _) _ (by kernel_rfl) (fun x => by kernel_rfl) (by kernel_rfl)
def e_Tree_part_Find : Shallow := ⟨[(.agg [.ptr]), tI, tI], [tI], fun x => F_Tree_part_Find ids x.1 x.2.1 x.2.2.1⟩
def an_Tree_part_Find : Ann := { order := Sw.look [(9, ([[0, 1, 2, 3, 4, 5, 6, 7, 8, 9, 10]], [])), (13, ([[0, 1, 2, 3, 4, 5, 6, 7, 8, 9]], [(0, 7)]))], reg := Sw.look [], join := Sw.look [(10, ([], [1, 2, 7, 8, 9, 10]))], loop := Sw.look [(6, ([(8, tI), (9, tP)], [1, 2, 7]))], blk := Sw.lookL [(0, [(8, tI)]), (1, [(8, tI), (9, tP)])], res := [(6, tI)], anys := [] }
theorem l_Tree_part_Find : FnOk Try.prog 66 e_Tree_part_Find :=
 fn_ok mixed (l := [(69, e_sums_Add), (117, e_sums_Key), (83, e_node_part_count), (118, e_part_Measure)]) ⟨l_sums_Add, l_sums_Key, l_node_part_count, l_part_Measure, trivial⟩ (An := an_Tree_part_Find) Try.func66 (c := Try.f66.body.getD .skip) (by kernel_rfl) Try.ntmps66 (by kernel_rfl) (fun _ _ => Try.call66 _ _) _ (by kernel_rfl) (fun x => by kernel_rfl) (by kernel_rfl)
def e_Tree_part_Size : Shallow := ⟨[(.agg [.ptr])], [tI], fun x => F_Tree_part_Size ids x.1⟩
def an_Tree_part_Size : Ann := { order := Sw.look [], reg := Sw.look [], join := Sw.look [], loop := Sw.look [], blk := Sw.lookL [], res := [(2, tI)], anys := [] }
theorem l_Tree_part_Size : FnOk Try.prog 76 e_Tree_part_Size :=
 fn_ok mixed (l := [(83, e_node_part_count)]) ⟨l_node_part_count, trivial⟩ (An := an_Tree_part_Size) Try.func76 (c := Try.f76.body.getD .skip) (by kernel_rfl) Try.ntmps76 (by kernel_rfl) (fun _ _ => Try.call76 _ _) _ (by kernel_rfl) (fun x => by kernel_rfl) (by kernel_rfl)
def e_Tree_part_Upto : Shallow := ⟨[(.agg [.ptr]), tI], [(.agg b5)], fun x => F_Tree_part_Upto ids x.1 x.2.1⟩
def an_Tree_part_Upto : Ann := { order := Sw.look [(9, ([[0, 1, 2, 3, 4, 5, 6, 7, 8, 9, 10]], [])), (10, ([[0, 1, 2, 3, 4, 5, 6, 7, 8, 9]], [(0, 7)]))], reg := Sw.look [(4, ([(19, tB)], [1, 4, 5, 6]))], join := Sw.look [(10, ([], [1, 4, 5, 6, 7]))], loop := Sw.look [(4, ([(1, tI), (6, tP)], [4, 5]))], blk := Sw.lookL [(0, []), (1, [(1, tI), (6, tP)])], res := [(4, tP)], anys := [] }
theorem l_Tree_part_Upto : FnOk Try.prog 67 e_Tree_part_Upto :=
 fn_ok mixed (l := [(76, e_Tree_part_Size), (83, e_node_part_count), (69, e_sums_Add), (118, e_part_Measure)]) ⟨l_Tree_part_Size, l_node_part_count, l_sums_Add, l_part_Measure, trivial⟩ (An := an_Tree_part_Upto) Try.func67 (c := Try.f67.body.getD .skip) (by kernel_rfl) Try.ntmps67 (by kernel_rfl) (fun _ _ => Try.call67 _ _) _ (by kernel_rfl) (fun x => by kernel_rfl) (by kernel_rfl)
def e_Text_find : Shallow := ⟨[tP, tI], [tI, tI], fun x => F_Text_find ids x.1 x.2.1⟩
def an_Text_find : Ann := { order := Sw.look [], reg := Sw.look [], join := Sw.look [], loop := Sw.look [], blk := Sw.lookL [], res := [(4, tI), (5, tI)], anys := [] }
theorem l_Text_find : FnOk Try.prog 64 e_Text_find :=
 fn_ok mixed (l := [(66, e_Tree_part_Find), (67, e_Tree_part_Upto)]) ⟨l_Tree_part_Find, l_Tree_part_Upto, trivial⟩ (An := an_Text_find) Try.func64 (c := Try.f64.body.getD .skip) (by kernel_rfl) Try.ntmps64 (by kernel_rfl) (fun _ _ => Try.call64 _ _) _ (by kernel_rfl) (fun x => by kernel_rfl) (by kernel_rfl)
def e_Tree_part_At : Shallow := ⟨[(.agg [.ptr]), tI], [(.agg b7), tB], fun x => F_Tree_part_At ids x.1 x.2.1⟩
def an_Tree_part_At : Ann := { order := Sw.look [], reg := Sw.look [(2, ([(16, tB)], [1, 4, 6]))], join := Sw.look [], loop := Sw.look [(2, ([(1, tI), (6, tP)], [4]))], blk := Sw.lookL [(0, []), (1, [(1, tI), (6, tP)]), (2, [(1, tI), (6, tP)])], res := [(4, tP), (5, tB)], anys := [] }
theorem l_Tree_part_At : FnOk Try.prog 68 e_Tree_part_At :=
 fn_ok mixed (l := [(83, e_node_part_count)]) ⟨l_node_part_count, trivial⟩ (An := an_Tree_part_At) Try.func68 (c := Try.f68.body.getD .skip) (by kernel_rfl) Try.ntmps68 (by kernel_rfl) (fun _ _ => Try.call68 _ _) _ (by kernel_rfl) (fun x => by kernel_rfl) (by kernel_rfl)
def e_part_cut : Shallow := ⟨[(.agg b7), tI, tI], [(.agg b7), (.agg b7)], fun x => F_part_cut ids x.1 x.2.1 x.2.2.1⟩
def an_part_cut : Ann := { order := Sw.look [(9, ([[0, 1, 2, 3, 4, 5, 6, 7, 9, 10, 11, 12, 13, 14, 8, 15, 16, 17]], [(11, 8)]))], reg := Sw.look [(2, ([(20, tB)], [1, 2, 3, 6, 7, 8]))], join := Sw.look [(9, ([(11, tI)], [1, 3, 6, 7, 8]))], loop := Sw.look [(2, ([(2, tI), (8, tI)], [1, 3, 6, 7]))], blk := Sw.lookL [(0, [(8, tI)]), (1, [(8, tI)])], res := [(6, tP), (7, tP)], anys := [] }
theorem l_part_cut : FnOk Try.prog 73 e_part_cut :=
 fn_ok mixed (l := [(59, e_codec_Next), (60, e_piece_newPart)]) ⟨l_codec_Next, l_piece_newPart, trivial⟩ (An := an_part_cut) Try.func73 (c := Try.f73.body.getD .skip) (by kernel_rfl) Try.ntmps73 (by kernel_rfl) (fun _ _ => Try.call73 _ _) _ (by kernel_rfl) (fun x => by kernel_rfl) (by kernel_rfl)
def e_Text_ahead : Shallow := ⟨[tP, tI], [(.agg b5)], fun x => F_Text_ahead ids x.1 x.2.1⟩
def an_Text_ahead : Ann := { order := Sw.look [(5, ([[0, 1, 2, 3, 4, 5, 6, 7, 8, 9, 10, 11, 12, 13], [0, 1, 2, 3, 4, 5, 6, 7, 8, 9, 11, 10, 12, 13], [0, 1, 2, 3, 4, 5, 10, 6, 7, 8, 9, 11, 12, 13], [0, 1, 2, 3, 4, 5, 10, 11, 6, 7, 8, 9, 12, 13], [0, 1, 2, 3, 4, 5, 11, 6, 7, 8, 9, 10, 12, 13], [0, 1, 2, 3, 4, 5, 11, 10, 6, 7, 8, 9, 12, 13]], [(0, 10), (0, 11), (4, 10), (4, 11)]))], reg := Sw.look [(5, ([(10, tP)], [4, 7]))], join := Sw.look [(7, ([], [4, 7]))], loop := Sw.look [], blk := Sw.lookL [], res := [(4, tP)], anys := [] }
theorem l_Text_ahead : FnOk Try.prog 63 e_Text_ahead :=
 fn_ok mixed (l := [(64, e_Text_find), (67, e_Tree_part_Upto), (68, e_Tree_part_At), (73, e_part_cut), (69, e_sums_Add)]) ⟨l_Text_find, l_Tree_part_Upto, l_Tree_part_At, l_part_cut, l_sums_Add, trivial⟩ (An := an_Text_ahead) Try.func63 (c := Try.f63.body.getD .skip) (by kernel_rfl) Try.ntmps63 (by kernel_rfl) (fun _ _ => Try.call63 _ _) _ (by kernel_rfl) (fun x => by kernel_rfl) (by kernel_rfl)
def e_Tree_part_Items : Shallow := ⟨[(.agg [.ptr]), tI], [(.one .any)], fun x => F_Tree_part_Items ids x.1 x.2.1⟩
def an_Tree_part_Items : Ann := { order := Sw.look [], reg := Sw.look [], join := Sw.look [], loop := Sw.look [], blk := Sw.lookL [], res := [(4, (.one .any))], anys := [] }
theorem l_Tree_part_Items : FnOk Try.prog 65 e_Tree_part_Items :=
 fn_ok mixed (l := []) trivial (An := an_Tree_part_Items) Try.func65 (c := Try.f65.body.getD .skip) (by kernel_rfl) Try.ntmps65 (by kernel_rfl) (fun _ _ => Try.call65 _ _) _ (by kernel_rfl) (fun x => by kernel_rfl) (by kernel_rfl)
def e_Text_walk : Shallow := ⟨[tP, tI, tI, (.one .any)], [], fun x => F_Text_walk ids x.1 x.2.1 x.2.2.1 x.2.2.2.1⟩
def an_Text_walk : Ann := { order := Sw.look [(9, ([[0, 1, 2, 3, 4, 5, 6, 7, 8, 9, 10, 11, 12]], []))], reg := Sw.look [], join := Sw.look [(15, ([], [4, 7, 9, 10, 11, 12, 14])), (17, ([], [4, 7, 9, 10, 11, 12, 14]))], loop := Sw.look [(8, ([(12, tI)], [4, 7, 9, 10, 11]))], blk := Sw.lookL [(0, []), (1, []), (2, []), (3, [(12, tI)])], res := [], anys := [3, 38, 63, 66], rng := Sw.look [(39, ([(39, (.agg b7))], [(11, tP)]))] }
theorem l_Text_walk : FnOk Try.prog 46 e_Text_walk :=
 fn_ok mixed (l := [(44, e_Text_Len), (64, e_Text_find), (65, e_Tree_part_Items), (59, e_codec_Next)]) ⟨l_Text_Len, l_Text_find, l_Tree_part_Items, l_codec_Next, trivial⟩ (An := an_Text_walk) Try.func46 (c := Try.f46.body.getD .skip) (by kernel_rfl) Try.ntmps46 (by kernel_rfl) (fun _ _ => Try.call46 _ _) _ (by kernel_rfl) (fun x => by kernel_rfl) (by kernel_rfl)
def e_Text_Atoms : Shallow := ⟨[tP, tI, tI], [tS], fun x => F_Text_Atoms ids x.1 x.2.1 x.2.2.1⟩
def an_Text_Atoms : Ann := { order := Sw.look [], reg := Sw.look [], join := Sw.look [], loop := Sw.look [], blk := Sw.lookL [], res := [(6, tS)], anys := [] }
theorem l_Text_Atoms : FnOk Try.prog 24 e_Text_Atoms :=
 fn_ok mixed (l := [(46, e_Text_walk)]) ⟨l_Text_walk, trivial⟩ (An := an_Text_Atoms) Try.func24 (c := Try.f24.body.getD .skip) (by kernel_rfl) Try.ntmps24 (by kernel_rfl) (fun _ _ => Try.call24 _ _) _ (by kernel_rfl) (fun x => by kernel_rfl) (by kernel_rfl)
def e_Text_Breaks : Shallow := ⟨[tP, tI], [tI], fun x => F_Text_Breaks ids x.1 x.2.1⟩
def an_Text_Breaks : Ann := { order := Sw.look [], reg := Sw.look [(6, ([(34, tB)], [5]))], join := Sw.look [], loop := Sw.look [], blk := Sw.lookL [(0, [])], res := [(4, tI)], anys := [] }
theorem l_Text_Breaks : FnOk Try.prog 43 e_Text_Breaks :=
 fn_ok mixed (l := [(44, e_Text_Len), (62, e_Tree_part_Sum), (63, e_Text_ahead), (24, e_Text_Atoms)]) ⟨l_Text_Len, l_Tree_part_Sum, l_Text_ahead, l_Text_Atoms, trivial⟩ (An := an_Text_Breaks) Try.func43 (c := Try.f43.body.getD .skip) (by kernel_rfl) Try.ntmps43 (by kernel_rfl) (fun _ _ => Try.call43 _ _) _ (by kernel_rfl) (fun x => by kernel_rfl) (by kernel_rfl)
def e_Text_Seek : Shallow := ⟨[tP, tI], [tI], fun x => F_Text_Seek ids x.1 x.2.1⟩
def an_Text_Seek : Ann := { order := Sw.look [(10, ([[0, 1, 2, 3, 4, 5, 6, 7, 8, 9, 10, 11, 12]], [])), (11, ([[0, 1, 2, 3, 4, 5]], [(0, 3)]))], reg := Sw.look [(3, ([(16, tB)], [0, 1])), (9, ([(61, tB)], [0, 1, 6, 7, 9])), (14, ([(100, tB)], [6]))], join := Sw.look [], loop := Sw.look [(9, ([(9, tI)], [0, 1, 6, 7]))], blk := Sw.lookL [(0, []), (1, []), (2, [(9, tI)])], res := [(4, tI)], anys := [] }
theorem l_Text_Seek : FnOk Try.prog 49 e_Text_Seek :=
 fn_ok mixed (l := [(62, e_Tree_part_Sum), (66, e_Tree_part_Find), (67, e_Tree_part_Upto), (68, e_Tree_part_At), (59, e_codec_Next), (70, e_piece_single), (69, e_sums_Add), (24, e_Text_Atoms)]) ⟨l_Tree_part_Sum, l_Tree_part_Find, l_Tree_part_Upto, l_Tree_part_At, l_codec_Next, l_piece_single, l_sums_Add, l_Text_Atoms, trivial⟩ (An := an_Text_Seek) Try.func49 (c := Try.f49.body.getD .skip) (by kernel_rfl) Try.ntmps49 (by kernel_rfl) (fun _ _ => Try.call49 _ _) _ (by kernel_rfl) (fun x => by kernel_rfl) (by kernel_rfl)
def e_lines_ended : Shallow := ⟨[tP], [tB], fun x => F_lines_ended ids x.1⟩
def an_lines_ended : Ann := { order := Sw.look [], reg := Sw.look [(2, ([(2, tB)], []))], join := Sw.look [], loop := Sw.look [], blk := Sw.lookL [], res := [(2, tB)], anys := [] }
theorem l_lines_ended : FnOk Try.prog 45 e_lines_ended :=
 fn_ok mixed (l := [(44, e_Text_Len), (43, e_Text_Breaks), (49, e_Text_Seek)]) ⟨l_Text_Len, l_Text_Breaks, l_Text_Seek, trivial⟩ (An := an_lines_ended) Try.func45 (c := Try.f45.body.getD .skip) (by kernel_rfl) Try.ntmps45 (by kernel_rfl) (fun _ _ => Try.call45 _ _) _ (by kernel_rfl) (fun x => by kernel_rfl) (by kernel_rfl)
def e_lines_Count : Shallow := ⟨[tP], [tI], fun x => F_lines_Count ids x.1⟩
def an_lines_Count : Ann := { order := Sw.look [], reg := Sw.look [], join := Sw.look [(4, ([(3, tI)], []))], loop := Sw.look [], blk := Sw.lookL [], res := [(2, tI)], anys := [] }
theorem l_lines_Count : FnOk Try.prog 11 e_lines_Count :=
 fn_ok mixed (l := [(44, e_Text_Len), (43, e_Text_Breaks), (45, e_lines_ended)]) ⟨l_Text_Len, l_Text_Breaks, l_lines_ended, trivial⟩ (An := an_lines_Count) Try.func11 (c := Try.f11.body.getD .skip) (by kernel_rfl) Try.ntmps11 (by kernel_rfl) (fun _ _ => Try.call11 _ _) _ (by kernel_rfl) (fun x => by kernel_rfl) (by kernel_rfl)
def e_Text_Tags : Shallow := ⟨[tP, tI, tI], [tS], fun x => F_Text_Tags ids x.1 x.2.1 x.2.2.1⟩
def an_Text_Tags : Ann := { order := Sw.look [], reg := Sw.look [], join := Sw.look [], loop := Sw.look [], blk := Sw.lookL [], res := [(6, tS)], anys := [] }
theorem l_Text_Tags : FnOk Try.prog 13 e_Text_Tags :=
 fn_ok mixed (l := [(46, e_Text_walk)]) ⟨l_Text_walk, trivial⟩ (An := an_Text_Tags) Try.func13 (c := Try.f13.body.getD .skip) (by kernel_rfl) Try.ntmps13 (by kernel_rfl) (fun _ _ => Try.call13 _ _) _ (by kernel_rfl) (fun x => by kernel_rfl) (by kernel_rfl)
end
end Go.Proofs.Ytaebgdhdldfigaa
