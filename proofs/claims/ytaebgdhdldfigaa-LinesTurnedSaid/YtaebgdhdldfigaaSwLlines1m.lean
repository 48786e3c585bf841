/-
  Each function of the cut does what its shallow program says (the text is printed by program).
-/
import Derived.Test.YtaebgdhdldfigaaSwLlines0m
set_option maxRecDepth 100000
set_option maxHeartbeats 4000000
set_option linter.unusedVariables false
namespace Go.Proofs.Ytaebgdhdldfigaa
open Go Go.Sw
noncomputable section
def e_law6_copied : Shallow := ⟨[tS], [tS], fun x => F_law6_copied ids x.1⟩
def an_law6_copied : Ann := { order := Sw.look [], reg := Sw.look [], join := Sw.look [], loop := Sw.look [(3, ([(3, tS), (4, tI)], [0]))], blk := Sw.lookL [(0, [(3, tS)]), (1, [(3, tS)])], res := [(2, tS)], anys := [] }
theorem l_law6_copied : FnOk Try.prog 12 e_law6_copied :=
 fn_ok mixed (l := []) trivial (An := an_law6_copied) Try.func12 (c := Try.f12.body.getD .skip) (by kernel_rfl) Try.ntmps12 (by kernel_rfl) (fun _ _ => Try.call12 _ _) _ (by kernel_rfl) (fun x => by kernel_rfl) (by kernel_rfl)
def e_law6_within : Shallow := ⟨[tI, tI], [tI], fun x => F_law6_within ids x.1 x.2.1⟩
def an_law6_within : Ann := { order := Sw.look [], reg := Sw.look [], join := Sw.look [(3, ([(0, tI)], [1]))], loop := Sw.look [], blk := Sw.lookL [], res := [(4, tI)], anys := [] }
theorem l_law6_within : FnOk Try.prog 14 e_law6_within :=
 fn_ok mixed (l := []) trivial (An := an_law6_within) Try.func14 (c := Try.f14.body.getD .skip) (by kernel_rfl) Try.ntmps14 (by kernel_rfl) (fun _ _ => Try.call14 _ _) _ (by kernel_rfl) (fun x => by kernel_rfl) (by kernel_rfl)
def e_lines_Typed : Shallow := ⟨[tP, tI, tS, tI], [tS, tI], fun x => F_lines_Typed ids x.1 x.2.1 x.2.2.1 x.2.2.2.1⟩
def an_lines_Typed : Ann := { order := Sw.look [], reg := Sw.look [(10, ([(34, tB)], [0, 1, 2, 3, 10])), (26, ([(71, tB)], [2, 3, 10, 13, 14, 15, 54, 55, 56])), (27, ([(71, tB)], [2, 3, 10, 13, 14, 54, 55, 56]))], join := Sw.look [(10, ([(10, tS)], [0, 1, 2, 3])), (17, ([(11, tS), (12, tI)], [2, 3, 10, 13])), (19, ([(13, tI)], [2, 3, 10, 12])), (29, ([(14, tS)], [2, 3, 10, 13, 54, 55, 56]))], loop := Sw.look [(21, ([(12, tI), (14, tS), (56, tI)], [2, 3, 10, 13, 54, 55]))], blk := Sw.lookL [(0, [(10, tS)]), (1, [(14, tS)]), (2, [(12, tI), (14, tS)]), (3, [(14, tS)])], res := [(8, tS), (9, tI)], anys := [] }
theorem l_lines_Typed : FnOk Try.prog 15 e_lines_Typed :=
 fn_ok mixed (l := [(44, e_Text_Len), (24, e_Text_Atoms)]) ⟨l_Text_Len, l_Text_Atoms, trivial⟩ (An := an_lines_Typed) Try.func15 (c := Try.f15.body.getD .skip) (by kernel_rfl) Try.ntmps15 (by kernel_rfl) (fun _ _ => Try.call15 _ _) _ (by kernel_rfl) (fun x => by kernel_rfl) (by kernel_rfl)
def e_law6_same : Shallow := ⟨[tS, tS], [tB], fun x => F_law6_same ids x.1 x.2.1⟩
def an_law6_same : Ann := { order := Sw.look [(6, ([[0, 1, 2, 3, 4, 5, 6, 7, 8]], []))], reg := Sw.look [], join := Sw.look [], loop := Sw.look [(4, ([(5, tI)], [0, 1]))], blk := Sw.lookL [(0, []), (1, [])], res := [(4, tB)], anys := [] }
theorem l_law6_same : FnOk Try.prog 16 e_law6_same :=
 fn_ok mixed (l := []) trivial (An := an_law6_same) Try.func16 (c := Try.f16.body.getD .skip) (by kernel_rfl) Try.ntmps16 (by kernel_rfl) (fun _ _ => Try.call16 _ _) _ (by kernel_rfl) (fun x => by kernel_rfl) (by kernel_rfl)
def e_lines_closed : Shallow := ⟨[tP, tI, tI], [(.agg [bI, bI, bI, bI])], fun x => F_lines_closed ids x.1 x.2.1 x.2.2.1⟩
def an_lines_closed : Ann := { order := Sw.look [], reg := Sw.look [(5, ([(30, tB)], [1, 2, 6]))], join := Sw.look [], loop := Sw.look [], blk := Sw.lookL [(0, [])], res := [(6, tP)], anys := [] }
theorem l_lines_closed : FnOk Try.prog 50 e_lines_closed :=
 fn_ok mixed (l := [(24, e_Text_Atoms)]) ⟨l_Text_Atoms, trivial⟩ (An := an_lines_closed) Try.func50 (c := Try.f50.body.getD .skip) (by kernel_rfl) Try.ntmps50 (by kernel_rfl) (fun _ _ => Try.call50 _ _) _ (by kernel_rfl) (fun x => by kernel_rfl) (by kernel_rfl)
def e_lines_At : Shallow := ⟨[tP, tI], [(.agg [bI, bI, bI, bI]), tI], fun x => F_lines_At ids x.1 x.2.1⟩
def an_lines_At : Ann := { order := Sw.look [], reg := Sw.look [], join := Sw.look [], loop := Sw.look [], blk := Sw.lookL [], res := [(4, tP), (5, tI)], anys := [] }
theorem l_lines_At : FnOk Try.prog 19 e_lines_At :=
 fn_ok mixed (l := [(49, e_Text_Seek), (44, e_Text_Len), (43, e_Text_Breaks), (50, e_lines_closed)]) ⟨l_Text_Seek, l_Text_Len, l_Text_Breaks, l_lines_closed, trivial⟩ (An := an_lines_At) Try.func19 (c := Try.f19.body.getD .skip) (by kernel_rfl) Try.ntmps19 (by kernel_rfl) (fun _ _ => Try.call19 _ _) _ (by kernel_rfl) (fun x => by kernel_rfl) (by kernel_rfl)
def e_lines_All : Shallow := ⟨[tP], [(.one .any)], fun x => F_lines_All ids x.1⟩
def an_lines_All : Ann := { order := Sw.look [], reg := Sw.look [], join := Sw.look [], loop := Sw.look [], blk := Sw.lookL [], res := [(2, (.one .any))], anys := [] }
theorem l_lines_All : FnOk Try.prog 27 e_lines_All :=
 fn_ok mixed (l := []) trivial (An := an_lines_All) Try.func27 (c := Try.f27.body.getD .skip) (by kernel_rfl) Try.ntmps27 (by kernel_rfl) (fun _ _ => Try.call27 _ _) _ (by kernel_rfl) (fun x => by kernel_rfl) (by kernel_rfl)
def e_lines_Kinds : Shallow := ⟨[tP], [(.agg [bI, bI, bI, bI])], fun x => F_lines_Kinds ids x.1⟩
def an_lines_Kinds : Ann := { order := Sw.look [], reg := Sw.look [], join := Sw.look [], loop := Sw.look [], blk := Sw.lookL [(0, []), (1, [])], res := [(2, tP)], anys := [7], rng := Sw.look [(8, ([(8, tI), (9, (.agg [bI, bI, bI, bI]))], [(5, tP)]))] }
theorem l_lines_Kinds : FnOk Try.prog 20 e_lines_Kinds :=
 fn_okR mixed (l := [(27, e_lines_All)]) ⟨l_lines_All, trivial⟩ (An := an_lines_Kinds) Try.func20 (c := Try.f20.body.getD .skip) (by kernel_rfl) Try.ntmps20 (by kernel_rfl) (fun _ _ => Try.call20 _ _) _ (by kernel_rfl) (fun x => by kernel_rfl)
def e_lines_Whole : Shallow := ⟨[tP, tI, tI], [(.agg [bI, bI, bI]), tI], fun x => F_lines_Whole ids x.1 x.2.1 x.2.2.1⟩
def an_lines_Whole : Ann := { order := Sw.look [], reg := Sw.look [(1, ([(27, tB)], [0, 1, 2, 6])), (6, ([(52, tB)], [0, 1, 6, 12]))], join := Sw.look [(10, ([], [6, 12]))], loop := Sw.look [], blk := Sw.lookL [], res := [(6, tP), (7, tI)], anys := [] }
theorem l_lines_Whole : FnOk Try.prog 21 e_lines_Whole :=
 fn_ok mixed (l := [(11, e_lines_Count), (19, e_lines_At)]) ⟨l_lines_Count, l_lines_At, trivial⟩ (An := an_lines_Whole) Try.func21 (c := Try.f21.body.getD .skip) (by kernel_rfl) Try.ntmps21 (by kernel_rfl) (fun _ _ => Try.call21 _ _) _ (by kernel_rfl) (fun x => by kernel_rfl) (by kernel_rfl)
def e_lines_Of : Shallow := ⟨[tP, tI], [tI], fun x => F_lines_Of ids x.1 x.2.1⟩
def an_lines_Of : Ann := { order := Sw.look [], reg := Sw.look [], join := Sw.look [], loop := Sw.look [], blk := Sw.lookL [], res := [(4, tI)], anys := [] }
theorem l_lines_Of : FnOk Try.prog 23 e_lines_Of :=
 fn_ok mixed (l := [(44, e_Text_Len), (43, e_Text_Breaks)]) ⟨l_Text_Len, l_Text_Breaks, trivial⟩ (An := an_lines_Of) Try.func23 (c := Try.f23.body.getD .skip) (by kernel_rfl) Try.ntmps23 (by kernel_rfl) (fun _ _ => Try.call23 _ _) _ (by kernel_rfl) (fun x => by kernel_rfl) (by kernel_rfl)
def e_ref6_All : Shallow := ⟨[tS], [tS, tI], fun x => F_ref6_All ids x.1⟩
def an_ref6_All : Ann := { order := Sw.look [], reg := Sw.look [(9, ([(48, tB)], [0, 4, 5, 6])), (18, ([(95, tB)], [4, 7]))], join := Sw.look [(5, ([(4, tS), (5, tI), (6, tI)], [0])), (20, ([(7, tI)], [4]))], loop := Sw.look [(4, ([(4, tS), (5, tI), (6, tI)], [0]))], blk := Sw.lookL [(0, [(4, tS), (5, tI)]), (1, [(4, tS), (5, tI), (6, tI)])], res := [(2, tS), (3, tI)], anys := [] }
theorem l_ref6_All : FnOk Try.prog 26 e_ref6_All :=
 fn_ok mixed (l := []) trivial (An := an_ref6_All) Try.func26 (c := Try.f26.body.getD .skip) (by kernel_rfl) Try.ntmps26 (by kernel_rfl) (fun _ _ => Try.call26 _ _) _ (by kernel_rfl) (fun x => by kernel_rfl) (by kernel_rfl)
def e_Walk_well : Shallow := ⟨[tP], [tB], fun x => F_Walk_well ids x.1⟩
def an_Walk_well : Ann := { order := Sw.look [(1, ([[0, 1, 2, 3, 4, 5, 6, 7, 8, 9, 10, 11, 12, 13, 14, 15, 16, 17, 18, 19, 20, 21, 22, 23, 24, 25, 26, 27]], []))], reg := Sw.look [(1, ([(2, tB)], []))], join := Sw.look [], loop := Sw.look [], blk := Sw.lookL [], res := [(2, tB)], anys := [] }
theorem l_Walk_well : FnOk Try.prog 33 e_Walk_well :=
 fn_ok mixed (l := []) trivial (An := an_Walk_well) Try.func33 (c := Try.f33.body.getD .skip) (by kernel_rfl) Try.ntmps33 (by kernel_rfl) (fun _ _ => Try.call33 _ _) _ (by kernel_rfl) (fun x => by kernel_rfl) (by kernel_rfl)
def e_law6_LinesTurned : Shallow := ⟨[(.agg [bI, .sl]), tI, tS], [tB], fun x => F_law6_LinesTurned ids x.1 x.2.1 x.2.2.1⟩
def an_law6_LinesTurned : Ann := { order := Sw.look [(18, ([[0, 1, 2, 3, 4, 5, 6, 7, 8, 10, 11, 9, 12, 13, 14]], [(11, 9)]))], reg := Sw.look [(2, ([(28, tB)], [4, 5, 7])), (13, ([(53, tB)], [7, 9])), (18, ([(6, tB)], []))], join := Sw.look [], loop := Sw.look [], blk := Sw.lookL [], res := [(6, tB)], anys := [14, 41, 42, 44, 66] }
theorem l_law6_LinesTurned : FnOk Try.prog 4 e_law6_LinesTurned :=
 fn_ok mixed (l := [(10, e_law6_opened), (11, e_lines_Count), (26, e_ref6_All), (14, e_law6_within), (27, e_lines_All), (33, e_Walk_well), (24, e_Text_Atoms), (16, e_law6_same)]) ⟨l_law6_opened, l_lines_Count, l_ref6_All, l_law6_within, l_lines_All, l_Walk_well, l_Text_Atoms, l_law6_same, trivial⟩ (An := an_law6_LinesTurned) Try.func4 (c := Try.f4.body.getD .skip) (by kernel_rfl) Try.ntmps4 (by kernel_rfl) (fun _ _ => Try.call4 _ _) _ (by kernel_rfl) (fun x => by kernel_rfl) (by kernel_rfl)
def e_law6_plain : Shallow := ⟨[tS], [tS], fun x => F_law6_plain ids x.1⟩
def an_law6_plain : Ann := { order := Sw.look [], reg := Sw.look [(3, ([(13, tB)], [0, 3, 4])), (6, ([(25, tB)], [0, 3, 4, 5]))], join := Sw.look [(8, ([(5, tI)], [0, 3, 4]))], loop := Sw.look [(3, ([(3, tS), (4, tI)], [0]))], blk := Sw.lookL [(0, [(3, tS)]), (1, [(3, tS)])], res := [(2, tS)], anys := [] }
theorem l_law6_plain : FnOk Try.prog 53 e_law6_plain :=
 fn_ok mixed (l := []) trivial (An := an_law6_plain) Try.func53 (c := Try.f53.body.getD .skip) (by kernel_rfl) Try.ntmps53 (by kernel_rfl) (fun _ _ => Try.call53 _ _) _ (by kernel_rfl) (fun x => by kernel_rfl) (by kernel_rfl)
def e_Text_Size : Shallow := ⟨[tP], [tI], fun x => F_Text_Size ids x.1⟩
def an_Text_Size : Ann := { order := Sw.look [], reg := Sw.look [], join := Sw.look [], loop := Sw.look [], blk := Sw.lookL [], res := [(2, tI)], anys := [] }
theorem l_Text_Size : FnOk Try.prog 71 e_Text_Size :=
 fn_ok mixed (l := [(62, e_Tree_part_Sum)]) ⟨l_Tree_part_Sum, trivial⟩ (An := an_Text_Size) Try.func71 (c := Try.f71.body.getD .skip) (by kernel_rfl) Try.ntmps71 (by kernel_rfl) (fun _ _ => Try.call71 _ _) _ (by kernel_rfl) (fun x => by kernel_rfl) (by kernel_rfl)
def e_codec_Size : Shallow := ⟨[tI, tI], [tI], fun x => F_codec_Size ids x.1 x.2.1⟩
def an_codec_Size : Ann := { order := Sw.look [], reg := Sw.look [], join := Sw.look [], loop := Sw.look [], blk := Sw.lookL [], res := [(4, tI)], anys := [5, 7, 8, 10] }
theorem l_codec_Size : FnOk Try.prog 72 e_codec_Size :=
 fn_ok mixed (l := [(79, e_codec_of)]) ⟨l_codec_of, trivial⟩ (An := an_codec_Size) Try.func72 (c := Try.f72.body.getD .skip) (by kernel_rfl) Try.ntmps72 (by kernel_rfl) (fun _ _ => Try.call72 _ _) _ (by kernel_rfl) (fun x => by kernel_rfl) (by kernel_rfl)
def e_Text_refuse : Shallow := ⟨[tP, tS], [tI], fun x => F_Text_refuse ids x.1 x.2.1⟩
def an_Text_refuse : Ann := { order := Sw.look [(28, ([[0, 1, 2, 3, 6, 7, 8, 4, 5, 9, 10, 11, 12, 13]], [(8, 4)]))], reg := Sw.look [(7, ([(44, tB)], [0, 1, 6, 8, 22, 23, 24]))], join := Sw.look [(29, ([(9, tI)], [0, 76, 77, 78]))], loop := Sw.look [(5, ([(5, tI), (24, tI)], [0, 1, 6, 22, 23])), (13, ([(9, tI), (52, tI)], [0, 1, 50, 51])), (16, ([(9, tI), (59, tI)], [0, 1, 50, 51, 52, 57, 58])), (25, ([(9, tI), (78, tI)], [0, 76, 77]))], blk := Sw.lookL [(0, []), (1, [(5, tI)]), (2, [(9, tI)]), (3, [(9, tI)]), (4, [(9, tI)]), (5, [(9, tI)]), (6, [(9, tI)]), (7, [(9, tI)])], res := [(4, tI)], anys := [] }
theorem l_Text_refuse : FnOk Try.prog 55 e_Text_refuse :=
 fn_ok mixed (l := [(44, e_Text_Len), (71, e_Text_Size), (72, e_codec_Size), (63, e_Text_ahead)]) ⟨l_Text_Len, l_Text_Size, l_codec_Size, l_Text_ahead, trivial⟩ (An := an_Text_refuse) Try.func55 (c := Try.f55.body.getD .skip) (by kernel_rfl) Try.ntmps55 (by kernel_rfl) (fun _ _ => Try.call55 _ _) _ (by kernel_rfl) (fun x => by kernel_rfl) (by kernel_rfl)
def e_Text_fresh_1 : Shallow := ⟨[tP, tP, tP, tP], [], fun x => F_Text_fresh_1 ids x.1 x.2.1 x.2.2.1 x.2.2.2.1⟩
def an_Text_fresh_1 : Ann := { order := Sw.look [(2, ([[0, 1, 2, 3, 4, 5, 6, 7, 8, 9, 10, 11, 12, 13, 14, 15, 16]], [(0, 13), (0, 14)]))], reg := Sw.look [], join := Sw.look [], loop := Sw.look [], blk := Sw.lookL [], res := [], anys := [] }
theorem l_Text_fresh_1 : FnOk Try.prog 84 e_Text_fresh_1 :=
 fn_ok mixed (l := [(60, e_piece_newPart)]) ⟨l_piece_newPart, trivial⟩ (An := an_Text_fresh_1) Try.func84 (c := Try.f84.body.getD .skip) (by kernel_rfl) Try.ntmps84 (by kernel_rfl) (fun _ _ => Try.call84 _ _) _ (by kernel_rfl) (fun x => by kernel_rfl) (by kernel_rfl)
def e_codec_Encode : Shallow := ⟨[tI, tS], [tS, tI, tI], fun x => F_codec_Encode ids x.1 x.2.1⟩
def an_codec_Encode : Ann := { order := Sw.look [], reg := Sw.look [], join := Sw.look [], loop := Sw.look [(6, ([(8, tS), (17, tI)], [7, 15, 16]))], blk := Sw.lookL [(0, [(8, tS)]), (1, [(8, tS)])], res := [(4, tS), (5, tI), (6, tI)], anys := [7, 12, 13, 22, 27] }
theorem l_codec_Encode : FnOk Try.prog 85 e_codec_Encode :=
 fn_ok mixed (l := [(79, e_codec_of)]) ⟨l_codec_of, trivial⟩ (An := an_codec_Encode) Try.func85 (c := Try.f85.body.getD .skip) (by kernel_rfl) Try.ntmps85 (by kernel_rfl) (fun _ _ => Try.call85 _ _) _ (by kernel_rfl) (fun x => by kernel_rfl) (by kernel_rfl)
def e_Text_fresh : Shallow := ⟨[tP, tS], [tS], fun x => F_Text_fresh ids x.1 x.2.1⟩
def an_Text_fresh : Ann := { order := Sw.look [(12, ([[0, 1, 2, 3, 4, 5, 6, 7, 8, 9]], [(0, 6)]))], reg := Sw.look [(8, ([(11, tB)], [2, 5, 7, 8, 10, 21, 22, 23])), (9, ([(42, tB)], [2, 5, 7, 8, 10, 11, 21, 22, 23]))], join := Sw.look [(11, ([], [2, 5, 7, 8, 10, 11, 21, 22, 23])), (16, ([], [2, 5, 7, 8, 21, 22, 23]))], loop := Sw.look [(6, ([(23, tI)], [2, 5, 7, 8, 21, 22]))], blk := Sw.lookL [(0, []), (1, [])], res := [(4, tS)], anys := [] }
theorem l_Text_fresh : FnOk Try.prog 74 e_Text_fresh :=
 fn_ok mixed (l := [(84, e_Text_fresh_1), (85, e_codec_Encode)]) ⟨l_Text_fresh_1, l_codec_Encode, trivial⟩ (An := an_Text_fresh) Try.func74 (c := Try.f74.body.getD .skip) (by kernel_rfl) Try.ntmps74 (by kernel_rfl) (fun _ _ => Try.call74 _ _) _ (by kernel_rfl) (fun x => by kernel_rfl) (by kernel_rfl)
def e_tree_even_part : Shallow := ⟨[tP, (.agg b7), tP], [tP], fun x => F_tree_even_part ids x.1 x.2.1 x.2.2.1⟩
def an_tree_even_part : Ann := { order := Sw.look [(2, ([[0, 1, 2, 3, 5, 6, 7, 8, 4, 9, 10]], [(8, 4)])), (3, ([[0, 1, 2, 3, 4, 5, 6, 7, 8, 9, 10, 11, 12, 13, 14, 15, 16]], [(3, 14), (7, 14)])), (5, ([[0, 1, 2, 3, 4, 5, 6, 7, 8, 9, 10, 11, 13, 14, 15, 16, 17, 18, 19, 20, 21, 22, 12, 23, 24, 25]], [(16, 12), (16, 23), (20, 12), (21, 12)])), (7, ([[0, 1, 2, 3, 5, 6, 7, 8, 4, 9, 10]], [(8, 4)])), (8, ([[0, 1, 2, 3, 4, 5, 7, 8, 9, 10, 11, 12, 13, 14, 6, 15, 16]], [(10, 6), (14, 6)])), (10, ([[0, 1, 2, 3, 4, 5, 7, 8, 9, 10, 11, 12, 13, 14, 15, 16, 17, 18, 19, 20, 21, 22, 6, 23, 24, 25]], [(10, 6), (10, 23), (14, 6), (18, 6), (22, 6)]))], reg := Sw.look [], join := Sw.look [], loop := Sw.look [], blk := Sw.lookL [(0, [])], res := [(6, tP)], anys := [] }
theorem l_tree_even_part : FnOk Try.prog 96 e_tree_even_part :=
 fn_ok mixed (l := [(95, e_node_part_tall), (92, e_tree_of_part)]) ⟨l_node_part_tall, l_tree_of_part, trivial⟩ (An := an_tree_even_part) Try.func96 (c := Try.f96.body.getD .skip) (by kernel_rfl) Try.ntmps96 (by kernel_rfl) (fun _ _ => Try.call96 _ _) _ (by kernel_rfl) (fun x => by kernel_rfl) (by kernel_rfl)
def e_tree_join_part : Shallow := ⟨[tP, (.agg b7), tP], [tP], fun x => F_tree_join_part ids x.1 x.2.1 x.2.2.1⟩
def an_tree_join_part : Ann := { order := Sw.look [(2, ([[0, 1, 2, 3, 4, 5, 6, 7, 8, 9, 10, 11, 12, 13, 14, 15, 16]], [(3, 14), (7, 14)])), (4, ([[0, 1, 2, 3, 4, 5, 7, 8, 9, 10, 11, 12, 13, 14, 6, 15, 16]], [(10, 6), (14, 6)]))], reg := Sw.look [], join := Sw.look [], loop := Sw.look [], blk := Sw.lookL [(0, [])], res := [(6, tP)], anys := [] }
theorem l_tree_join_part : FnOk Try.prog 93 e_tree_join_part :=
 fn_ex (tys := [tP, (.agg b7), tP]) (res := [tP]) (R := fun fuelN => fun x => R_tree_join_part fuelN ids x.1 x.2.1 x.2.2.1) (fun _ => rfl) (fun _ _ => Try.call93 _ _) fun fuelN ih =>
 fn_ok mixed (l := [(95, e_node_part_tall), (93, (⟨[tP, (.agg b7), tP], [tP], fun x => R_tree_join_part fuelN ids x.1 x.2.1 x.2.2.1⟩ : Shallow)), (96, e_tree_even_part), (92, e_tree_of_part)]) ⟨l_node_part_tall, ih, l_tree_even_part, l_tree_of_part, trivial⟩ (An := an_tree_join_part) Try.func93 (c := Try.f93.body.getD .skip) (by kernel_rfl) Try.ntmps93 (by kernel_rfl) (fun _ _ => Try.call93 _ _) _ (by kernel_rfl) (fun x => by kernel_rfl) (by kernel_rfl)
def e_node_part_cut : Shallow := ⟨[tP, tI], [tP, tP], fun x => F_node_part_cut ids x.1 x.2.1⟩
def an_node_part_cut : Ann := { order := Sw.look [(6, ([[0, 1, 2, 3, 4, 5, 6, 7, 8, 9, 10, 11, 12]], [])), (8, ([[0, 1, 2, 3, 4, 5, 6, 7, 8, 10, 9, 11, 12]], []))], reg := Sw.look [], join := Sw.look [], loop := Sw.look [], blk := Sw.lookL [], res := [(4, tP), (5, tP)], anys := [] }
theorem l_node_part_cut : FnOk Try.prog 86 e_node_part_cut :=
 fn_ex (tys := [tP, tI]) (res := [tP, tP]) (R := fun fuelN => fun x => R_node_part_cut fuelN ids x.1 x.2.1) (fun _ => rfl) (fun _ _ => Try.call86 _ _) fun fuelN ih =>
 fn_ok mixed (l := [(83, e_node_part_count), (86, (⟨[tP, tI], [tP, tP], fun x => R_node_part_cut fuelN ids x.1 x.2.1⟩ : Shallow)), (93, e_tree_join_part)]) ⟨l_node_part_count, ih, l_tree_join_part, trivial⟩ (An := an_node_part_cut) Try.func86 (c := Try.f86.body.getD .skip) (by kernel_rfl) Try.ntmps86 (by kernel_rfl) (fun _ _ => Try.call86 _ _) _ (by kernel_rfl) (fun x => by kernel_rfl) (by kernel_rfl)
def e_node_part_first : Shallow := ⟨[tP], [(.agg b7), tP], fun x => F_node_part_first ids x.1⟩
def an_node_part_first : Ann := { order := Sw.look [(2, ([[0, 1, 2, 3, 4, 5, 6, 7, 8, 9]], [(7, 8)])), (4, ([[0, 1, 2, 3, 4, 5, 6, 7, 8, 9, 10, 11, 12]], [(0, 10)]))], reg := Sw.look [], join := Sw.look [], loop := Sw.look [], blk := Sw.lookL [], res := [(2, tP), (3, tP)], anys := [] }
theorem l_node_part_first : FnOk Try.prog 94 e_node_part_first :=
 fn_ex (tys := [tP]) (res := [(.agg b7), tP]) (R := fun fuelN => fun x => R_node_part_first fuelN ids x.1) (fun _ => rfl) (fun _ _ => Try.call94 _ _) fun fuelN ih =>
 fn_ok mixed (l := [(94, (⟨[tP], [(.agg b7), tP], fun x => R_node_part_first fuelN ids x.1⟩ : Shallow)), (96, e_tree_even_part)]) ⟨ih, l_tree_even_part, trivial⟩ (An := an_node_part_first) Try.func94 (c := Try.f94.body.getD .skip) (by kernel_rfl) Try.ntmps94 (by kernel_rfl) (fun _ _ => Try.call94 _ _) _ (by kernel_rfl) (fun x => by kernel_rfl) (by kernel_rfl)
def e_tree_both_part : Shallow := ⟨[tP, tP], [tP], fun x => F_tree_both_part ids x.1 x.2.1⟩
def an_tree_both_part : Ann := { order := Sw.look [], reg := Sw.look [], join := Sw.look [], loop := Sw.look [], blk := Sw.lookL [], res := [(4, tP)], anys := [] }
theorem l_tree_both_part : FnOk Try.prog 87 e_tree_both_part :=
 fn_ok mixed (l := [(94, e_node_part_first), (93, e_tree_join_part)]) ⟨l_node_part_first, l_tree_join_part, trivial⟩ (An := an_tree_both_part) Try.func87 (c := Try.f87.body.getD .skip) (by kernel_rfl) Try.ntmps87 (by kernel_rfl) (fun _ _ => Try.call87 _ _) _ (by kernel_rfl) (fun x => by kernel_rfl) (by kernel_rfl)
def e_Tree_part_Replace : Shallow := ⟨[(.agg [.ptr]), tI, tI, tS], [(.agg [.ptr]), tI], fun x => F_Tree_part_Replace ids x.1 x.2.1 x.2.2.1 x.2.2.2.1⟩
def an_Tree_part_Replace : Ann := { order := Sw.look [], reg := Sw.look [(1, ([(26, tB)], [1, 2, 3, 4, 8]))], join := Sw.look [], loop := Sw.look [], blk := Sw.lookL [], res := [(8, tP), (9, tI)], anys := [] }
theorem l_Tree_part_Replace : FnOk Try.prog 75 e_Tree_part_Replace :=
 fn_ok mixed (l := [(76, e_Tree_part_Size), (86, e_node_part_cut), (80, e_tree_build_part), (87, e_tree_both_part)]) ⟨l_Tree_part_Size, l_node_part_cut, l_tree_build_part, l_tree_both_part, trivial⟩ (An := an_Tree_part_Replace) Try.func75 (c := Try.f75.body.getD .skip) (by kernel_rfl) Try.ntmps75 (by kernel_rfl) (fun _ _ => Try.call75 _ _) _ (by kernel_rfl) (fun x => by kernel_rfl) (by kernel_rfl)
def e_Text_replace : Shallow := ⟨[tP, tI, tI, tS], [], fun x => F_Text_replace ids x.1 x.2.1 x.2.2.1 x.2.2.2.1⟩
def an_Text_replace : Ann := { order := Sw.look [(5, ([[0, 1, 2, 3, 4, 5, 6, 7, 8, 9, 10, 11, 12, 13], [0, 1, 2, 3, 4, 5, 6, 7, 8, 9, 11, 10, 12, 13], [0, 1, 2, 3, 4, 5, 10, 6, 7, 8, 9, 11, 12, 13], [0, 1, 2, 3, 4, 5, 10, 11, 6, 7, 8, 9, 12, 13], [0, 1, 2, 3, 4, 5, 11, 6, 7, 8, 9, 10, 12, 13], [0, 1, 2, 3, 4, 5, 11, 10, 6, 7, 8, 9, 12, 13]], [(0, 10), (0, 11), (4, 10), (4, 11)])), (10, ([[0, 1, 2, 3, 4, 5, 6, 7, 8, 9, 10, 11, 12, 13], [0, 1, 2, 3, 4, 5, 6, 7, 8, 9, 11, 10, 12, 13], [0, 1, 2, 3, 4, 5, 10, 6, 7, 8, 9, 11, 12, 13], [0, 1, 2, 3, 4, 5, 10, 11, 6, 7, 8, 9, 12, 13], [0, 1, 2, 3, 4, 5, 11, 6, 7, 8, 9, 10, 12, 13], [0, 1, 2, 3, 4, 5, 11, 10, 6, 7, 8, 9, 12, 13]], [(0, 10), (0, 11), (4, 10), (4, 11)])), (13, ([[0, 1, 2, 3, 4, 5, 6, 7, 8, 9, 10, 11, 14, 12, 13, 15, 16, 17, 18, 19, 20, 21]], [(4, 12)]))], reg := Sw.look [(4, ([(46, tB)], [0, 3, 8, 9, 10, 11, 12, 13])), (5, ([(15, tP)], [0, 3, 8, 10, 11, 12])), (10, ([(20, tP)], [0, 8, 10, 12]))], join := Sw.look [(7, ([(12, tS)], [0, 3, 8, 10, 11])), (13, ([(12, tS)], [0, 8, 10]))], loop := Sw.look [], blk := Sw.lookL [], res := [], anys := [] }
theorem l_Text_replace : FnOk Try.prog 56 e_Text_replace :=
 fn_ok mixed (l := [(64, e_Text_find), (68, e_Tree_part_At), (73, e_part_cut), (74, e_Text_fresh), (76, e_Tree_part_Size), (75, e_Tree_part_Replace)]) ⟨l_Text_find, l_Tree_part_At, l_part_cut, l_Text_fresh, l_Tree_part_Size, l_Tree_part_Replace, trivial⟩ (An := an_Text_replace) Try.func56 (c := Try.f56.body.getD .skip) (by kernel_rfl) Try.ntmps56 (by kernel_rfl) (fun _ _ => Try.call56 _ _) _ (by kernel_rfl) (fun x => by kernel_rfl) (by kernel_rfl)
def e_Text_Change : Shallow := ⟨[tP, tS], [tI], fun x => F_Text_Change ids x.1 x.2.1⟩
def an_Text_Change : Ann := { order := Sw.look [], reg := Sw.look [(8, ([(35, tB)], [0, 1, 6, 7]))], join := Sw.look [(6, ([], [0, 1, 6]))], loop := Sw.look [(5, ([(6, tI)], [0, 1]))], blk := Sw.lookL [(0, []), (1, [])], res := [(4, tI)], anys := [] }
theorem l_Text_Change : FnOk Try.prog 37 e_Text_Change :=
 fn_ok mixed (l := [(55, e_Text_refuse), (56, e_Text_replace)]) ⟨l_Text_refuse, l_Text_replace, trivial⟩ (An := an_Text_Change) Try.func37 (c := Try.f37.body.getD .skip) (by kernel_rfl) Try.ntmps37 (by kernel_rfl) (fun _ _ => Try.call37 _ _) _ (by kernel_rfl) (fun x => by kernel_rfl) (by kernel_rfl)
def e_law6_spliced : Shallow := ⟨[tS, tI, tI, tS], [tS], fun x => F_law6_spliced ids x.1 x.2.1 x.2.2.1 x.2.2.2.1⟩
def an_law6_spliced : Ann := { order := Sw.look [], reg := Sw.look [], join := Sw.look [], loop := Sw.look [(3, ([(9, tS), (10, tI)], [0, 2, 3])), (7, ([(9, tS), (11, tI)], [0]))], blk := Sw.lookL [(0, [(9, tS)]), (1, [(9, tS)]), (2, [(9, tS)]), (3, [(9, tS)])], res := [(8, tS)], anys := [] }
theorem l_law6_spliced : FnOk Try.prog 40 e_law6_spliced :=
 fn_ok mixed (l := [(12, e_law6_copied)]) ⟨l_law6_copied, trivial⟩ (An := an_law6_spliced) Try.func40 (c := Try.f40.body.getD .skip) (by kernel_rfl) Try.ntmps40 (by kernel_rfl) (fun _ _ => Try.call40 _ _) _ (by kernel_rfl) (fun x => by kernel_rfl) (by kernel_rfl)
def e_Both_edited : Shallow := ⟨[tP, tI, tI, tS], [tB], fun x => F_Both_edited ids x.1 x.2.1 x.2.2.1 x.2.2.2.1⟩
def an_Both_edited : Ann := { order := Sw.look [(4, ([[0, 1, 2, 3, 4, 5, 6, 7, 8, 9, 10, 11]], [(3, 7), (3, 9)]))], reg := Sw.look [], join := Sw.look [], loop := Sw.look [], blk := Sw.lookL [], res := [(8, tB)], anys := [] }
theorem l_Both_edited : FnOk Try.prog 30 e_Both_edited :=
 fn_ok mixed (l := [(14, e_law6_within), (53, e_law6_plain), (12, e_law6_copied), (37, e_Text_Change), (40, e_law6_spliced)]) ⟨l_law6_within, l_law6_plain, l_law6_copied, l_Text_Change, l_law6_spliced, trivial⟩ (An := an_Both_edited) Try.func30 (c := Try.f30.body.getD .skip) (by kernel_rfl) Try.ntmps30 (by kernel_rfl) (fun _ _ => Try.call30 _ _) _ (by kernel_rfl) (fun x => by kernel_rfl) (by kernel_rfl)
end
end Go.Proofs.Ytaebgdhdldfigaa
