/-
  Each function of the cut does what its shallow program says (the text is printed by program).
-/
import Derived.Test.YtaebgdhdldfigaaSwLlines1m
set_option maxRecDepth 100000
set_option maxHeartbeats 4000000
set_option linter.unusedVariables false
namespace Go.Proofs.Ytaebgdhdldfigaa
open Go Go.Sw
noncomputable section
def e_Text_Tags_1 : Shallow := ⟨[tI, tI, tP], [], fun x => F_Text_Tags_1 ids x.1 x.2.1 x.2.2.1⟩
def an_Text_Tags_1 : Ann := { order := Sw.look [], reg := Sw.look [], join := Sw.look [], loop := Sw.look [], blk := Sw.lookL [], res := [], anys := [] }
theorem l_Text_Tags_1 : FnOk Try.prog 47 e_Text_Tags_1 :=
 fn_ok mixed (l := []) trivial (An := an_Text_Tags_1) Try.func47 (c := Try.f47.body.getD .skip) (by kernel_rfl) Try.ntmps47 (by kernel_rfl) (fun _ _ => Try.call47 _ _) _ (by kernel_rfl) (fun x => by kernel_rfl) (by kernel_rfl)
def e_Text_Atoms_1 : Shallow := ⟨[tI, tI, tP], [], fun x => F_Text_Atoms_1 ids x.1 x.2.1 x.2.2.1⟩
def an_Text_Atoms_1 : Ann := { order := Sw.look [], reg := Sw.look [], join := Sw.look [], loop := Sw.look [], blk := Sw.lookL [], res := [], anys := [] }
theorem l_Text_Atoms_1 : FnOk Try.prog 51 e_Text_Atoms_1 :=
 fn_ok mixed (l := []) trivial (An := an_Text_Atoms_1) Try.func51 (c := Try.f51.body.getD .skip) (by kernel_rfl) Try.ntmps51 (by kernel_rfl) (fun _ _ => Try.call51 _ _) _ (by kernel_rfl) (fun x => by kernel_rfl) (by kernel_rfl)
def e_lines_All_1 : Shallow := ⟨[(.one .any), tP], [], fun x => F_lines_All_1 ids x.1 x.2.1⟩
def an_lines_All_1 : Ann := { order := Sw.look [], reg := Sw.look [(4, ([(39, tB)], [0, 1, 3]))], join := Sw.look [], loop := Sw.look [(2, ([(3, tI)], [0, 1]))], blk := Sw.lookL [(0, []), (1, [])], res := [], anys := [0, 34] }
theorem l_lines_All_1 : FnOk Try.prog 52 e_lines_All_1 :=
 fn_ok mixed (l := [(19, e_lines_At)]) ⟨l_lines_At, trivial⟩ (An := an_lines_All_1) Try.func52 (c := Try.f52.body.getD .skip) (by kernel_rfl) Try.ntmps52 (by kernel_rfl) (fun _ _ => Try.call52 _ _) _ (by kernel_rfl) (fun x => by kernel_rfl) (by kernel_rfl)
def e_Tree_part_Items_1 : Shallow := ⟨[(.one .any), tP, tP], [], fun x => F_Tree_part_Items_1 ids x.1 x.2.1 x.2.2.1⟩
def an_Tree_part_Items_1 : Ann := { order := Sw.look [], reg := Sw.look [], join := Sw.look [], loop := Sw.look [], blk := Sw.lookL [], res := [], anys := [0, 6] }
theorem l_Tree_part_Items_1 : FnOk Try.prog 81 e_Tree_part_Items_1 :=
 fn_ok mixed (l := []) trivial (An := an_Tree_part_Items_1) Try.func81 (c := Try.f81.body.getD .skip) (by kernel_rfl) Try.ntmps81 (by kernel_rfl) (fun _ _ => Try.call81 _ _) _ (by kernel_rfl) (fun x => by kernel_rfl) (by kernel_rfl)
def e_Tree_part_Items_1_1 : Shallow := ⟨[tP, tI, tP, tP], [tB], fun x => F_Tree_part_Items_1_1 ids x.1 x.2.1 x.2.2.1 x.2.2.2.1⟩
def an_Tree_part_Items_1_1 : Ann := { order := Sw.look [(4, ([[0, 1, 2, 3, 4, 5, 6, 7, 8, 9, 10, 11, 12]], [])), (6, ([[0, 1, 2, 3, 4, 5, 6, 7, 8, 9, 10, 11]], [])), (8, ([[0, 1, 2, 3, 4, 5, 6, 7, 8, 9, 10, 11]], []))], reg := Sw.look [(1, ([(17, tB)], [0, 1, 2, 3])), (4, ([(35, tB)], [0, 1, 2, 3, 7])), (6, ([(47, tB)], [0, 1, 2, 7]))], join := Sw.look [], loop := Sw.look [], blk := Sw.lookL [], res := [(6, tB)], anys := [27, 40, 48] }
theorem l_Tree_part_Items_1_1 : FnOk Try.prog 82 e_Tree_part_Items_1_1 :=
 fn_ok mixed (l := [(83, e_node_part_count)]) ⟨l_node_part_count, trivial⟩ (An := an_Tree_part_Items_1_1) Try.func82 (c := Try.f82.body.getD .skip) (by kernel_rfl) Try.ntmps82 (by kernel_rfl) (fun _ _ => Try.call82 _ _) _ (by kernel_rfl) (fun x => by kernel_rfl) (by kernel_rfl)
def e_codec_bounds : Shallow := ⟨[(.one (.int .u8))], [tI, (.one (.int .u8)), (.one (.int .u8))], fun x => F_codec_bounds ids x.1⟩
def an_codec_bounds : Ann := { order := Sw.look [], reg := Sw.look [], join := Sw.look [], loop := Sw.look [], blk := Sw.lookL [(0, [])], res := [(2, tI), (3, (.one (.int .u8))), (4, (.one (.int .u8)))], anys := [] }
theorem l_codec_bounds : FnOk Try.prog 125 e_codec_bounds :=
 fn_ok mixed (l := []) trivial (An := an_codec_bounds) Try.func125 (c := Try.f125.body.getD .skip) (by kernel_rfl) Try.ntmps125 (by kernel_rfl) (fun _ _ => Try.call125 _ _) _ (by kernel_rfl) (fun x => by kernel_rfl) (by kernel_rfl)
def e_codec_row : Shallow := ⟨[tS], [tI, tI], fun x => F_codec_row ids x.1⟩
def an_codec_row : Ann := { order := Sw.look [], reg := Sw.look [(4, ([(36, tB)], [0, 4])), (7, ([(54, tB)], [0, 4, 7]))], join := Sw.look [], loop := Sw.look [(7, ([(7, tI)], [0, 4]))], blk := Sw.lookL [(0, [(7, tI)]), (1, [(7, tI)])], res := [(2, tI), (3, tI)], anys := [] }
theorem l_codec_row : FnOk Try.prog 124 e_codec_row :=
 fn_ok mixed (l := [(125, e_codec_bounds)]) ⟨l_codec_bounds, trivial⟩ (An := an_codec_row) Try.func124 (c := Try.f124.body.getD .skip) (by kernel_rfl) Try.ntmps124 (by kernel_rfl) (fun _ _ => Try.call124 _ _) _ (by kernel_rfl) (fun x => by kernel_rfl) (by kernel_rfl)
def e_eight_first : Shallow := ⟨[(.agg []), tS], [tI, tI], fun x => F_eight_first ids x.1 x.2.1⟩
def an_eight_first : Ann := { order := Sw.look [], reg := Sw.look [(2, ([(22, tB)], [1, 7]))], join := Sw.look [(12, ([(8, tI)], [1, 7]))], loop := Sw.look [(13, ([(8, tI), (49, tI)], [7, 47, 48]))], blk := Sw.lookL [(0, [(8, tI)]), (1, [(8, tI)]), (2, [(8, tI)])], res := [(4, tI), (5, tI)], anys := [] }
theorem l_eight_first : FnOk Try.prog 119 e_eight_first :=
 fn_ok mixed (l := [(124, e_codec_row)]) ⟨l_codec_row, trivial⟩ (An := an_eight_first) Try.func119 (c := Try.f119.body.getD .skip) (by kernel_rfl) Try.ntmps119 (by kernel_rfl) (fun _ _ => Try.call119 _ _) _ (by kernel_rfl) (fun x => by kernel_rfl) (by kernel_rfl)
def e_eight_size : Shallow := ⟨[(.agg []), tI], [tI], fun x => F_eight_size ids x.1 x.2.1⟩
def an_eight_size : Ann := { order := Sw.look [], reg := Sw.look [(1, ([(5, tB)], [1]))], join := Sw.look [], loop := Sw.look [], blk := Sw.lookL [(0, [])], res := [(4, tI)], anys := [] }
theorem l_eight_size : FnOk Try.prog 123 e_eight_size :=
 fn_ok mixed (l := []) trivial (An := an_eight_size) Try.func123 (c := Try.f123.body.getD .skip) (by kernel_rfl) Try.ntmps123 (by kernel_rfl) (fun _ _ => Try.call123 _ _) _ (by kernel_rfl) (fun x => by kernel_rfl) (by kernel_rfl)
def e_eight_put : Shallow := ⟨[(.agg []), tS, tI], [tS], fun x => F_eight_put ids x.1 x.2.1 x.2.2.1⟩
def an_eight_put : Ann := { order := Sw.look [(7, ([[0, 1, 2, 3, 4, 5, 6, 7, 8, 9, 10, 11, 12, 13]], []))], reg := Sw.look [], join := Sw.look [], loop := Sw.look [(9, ([(1, tS), (9, tI)], [2]))], blk := Sw.lookL [(0, [(1, tS)]), (1, [(1, tS)])], res := [(6, tS)], anys := [] }
theorem l_eight_put : FnOk Try.prog 122 e_eight_put :=
 fn_ok mixed (l := [(123, e_eight_size)]) ⟨l_eight_size, trivial⟩ (An := an_eight_put) Try.func122 (c := Try.f122.body.getD .skip) (by kernel_rfl) Try.ntmps122 (by kernel_rfl) (fun _ _ => Try.call122 _ _) _ (by kernel_rfl) (fun x => by kernel_rfl) (by kernel_rfl)
def e_sixteen_unit : Shallow := ⟨[(.agg [bI]), tS], [tI], fun x => F_sixteen_unit ids x.1 x.2.1⟩
def an_sixteen_unit : Ann := { order := Sw.look [(1, ([[0, 1, 2, 3, 4, 5, 6, 7, 8, 9, 10, 11, 12, 13, 14, 15]], []))], reg := Sw.look [], join := Sw.look [], loop := Sw.look [], blk := Sw.lookL [], res := [(4, tI)], anys := [] }
theorem l_sixteen_unit : FnOk Try.prog 131 e_sixteen_unit :=
 fn_ok mixed (l := []) trivial (An := an_sixteen_unit) Try.func131 (c := Try.f131.body.getD .skip) (by kernel_rfl) Try.ntmps131 (by kernel_rfl) (fun _ _ => Try.call131 _ _) _ (by kernel_rfl) (fun x => by kernel_rfl) (by kernel_rfl)
def e_codec_high : Shallow := ⟨[tI], [tB], fun x => F_codec_high ids x.1⟩
def an_codec_high : Ann := { order := Sw.look [], reg := Sw.look [], join := Sw.look [], loop := Sw.look [], blk := Sw.lookL [], res := [(2, tB)], anys := [] }
theorem l_codec_high : FnOk Try.prog 132 e_codec_high :=
 fn_ok mixed (l := []) trivial (An := an_codec_high) Try.func132 (c := Try.f132.body.getD .skip) (by kernel_rfl) Try.ntmps132 (by kernel_rfl) (fun _ _ => Try.call132 _ _) _ (by kernel_rfl) (fun x => by kernel_rfl) (by kernel_rfl)
def e_codec_low : Shallow := ⟨[tI], [tB], fun x => F_codec_low ids x.1⟩
def an_codec_low : Ann := { order := Sw.look [], reg := Sw.look [], join := Sw.look [], loop := Sw.look [], blk := Sw.lookL [], res := [(2, tB)], anys := [] }
theorem l_codec_low : FnOk Try.prog 133 e_codec_low :=
 fn_ok mixed (l := []) trivial (An := an_codec_low) Try.func133 (c := Try.f133.body.getD .skip) (by kernel_rfl) Try.ntmps133 (by kernel_rfl) (fun _ _ => Try.call133 _ _) _ (by kernel_rfl) (fun x => by kernel_rfl) (by kernel_rfl)
def e_sixteen_first : Shallow := ⟨[(.agg [bI]), tS], [tI, tI], fun x => F_sixteen_first ids x.1 x.2.1⟩
def an_sixteen_first : Ann := { order := Sw.look [(5, ([[0, 1, 2, 3, 4]], []))], reg := Sw.look [(4, ([(25, tB)], [1, 2, 6]))], join := Sw.look [(8, ([], [6]))], loop := Sw.look [], blk := Sw.lookL [], res := [(4, tI), (5, tI)], anys := [] }
theorem l_sixteen_first : FnOk Try.prog 126 e_sixteen_first :=
 fn_ok mixed (l := [(131, e_sixteen_unit), (132, e_codec_high), (133, e_codec_low)]) ⟨l_sixteen_unit, l_codec_high, l_codec_low, trivial⟩ (An := an_sixteen_first) Try.func126 (c := Try.f126.body.getD .skip) (by kernel_rfl) Try.ntmps126 (by kernel_rfl) (fun _ _ => Try.call126 _ _) _ (by kernel_rfl) (fun x => by kernel_rfl) (by kernel_rfl)
def e_sixteen_half : Shallow := ⟨[(.agg [bI]), tS, tI], [tS], fun x => F_sixteen_half ids x.1 x.2.1 x.2.2.1⟩
def an_sixteen_half : Ann := { order := Sw.look [(2, ([[0, 1, 2, 3, 4, 5, 6, 7, 8, 9, 10, 11, 12, 13]], [(3, 11)]))], reg := Sw.look [], join := Sw.look [], loop := Sw.look [], blk := Sw.lookL [], res := [(6, tS)], anys := [] }
theorem l_sixteen_half : FnOk Try.prog 134 e_sixteen_half :=
 fn_ok mixed (l := []) trivial (An := an_sixteen_half) Try.func134 (c := Try.f134.body.getD .skip) (by kernel_rfl) Try.ntmps134 (by kernel_rfl) (fun _ _ => Try.call134 _ _) _ (by kernel_rfl) (fun x => by kernel_rfl) (by kernel_rfl)
def e_sixteen_put : Shallow := ⟨[(.agg [bI]), tS, tI], [tS], fun x => F_sixteen_put ids x.1 x.2.1 x.2.2.1⟩
def an_sixteen_put : Ann := { order := Sw.look [(5, ([[0, 1, 2, 3, 4, 5, 6, 8, 9, 10, 7, 11, 12]], [(0, 7)]))], reg := Sw.look [], join := Sw.look [], loop := Sw.look [], blk := Sw.lookL [(0, [])], res := [(6, tS)], anys := [] }
theorem l_sixteen_put : FnOk Try.prog 129 e_sixteen_put :=
 fn_ok mixed (l := [(134, e_sixteen_half)]) ⟨l_sixteen_half, trivial⟩ (An := an_sixteen_put) Try.func129 (c := Try.f129.body.getD .skip) (by kernel_rfl) Try.ntmps129 (by kernel_rfl) (fun _ _ => Try.call129 _ _) _ (by kernel_rfl) (fun x => by kernel_rfl) (by kernel_rfl)
def e_sixteen_size : Shallow := ⟨[(.agg [bI]), tI], [tI], fun x => F_sixteen_size ids x.1 x.2.1⟩
def an_sixteen_size : Ann := { order := Sw.look [], reg := Sw.look [(1, ([(5, tB)], [1]))], join := Sw.look [], loop := Sw.look [], blk := Sw.lookL [(0, [])], res := [(4, tI)], anys := [] }
theorem l_sixteen_size : FnOk Try.prog 130 e_sixteen_size :=
 fn_ok mixed (l := []) trivial (An := an_sixteen_size) Try.func130 (c := Try.f130.body.getD .skip) (by kernel_rfl) Try.ntmps130 (by kernel_rfl) (fun _ _ => Try.call130 _ _) _ (by kernel_rfl) (fun x => by kernel_rfl) (by kernel_rfl)
def e_latin_first : Shallow := ⟨[(.agg []), tS], [tI, tI], fun x => F_latin_first ids x.1 x.2.1⟩
def an_latin_first : Ann := { order := Sw.look [], reg := Sw.look [], join := Sw.look [], loop := Sw.look [], blk := Sw.lookL [], res := [(4, tI), (5, tI)], anys := [] }
theorem l_latin_first : FnOk Try.prog 135 e_latin_first :=
 fn_ok mixed (l := []) trivial (An := an_latin_first) Try.func135 (c := Try.f135.body.getD .skip) (by kernel_rfl) Try.ntmps135 (by kernel_rfl) (fun _ _ => Try.call135 _ _) _ (by kernel_rfl) (fun x => by kernel_rfl) (by kernel_rfl)
def e_latin_put : Shallow := ⟨[(.agg []), tS, tI], [tS], fun x => F_latin_put ids x.1 x.2.1 x.2.2.1⟩
def an_latin_put : Ann := { order := Sw.look [], reg := Sw.look [], join := Sw.look [], loop := Sw.look [], blk := Sw.lookL [], res := [(6, tS)], anys := [] }
theorem l_latin_put : FnOk Try.prog 138 e_latin_put :=
 fn_ok mixed (l := []) trivial (An := an_latin_put) Try.func138 (c := Try.f138.body.getD .skip) (by kernel_rfl) Try.ntmps138 (by kernel_rfl) (fun _ _ => Try.call138 _ _) _ (by kernel_rfl) (fun x => by kernel_rfl) (by kernel_rfl)
def e_latin_size : Shallow := ⟨[(.agg []), tI], [tI], fun x => F_latin_size ids x.1 x.2.1⟩
def an_latin_size : Ann := { order := Sw.look [], reg := Sw.look [(1, ([(10, tB)], []))], join := Sw.look [], loop := Sw.look [], blk := Sw.lookL [], res := [(4, tI)], anys := [] }
theorem l_latin_size : FnOk Try.prog 139 e_latin_size :=
 fn_ok mixed (l := []) trivial (An := an_latin_size) Try.func139 (c := Try.f139.body.getD .skip) (by kernel_rfl) Try.ntmps139 (by kernel_rfl) (fun _ _ => Try.call139 _ _) _ (by kernel_rfl) (fun x => by kernel_rfl) (by kernel_rfl)
end
end Go.Proofs.Ytaebgdhdldfigaa
