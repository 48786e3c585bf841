/-
  Each function of the cut does what its shallow program says (the text is printed by program).
-/
import Derived.Test.YtaebgdhdldfigaaGreatSwLlinesZ1m
set_option maxRecDepth 100000
set_option maxHeartbeats 4000000
set_option linter.unusedVariables false
namespace Go.Proofs.YtaebgdhdldfigaaGreat
open Go Go.Sw
noncomputable section
def e_lines_Whole : Shallow := ⟨[tP, tI, tI], [(.agg [bI, bI, bI]), tI], fun x => F_lines_Whole ids x.1 x.2.1 x.2.2.1⟩
def an_lines_Whole : Ann := { order := Sw.look [], reg := Sw.look [(1, ([(27, tB)], [0, 1, 2, 6])), (6, ([(52, tB)], [0, 1, 6, 12]))], join := Sw.look [(10, ([], [6, 12]))], loop := Sw.look [], blk := Sw.lookL [], res := [(6, tP), (7, tI)], anys := [] }
theorem l_lines_Whole : FnOk Tryz.prog 61 e_lines_Whole :=
 fn_ok mixed (l := [(13, e_lines_Count), (48, e_lines_At)]) ⟨l_lines_Count, l_lines_At, trivial⟩ (An := an_lines_Whole) Tryz.func61 (c := Tryz.f61.body.getD .skip) (by kernel_rfl) Tryz.ntmps61 (by kernel_rfl) (fun _ _ => Tryz.call61 _ _) _ (by kernel_rfl) (fun x => by kernel_rfl) (by kernel_rfl)
def e_ref6_Whole : Shallow := ⟨[tS, tI, tI], [tI, tI, tI], fun x => F_ref6_Whole ids x.1 x.2.1 x.2.2.1⟩
def an_ref6_Whole : Ann := { order := Sw.look [(4, ([[0, 1, 2, 3, 4, 5, 6, 7, 8, 9, 10, 11, 12, 13, 14, 15, 16, 17, 18, 19, 20, 21, 22, 23, 24]], [])), (5, ([[0, 1, 2, 3, 4, 5, 6, 7, 8, 9, 10, 11, 12, 13]], [])), (6, ([[0, 1, 2, 3, 4, 5, 6, 7, 8, 9, 10, 11, 12]], []))], reg := Sw.look [(2, ([(27, tB)], [1, 2, 9])), (4, ([(52, tB)], [1, 2, 9]))], join := Sw.look [], loop := Sw.look [], blk := Sw.lookL [], res := [(6, tI), (7, tI), (8, tI)], anys := [] }
theorem l_ref6_Whole : FnOk Tryz.prog 62 e_ref6_Whole :=
 fn_ok mixed (l := [(21, e_ref6_All)]) ⟨l_ref6_All, trivial⟩ (An := an_ref6_Whole) Tryz.func62 (c := Tryz.f62.body.getD .skip) (by kernel_rfl) Tryz.ntmps62 (by kernel_rfl) (fun _ _ => Tryz.call62 _ _) _ (by kernel_rfl) (fun x => by kernel_rfl) (by kernel_rfl)
def e_Both_wholes : Shallow := ⟨[tP, (.agg [bI, bI, bI, bI, .sl])], [tB], fun x => F_Both_wholes ids x.1 x.2.1⟩
def an_Both_wholes : Ann := { order := Sw.look [(1, ([[0, 1, 2, 3, 4, 5, 6, 7, 8, 9, 10, 11, 12, 13, 14], [0, 1, 2, 3, 4, 5, 6, 7, 12, 8, 9, 10, 11, 13, 14]], [(3, 12), (5, 12), (7, 12)])), (2, ([[0, 1, 2, 3, 4, 5, 6, 7, 8, 9, 10, 11, 12, 13, 14, 15]], []))], reg := Sw.look [(1, ([(5, tP), (6, tI)], [0, 3])), (6, ([(4, tB)], []))], join := Sw.look [(6, ([(10, tI)], [5, 6, 7, 8, 9]))], loop := Sw.look [], blk := Sw.lookL [], res := [(4, tB)], anys := [] }
theorem l_Both_wholes : FnOk Tryz.prog 29 e_Both_wholes :=
 fn_ok mixed (l := [(61, e_lines_Whole), (62, e_ref6_Whole)]) ⟨l_lines_Whole, l_ref6_Whole, trivial⟩ (An := an_Both_wholes) Tryz.func29 (c := Tryz.f29.body.getD .skip) (by kernel_rfl) Tryz.ntmps29 (by kernel_rfl) (fun _ _ => Tryz.call29 _ _) _ (by kernel_rfl) (fun x => by kernel_rfl) (by kernel_rfl)
def e_Both_played : Shallow := ⟨[tP, (.agg [bI, bI, bI, bI, .sl]), tI, tI], [tB], fun x => F_Both_played ids x.1 x.2.1 x.2.2.1 x.2.2.2.1⟩
def an_Both_played : Ann := { order := Sw.look [(13, ([[0, 1, 2, 3, 4, 5, 7, 8, 9, 10, 11, 12, 6, 13, 14, 15]], [(10, 6), (12, 6)]))], reg := Sw.look [(3, ([(29, tB)], [0, 5]))], join := Sw.look [(20, ([], []))], loop := Sw.look [], blk := Sw.lookL [(0, [])], res := [(8, tB)], anys := [] }
theorem l_Both_played : FnOk Tryz.prog 15 e_Both_played :=
 fn_ok mixed (l := [(22, e_Both_edited), (23, e_Both_counts), (24, e_Both_ats), (25, e_lines_Of), (26, e_ref6_Of), (27, e_Both_alls), (28, e_Both_typeds), (29, e_Both_wholes)]) ⟨l_Both_edited, l_Both_counts, l_Both_ats, l_lines_Of, l_ref6_Of, l_Both_alls, l_Both_typeds, l_Both_wholes, trivial⟩ (An := an_Both_played) Tryz.func15 (c := Tryz.f15.body.getD .skip) (by kernel_rfl) Tryz.ntmps15 (by kernel_rfl) (fun _ _ => Tryz.call15 _ _) _ (by kernel_rfl) (fun x => by kernel_rfl) (by kernel_rfl)
def e_law6_run : Shallow := ⟨[(.agg [bI, .sl]), (.agg [bI, .sl]), tS, tI, tI], [tB], fun x => F_law6_run ids x.1 x.2.1 x.2.2.1 x.2.2.2.1 x.2.2.2.2.1⟩
def an_law6_run : Ann := { order := Sw.look [(2, ([[0, 1, 2, 3, 4, 6, 7, 5, 8, 9, 10]], [(7, 5)]))], reg := Sw.look [(2, ([(30, tB)], [2, 3, 4, 6, 11])), (8, ([(45, tB)], [2, 3, 4, 11, 13, 14]))], join := Sw.look [(13, ([(12, tB)], [2, 3, 4, 11, 13, 14]))], loop := Sw.look [(8, ([(14, tI)], [2, 3, 4, 11, 13]))], blk := Sw.lookL [(0, []), (1, [])], res := [(10, tB)], anys := [] }
theorem l_law6_run : FnOk Tryz.prog 11 e_law6_run :=
 fn_ok mixed (l := [(12, e_law6_opened), (13, e_lines_Count), (14, e_ref6_Count), (15, e_Both_played)]) ⟨l_law6_opened, l_lines_Count, l_ref6_Count, l_Both_played, trivial⟩ (An := an_law6_run) Tryz.func11 (c := Tryz.f11.body.getD .skip) (by kernel_rfl) Tryz.ntmps11 (by kernel_rfl) (fun _ _ => Tryz.call11 _ _) _ (by kernel_rfl) (fun x => by kernel_rfl) (by kernel_rfl)
def e_law6_LinesCounts : Shallow := ⟨[(.agg [bI, .sl]), (.agg [bI, .sl]), tS], [tB], fun x => F_law6_LinesCounts ids x.1 x.2.1 x.2.2.1⟩
def an_law6_LinesCounts : Ann := { order := Sw.look [], reg := Sw.look [], join := Sw.look [], loop := Sw.look [], blk := Sw.lookL [], res := [(6, tB)], anys := [] }
theorem l_law6_LinesCounts : FnOk Tryz.prog 3 e_law6_LinesCounts :=
 fn_ok mixed (l := [(11, e_law6_run)]) ⟨l_law6_run, trivial⟩ (An := an_law6_LinesCounts) Tryz.func3 (c := Tryz.f3.body.getD .skip) (by kernel_rfl) Tryz.ntmps3 (by kernel_rfl) (fun _ _ => Tryz.call3 _ _) _ (by kernel_rfl) (fun x => by kernel_rfl) (by kernel_rfl)
def e_law6_LinesAt : Shallow := ⟨[(.agg [bI, .sl]), (.agg [bI, .sl]), tS], [tB], fun x => F_law6_LinesAt ids x.1 x.2.1 x.2.2.1⟩
def an_law6_LinesAt : Ann := { order := Sw.look [], reg := Sw.look [], join := Sw.look [], loop := Sw.look [], blk := Sw.lookL [], res := [(6, tB)], anys := [] }
theorem l_law6_LinesAt : FnOk Tryz.prog 4 e_law6_LinesAt :=
 fn_ok mixed (l := [(11, e_law6_run)]) ⟨l_law6_run, trivial⟩ (An := an_law6_LinesAt) Tryz.func4 (c := Tryz.f4.body.getD .skip) (by kernel_rfl) Tryz.ntmps4 (by kernel_rfl) (fun _ _ => Tryz.call4 _ _) _ (by kernel_rfl) (fun x => by kernel_rfl) (by kernel_rfl)
def e_law6_LinesOf : Shallow := ⟨[(.agg [bI, .sl]), (.agg [bI, .sl]), tS], [tB], fun x => F_law6_LinesOf ids x.1 x.2.1 x.2.2.1⟩
def an_law6_LinesOf : Ann := { order := Sw.look [], reg := Sw.look [], join := Sw.look [], loop := Sw.look [], blk := Sw.lookL [], res := [(6, tB)], anys := [] }
theorem l_law6_LinesOf : FnOk Tryz.prog 5 e_law6_LinesOf :=
 fn_ok mixed (l := [(11, e_law6_run)]) ⟨l_law6_run, trivial⟩ (An := an_law6_LinesOf) Tryz.func5 (c := Tryz.f5.body.getD .skip) (by kernel_rfl) Tryz.ntmps5 (by kernel_rfl) (fun _ _ => Tryz.call5 _ _) _ (by kernel_rfl) (fun x => by kernel_rfl) (by kernel_rfl)
def e_law6_LinesKinds : Shallow := ⟨[(.agg [bI, .sl]), (.agg [bI, .sl]), tS], [tB], fun x => F_law6_LinesKinds ids x.1 x.2.1 x.2.2.1⟩
def an_law6_LinesKinds : Ann := { order := Sw.look [], reg := Sw.look [], join := Sw.look [], loop := Sw.look [], blk := Sw.lookL [], res := [(6, tB)], anys := [] }
theorem l_law6_LinesKinds : FnOk Tryz.prog 6 e_law6_LinesKinds :=
 fn_ok mixed (l := [(11, e_law6_run)]) ⟨l_law6_run, trivial⟩ (An := an_law6_LinesKinds) Tryz.func6 (c := Tryz.f6.body.getD .skip) (by kernel_rfl) Tryz.ntmps6 (by kernel_rfl) (fun _ _ => Tryz.call6 _ _) _ (by kernel_rfl) (fun x => by kernel_rfl) (by kernel_rfl)
def e_law6_LinesGone : Shallow := ⟨[(.agg [bI, .sl]), (.agg [bI, .sl]), tS], [tB], fun x => F_law6_LinesGone ids x.1 x.2.1 x.2.2.1⟩
def an_law6_LinesGone : Ann := { order := Sw.look [], reg := Sw.look [], join := Sw.look [], loop := Sw.look [], blk := Sw.lookL [], res := [(6, tB)], anys := [] }
theorem l_law6_LinesGone : FnOk Tryz.prog 7 e_law6_LinesGone :=
 fn_ok mixed (l := [(11, e_law6_run)]) ⟨l_law6_run, trivial⟩ (An := an_law6_LinesGone) Tryz.func7 (c := Tryz.f7.body.getD .skip) (by kernel_rfl) Tryz.ntmps7 (by kernel_rfl) (fun _ _ => Tryz.call7 _ _) _ (by kernel_rfl) (fun x => by kernel_rfl) (by kernel_rfl)
def e_law6_LinesTyped : Shallow := ⟨[(.agg [bI, .sl]), (.agg [bI, .sl]), tS], [tB], fun x => F_law6_LinesTyped ids x.1 x.2.1 x.2.2.1⟩
def an_law6_LinesTyped : Ann := { order := Sw.look [], reg := Sw.look [], join := Sw.look [], loop := Sw.look [], blk := Sw.lookL [], res := [(6, tB)], anys := [] }
theorem l_law6_LinesTyped : FnOk Tryz.prog 8 e_law6_LinesTyped :=
 fn_ok mixed (l := [(11, e_law6_run)]) ⟨l_law6_run, trivial⟩ (An := an_law6_LinesTyped) Tryz.func8 (c := Tryz.f8.body.getD .skip) (by kernel_rfl) Tryz.ntmps8 (by kernel_rfl) (fun _ _ => Tryz.call8 _ _) _ (by kernel_rfl) (fun x => by kernel_rfl) (by kernel_rfl)
def e_law6_LinesWhole : Shallow := ⟨[(.agg [bI, .sl]), (.agg [bI, .sl]), tS], [tB], fun x => F_law6_LinesWhole ids x.1 x.2.1 x.2.2.1⟩
def an_law6_LinesWhole : Ann := { order := Sw.look [], reg := Sw.look [], join := Sw.look [], loop := Sw.look [], blk := Sw.lookL [], res := [(6, tB)], anys := [] }
theorem l_law6_LinesWhole : FnOk Tryz.prog 9 e_law6_LinesWhole :=
 fn_ok mixed (l := [(11, e_law6_run)]) ⟨l_law6_run, trivial⟩ (An := an_law6_LinesWhole) Tryz.func9 (c := Tryz.f9.body.getD .skip) (by kernel_rfl) Tryz.ntmps9 (by kernel_rfl) (fun _ _ => Tryz.call9 _ _) _ (by kernel_rfl) (fun x => by kernel_rfl) (by kernel_rfl)
def e_law6_LinesScript : Shallow := ⟨[(.agg [bI, .sl]), (.agg [bI, .sl]), tS], [tB], fun x => F_law6_LinesScript ids x.1 x.2.1 x.2.2.1⟩
def an_law6_LinesScript : Ann := { order := Sw.look [], reg := Sw.look [], join := Sw.look [], loop := Sw.look [], blk := Sw.lookL [], res := [(6, tB)], anys := [] }
theorem l_law6_LinesScript : FnOk Tryz.prog 10 e_law6_LinesScript :=
 fn_ok mixed (l := [(11, e_law6_run)]) ⟨l_law6_run, trivial⟩ (An := an_law6_LinesScript) Tryz.func10 (c := Tryz.f10.body.getD .skip) (by kernel_rfl) Tryz.ntmps10 (by kernel_rfl) (fun _ _ => Tryz.call10 _ _) _ (by kernel_rfl) (fun x => by kernel_rfl) (by kernel_rfl)
def e_Walk_met : Shallow := ⟨[tP, tI, (.agg [bI, bI, bI, bI])], [tB], fun x => F_Walk_met ids x.1 x.2.1 x.2.2.1⟩
def an_Walk_met : Ann := { order := Sw.look [(1, ([[0, 1, 2, 3, 4, 5, 6, 7, 8, 9, 10, 11, 12, 13, 14, 15, 16, 17, 18, 19, 20, 21, 22, 23, 24, 25, 26, 27, 28, 29, 30, 31, 32, 33, 34, 35, 36, 37]], [])), (6, ([[0, 1, 2, 3, 4, 5, 6, 7, 8, 9, 10, 11, 12]], []))], reg := Sw.look [(1, ([(44, tB)], [0]))], join := Sw.look [], loop := Sw.look [], blk := Sw.lookL [], res := [(6, tB)], anys := [] }
theorem l_Walk_met : FnOk Tryz.prog 53 e_Walk_met :=
 fn_ok mixed (l := [(50, e_law6_line)]) ⟨l_law6_line, trivial⟩ (An := an_Walk_met) Tryz.func53 (c := Tryz.f53.body.getD .skip) (by kernel_rfl) Tryz.ntmps53 (by kernel_rfl) (fun _ _ => Tryz.call53 _ _) _ (by kernel_rfl) (fun x => by kernel_rfl) (by kernel_rfl)
def e_Both_alls_1 : Shallow := ⟨[tI, (.agg [bI, bI, bI, bI]), tP], [tB], fun x => F_Both_alls_1 ids x.1 x.2.1 x.2.2.1⟩
def an_Both_alls_1 : Ann := { order := Sw.look [], reg := Sw.look [], join := Sw.look [], loop := Sw.look [], blk := Sw.lookL [], res := [(5, tB)], anys := [] }
theorem l_Both_alls_1 : FnOk Tryz.prog 52 e_Both_alls_1 :=
 fn_ok mixed (l := [(53, e_Walk_met)]) ⟨l_Walk_met, trivial⟩ (An := an_Both_alls_1) Tryz.func52 (c := Tryz.f52.body.getD .skip) (by kernel_rfl) Tryz.ntmps52 (by kernel_rfl) (fun _ _ => Tryz.call52 _ _) _ (by kernel_rfl) (fun x => by kernel_rfl) (by kernel_rfl)
def e_Both_alls_2 : Shallow := ⟨[tI, (.agg [bI, bI, bI, bI]), tP], [tB], fun x => F_Both_alls_2 ids x.1 x.2.1 x.2.2.1⟩
def an_Both_alls_2 : Ann := { order := Sw.look [], reg := Sw.look [], join := Sw.look [], loop := Sw.look [], blk := Sw.lookL [], res := [(5, tB)], anys := [] }
theorem l_Both_alls_2 : FnOk Tryz.prog 54 e_Both_alls_2 :=
 fn_ok mixed (l := [(53, e_Walk_met)]) ⟨l_Walk_met, trivial⟩ (An := an_Both_alls_2) Tryz.func54 (c := Tryz.f54.body.getD .skip) (by kernel_rfl) Tryz.ntmps54 (by kernel_rfl) (fun _ _ => Tryz.call54 _ _) _ (by kernel_rfl) (fun x => by kernel_rfl) (by kernel_rfl)
def e_Both_alls_3 : Shallow := ⟨[tI, (.agg [bI, bI, bI, bI]), tP, tP, tP], [tB], fun x => F_Both_alls_3 ids x.1 x.2.1 x.2.2.1 x.2.2.2.1 x.2.2.2.2.1⟩
def an_Both_alls_3 : Ann := { order := Sw.look [], reg := Sw.look [], join := Sw.look [(3, ([], [0, 4, 6]))], loop := Sw.look [], blk := Sw.lookL [], res := [(7, tB)], anys := [10] }
theorem l_Both_alls_3 : FnOk Tryz.prog 55 e_Both_alls_3 :=
 fn_ok mixed (l := [(53, e_Walk_met)]) ⟨l_Walk_met, trivial⟩ (An := an_Both_alls_3) Tryz.func55 (c := Tryz.f55.body.getD .skip) (by kernel_rfl) Tryz.ntmps55 (by kernel_rfl) (fun _ _ => Tryz.call55 _ _) _ (by kernel_rfl) (fun x => by kernel_rfl) (by kernel_rfl)
def e_Both_alls_3_1 : Shallow := ⟨[tI, (.agg [bI, bI, bI, bI]), tP], [tB], fun x => F_Both_alls_3_1 ids x.1 x.2.1 x.2.2.1⟩
def an_Both_alls_3_1 : Ann := { order := Sw.look [], reg := Sw.look [], join := Sw.look [], loop := Sw.look [], blk := Sw.lookL [], res := [(5, tB)], anys := [] }
theorem l_Both_alls_3_1 : FnOk Tryz.prog 56 e_Both_alls_3_1 :=
 fn_ok mixed (l := [(53, e_Walk_met)]) ⟨l_Walk_met, trivial⟩ (An := an_Both_alls_3_1) Tryz.func56 (c := Tryz.f56.body.getD .skip) (by kernel_rfl) Tryz.ntmps56 (by kernel_rfl) (fun _ _ => Tryz.call56 _ _) _ (by kernel_rfl) (fun x => by kernel_rfl) (by kernel_rfl)
def e_Text_Atoms_1 : Shallow := ⟨[tI, tI, tP], [], fun x => F_Text_Atoms_1 ids x.1 x.2.1 x.2.2.1⟩
def an_Text_Atoms_1 : Ann := { order := Sw.look [], reg := Sw.look [], join := Sw.look [], loop := Sw.look [], blk := Sw.lookL [], res := [], anys := [] }
theorem l_Text_Atoms_1 : FnOk Tryz.prog 74 e_Text_Atoms_1 :=
 fn_ok mixed (l := []) trivial (An := an_Text_Atoms_1) Tryz.func74 (c := Tryz.f74.body.getD .skip) (by kernel_rfl) Tryz.ntmps74 (by kernel_rfl) (fun _ _ => Tryz.call74 _ _) _ (by kernel_rfl) (fun x => by kernel_rfl) (by kernel_rfl)
def e_lines_All_1 : Shallow := ⟨[(.one .any), tP], [], fun x => F_lines_All_1 ids x.1 x.2.1⟩
def an_lines_All_1 : Ann := { order := Sw.look [], reg := Sw.look [(4, ([(39, tB)], [0, 1, 3]))], join := Sw.look [], loop := Sw.look [(2, ([(3, tI)], [0, 1]))], blk := Sw.lookL [(0, []), (1, [])], res := [], anys := [0, 34] }
theorem l_lines_All_1 : FnOk Tryz.prog 79 e_lines_All_1 :=
 fn_ok mixed (l := [(48, e_lines_At)]) ⟨l_lines_At, trivial⟩ (An := an_lines_All_1) Tryz.func79 (c := Tryz.f79.body.getD .skip) (by kernel_rfl) Tryz.ntmps79 (by kernel_rfl) (fun _ _ => Tryz.call79 _ _) _ (by kernel_rfl) (fun x => by kernel_rfl) (by kernel_rfl)
def e_Tree_part_Items_1 : Shallow := ⟨[(.one .any), tP, tP], [], fun x => F_Tree_part_Items_1 ids x.1 x.2.1 x.2.2.1⟩
def an_Tree_part_Items_1 : Ann := { order := Sw.look [], reg := Sw.look [], join := Sw.look [], loop := Sw.look [], blk := Sw.lookL [], res := [], anys := [0, 6] }
theorem l_Tree_part_Items_1 : FnOk Tryz.prog 94 e_Tree_part_Items_1 :=
 fn_ok mixed (l := []) trivial (An := an_Tree_part_Items_1) Tryz.func94 (c := Tryz.f94.body.getD .skip) (by kernel_rfl) Tryz.ntmps94 (by kernel_rfl) (fun _ _ => Tryz.call94 _ _) _ (by kernel_rfl) (fun x => by kernel_rfl) (by kernel_rfl)
def e_Tree_part_Items_1_1 : Shallow := ⟨[tP, tI, tP, tP], [tB], fun x => F_Tree_part_Items_1_1 ids x.1 x.2.1 x.2.2.1 x.2.2.2.1⟩
def an_Tree_part_Items_1_1 : Ann := { order := Sw.look [(4, ([[0, 1, 2, 3, 4, 5, 6, 7, 8, 9, 10, 11, 12]], [])), (6, ([[0, 1, 2, 3, 4, 5, 6, 7, 8, 9, 10, 11]], [])), (8, ([[0, 1, 2, 3, 4, 5, 6, 7, 8, 9, 10, 11]], []))], reg := Sw.look [(1, ([(17, tB)], [0, 1, 2, 3])), (4, ([(35, tB)], [0, 1, 2, 3, 7])), (6, ([(47, tB)], [0, 1, 2, 7]))], join := Sw.look [], loop := Sw.look [], blk := Sw.lookL [], res := [(6, tB)], anys := [27, 40, 48] }
theorem l_Tree_part_Items_1_1 : FnOk Tryz.prog 95 e_Tree_part_Items_1_1 :=
 fn_ok mixed (l := [(87, e_node_part_count)]) ⟨l_node_part_count, trivial⟩ (An := an_Tree_part_Items_1_1) Tryz.func95 (c := Tryz.f95.body.getD .skip) (by kernel_rfl) Tryz.ntmps95 (by kernel_rfl) (fun _ _ => Tryz.call95 _ _) _ (by kernel_rfl) (fun x => by kernel_rfl) (by kernel_rfl)
def e_codec_bounds : Shallow := ⟨[(.one (.int .u8))], [tI, (.one (.int .u8)), (.one (.int .u8))], fun x => F_codec_bounds ids x.1⟩
def an_codec_bounds : Ann := { order := Sw.look [], reg := Sw.look [], join := Sw.look [], loop := Sw.look [], blk := Sw.lookL [(0, [])], res := [(2, tI), (3, (.one (.int .u8))), (4, (.one (.int .u8)))], anys := [] }
theorem l_codec_bounds : FnOk Tryz.prog 130 e_codec_bounds :=
 fn_ok mixed (l := []) trivial (An := an_codec_bounds) Tryz.func130 (c := Tryz.f130.body.getD .skip) (by kernel_rfl) Tryz.ntmps130 (by kernel_rfl) (fun _ _ => Tryz.call130 _ _) _ (by kernel_rfl) (fun x => by kernel_rfl) (by kernel_rfl)
def e_codec_row : Shallow := ⟨[tS], [tI, tI], fun x => F_codec_row ids x.1⟩
def an_codec_row : Ann := { order := Sw.look [], reg := Sw.look [(4, ([(36, tB)], [0, 4])), (7, ([(54, tB)], [0, 4, 7]))], join := Sw.look [], loop := Sw.look [(7, ([(7, tI)], [0, 4]))], blk := Sw.lookL [(0, [(7, tI)]), (1, [(7, tI)])], res := [(2, tI), (3, tI)], anys := [] }
theorem l_codec_row : FnOk Tryz.prog 129 e_codec_row :=
 fn_ok mixed (l := [(130, e_codec_bounds)]) ⟨l_codec_bounds, trivial⟩ (An := an_codec_row) Tryz.func129 (c := Tryz.f129.body.getD .skip) (by kernel_rfl) Tryz.ntmps129 (by kernel_rfl) (fun _ _ => Tryz.call129 _ _) _ (by kernel_rfl) (fun x => by kernel_rfl) (by kernel_rfl)
def e_eight_first : Shallow := ⟨[(.agg []), tS], [tI, tI], fun x => F_eight_first ids x.1 x.2.1⟩
def an_eight_first : Ann := { order := Sw.look [], reg := Sw.look [(2, ([(22, tB)], [1, 7]))], join := Sw.look [(12, ([(8, tI)], [1, 7]))], loop := Sw.look [(13, ([(8, tI), (49, tI)], [7, 47, 48]))], blk := Sw.lookL [(0, [(8, tI)]), (1, [(8, tI)]), (2, [(8, tI)])], res := [(4, tI), (5, tI)], anys := [] }
theorem l_eight_first : FnOk Tryz.prog 124 e_eight_first :=
 fn_ok mixed (l := [(129, e_codec_row)]) ⟨l_codec_row, trivial⟩ (An := an_eight_first) Tryz.func124 (c := Tryz.f124.body.getD .skip) (by kernel_rfl) Tryz.ntmps124 (by kernel_rfl) (fun _ _ => Tryz.call124 _ _) _ (by kernel_rfl) (fun x => by kernel_rfl) (by kernel_rfl)
def e_eight_size : Shallow := ⟨[(.agg []), tI], [tI], fun x => F_eight_size ids x.1 x.2.1⟩
def an_eight_size : Ann := { order := Sw.look [], reg := Sw.look [(1, ([(5, tB)], [1]))], join := Sw.look [], loop := Sw.look [], blk := Sw.lookL [(0, [])], res := [(4, tI)], anys := [] }
theorem l_eight_size : FnOk Tryz.prog 128 e_eight_size :=
 fn_ok mixed (l := []) trivial (An := an_eight_size) Tryz.func128 (c := Tryz.f128.body.getD .skip) (by kernel_rfl) Tryz.ntmps128 (by kernel_rfl) (fun _ _ => Tryz.call128 _ _) _ (by kernel_rfl) (fun x => by kernel_rfl) (by kernel_rfl)
def e_eight_put : Shallow := ⟨[(.agg []), tS, tI], [tS], fun x => F_eight_put ids x.1 x.2.1 x.2.2.1⟩
def an_eight_put : Ann := { order := Sw.look [(7, ([[0, 1, 2, 3, 4, 5, 6, 7, 8, 9, 10, 11, 12, 13]], []))], reg := Sw.look [], join := Sw.look [], loop := Sw.look [(9, ([(1, tS), (9, tI)], [2]))], blk := Sw.lookL [(0, [(1, tS)]), (1, [(1, tS)])], res := [(6, tS)], anys := [] }
theorem l_eight_put : FnOk Tryz.prog 127 e_eight_put :=
 fn_ok mixed (l := [(128, e_eight_size)]) ⟨l_eight_size, trivial⟩ (An := an_eight_put) Tryz.func127 (c := Tryz.f127.body.getD .skip) (by kernel_rfl) Tryz.ntmps127 (by kernel_rfl) (fun _ _ => Tryz.call127 _ _) _ (by kernel_rfl) (fun x => by kernel_rfl) (by kernel_rfl)
def e_sixteen_unit : Shallow := ⟨[(.agg [bI]), tS], [tI], fun x => F_sixteen_unit ids x.1 x.2.1⟩
def an_sixteen_unit : Ann := { order := Sw.look [(1, ([[0, 1, 2, 3, 4, 5, 6, 7, 8, 9, 10, 11, 12, 13, 14, 15]], []))], reg := Sw.look [], join := Sw.look [], loop := Sw.look [], blk := Sw.lookL [], res := [(4, tI)], anys := [] }
theorem l_sixteen_unit : FnOk Tryz.prog 136 e_sixteen_unit :=
 fn_ok mixed (l := []) trivial (An := an_sixteen_unit) Tryz.func136 (c := Tryz.f136.body.getD .skip) (by kernel_rfl) Tryz.ntmps136 (by kernel_rfl) (fun _ _ => Tryz.call136 _ _) _ (by kernel_rfl) (fun x => by kernel_rfl) (by kernel_rfl)
def e_codec_high : Shallow := ⟨[tI], [tB], fun x => F_codec_high ids x.1⟩
def an_codec_high : Ann := { order := Sw.look [], reg := Sw.look [], join := Sw.look [], loop := Sw.look [], blk := Sw.lookL [], res := [(2, tB)], anys := [] }
theorem l_codec_high : FnOk Tryz.prog 137 e_codec_high :=
 fn_ok mixed (l := []) trivial (An := an_codec_high) Tryz.func137 (c := Tryz.f137.body.getD .skip) (by kernel_rfl) Tryz.ntmps137 (by kernel_rfl) (fun _ _ => Tryz.call137 _ _) _ (by kernel_rfl) (fun x => by kernel_rfl) (by kernel_rfl)
def e_codec_low : Shallow := ⟨[tI], [tB], fun x => F_codec_low ids x.1⟩
def an_codec_low : Ann := { order := Sw.look [], reg := Sw.look [], join := Sw.look [], loop := Sw.look [], blk := Sw.lookL [], res := [(2, tB)], anys := [] }
theorem l_codec_low : FnOk Tryz.prog 138 e_codec_low :=
 fn_ok mixed (l := []) trivial (An := an_codec_low) Tryz.func138 (c := Tryz.f138.body.getD .skip) (by kernel_rfl) Tryz.ntmps138 (by kernel_rfl) (fun _ _ => Tryz.call138 _ _) _ (by kernel_rfl) (fun x => by kernel_rfl) (by kernel_rfl)
def e_sixteen_first : Shallow := ⟨[(.agg [bI]), tS], [tI, tI], fun x => F_sixteen_first ids x.1 x.2.1⟩
def an_sixteen_first : Ann := { order := Sw.look [(5, ([[0, 1, 2, 3, 4]], []))], reg := Sw.look [(4, ([(25, tB)], [1, 2, 6]))], join := Sw.look [(8, ([], [6]))], loop := Sw.look [], blk := Sw.lookL [], res := [(4, tI), (5, tI)], anys := [] }
theorem l_sixteen_first : FnOk Tryz.prog 131 e_sixteen_first :=
 fn_ok mixed (l := [(136, e_sixteen_unit), (137, e_codec_high), (138, e_codec_low)]) ⟨l_sixteen_unit, l_codec_high, l_codec_low, trivial⟩ (An := an_sixteen_first) Tryz.func131 (c := Tryz.f131.body.getD .skip) (by kernel_rfl) Tryz.ntmps131 (by kernel_rfl) (fun _ _ => Tryz.call131 _ _) _ (by kernel_rfl) (fun x => by kernel_rfl) (by kernel_rfl)
def e_sixteen_half : Shallow := ⟨[(.agg [bI]), tS, tI], [tS], fun x => F_sixteen_half ids x.1 x.2.1 x.2.2.1⟩
def an_sixteen_half : Ann := { order := Sw.look [(2, ([[0, 1, 2, 3, 4, 5, 6, 7, 8, 9, 10, 11, 12, 13]], [(3, 11)]))], reg := Sw.look [], join := Sw.look [], loop := Sw.look [], blk := Sw.lookL [], res := [(6, tS)], anys := [] }
theorem l_sixteen_half : FnOk Tryz.prog 139 e_sixteen_half :=
 fn_ok mixed (l := []) trivial (An := an_sixteen_half) Tryz.func139 (c := Tryz.f139.body.getD .skip) (by kernel_rfl) Tryz.ntmps139 (by kernel_rfl) (fun _ _ => Tryz.call139 _ _) _ (by kernel_rfl) (fun x => by kernel_rfl) (by kernel_rfl)
def e_sixteen_put : Shallow := ⟨[(.agg [bI]), tS, tI], [tS], fun x => F_sixteen_put ids x.1 x.2.1 x.2.2.1⟩
def an_sixteen_put : Ann := { order := Sw.look [(5, ([[0, 1, 2, 3, 4, 5, 6, 8, 9, 10, 7, 11, 12]], [(0, 7)]))], reg := Sw.look [], join := Sw.look [], loop := Sw.look [], blk := Sw.lookL [(0, [])], res := [(6, tS)], anys := [] }
theorem l_sixteen_put : FnOk Tryz.prog 134 e_sixteen_put :=
 fn_ok mixed (l := [(139, e_sixteen_half)]) ⟨l_sixteen_half, trivial⟩ (An := an_sixteen_put) Tryz.func134 (c := Tryz.f134.body.getD .skip) (by kernel_rfl) Tryz.ntmps134 (by kernel_rfl) (fun _ _ => Tryz.call134 _ _) _ (by kernel_rfl) (fun x => by kernel_rfl) (by kernel_rfl)
def e_sixteen_size : Shallow := ⟨[(.agg [bI]), tI], [tI], fun x => F_sixteen_size ids x.1 x.2.1⟩
def an_sixteen_size : Ann := { order := Sw.look [], reg := Sw.look [(1, ([(5, tB)], [1]))], join := Sw.look [], loop := Sw.look [], blk := Sw.lookL [(0, [])], res := [(4, tI)], anys := [] }
theorem l_sixteen_size : FnOk Tryz.prog 135 e_sixteen_size :=
 fn_ok mixed (l := []) trivial (An := an_sixteen_size) Tryz.func135 (c := Tryz.f135.body.getD .skip) (by kernel_rfl) Tryz.ntmps135 (by kernel_rfl) (fun _ _ => Tryz.call135 _ _) _ (by kernel_rfl) (fun x => by kernel_rfl) (by kernel_rfl)
def e_latin_first : Shallow := ⟨[(.agg []), tS], [tI, tI], fun x => F_latin_first ids x.1 x.2.1⟩
def an_latin_first : Ann := { order := Sw.look [], reg := Sw.look [], join := Sw.look [], loop := Sw.look [], blk := Sw.lookL [], res := [(4, tI), (5, tI)], anys := [] }
theorem l_latin_first : FnOk Tryz.prog 140 e_latin_first :=
 fn_ok mixed (l := []) trivial (An := an_latin_first) Tryz.func140 (c := Tryz.f140.body.getD .skip) (by kernel_rfl) Tryz.ntmps140 (by kernel_rfl) (fun _ _ => Tryz.call140 _ _) _ (by kernel_rfl) (fun x => by kernel_rfl) (by kernel_rfl)
def e_latin_put : Shallow := ⟨[(.agg []), tS, tI], [tS], fun x => F_latin_put ids x.1 x.2.1 x.2.2.1⟩
def an_latin_put : Ann := { order := Sw.look [], reg := Sw.look [], join := Sw.look [], loop := Sw.look [], blk := Sw.lookL [], res := [(6, tS)], anys := [] }
theorem l_latin_put : FnOk Tryz.prog 143 e_latin_put :=
 fn_ok mixed (l := []) trivial (An := an_latin_put) Tryz.func143 (c := Tryz.f143.body.getD .skip) (by kernel_rfl) Tryz.ntmps143 (by kernel_rfl) (fun _ _ => Tryz.call143 _ _) _ (by kernel_rfl) (fun x => by kernel_rfl) (by kernel_rfl)
def e_latin_size : Shallow := ⟨[(.agg []), tI], [tI], fun x => F_latin_size ids x.1 x.2.1⟩
def an_latin_size : Ann := { order := Sw.look [], reg := Sw.look [(1, ([(10, tB)], []))], join := Sw.look [], loop := Sw.look [], blk := Sw.lookL [], res := [(4, tI)], anys := [] }
theorem l_latin_size : FnOk Tryz.prog 144 e_latin_size :=
 fn_ok mixed (l := []) trivial (An := an_latin_size) Tryz.func144 (c := Tryz.f144.body.getD .skip) (by kernel_rfl) Tryz.ntmps144 (by kernel_rfl) (fun _ _ => Tryz.call144 _ _) _ (by kernel_rfl) (fun x => by kernel_rfl) (by kernel_rfl)
end
end Go.Proofs.YtaebgdhdldfigaaGreat
