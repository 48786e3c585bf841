/-
  Each function of the cut does what its shallow program says (the text is printed by program).
-/
import Derived.Test.YtaebgdhdldfigaaSwLlines0m
set_option maxRecDepth 100000
set_option maxHeartbeats 4000000
set_option linter.unusedVariables false
namespace Go.Proofs.Ytaebgdhdldfigaa
open Go Go.Sw
noncomputable section
def e_law6_copied : Shallow := ⟨[tS], [tS], fun x => F_law6_copied ids x.1⟩
def an_law6_copied : Ann := { order := Sw.look [], reg := Sw.look [], join := Sw.look [], loop := Sw.look [(3, ([(3, tS), (4, tI)], [0]))], blk := Sw.lookL [(0, [(3, tS)]), (1, [(3, tS)])], res := [(2, tS)], anys := [] }
theorem l_law6_copied : FnOk Try.prog 12 e_law6_copied :=
 fn_ok mixed (l := []) trivial (An := an_law6_copied) Try.func12 (c := Try.f12.body.getD .skip) (by kernel_rfl) Try.ntmps12 (by kernel_rfl) (fun _ _ => Try.call12 _ _) _ (by kernel_rfl) (fun x => by kernel_rfl) (by kernel_rfl)
def e_law6_within : Shallow := ⟨[tI, tI], [tI], fun x => F_law6_within ids x.1 x.2.1⟩
def an_law6_within : Ann := { order := Sw.look [], reg := Sw.look [], join := Sw.look [(3, ([(0, tI)], [1]))], loop := Sw.look [], blk := Sw.lookL [], res := [(4, tI)], anys := [] }
theorem l_law6_within : FnOk Try.prog 14 e_law6_within :=
 fn_ok mixed (l := []) trivial (An := an_law6_within) Try.func14 (c := Try.f14.body.getD .skip) (by kernel_rfl) Try.ntmps14 (by kernel_rfl) (fun _ _ => Try.call14 _ _) _ (by kernel_rfl) (fun x => by kernel_rfl) (by kernel_rfl)
def e_lines_Typed : Shallow := ⟨[tP, tI, tS, tI], [tS, tI], fun x => F_lines_Typed ids x.1 x.2.1 x.2.2.1 x.2.2.2.1⟩
def an_lines_Typed : Ann := { order := Sw.look [], reg := Sw.look [(10, ([(34, tB)], [0, 1, 2, 3, 10])), (26, ([(71, tB)], [2, 3, 10, 13, 14, 15, 54, 55, 56])), (27, ([(71, tB)], [2, 3, 10, 13, 14, 54, 55, 56]))], join := Sw.look [(10, ([(10, tS)], [0, 1, 2, 3])), (17, ([(11, tS), (12, tI)], [2, 3, 10, 13])), (19, ([(13, tI)], [2, 3, 10, 12])), (29, ([(14, tS)], [2, 3, 10, 13, 54, 55, 56]))], loop := Sw.look [(21, ([(12, tI), (14, tS), (56, tI)], [2, 3, 10, 13, 54, 55]))], blk := Sw.lookL [(0, [(10, tS)]), (1, [(14, tS)]), (2, [(12, tI), (14, tS)]), (3, [(14, tS)])], res := [(8, tS), (9, tI)], anys := [] }
theorem l_lines_Typed : FnOk Try.prog 15 e_lines_Typed :=
 fn_ok mixed (l := [(44, e_Text_Len), (24, e_Text_Atoms)]) ⟨l_Text_Len, l_Text_Atoms, trivial⟩ (An := an_lines_Typed) Try.func15 (c := Try.f15.body.getD .skip) (by kernel_rfl) Try.ntmps15 (by kernel_rfl) (fun _ _ => Try.call15 _ _) _ (by kernel_rfl) (fun x => by kernel_rfl) (by kernel_rfl)
def e_law6_same : Shallow := ⟨[tS, tS], [tB], fun x => F_law6_same ids x.1 x.2.1⟩
def an_law6_same : Ann := { order := Sw.look [(6, ([[0, 1, 2, 3, 4, 5, 6, 7, 8]], []))], reg := Sw.look [], join := Sw.look [], loop := Sw.look [(4, ([(5, tI)], [0, 1]))], blk := Sw.lookL [(0, []), (1, [])], res := [(4, tB)], anys := [] }
theorem l_law6_same : FnOk Try.prog 16 e_law6_same :=
 fn_ok mixed (l := []) trivial (An := an_law6_same) Try.func16 (c := Try.f16.body.getD .skip) (by kernel_rfl) Try.ntmps16 (by kernel_rfl) (fun _ _ => Try.call16 _ _) _ (by kernel_rfl) (fun x => by kernel_rfl) (by kernel_rfl)
def e_law6_hold : Shallow := ⟨[tS, tI], [(.agg [.sl, .sl, bI])], fun x => F_law6_hold ids x.1 x.2.1⟩
def an_law6_hold : Ann := { order := Sw.look [], reg := Sw.look [], join := Sw.look [], loop := Sw.look [(3, ([(6, tI)], [0, 1, 4, 5])), (8, ([(7, tS), (8, tI)], [1, 4, 5]))], blk := Sw.lookL [(0, []), (1, []), (2, [(7, tS)]), (3, [(7, tS)])], res := [(4, tP)], anys := [] }
theorem l_law6_hold : FnOk Try.prog 17 e_law6_hold :=
 fn_ok mixed (l := []) trivial (An := an_law6_hold) Try.func17 (c := Try.f17.body.getD .skip) (by kernel_rfl) Try.ntmps17 (by kernel_rfl) (fun _ _ => Try.call17 _ _) _ (by kernel_rfl) (fun x => by kernel_rfl) (by kernel_rfl)
def e_ref6_ahead : Shallow := ⟨[tS, tI, tS], [tI], fun x => F_ref6_ahead ids x.1 x.2.1 x.2.2.1⟩
def an_ref6_ahead : Ann := { order := Sw.look [], reg := Sw.look [], join := Sw.look [], loop := Sw.look [], blk := Sw.lookL [], res := [(6, tI)], anys := [] }
theorem l_ref6_ahead : FnOk Try.prog 48 e_ref6_ahead :=
 fn_ok mixed (l := []) trivial (An := an_ref6_ahead) Try.func48 (c := Try.f48.body.getD .skip) (by kernel_rfl) Try.ntmps48 (by kernel_rfl) (fun _ _ => Try.call48 _ _) _ (by kernel_rfl) (fun x => by kernel_rfl) (by kernel_rfl)
def e_ref6_Typed : Shallow := ⟨[tS, tI, tS, tI], [tS, tI], fun x => F_ref6_Typed ids x.1 x.2.1 x.2.2.1 x.2.2.2.1⟩
def an_ref6_Typed : Ann := { order := Sw.look [], reg := Sw.look [(1, ([(19, tB)], [0, 1, 2, 3])), (3, ([(27, tB)], [0, 1, 2, 3])), (12, ([(13, tB)], [0, 1, 2, 3, 10, 11])), (13, ([(77, tB)], [0, 1, 2, 3, 10, 11, 13])), (15, ([(86, tB)], [0, 1, 2, 3, 10, 11, 13])), (17, ([(98, tB)], [0, 1, 2, 3, 10, 11]))], join := Sw.look [(8, ([(10, tS)], [0, 1, 2, 3, 11])), (15, ([(13, tB)], [0, 1, 2, 3, 10, 11])), (17, ([(10, tS)], [0, 1, 2, 3, 11, 13]))], loop := Sw.look [(7, ([(10, tS), (11, tI)], [0, 1, 2, 3]))], blk := Sw.lookL [(0, [(10, tS)]), (1, [(10, tS)])], res := [(8, tS), (9, tI)], anys := [] }
theorem l_ref6_Typed : FnOk Try.prog 18 e_ref6_Typed :=
 fn_ok mixed (l := [(48, e_ref6_ahead)]) ⟨l_ref6_ahead, trivial⟩ (An := an_ref6_Typed) Try.func18 (c := Try.f18.body.getD .skip) (by kernel_rfl) Try.ntmps18 (by kernel_rfl) (fun _ _ => Try.call18 _ _) _ (by kernel_rfl) (fun x => by kernel_rfl) (by kernel_rfl)
def e_lines_closed : Shallow := ⟨[tP, tI, tI], [(.agg [bI, bI, bI, bI])], fun x => F_lines_closed ids x.1 x.2.1 x.2.2.1⟩
def an_lines_closed : Ann := { order := Sw.look [], reg := Sw.look [(5, ([(30, tB)], [1, 2, 6]))], join := Sw.look [], loop := Sw.look [], blk := Sw.lookL [(0, [])], res := [(6, tP)], anys := [] }
theorem l_lines_closed : FnOk Try.prog 50 e_lines_closed :=
 fn_ok mixed (l := [(24, e_Text_Atoms)]) ⟨l_Text_Atoms, trivial⟩ (An := an_lines_closed) Try.func50 (c := Try.f50.body.getD .skip) (by kernel_rfl) Try.ntmps50 (by kernel_rfl) (fun _ _ => Try.call50 _ _) _ (by kernel_rfl) (fun x => by kernel_rfl) (by kernel_rfl)
def e_lines_At : Shallow := ⟨[tP, tI], [(.agg [bI, bI, bI, bI]), tI], fun x => F_lines_At ids x.1 x.2.1⟩
def an_lines_At : Ann := { order := Sw.look [], reg := Sw.look [], join := Sw.look [], loop := Sw.look [], blk := Sw.lookL [], res := [(4, tP), (5, tI)], anys := [] }
theorem l_lines_At : FnOk Try.prog 19 e_lines_At :=
 fn_ok mixed (l := [(49, e_Text_Seek), (44, e_Text_Len), (43, e_Text_Breaks), (50, e_lines_closed)]) ⟨l_Text_Seek, l_Text_Len, l_Text_Breaks, l_lines_closed, trivial⟩ (An := an_lines_At) Try.func19 (c := Try.f19.body.getD .skip) (by kernel_rfl) Try.ntmps19 (by kernel_rfl) (fun _ _ => Try.call19 _ _) _ (by kernel_rfl) (fun x => by kernel_rfl) (by kernel_rfl)
def e_lines_All : Shallow := ⟨[tP], [(.one .any)], fun x => F_lines_All ids x.1⟩
def an_lines_All : Ann := { order := Sw.look [], reg := Sw.look [], join := Sw.look [], loop := Sw.look [], blk := Sw.lookL [], res := [(2, (.one .any))], anys := [] }
theorem l_lines_All : FnOk Try.prog 27 e_lines_All :=
 fn_ok mixed (l := []) trivial (An := an_lines_All) Try.func27 (c := Try.f27.body.getD .skip) (by kernel_rfl) Try.ntmps27 (by kernel_rfl) (fun _ _ => Try.call27 _ _) _ (by kernel_rfl) (fun x => by kernel_rfl) (by kernel_rfl)
def e_lines_Kinds : Shallow := ⟨[tP], [(.agg [bI, bI, bI, bI])], fun x => F_lines_Kinds ids x.1⟩
def an_lines_Kinds : Ann := { order := Sw.look [], reg := Sw.look [], join := Sw.look [], loop := Sw.look [], blk := Sw.lookL [(0, []), (1, [])], res := [(2, tP)], anys := [7], rng := Sw.look [(8, ([(8, tI), (9, (.agg [bI, bI, bI, bI]))], [(5, tP)]))] }
theorem l_lines_Kinds : FnOk Try.prog 20 e_lines_Kinds :=
 fn_okR mixed (l := [(27, e_lines_All)]) ⟨l_lines_All, trivial⟩ (An := an_lines_Kinds) Try.func20 (c := Try.f20.body.getD .skip) (by kernel_rfl) Try.ntmps20 (by kernel_rfl) (fun _ _ => Try.call20 _ _) _ (by kernel_rfl) (fun x => by kernel_rfl)
def e_lines_Whole : Shallow := ⟨[tP, tI, tI], [(.agg [bI, bI, bI]), tI], fun x => F_lines_Whole ids x.1 x.2.1 x.2.2.1⟩
def an_lines_Whole : Ann := { order := Sw.look [], reg := Sw.look [(1, ([(27, tB)], [0, 1, 2, 6])), (6, ([(52, tB)], [0, 1, 6, 12]))], join := Sw.look [(10, ([], [6, 12]))], loop := Sw.look [], blk := Sw.lookL [], res := [(6, tP), (7, tI)], anys := [] }
theorem l_lines_Whole : FnOk Try.prog 21 e_lines_Whole :=
 fn_ok mixed (l := [(11, e_lines_Count), (19, e_lines_At)]) ⟨l_lines_Count, l_lines_At, trivial⟩ (An := an_lines_Whole) Try.func21 (c := Try.f21.body.getD .skip) (by kernel_rfl) Try.ntmps21 (by kernel_rfl) (fun _ _ => Try.call21 _ _) _ (by kernel_rfl) (fun x => by kernel_rfl) (by kernel_rfl)
def e_lines_Native : Shallow := ⟨[tP, tI], [tI], fun x => F_lines_Native ids x.1 x.2.1⟩
def an_lines_Native : Ann := { order := Sw.look [], reg := Sw.look [(2, ([(18, tB)], [1, 5]))], join := Sw.look [], loop := Sw.look [], blk := Sw.lookL [], res := [(4, tI)], anys := [] }
theorem l_lines_Native : FnOk Try.prog 22 e_lines_Native :=
 fn_ok mixed (l := [(19, e_lines_At)]) ⟨l_lines_At, trivial⟩ (An := an_lines_Native) Try.func22 (c := Try.f22.body.getD .skip) (by kernel_rfl) Try.ntmps22 (by kernel_rfl) (fun _ _ => Try.call22 _ _) _ (by kernel_rfl) (fun x => by kernel_rfl) (by kernel_rfl)
def e_lines_Of : Shallow := ⟨[tP, tI], [tI], fun x => F_lines_Of ids x.1 x.2.1⟩
def an_lines_Of : Ann := { order := Sw.look [], reg := Sw.look [], join := Sw.look [], loop := Sw.look [], blk := Sw.lookL [], res := [(4, tI)], anys := [] }
theorem l_lines_Of : FnOk Try.prog 23 e_lines_Of :=
 fn_ok mixed (l := [(44, e_Text_Len), (43, e_Text_Breaks)]) ⟨l_Text_Len, l_Text_Breaks, trivial⟩ (An := an_lines_Of) Try.func23 (c := Try.f23.body.getD .skip) (by kernel_rfl) Try.ntmps23 (by kernel_rfl) (fun _ _ => Try.call23 _ _) _ (by kernel_rfl) (fun x => by kernel_rfl) (by kernel_rfl)
def e_law6_stands : Shallow := ⟨[tS], [tB], fun x => F_law6_stands ids x.1⟩
def an_law6_stands : Ann := { order := Sw.look [(8, ([[0, 1, 2, 3, 4, 5, 6, 7]], [])), (13, ([[0, 1, 2, 3, 4, 5, 6, 7]], []))], reg := Sw.look [], join := Sw.look [], loop := Sw.look [(2, ([(3, tI)], [0])), (6, ([(5, tI)], [0, 3, 4])), (11, ([(6, tI)], [0, 3, 4]))], blk := Sw.lookL [(0, []), (1, []), (2, []), (3, []), (4, []), (5, [])], res := [(2, tB)], anys := [] }
theorem l_law6_stands : FnOk Try.prog 25 e_law6_stands :=
 fn_ok mixed (l := []) trivial (An := an_law6_stands) Try.func25 (c := Try.f25.body.getD .skip) (by kernel_rfl) Try.ntmps25 (by kernel_rfl) (fun _ _ => Try.call25 _ _) _ (by kernel_rfl) (fun x => by kernel_rfl) (by kernel_rfl)
def e_law6_LinesKept : Shallow := ⟨[(.agg [bI, .sl]), tS], [tB], fun x => F_law6_LinesKept ids x.1 x.2.1⟩
def an_law6_LinesKept : Ann := { order := Sw.look [(13, ([[0, 1, 2, 3, 4, 6, 5, 7, 8, 9, 10, 11, 12]], [(1, 5)])), (14, ([[0, 1, 2, 3, 4, 6, 5, 7, 8, 9, 10, 11, 12]], [(1, 5)])), (18, ([[0, 1, 2, 3, 4, 5, 6, 7, 8, 9, 10, 11, 12, 13, 14]], [])), (28, ([[0, 1, 2, 3, 4, 5, 6, 7, 8, 9, 10, 11, 12, 13, 14]], [])), (29, ([[0, 1, 2, 3, 4, 5, 6, 7, 9, 8, 10, 11, 12, 13, 14, 15]], [(1, 8)])), (35, ([[0, 1, 2, 3, 4, 5, 6, 7, 8, 9, 11, 12, 10, 13, 14, 15, 16, 17, 18, 19, 20, 21, 22, 24, 25, 23, 26, 27, 28, 29, 30, 31, 32, 33, 34, 36, 35, 37, 38, 39]], [(12, 10), (25, 23)]))], reg := Sw.look [(2, ([(39, tB)], [1, 5])), (8, ([(54, tB)], [1, 5, 7, 8, 9, 10])), (19, ([(150, tB)], [1, 5, 7, 8, 9, 10, 11, 12, 13, 18, 19])), (35, ([(265, tB)], [1, 5, 7, 8, 9, 10]))], join := Sw.look [], loop := Sw.look [(8, ([(8, tS), (9, tS), (10, tI)], [1, 5, 7])), (25, ([(21, tI)], [1, 5, 7, 8, 9, 10, 11, 12, 13, 18])), (40, ([(8, tS), (26, tI)], [9]))], blk := Sw.lookL [(0, [(8, tS), (9, tS)]), (1, [(8, tS), (9, tS)]), (2, []), (3, []), (4, [(8, tS)]), (5, [(8, tS)])], res := [(4, tB)], anys := [] }
theorem l_law6_LinesKept : FnOk Try.prog 3 e_law6_LinesKept :=
 fn_ok mixed (l := [(10, e_law6_opened), (11, e_lines_Count), (13, e_Text_Tags), (12, e_law6_copied), (14, e_law6_within), (15, e_lines_Typed), (16, e_law6_same), (17, e_law6_hold), (18, e_ref6_Typed), (19, e_lines_At), (20, e_lines_Kinds), (21, e_lines_Whole), (22, e_lines_Native), (23, e_lines_Of), (24, e_Text_Atoms), (25, e_law6_stands)]) ⟨l_law6_opened, l_lines_Count, l_Text_Tags, l_law6_copied, l_law6_within, l_lines_Typed, l_law6_same, l_law6_hold, l_ref6_Typed, l_lines_At, l_lines_Kinds, l_lines_Whole, l_lines_Native, l_lines_Of, l_Text_Atoms, l_law6_stands, trivial⟩ (An := an_law6_LinesKept) Try.func3 (c := Try.f3.body.getD .skip) (by kernel_rfl) Try.ntmps3 (by kernel_rfl) (fun _ _ => Try.call3 _ _) _ (by kernel_rfl) (fun x => by kernel_rfl) (by kernel_rfl)
end
end Go.Proofs.Ytaebgdhdldfigaa
