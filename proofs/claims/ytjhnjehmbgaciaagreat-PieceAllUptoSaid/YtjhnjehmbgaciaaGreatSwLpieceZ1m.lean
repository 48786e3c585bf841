/-
  Each function of the cut does what its shallow program says (the text is printed by program).
-/
import Derived.Test.YtjhnjehmbgaciaaGreatSwLpieceZ0m
set_option maxRecDepth 100000
set_option maxHeartbeats 4000000
set_option linter.unusedVariables false
namespace Go.Proofs.YtjhnjehmbgaciaaGreat
open Go Go.Sw
noncomputable section
def e_ref1_eight : Shallow := ⟨[tI], [tS], fun x => F_ref1_eight ids x.1⟩
def an_ref1_eight : Ann := { order := Sw.look [], reg := Sw.look [], join := Sw.look [], loop := Sw.look [], blk := Sw.lookL [(0, [])], res := [(2, tS)], anys := [] }
theorem l_ref1_eight : FnOk Tryz.prog 82 e_ref1_eight :=
 fn_ok mixed (l := []) trivial (An := an_ref1_eight) Tryz.func82 (c := Tryz.f82.body.getD .skip) (by kernel_rfl) Tryz.ntmps82 (by kernel_rfl) (fun _ _ => Tryz.call82 _ _) _ (by kernel_rfl) (fun x => by kernel_rfl) (by kernel_rfl)
def e_ref1_begins : Shallow := ⟨[tS, tI, tS], [tB], fun x => F_ref1_begins ids x.1 x.2.1 x.2.2.1⟩
def an_ref1_begins : Ann := { order := Sw.look [(6, ([[0, 1, 2, 3, 4, 5, 6, 7, 8, 9, 10]], []))], reg := Sw.look [], join := Sw.look [], loop := Sw.look [(4, ([(7, tI)], [0, 1, 2]))], blk := Sw.lookL [(0, []), (1, [])], res := [(6, tB)], anys := [] }
theorem l_ref1_begins : FnOk Tryz.prog 101 e_ref1_begins :=
 fn_ok mixed (l := []) trivial (An := an_ref1_begins) Tryz.func101 (c := Tryz.f101.body.getD .skip) (by kernel_rfl) Tryz.ntmps101 (by kernel_rfl) (fun _ _ => Tryz.call101 _ _) _ (by kernel_rfl) (fun x => by kernel_rfl) (by kernel_rfl)
def e_ref1_eightAt : Shallow := ⟨[tS, tI], [tI, tI], fun x => F_ref1_eightAt ids x.1 x.2.1⟩
def an_ref1_eightAt : Ann := { order := Sw.look [], reg := Sw.look [(2, ([(20, tB)], [0, 1, 6])), (9, ([(43, tB)], [0, 1, 6, 7]))], join := Sw.look [(3, ([], [0, 1, 6]))], loop := Sw.look [(2, ([(6, tI)], [0, 1]))], blk := Sw.lookL [(0, []), (1, [])], res := [(4, tI), (5, tI)], anys := [] }
theorem l_ref1_eightAt : FnOk Tryz.prog 90 e_ref1_eightAt :=
 fn_ok mixed (l := [(99, e_ref1_meant), (100, e_ref1_Scalar), (82, e_ref1_eight), (101, e_ref1_begins)]) ⟨l_ref1_meant, l_ref1_Scalar, l_ref1_eight, l_ref1_begins, trivial⟩ (An := an_ref1_eightAt) Tryz.func90 (c := Tryz.f90.body.getD .skip) (by kernel_rfl) Tryz.ntmps90 (by kernel_rfl) (fun _ _ => Tryz.call90 _ _) _ (by kernel_rfl) (fun x => by kernel_rfl) (by kernel_rfl)
def e_ref1_unitAt : Shallow := ⟨[tI, tS, tI], [tI], fun x => F_ref1_unitAt ids x.1 x.2.1 x.2.2.1⟩
def an_ref1_unitAt : Ann := { order := Sw.look [(4, ([[0, 1, 2, 3, 4, 5, 6, 7, 8, 9, 10, 11, 12, 13]], [])), (5, ([[0, 1, 2, 3, 4, 5, 6, 7, 8, 9, 10, 11, 12, 13]], []))], reg := Sw.look [], join := Sw.look [], loop := Sw.look [], blk := Sw.lookL [], res := [(6, tI)], anys := [] }
theorem l_ref1_unitAt : FnOk Tryz.prog 91 e_ref1_unitAt :=
 fn_ok mixed (l := []) trivial (An := an_ref1_unitAt) Tryz.func91 (c := Tryz.f91.body.getD .skip) (by kernel_rfl) Tryz.ntmps91 (by kernel_rfl) (fun _ _ => Tryz.call91 _ _) _ (by kernel_rfl) (fun x => by kernel_rfl) (by kernel_rfl)
def e_ref1_At : Shallow := ⟨[tI, tS, tI], [tI, tI], fun x => F_ref1_At ids x.1 x.2.1 x.2.2.1⟩
def an_ref1_At : Ann := { order := Sw.look [], reg := Sw.look [(9, ([(54, tB)], [8, 9]))], join := Sw.look [], loop := Sw.look [], blk := Sw.lookL [], res := [(6, tI), (7, tI)], anys := [] }
theorem l_ref1_At : FnOk Tryz.prog 72 e_ref1_At :=
 fn_ok mixed (l := [(90, e_ref1_eightAt), (91, e_ref1_unitAt)]) ⟨l_ref1_eightAt, l_ref1_unitAt, trivial⟩ (An := an_ref1_At) Tryz.func72 (c := Tryz.f72.body.getD .skip) (by kernel_rfl) Tryz.ntmps72 (by kernel_rfl) (fun _ _ => Tryz.call72 _ _) _ (by kernel_rfl) (fun x => by kernel_rfl) (by kernel_rfl)
def e_ref1_Next : Shallow := ⟨[tI, tS, tI], [tI, tI], fun x => F_ref1_Next ids x.1 x.2.1 x.2.2.1⟩
def an_ref1_Next : Ann := { order := Sw.look [], reg := Sw.look [(2, ([(22, tB)], [0, 1, 2]))], join := Sw.look [], loop := Sw.look [], blk := Sw.lookL [], res := [(6, tI), (7, tI)], anys := [] }
theorem l_ref1_Next : FnOk Tryz.prog 39 e_ref1_Next :=
 fn_ok mixed (l := [(71, e_ref1_known), (72, e_ref1_At)]) ⟨l_ref1_known, l_ref1_At, trivial⟩ (An := an_ref1_Next) Tryz.func39 (c := Tryz.f39.body.getD .skip) (by kernel_rfl) Tryz.ntmps39 (by kernel_rfl) (fun _ _ => Tryz.call39 _ _) _ (by kernel_rfl) (fun x => by kernel_rfl) (by kernel_rfl)
def e_ref5_Open : Shallow := ⟨[tI, tS, tI], [tP, tI], fun x => F_ref5_Open ids x.1 x.2.1 x.2.2.1⟩
def an_ref5_Open : Ann := { order := Sw.look [], reg := Sw.look [(1, ([(17, tB)], [0, 1, 2])), (3, ([(23, tB)], [0, 1, 2]))], join := Sw.look [], loop := Sw.look [(9, ([(9, tI)], [0, 1, 8]))], blk := Sw.lookL [(0, []), (1, [(9, tI)])], res := [(6, tP), (7, tI)], anys := [] }
theorem l_ref5_Open : FnOk Tryz.prog 16 e_ref5_Open :=
 fn_ok mixed (l := [(39, e_ref1_Next)]) ⟨l_ref1_Next, trivial⟩ (An := an_ref5_Open) Tryz.func16 (c := Tryz.f16.body.getD .skip) (by kernel_rfl) Tryz.ntmps16 (by kernel_rfl) (fun _ _ => Tryz.call16 _ _) _ (by kernel_rfl) (fun x => by kernel_rfl) (by kernel_rfl)
def e_law5_sameBytes : Shallow := ⟨[tS, tS], [tB], fun x => F_law5_sameBytes ids x.1 x.2.1⟩
def an_law5_sameBytes : Ann := { order := Sw.look [(6, ([[0, 1, 2, 3, 4, 5, 6, 7, 8]], []))], reg := Sw.look [], join := Sw.look [], loop := Sw.look [(4, ([(5, tI)], [0, 1]))], blk := Sw.lookL [(0, []), (1, [])], res := [(4, tB)], anys := [] }
theorem l_law5_sameBytes : FnOk Tryz.prog 17 e_law5_sameBytes :=
 fn_ok mixed (l := []) trivial (An := an_law5_sameBytes) Tryz.func17 (c := Tryz.f17.body.getD .skip) (by kernel_rfl) Tryz.ntmps17 (by kernel_rfl) (fun _ _ => Tryz.call17 _ _) _ (by kernel_rfl) (fun x => by kernel_rfl) (by kernel_rfl)
def e_world_begin : Shallow := ⟨[tP, (.agg [bI, bI, bI, bI, .sl, .sl, .sl])], [tB], fun x => F_world_begin ids x.1 x.2.1⟩
def an_world_begin : Ann := { order := Sw.look [(12, ([[0, 1, 2, 3, 4, 5, 6, 7, 8, 9, 10, 11, 12, 13, 14]], [])), (13, ([[0, 1, 2, 3, 4, 5, 6, 7, 8, 9, 10, 11, 12, 13, 14, 15, 16, 17]], []))], reg := Sw.look [(14, ([(97, tB)], [0, 3, 5, 6, 7, 9, 10, 12]))], join := Sw.look [], loop := Sw.look [(2, ([(5, tI)], [0, 3])), (8, ([(8, tI)], [0, 3, 5, 6, 7])), (17, ([(14, tI)], [0, 3, 5, 7, 9, 10, 12])), (22, ([(15, tI)], [0, 3, 5, 9, 10, 12]))], blk := Sw.lookL [(0, []), (1, []), (2, []), (3, []), (4, []), (5, []), (6, []), (7, [])], res := [(4, tB)], anys := [] }
theorem l_world_begin : FnOk Tryz.prog 10 e_world_begin :=
 fn_ok mixed (l := [(13, e_piece_Open), (16, e_ref5_Open), (17, e_law5_sameBytes)]) ⟨l_piece_Open, l_ref5_Open, l_law5_sameBytes, trivial⟩ (An := an_world_begin) Tryz.func10 (c := Tryz.f10.body.getD .skip) (by kernel_rfl) Tryz.ntmps10 (by kernel_rfl) (fun _ _ => Tryz.call10 _ _) _ (by kernel_rfl) (fun x => by kernel_rfl) (by kernel_rfl)
def e_pen_edits : Shallow := ⟨[tP, tI], [tS], fun x => F_pen_edits ids x.1 x.2.1⟩
def an_pen_edits : Ann := { order := Sw.look [], reg := Sw.look [(1, ([(10, tB)], [0, 1]))], join := Sw.look [(5, ([], [0, 1]))], loop := Sw.look [], blk := Sw.lookL [], res := [(4, tS)], anys := [] }
theorem l_pen_edits : FnOk Tryz.prog 92 e_pen_edits :=
 fn_ok mixed (l := []) trivial (An := an_pen_edits) Tryz.func92 (c := Tryz.f92.body.getD .skip) (by kernel_rfl) Tryz.ntmps92 (by kernel_rfl) (fun _ _ => Tryz.call92 _ _) _ (by kernel_rfl) (fun x => by kernel_rfl) (by kernel_rfl)
def e_pen_put : Shallow := ⟨[tP, tI, tI], [tS], fun x => F_pen_put ids x.1 x.2.1 x.2.2.1⟩
def an_pen_put : Ann := { order := Sw.look [(4, ([[0, 1, 2, 3, 4, 5, 6, 7, 8, 9, 10]], [(4, 5), (4, 6)]))], reg := Sw.look [(1, ([(16, tB)], [0, 1, 2]))], join := Sw.look [], loop := Sw.look [(3, ([], [0, 1, 2]))], blk := Sw.lookL [(0, []), (1, [])], res := [(6, tS)], anys := [] }
theorem l_pen_put : FnOk Tryz.prog 93 e_pen_put :=
 fn_ok mixed (l := []) trivial (An := an_pen_put) Tryz.func93 (c := Tryz.f93.body.getD .skip) (by kernel_rfl) Tryz.ntmps93 (by kernel_rfl) (fun _ _ => Tryz.call93 _ _) _ (by kernel_rfl) (fun x => by kernel_rfl) (by kernel_rfl)
def e_law5_hand : Shallow := ⟨[tP, tS], [(.agg [bI, .sl, .sl])], fun x => F_law5_hand ids x.1 x.2.1⟩
def an_law5_hand : Ann := { order := Sw.look [(16, ([[0, 1, 2, 3, 4, 5, 6, 7, 8, 9, 10, 11, 12]], [(4, 11), (9, 11)]))], reg := Sw.look [], join := Sw.look [(4, ([], [0, 1, 4, 5])), (19, ([], [0, 1, 4, 5, 6, 10]))], loop := Sw.look [(6, ([(6, tI)], [0, 1, 4, 5])), (12, ([(9, tI)], [0, 1, 4, 5, 6, 7, 8])), (21, ([(11, tI)], [4, 5]))], blk := Sw.lookL [(0, []), (1, []), (2, []), (3, []), (4, []), (5, [])], res := [(4, tP)], anys := [] }
theorem l_law5_hand : FnOk Tryz.prog 73 e_law5_hand :=
 fn_ok mixed (l := [(92, e_pen_edits), (93, e_pen_put)]) ⟨l_pen_edits, l_pen_put, trivial⟩ (An := an_law5_hand) Tryz.func73 (c := Tryz.f73.body.getD .skip) (by kernel_rfl) Tryz.ntmps73 (by kernel_rfl) (fun _ _ => Tryz.call73 _ _) _ (by kernel_rfl) (fun x => by kernel_rfl) (by kernel_rfl)
def e_handed_edits : Shallow := ⟨[(.agg [bI, .sl, .sl])], [tS], fun x => F_handed_edits ids x.1⟩
def an_handed_edits : Ann := { order := Sw.look [], reg := Sw.look [], join := Sw.look [], loop := Sw.look [], blk := Sw.lookL [], res := [(2, tS)], anys := [] }
theorem l_handed_edits : FnOk Tryz.prog 74 e_handed_edits :=
 fn_ok mixed (l := []) trivial (An := an_handed_edits) Tryz.func74 (c := Tryz.f74.body.getD .skip) (by kernel_rfl) Tryz.ntmps74 (by kernel_rfl) (fun _ _ => Tryz.call74 _ _) _ (by kernel_rfl) (fun x => by kernel_rfl) (by kernel_rfl)
def e_law5_sameInts : Shallow := ⟨[tS, tS], [tB], fun x => F_law5_sameInts ids x.1 x.2.1⟩
def an_law5_sameInts : Ann := { order := Sw.look [(6, ([[0, 1, 2, 3, 4, 5, 6, 7, 8]], []))], reg := Sw.look [], join := Sw.look [], loop := Sw.look [(4, ([(5, tI)], [0, 1]))], blk := Sw.lookL [(0, []), (1, [])], res := [(4, tB)], anys := [] }
theorem l_law5_sameInts : FnOk Tryz.prog 20 e_law5_sameInts :=
 fn_ok mixed (l := []) trivial (An := an_law5_sameInts) Tryz.func20 (c := Tryz.f20.body.getD .skip) (by kernel_rfl) Tryz.ntmps20 (by kernel_rfl) (fun _ _ => Tryz.call20 _ _) _ (by kernel_rfl) (fun x => by kernel_rfl) (by kernel_rfl)
def e_law5_sameEdits : Shallow := ⟨[tS, tS], [tB], fun x => F_law5_sameEdits ids x.1 x.2.1⟩
def an_law5_sameEdits : Ann := { order := Sw.look [(6, ([[0, 1, 2, 3, 4, 5, 6, 7, 8, 9, 10, 11, 12, 13, 14, 15, 16, 17, 18, 19, 20, 21, 22, 23, 24, 25, 26, 27, 28, 29, 30, 31, 32, 33, 34, 35, 36, 37]], []))], reg := Sw.look [(6, ([(54, tB)], [0, 1, 5]))], join := Sw.look [], loop := Sw.look [(4, ([(5, tI)], [0, 1]))], blk := Sw.lookL [(0, []), (1, [])], res := [(4, tB)], anys := [] }
theorem l_law5_sameEdits : FnOk Tryz.prog 94 e_law5_sameEdits :=
 fn_ok mixed (l := [(20, e_law5_sameInts)]) ⟨l_law5_sameInts, trivial⟩ (An := an_law5_sameEdits) Tryz.func94 (c := Tryz.f94.body.getD .skip) (by kernel_rfl) Tryz.ntmps94 (by kernel_rfl) (fun _ _ => Tryz.call94 _ _) _ (by kernel_rfl) (fun x => by kernel_rfl) (by kernel_rfl)
def e_handed_whole : Shallow := ⟨[(.agg [bI, .sl, .sl]), tS], [tB], fun x => F_handed_whole ids x.1 x.2.1⟩
def an_handed_whole : Ann := { order := Sw.look [(14, ([[0, 1, 2, 3, 4, 5, 6, 7, 8, 9, 10, 11, 12, 13, 14, 15, 16, 17, 18]], []))], reg := Sw.look [(7, ([(56, tB)], [1, 2, 5, 6])), (14, ([(91, tB)], [1, 2, 5, 7, 8, 9]))], join := Sw.look [], loop := Sw.look [(5, ([(6, tI)], [1, 2, 5])), (10, ([(7, tI)], [1, 2, 5])), (17, ([(10, tI)], [1, 2, 5, 7, 8]))], blk := Sw.lookL [(0, []), (1, []), (2, []), (3, []), (4, []), (5, [])], res := [(4, tB)], anys := [] }
theorem l_handed_whole : FnOk Tryz.prog 75 e_handed_whole :=
 fn_ok mixed (l := [(20, e_law5_sameInts), (74, e_handed_edits), (94, e_law5_sameEdits)]) ⟨l_law5_sameInts, l_handed_edits, l_law5_sameEdits, trivial⟩ (An := an_handed_whole) Tryz.func75 (c := Tryz.f75.body.getD .skip) (by kernel_rfl) Tryz.ntmps75 (by kernel_rfl) (fun _ _ => Tryz.call75 _ _) _ (by kernel_rfl) (fun x => by kernel_rfl) (by kernel_rfl)
def e_handed_spoil : Shallow := ⟨[(.agg [bI, .sl, .sl])], [], fun x => F_handed_spoil ids x.1⟩
def an_handed_spoil : Ann := { order := Sw.look [], reg := Sw.look [], join := Sw.look [], loop := Sw.look [(2, ([(2, tI)], [1])), (5, ([(3, tI)], [1, 2])), (9, ([(4, tI)], [1]))], blk := Sw.lookL [(0, []), (1, []), (2, []), (3, []), (4, []), (5, [])], res := [], anys := [] }
theorem l_handed_spoil : FnOk Tryz.prog 76 e_handed_spoil :=
 fn_ok mixed (l := []) trivial (An := an_handed_spoil) Tryz.func76 (c := Tryz.f76.body.getD .skip) (by kernel_rfl) Tryz.ntmps76 (by kernel_rfl) (fun _ _ => Tryz.call76 _ _) _ (by kernel_rfl) (fun x => by kernel_rfl) (by kernel_rfl)
def e_law5_written : Shallow := ⟨[tP, tP, tS], [tI, tB], fun x => F_law5_written ids x.1 x.2.1 x.2.2.1⟩
def an_law5_written : Ann := { order := Sw.look [], reg := Sw.look [], join := Sw.look [], loop := Sw.look [], blk := Sw.lookL [], res := [(6, tI), (7, tB)], anys := [] }
theorem l_law5_written : FnOk Tryz.prog 40 e_law5_written :=
 fn_ok mixed (l := [(73, e_law5_hand), (74, e_handed_edits), (15, e_Text_Change), (75, e_handed_whole), (76, e_handed_spoil)]) ⟨l_law5_hand, l_handed_edits, l_Text_Change, l_handed_whole, l_handed_spoil, trivial⟩ (An := an_law5_written) Tryz.func40 (c := Tryz.f40.body.getD .skip) (by kernel_rfl) Tryz.ntmps40 (by kernel_rfl) (fun _ _ => Tryz.call40 _ _) _ (by kernel_rfl) (fun x => by kernel_rfl) (by kernel_rfl)
def e_ref1_Fits : Shallow := ⟨[tI, tI], [tB], fun x => F_ref1_Fits ids x.1 x.2.1⟩
def an_ref1_Fits : Ann := { order := Sw.look [], reg := Sw.look [(3, ([(4, tB)], [])), (6, ([(4, tB)], [])), (8, ([(4, tB)], []))], join := Sw.look [(9, ([], []))], loop := Sw.look [], blk := Sw.lookL [(0, [])], res := [(4, tB)], anys := [] }
theorem l_ref1_Fits : FnOk Tryz.prog 95 e_ref1_Fits :=
 fn_ok mixed (l := [(100, e_ref1_Scalar)]) ⟨l_ref1_Scalar, trivial⟩ (An := an_ref1_Fits) Tryz.func95 (c := Tryz.f95.body.getD .skip) (by kernel_rfl) Tryz.ntmps95 (by kernel_rfl) (fun _ _ => Tryz.call95 _ _) _ (by kernel_rfl) (fun x => by kernel_rfl) (by kernel_rfl)
def e_ref_Text_refuses : Shallow := ⟨[tP, tS], [tI], fun x => F_ref_Text_refuses ids x.1 x.2.1⟩
def an_ref_Text_refuses : Ann := { order := Sw.look [(8, ([[0, 1, 2, 3, 4, 5, 6, 7, 8, 9, 10, 11, 12, 13, 14, 15, 16, 17, 18, 19, 20]], [])), (17, ([[0, 1, 2, 3, 4, 5, 6, 7, 8, 9, 10, 11, 12, 13]], []))], reg := Sw.look [(8, ([(43, tB)], [0, 1, 6, 7]))], join := Sw.look [], loop := Sw.look [(5, ([(5, tI), (6, tI)], [0, 1])), (12, ([(8, tI)], [0, 1])), (15, ([(9, tI)], [0, 1, 8]))], blk := Sw.lookL [(0, []), (1, [(5, tI)]), (2, []), (3, []), (4, []), (5, [])], res := [(4, tI)], anys := [] }
theorem l_ref_Text_refuses : FnOk Tryz.prog 77 e_ref_Text_refuses :=
 fn_ok mixed (l := [(95, e_ref1_Fits)]) ⟨l_ref1_Fits, trivial⟩ (An := an_ref_Text_refuses) Tryz.func77 (c := Tryz.f77.body.getD .skip) (by kernel_rfl) Tryz.ntmps77 (by kernel_rfl) (fun _ _ => Tryz.call77 _ _) _ (by kernel_rfl) (fun x => by kernel_rfl) (by kernel_rfl)
def e_ref1_unit : Shallow := ⟨[tI, tI], [tS], fun x => F_ref1_unit ids x.1 x.2.1⟩
def an_ref1_unit : Ann := { order := Sw.look [], reg := Sw.look [], join := Sw.look [], loop := Sw.look [], blk := Sw.lookL [], res := [(4, tS)], anys := [] }
theorem l_ref1_unit : FnOk Tryz.prog 83 e_ref1_unit :=
 fn_ok mixed (l := []) trivial (An := an_ref1_unit) Tryz.func83 (c := Tryz.f83.body.getD .skip) (by kernel_rfl) Tryz.ntmps83 (by kernel_rfl) (fun _ _ => Tryz.call83 _ _) _ (by kernel_rfl) (fun x => by kernel_rfl) (by kernel_rfl)
def e_ref1_Put : Shallow := ⟨[tI, tI], [tS], fun x => F_ref1_Put ids x.1 x.2.1⟩
def an_ref1_Put : Ann := { order := Sw.look [(10, ([[0, 1, 2, 3, 4, 5, 6, 7, 8, 9, 10, 11, 12, 13]], []))], reg := Sw.look [], join := Sw.look [], loop := Sw.look [], blk := Sw.lookL [(0, [])], res := [(4, tS)], anys := [] }
theorem l_ref1_Put : FnOk Tryz.prog 49 e_ref1_Put :=
 fn_ok mixed (l := [(82, e_ref1_eight), (83, e_ref1_unit)]) ⟨l_ref1_eight, l_ref1_unit, trivial⟩ (An := an_ref1_Put) Tryz.func49 (c := Tryz.f49.body.getD .skip) (by kernel_rfl) Tryz.ntmps49 (by kernel_rfl) (fun _ _ => Tryz.call49 _ _) _ (by kernel_rfl) (fun x => by kernel_rfl) (by kernel_rfl)
def e_ref1_Size : Shallow := ⟨[tI, tI], [tI], fun x => F_ref1_Size ids x.1 x.2.1⟩
def an_ref1_Size : Ann := { order := Sw.look [], reg := Sw.look [], join := Sw.look [], loop := Sw.look [], blk := Sw.lookL [], res := [(4, tI)], anys := [] }
theorem l_ref1_Size : FnOk Tryz.prog 78 e_ref1_Size :=
 fn_ok mixed (l := [(95, e_ref1_Fits), (49, e_ref1_Put)]) ⟨l_ref1_Fits, l_ref1_Put, trivial⟩ (An := an_ref1_Size) Tryz.func78 (c := Tryz.f78.body.getD .skip) (by kernel_rfl) Tryz.ntmps78 (by kernel_rfl) (fun _ _ => Tryz.call78 _ _) _ (by kernel_rfl) (fun x => by kernel_rfl) (by kernel_rfl)
def e_ref_Text_Size : Shallow := ⟨[tP], [tI], fun x => F_ref_Text_Size ids x.1⟩
def an_ref_Text_Size : Ann := { order := Sw.look [(5, ([[0, 1, 2, 3, 4, 5, 6, 7, 8, 9, 10, 11, 12, 13, 14]], []))], reg := Sw.look [], join := Sw.look [], loop := Sw.look [(3, ([(3, tI), (4, tI)], [0]))], blk := Sw.lookL [(0, [(3, tI)]), (1, [(3, tI)])], res := [(2, tI)], anys := [] }
theorem l_ref_Text_Size : FnOk Tryz.prog 44 e_ref_Text_Size :=
 fn_ok mixed (l := [(78, e_ref1_Size)]) ⟨l_ref1_Size, trivial⟩ (An := an_ref_Text_Size) Tryz.func44 (c := Tryz.f44.body.getD .skip) (by kernel_rfl) Tryz.ntmps44 (by kernel_rfl) (fun _ _ => Tryz.call44 _ _) _ (by kernel_rfl) (fun x => by kernel_rfl) (by kernel_rfl)
def e_ref_Text_Change : Shallow := ⟨[tP, tS], [tI], fun x => F_ref_Text_Change ids x.1 x.2.1⟩
def an_ref_Text_Change : Ann := { order := Sw.look [(11, ([[0, 1, 2, 3, 4, 5, 6, 7, 8, 9, 10, 11, 12, 13, 14, 15]], [])), (14, ([[0, 1, 2, 3, 4, 5, 6, 7, 8, 9, 10]], [])), (24, ([[0, 1, 2, 3, 4, 5, 6, 7, 8, 9, 10, 11, 12, 13, 14, 15, 16, 17]], [(4, 13)])), (29, ([[0, 1, 2, 3, 4, 5, 6, 7, 8, 9, 10, 11, 12, 13, 14, 15, 16]], [(4, 12)])), (30, ([[0, 1, 2, 3, 4, 5, 6, 7, 8, 9, 10, 11, 12, 13, 14, 15, 16]], [(4, 12)])), (31, ([[0, 2, 3, 4, 5, 1, 6]], [(5, 1)]))], reg := Sw.look [(20, ([(88, tB)], [0, 1, 9, 10, 11, 12])), (28, ([(143, tB)], [0, 1, 9, 10, 11, 12]))], join := Sw.look [(19, ([(10, tI), (11, tI)], [0, 1, 9, 12]))], loop := Sw.look [(6, ([(6, tI), (7, tI)], [0, 1])), (9, ([(6, tI), (8, tI)], [0, 1, 7])), (18, ([(10, tI), (11, tI), (12, tI)], [0, 1, 9])), (20, ([(10, tI), (11, tI)], [0, 1, 9, 12])), (22, ([(13, tI)], [0, 1, 9, 10, 12]))], blk := Sw.lookL [(0, []), (1, [(6, tI)]), (2, [(6, tI)]), (3, [(6, tI)]), (4, []), (5, [(10, tI), (11, tI)]), (6, [(10, tI), (11, tI)]), (7, [(10, tI), (11, tI)]), (8, []), (9, [])], res := [(4, tI)], anys := [] }
theorem l_ref_Text_Change : FnOk Tryz.prog 41 e_ref_Text_Change :=
 fn_ok mixed (l := [(77, e_ref_Text_refuses), (78, e_ref1_Size), (44, e_ref_Text_Size)]) ⟨l_ref_Text_refuses, l_ref1_Size, l_ref_Text_Size, trivial⟩ (An := an_ref_Text_Change) Tryz.func41 (c := Tryz.f41.body.getD .skip) (by kernel_rfl) Tryz.ntmps41 (by kernel_rfl) (fun _ _ => Tryz.call41 _ _) _ (by kernel_rfl) (fun x => by kernel_rfl) (by kernel_rfl)
def e_world_change : Shallow := ⟨[tP, tI, tS], [tB], fun x => F_world_change ids x.1 x.2.1 x.2.2.1⟩
def an_world_change : Ann := { order := Sw.look [(3, ([[0, 1, 2, 3, 4, 5, 6, 7, 8, 9, 10, 11, 12, 13, 14, 15, 16]], []))], reg := Sw.look [(5, ([(6, tB)], []))], join := Sw.look [(3, ([], [0, 1, 2]))], loop := Sw.look [], blk := Sw.lookL [], res := [(6, tB)], anys := [] }
theorem l_world_change : FnOk Tryz.prog 18 e_world_change :=
 fn_ok mixed (l := [(40, e_law5_written), (41, e_ref_Text_Change)]) ⟨l_law5_written, l_ref_Text_Change, trivial⟩ (An := an_world_change) Tryz.func18 (c := Tryz.f18.body.getD .skip) (by kernel_rfl) Tryz.ntmps18 (by kernel_rfl) (fun _ _ => Tryz.call18 _ _) _ (by kernel_rfl) (fun x => by kernel_rfl) (by kernel_rfl)
def e_Text_Enc : Shallow := ⟨[tP], [tI], fun x => F_Text_Enc ids x.1⟩
def an_Text_Enc : Ann := { order := Sw.look [], reg := Sw.look [], join := Sw.look [], loop := Sw.look [], blk := Sw.lookL [], res := [(2, tI)], anys := [] }
theorem l_Text_Enc : FnOk Tryz.prog 42 e_Text_Enc :=
 fn_ok mixed (l := []) trivial (An := an_Text_Enc) Tryz.func42 (c := Tryz.f42.body.getD .skip) (by kernel_rfl) Tryz.ntmps42 (by kernel_rfl) (fun _ _ => Tryz.call42 _ _) _ (by kernel_rfl) (fun x => by kernel_rfl) (by kernel_rfl)
def e_Tree_part_Items : Shallow := ⟨[(.agg [.ptr]), tI], [(.one .any)], fun x => F_Tree_part_Items ids x.1 x.2.1⟩
def an_Tree_part_Items : Ann := { order := Sw.look [], reg := Sw.look [], join := Sw.look [], loop := Sw.look [], blk := Sw.lookL [], res := [(4, (.one .any))], anys := [] }
theorem l_Tree_part_Items : FnOk Tryz.prog 48 e_Tree_part_Items :=
 fn_ok mixed (l := []) trivial (An := an_Tree_part_Items) Tryz.func48 (c := Tryz.f48.body.getD .skip) (by kernel_rfl) Tryz.ntmps48 (by kernel_rfl) (fun _ _ => Tryz.call48 _ _) _ (by kernel_rfl) (fun x => by kernel_rfl) (by kernel_rfl)
def e_Text_walk : Shallow := ⟨[tP, tI, tI, (.one .any)], [], fun x => F_Text_walk ids x.1 x.2.1 x.2.2.1 x.2.2.2.1⟩
def an_Text_walk : Ann := { order := Sw.look [(9, ([[0, 1, 2, 3, 4, 5, 6, 7, 8, 9, 10, 11, 12]], []))], reg := Sw.look [], join := Sw.look [(15, ([], [4, 7, 9, 10, 11, 12, 14])), (17, ([], [4, 7, 9, 10, 11, 12, 14]))], loop := Sw.look [(8, ([(12, tI)], [4, 7, 9, 10, 11]))], blk := Sw.lookL [(0, []), (1, []), (2, []), (3, [(12, tI)])], res := [], anys := [3, 38, 63, 66], rng := Sw.look [(39, ([(39, (.agg b7))], [(11, tP)]))] }
theorem l_Text_walk : FnOk Tryz.prog 45 e_Text_walk :=
 fn_ok mixed (l := [(14, e_Text_Len), (66, e_Text_find), (48, e_Tree_part_Items), (12, e_codec_Next)]) ⟨l_Text_Len, l_Text_find, l_Tree_part_Items, l_codec_Next, trivial⟩ (An := an_Text_walk) Tryz.func45 (c := Tryz.f45.body.getD .skip) (by kernel_rfl) Tryz.ntmps45 (by kernel_rfl) (fun _ _ => Tryz.call45 _ _) _ (by kernel_rfl) (fun x => by kernel_rfl) (by kernel_rfl)
def e_Text_Atoms : Shallow := ⟨[tP, tI, tI], [tS], fun x => F_Text_Atoms ids x.1 x.2.1 x.2.2.1⟩
def an_Text_Atoms : Ann := { order := Sw.look [], reg := Sw.look [], join := Sw.look [], loop := Sw.look [], blk := Sw.lookL [], res := [(6, tS)], anys := [] }
theorem l_Text_Atoms : FnOk Tryz.prog 21 e_Text_Atoms :=
 fn_ok mixed (l := [(45, e_Text_walk)]) ⟨l_Text_walk, trivial⟩ (An := an_Text_Atoms) Tryz.func21 (c := Tryz.f21.body.getD .skip) (by kernel_rfl) Tryz.ntmps21 (by kernel_rfl) (fun _ _ => Tryz.call21 _ _) _ (by kernel_rfl) (fun x => by kernel_rfl) (by kernel_rfl)
def e_Text_Tags : Shallow := ⟨[tP, tI, tI], [tS], fun x => F_Text_Tags ids x.1 x.2.1 x.2.2.1⟩
def an_Text_Tags : Ann := { order := Sw.look [], reg := Sw.look [], join := Sw.look [], loop := Sw.look [], blk := Sw.lookL [], res := [(6, tS)], anys := [] }
theorem l_Text_Tags : FnOk Tryz.prog 23 e_Text_Tags :=
 fn_ok mixed (l := [(45, e_Text_walk)]) ⟨l_Text_walk, trivial⟩ (An := an_Text_Tags) Tryz.func23 (c := Tryz.f23.body.getD .skip) (by kernel_rfl) Tryz.ntmps23 (by kernel_rfl) (fun _ _ => Tryz.call23 _ _) _ (by kernel_rfl) (fun x => by kernel_rfl) (by kernel_rfl)
def e_Text_Bytes : Shallow := ⟨[tP], [tS], fun x => F_Text_Bytes ids x.1⟩
def an_Text_Bytes : Ann := { order := Sw.look [(5, ([[0, 1, 2, 3, 4, 5, 6, 7, 8]], [(0, 6)]))], reg := Sw.look [], join := Sw.look [], loop := Sw.look [], blk := Sw.lookL [(0, []), (1, [])], res := [(2, tS)], anys := [13], rng := Sw.look [(14, ([(14, (.agg b7))], [(5, tP)]))] }
theorem l_Text_Bytes : FnOk Tryz.prog 24 e_Text_Bytes :=
 fn_ok mixed (l := [(43, e_Text_Size), (48, e_Tree_part_Items)]) ⟨l_Text_Size, l_Tree_part_Items, trivial⟩ (An := an_Text_Bytes) Tryz.func24 (c := Tryz.f24.body.getD .skip) (by kernel_rfl) Tryz.ntmps24 (by kernel_rfl) (fun _ _ => Tryz.call24 _ _) _ (by kernel_rfl) (fun x => by kernel_rfl) (by kernel_rfl)
def e_ref_Text_Bytes : Shallow := ⟨[tP], [tS], fun x => F_ref_Text_Bytes ids x.1⟩
def an_ref_Text_Bytes : Ann := { order := Sw.look [(5, ([[0, 1, 2, 3, 4, 5, 6, 7, 8, 9, 10, 11, 12, 13, 14]], []))], reg := Sw.look [], join := Sw.look [], loop := Sw.look [(3, ([(3, tS), (4, tI)], [0]))], blk := Sw.lookL [(0, [(3, tS)]), (1, [(3, tS)])], res := [(2, tS)], anys := [] }
theorem l_ref_Text_Bytes : FnOk Tryz.prog 25 e_ref_Text_Bytes :=
 fn_ok mixed (l := [(49, e_ref1_Put)]) ⟨l_ref1_Put, trivial⟩ (An := an_ref_Text_Bytes) Tryz.func25 (c := Tryz.f25.body.getD .skip) (by kernel_rfl) Tryz.ntmps25 (by kernel_rfl) (fun _ _ => Tryz.call25 _ _) _ (by kernel_rfl) (fun x => by kernel_rfl) (by kernel_rfl)
def e_world_look : Shallow := ⟨[tP, tI], [tB], fun x => F_world_look ids x.1 x.2.1⟩
def an_world_look : Ann := { order := Sw.look [(4, ([[0, 2, 3, 4, 5, 1, 6, 7, 8, 10, 9, 11, 12, 13, 14, 16, 15, 17, 18, 19]], [(5, 1)])), (6, ([[0, 1, 3, 4, 5, 6, 2, 7, 8, 9, 10, 12, 13, 14, 15, 11, 16, 17, 18, 19, 21, 20, 22, 23, 24, 25]], [(6, 2), (15, 11)]))], reg := Sw.look [(4, ([(44, tB)], [5, 6, 7])), (6, ([(4, tB)], []))], join := Sw.look [], loop := Sw.look [], blk := Sw.lookL [], res := [(4, tB)], anys := [] }
theorem l_world_look : FnOk Tryz.prog 19 e_world_look :=
 fn_ok mixed (l := [(42, e_Text_Enc), (14, e_Text_Len), (43, e_Text_Size), (44, e_ref_Text_Size), (21, e_Text_Atoms), (20, e_law5_sameInts), (23, e_Text_Tags), (24, e_Text_Bytes), (25, e_ref_Text_Bytes), (17, e_law5_sameBytes)]) ⟨l_Text_Enc, l_Text_Len, l_Text_Size, l_ref_Text_Size, l_Text_Atoms, l_law5_sameInts, l_Text_Tags, l_Text_Bytes, l_ref_Text_Bytes, l_law5_sameBytes, trivial⟩ (An := an_world_look) Tryz.func19 (c := Tryz.f19.body.getD .skip) (by kernel_rfl) Tryz.ntmps19 (by kernel_rfl) (fun _ _ => Tryz.call19 _ _) _ (by kernel_rfl) (fun x => by kernel_rfl) (by kernel_rfl)
def e_ref5_Part : Shallow := ⟨[tS, tI, tI], [tS], fun x => F_ref5_Part ids x.1 x.2.1 x.2.2.1⟩
def an_ref5_Part : Ann := { order := Sw.look [], reg := Sw.look [], join := Sw.look [(3, ([(1, tI)], [0, 2])), (5, ([(2, tI)], [0, 1]))], loop := Sw.look [(7, ([(7, tS), (8, tI)], [0, 2]))], blk := Sw.lookL [(0, [(7, tS)]), (1, [(7, tS)])], res := [(6, tS)], anys := [] }
theorem l_ref5_Part : FnOk Tryz.prog 22 e_ref5_Part :=
 fn_ok mixed (l := []) trivial (An := an_ref5_Part) Tryz.func22 (c := Tryz.f22.body.getD .skip) (by kernel_rfl) Tryz.ntmps22 (by kernel_rfl) (fun _ _ => Tryz.call22 _ _) _ (by kernel_rfl) (fun x => by kernel_rfl) (by kernel_rfl)
def e_Text_Breaks : Shallow := ⟨[tP, tI], [tI], fun x => F_Text_Breaks ids x.1 x.2.1⟩
def an_Text_Breaks : Ann := { order := Sw.look [], reg := Sw.look [(6, ([(34, tB)], [5]))], join := Sw.look [], loop := Sw.look [], blk := Sw.lookL [(0, [])], res := [(4, tI)], anys := [] }
theorem l_Text_Breaks : FnOk Tryz.prog 26 e_Text_Breaks :=
 fn_ok mixed (l := [(14, e_Text_Len), (36, e_Tree_part_Sum), (50, e_Text_ahead), (21, e_Text_Atoms)]) ⟨l_Text_Len, l_Tree_part_Sum, l_Text_ahead, l_Text_Atoms, trivial⟩ (An := an_Text_Breaks) Tryz.func26 (c := Tryz.f26.body.getD .skip) (by kernel_rfl) Tryz.ntmps26 (by kernel_rfl) (fun _ _ => Tryz.call26 _ _) _ (by kernel_rfl) (fun x => by kernel_rfl) (by kernel_rfl)
def e_ref5_Ends : Shallow := ⟨[tS], [tS], fun x => F_ref5_Ends ids x.1⟩
def an_ref5_Ends : Ann := { order := Sw.look [], reg := Sw.look [(5, ([(37, tB)], [0, 3, 4]))], join := Sw.look [(4, ([(3, tS)], [0, 4]))], loop := Sw.look [(3, ([(3, tS), (4, tI)], [0]))], blk := Sw.lookL [(0, [(3, tS)]), (1, [(3, tS)])], res := [(2, tS)], anys := [] }
theorem l_ref5_Ends : FnOk Tryz.prog 51 e_ref5_Ends :=
 fn_ok mixed (l := []) trivial (An := an_ref5_Ends) Tryz.func51 (c := Tryz.f51.body.getD .skip) (by kernel_rfl) Tryz.ntmps51 (by kernel_rfl) (fun _ _ => Tryz.call51 _ _) _ (by kernel_rfl) (fun x => by kernel_rfl) (by kernel_rfl)
def e_ref_Text_Breaks : Shallow := ⟨[tP, tI], [tI], fun x => F_ref_Text_Breaks ids x.1 x.2.1⟩
def an_ref_Text_Breaks : Ann := { order := Sw.look [], reg := Sw.look [], join := Sw.look [(5, ([(5, tI)], [1, 6, 7]))], loop := Sw.look [(4, ([(5, tI), (7, tI)], [1, 6]))], blk := Sw.lookL [(0, [(5, tI)]), (1, [(5, tI)])], res := [(4, tI)], anys := [] }
theorem l_ref_Text_Breaks : FnOk Tryz.prog 27 e_ref_Text_Breaks :=
 fn_ok mixed (l := [(51, e_ref5_Ends)]) ⟨l_ref5_Ends, trivial⟩ (An := an_ref_Text_Breaks) Tryz.func27 (c := Tryz.f27.body.getD .skip) (by kernel_rfl) Tryz.ntmps27 (by kernel_rfl) (fun _ _ => Tryz.call27 _ _) _ (by kernel_rfl) (fun x => by kernel_rfl) (by kernel_rfl)
def e_Text_Seek : Shallow := ⟨[tP, tI], [tI], fun x => F_Text_Seek ids x.1 x.2.1⟩
def an_Text_Seek : Ann := { order := Sw.look [(10, ([[0, 1, 2, 3, 4, 5, 6, 7, 8, 9, 10, 11, 12]], [])), (11, ([[0, 1, 2, 3, 4, 5]], [(0, 3)]))], reg := Sw.look [(3, ([(16, tB)], [0, 1])), (9, ([(61, tB)], [0, 1, 6, 7, 9])), (14, ([(100, tB)], [6]))], join := Sw.look [], loop := Sw.look [(9, ([(9, tI)], [0, 1, 6, 7]))], blk := Sw.lookL [(0, []), (1, []), (2, [(9, tI)])], res := [(4, tI)], anys := [] }
theorem l_Text_Seek : FnOk Tryz.prog 28 e_Text_Seek :=
 fn_ok mixed (l := [(36, e_Tree_part_Sum), (52, e_Tree_part_Find), (53, e_Tree_part_Upto), (54, e_Tree_part_At), (12, e_codec_Next), (56, e_piece_single), (55, e_sums_Add), (21, e_Text_Atoms)]) ⟨l_Tree_part_Sum, l_Tree_part_Find, l_Tree_part_Upto, l_Tree_part_At, l_codec_Next, l_piece_single, l_sums_Add, l_Text_Atoms, trivial⟩ (An := an_Text_Seek) Tryz.func28 (c := Tryz.f28.body.getD .skip) (by kernel_rfl) Tryz.ntmps28 (by kernel_rfl) (fun _ _ => Tryz.call28 _ _) _ (by kernel_rfl) (fun x => by kernel_rfl) (by kernel_rfl)
def e_ref_Text_Seek : Shallow := ⟨[tP, tI], [tI], fun x => F_ref_Text_Seek ids x.1 x.2.1⟩
def an_ref_Text_Seek : Ann := { order := Sw.look [], reg := Sw.look [(4, ([(20, tB)], [1, 5]))], join := Sw.look [], loop := Sw.look [], blk := Sw.lookL [], res := [(4, tI)], anys := [] }
theorem l_ref_Text_Seek : FnOk Tryz.prog 29 e_ref_Text_Seek :=
 fn_ok mixed (l := [(51, e_ref5_Ends)]) ⟨l_ref5_Ends, trivial⟩ (An := an_ref_Text_Seek) Tryz.func29 (c := Tryz.f29.body.getD .skip) (by kernel_rfl) Tryz.ntmps29 (by kernel_rfl) (fun _ _ => Tryz.call29 _ _) _ (by kernel_rfl) (fun x => by kernel_rfl) (by kernel_rfl)
end
end Go.Proofs.YtjhnjehmbgaciaaGreat
