/-
  Each function of the cut does what its shallow program says (the text is printed by program).
-/
import Derived.Test.YtjhnjehmbgaciaaSwLpiece0m
set_option maxRecDepth 100000
set_option maxHeartbeats 4000000
set_option linter.unusedVariables false
namespace Go.Proofs.Ytjhnjehmbgaciaa
open Go Go.Sw
noncomputable section
def e_law5_sameBytes : Shallow := ⟨[tS, tS], [tB], fun x => F_law5_sameBytes ids x.1 x.2.1⟩
def an_law5_sameBytes : Ann := { order := Sw.look [(6, ([[0, 1, 2, 3, 4, 5, 6, 7, 8]], []))], reg := Sw.look [], join := Sw.look [], loop := Sw.look [(4, ([(5, tI)], [0, 1]))], blk := Sw.lookL [(0, []), (1, [])], res := [(4, tB)], anys := [] }
theorem l_law5_sameBytes : FnOk Try.prog 18 e_law5_sameBytes :=
 fn_ok mixed (l := []) trivial (An := an_law5_sameBytes) Try.func18 (c := Try.f18.body.getD .skip) (by kernel_rfl) Try.ntmps18 (by kernel_rfl) (fun _ _ => Try.call18 _ _) _ (by kernel_rfl) (fun x => by kernel_rfl) (by kernel_rfl)
def e_Tree_part_Items : Shallow := ⟨[(.agg [.ptr]), tI], [(.one .any)], fun x => F_Tree_part_Items ids x.1 x.2.1⟩
def an_Tree_part_Items : Ann := { order := Sw.look [], reg := Sw.look [], join := Sw.look [], loop := Sw.look [], blk := Sw.lookL [], res := [(4, (.one .any))], anys := [] }
theorem l_Tree_part_Items : FnOk Try.prog 47 e_Tree_part_Items :=
 fn_ok mixed (l := []) trivial (An := an_Tree_part_Items) Try.func47 (c := Try.f47.body.getD .skip) (by kernel_rfl) Try.ntmps47 (by kernel_rfl) (fun _ _ => Try.call47 _ _) _ (by kernel_rfl) (fun x => by kernel_rfl) (by kernel_rfl)
def e_Text_walk : Shallow := ⟨[tP, tI, tI, (.one .any)], [], fun x => F_Text_walk ids x.1 x.2.1 x.2.2.1 x.2.2.2.1⟩
def an_Text_walk : Ann := { order := Sw.look [(9, ([[0, 1, 2, 3, 4, 5, 6, 7, 8, 9, 10, 11, 12]], []))], reg := Sw.look [], join := Sw.look [(15, ([], [4, 7, 9, 10, 11, 12, 14])), (17, ([], [4, 7, 9, 10, 11, 12, 14]))], loop := Sw.look [(8, ([(12, tI)], [4, 7, 9, 10, 11]))], blk := Sw.lookL [(0, []), (1, []), (2, []), (3, [(12, tI)])], res := [], anys := [3, 38, 63, 66], rng := Sw.look [(39, ([(39, (.agg b7))], [(11, tP)]))] }
theorem l_Text_walk : FnOk Try.prog 70 e_Text_walk :=
 fn_ok mixed (l := [(42, e_Text_Len), (86, e_Text_find), (47, e_Tree_part_Items), (45, e_codec_Next)]) ⟨l_Text_Len, l_Text_find, l_Tree_part_Items, l_codec_Next, trivial⟩ (An := an_Text_walk) Try.func70 (c := Try.f70.body.getD .skip) (by kernel_rfl) Try.ntmps70 (by kernel_rfl) (fun _ _ => Try.call70 _ _) _ (by kernel_rfl) (fun x => by kernel_rfl) (by kernel_rfl)
def e_Text_Atoms : Shallow := ⟨[tP, tI, tI], [tS], fun x => F_Text_Atoms ids x.1 x.2.1 x.2.2.1⟩
def an_Text_Atoms : Ann := { order := Sw.look [], reg := Sw.look [], join := Sw.look [], loop := Sw.look [], blk := Sw.lookL [], res := [(6, tS)], anys := [] }
theorem l_Text_Atoms : FnOk Try.prog 41 e_Text_Atoms :=
 fn_ok mixed (l := [(70, e_Text_walk)]) ⟨l_Text_walk, trivial⟩ (An := an_Text_Atoms) Try.func41 (c := Try.f41.body.getD .skip) (by kernel_rfl) Try.ntmps41 (by kernel_rfl) (fun _ _ => Try.call41 _ _) _ (by kernel_rfl) (fun x => by kernel_rfl) (by kernel_rfl)
def e_law5_sameInts : Shallow := ⟨[tS, tS], [tB], fun x => F_law5_sameInts ids x.1 x.2.1⟩
def an_law5_sameInts : Ann := { order := Sw.look [(6, ([[0, 1, 2, 3, 4, 5, 6, 7, 8]], []))], reg := Sw.look [], join := Sw.look [], loop := Sw.look [(4, ([(5, tI)], [0, 1]))], blk := Sw.lookL [(0, []), (1, [])], res := [(4, tB)], anys := [] }
theorem l_law5_sameInts : FnOk Try.prog 28 e_law5_sameInts :=
 fn_ok mixed (l := []) trivial (An := an_law5_sameInts) Try.func28 (c := Try.f28.body.getD .skip) (by kernel_rfl) Try.ntmps28 (by kernel_rfl) (fun _ _ => Try.call28 _ _) _ (by kernel_rfl) (fun x => by kernel_rfl) (by kernel_rfl)
def e_Text_Tags : Shallow := ⟨[tP, tI, tI], [tS], fun x => F_Text_Tags ids x.1 x.2.1 x.2.2.1⟩
def an_Text_Tags : Ann := { order := Sw.look [], reg := Sw.look [], join := Sw.look [], loop := Sw.look [], blk := Sw.lookL [], res := [(6, tS)], anys := [] }
theorem l_Text_Tags : FnOk Try.prog 53 e_Text_Tags :=
 fn_ok mixed (l := [(70, e_Text_walk)]) ⟨l_Text_walk, trivial⟩ (An := an_Text_Tags) Try.func53 (c := Try.f53.body.getD .skip) (by kernel_rfl) Try.ntmps53 (by kernel_rfl) (fun _ _ => Try.call53 _ _) _ (by kernel_rfl) (fun x => by kernel_rfl) (by kernel_rfl)
def e_Text_Bytes : Shallow := ⟨[tP], [tS], fun x => F_Text_Bytes ids x.1⟩
def an_Text_Bytes : Ann := { order := Sw.look [(5, ([[0, 1, 2, 3, 4, 5, 6, 7, 8]], [(0, 6)]))], reg := Sw.look [], join := Sw.look [], loop := Sw.look [], blk := Sw.lookL [(0, []), (1, [])], res := [(2, tS)], anys := [13], rng := Sw.look [(14, ([(14, (.agg b7))], [(5, tP)]))] }
theorem l_Text_Bytes : FnOk Try.prog 33 e_Text_Bytes :=
 fn_ok mixed (l := [(29, e_Text_Size), (47, e_Tree_part_Items)]) ⟨l_Text_Size, l_Tree_part_Items, trivial⟩ (An := an_Text_Bytes) Try.func33 (c := Try.f33.body.getD .skip) (by kernel_rfl) Try.ntmps33 (by kernel_rfl) (fun _ _ => Try.call33 _ _) _ (by kernel_rfl) (fun x => by kernel_rfl) (by kernel_rfl)
def e_law5_see : Shallow := ⟨[tP], [(.agg [.sl, .sl, .sl])], fun x => F_law5_see ids x.1⟩
def an_law5_see : Ann := { order := Sw.look [], reg := Sw.look [], join := Sw.look [], loop := Sw.look [], blk := Sw.lookL [], res := [(2, tP)], anys := [] }
theorem l_law5_see : FnOk Try.prog 22 e_law5_see :=
 fn_ok mixed (l := [(42, e_Text_Len), (41, e_Text_Atoms), (53, e_Text_Tags), (33, e_Text_Bytes)]) ⟨l_Text_Len, l_Text_Atoms, l_Text_Tags, l_Text_Bytes, trivial⟩ (An := an_law5_see) Try.func22 (c := Try.f22.body.getD .skip) (by kernel_rfl) Try.ntmps22 (by kernel_rfl) (fun _ _ => Try.call22 _ _) _ (by kernel_rfl) (fun x => by kernel_rfl) (by kernel_rfl)
def e_pen_edits : Shallow := ⟨[tP, tI], [tS], fun x => F_pen_edits ids x.1 x.2.1⟩
def an_pen_edits : Ann := { order := Sw.look [], reg := Sw.look [(1, ([(10, tB)], [0, 1]))], join := Sw.look [(5, ([], [0, 1]))], loop := Sw.look [], blk := Sw.lookL [], res := [(4, tS)], anys := [] }
theorem l_pen_edits : FnOk Try.prog 91 e_pen_edits :=
 fn_ok mixed (l := []) trivial (An := an_pen_edits) Try.func91 (c := Try.f91.body.getD .skip) (by kernel_rfl) Try.ntmps91 (by kernel_rfl) (fun _ _ => Try.call91 _ _) _ (by kernel_rfl) (fun x => by kernel_rfl) (by kernel_rfl)
def e_pen_put : Shallow := ⟨[tP, tI, tI], [tS], fun x => F_pen_put ids x.1 x.2.1 x.2.2.1⟩
def an_pen_put : Ann := { order := Sw.look [(4, ([[0, 1, 2, 3, 4, 5, 6, 7, 8, 9, 10]], [(4, 5), (4, 6)]))], reg := Sw.look [(1, ([(16, tB)], [0, 1, 2]))], join := Sw.look [], loop := Sw.look [(3, ([], [0, 1, 2]))], blk := Sw.lookL [(0, []), (1, [])], res := [(6, tS)], anys := [] }
theorem l_pen_put : FnOk Try.prog 92 e_pen_put :=
 fn_ok mixed (l := []) trivial (An := an_pen_put) Try.func92 (c := Try.f92.body.getD .skip) (by kernel_rfl) Try.ntmps92 (by kernel_rfl) (fun _ _ => Try.call92 _ _) _ (by kernel_rfl) (fun x => by kernel_rfl) (by kernel_rfl)
def e_law5_hand : Shallow := ⟨[tP, tS], [(.agg [bI, .sl, .sl])], fun x => F_law5_hand ids x.1 x.2.1⟩
def an_law5_hand : Ann := { order := Sw.look [(16, ([[0, 1, 2, 3, 4, 5, 6, 7, 8, 9, 10, 11, 12]], [(4, 11), (9, 11)]))], reg := Sw.look [], join := Sw.look [(4, ([], [0, 1, 4, 5])), (19, ([], [0, 1, 4, 5, 6, 10]))], loop := Sw.look [(6, ([(6, tI)], [0, 1, 4, 5])), (12, ([(9, tI)], [0, 1, 4, 5, 6, 7, 8])), (21, ([(11, tI)], [4, 5]))], blk := Sw.lookL [(0, []), (1, []), (2, []), (3, []), (4, []), (5, [])], res := [(4, tP)], anys := [] }
theorem l_law5_hand : FnOk Try.prog 62 e_law5_hand :=
 fn_ok mixed (l := [(91, e_pen_edits), (92, e_pen_put)]) ⟨l_pen_edits, l_pen_put, trivial⟩ (An := an_law5_hand) Try.func62 (c := Try.f62.body.getD .skip) (by kernel_rfl) Try.ntmps62 (by kernel_rfl) (fun _ _ => Try.call62 _ _) _ (by kernel_rfl) (fun x => by kernel_rfl) (by kernel_rfl)
def e_handed_edits : Shallow := ⟨[(.agg [bI, .sl, .sl])], [tS], fun x => F_handed_edits ids x.1⟩
def an_handed_edits : Ann := { order := Sw.look [], reg := Sw.look [], join := Sw.look [], loop := Sw.look [], blk := Sw.lookL [], res := [(2, tS)], anys := [] }
theorem l_handed_edits : FnOk Try.prog 63 e_handed_edits :=
 fn_ok mixed (l := []) trivial (An := an_handed_edits) Try.func63 (c := Try.f63.body.getD .skip) (by kernel_rfl) Try.ntmps63 (by kernel_rfl) (fun _ _ => Try.call63 _ _) _ (by kernel_rfl) (fun x => by kernel_rfl) (by kernel_rfl)
def e_law5_sameEdits : Shallow := ⟨[tS, tS], [tB], fun x => F_law5_sameEdits ids x.1 x.2.1⟩
def an_law5_sameEdits : Ann := { order := Sw.look [(6, ([[0, 1, 2, 3, 4, 5, 6, 7, 8, 9, 10, 11, 12, 13, 14, 15, 16, 17, 18, 19, 20, 21, 22, 23, 24, 25, 26, 27, 28, 29, 30, 31, 32, 33, 34, 35, 36, 37]], []))], reg := Sw.look [(6, ([(54, tB)], [0, 1, 5]))], join := Sw.look [], loop := Sw.look [(4, ([(5, tI)], [0, 1]))], blk := Sw.lookL [(0, []), (1, [])], res := [(4, tB)], anys := [] }
theorem l_law5_sameEdits : FnOk Try.prog 93 e_law5_sameEdits :=
 fn_ok mixed (l := [(28, e_law5_sameInts)]) ⟨l_law5_sameInts, trivial⟩ (An := an_law5_sameEdits) Try.func93 (c := Try.f93.body.getD .skip) (by kernel_rfl) Try.ntmps93 (by kernel_rfl) (fun _ _ => Try.call93 _ _) _ (by kernel_rfl) (fun x => by kernel_rfl) (by kernel_rfl)
def e_handed_whole : Shallow := ⟨[(.agg [bI, .sl, .sl]), tS], [tB], fun x => F_handed_whole ids x.1 x.2.1⟩
def an_handed_whole : Ann := { order := Sw.look [(14, ([[0, 1, 2, 3, 4, 5, 6, 7, 8, 9, 10, 11, 12, 13, 14, 15, 16, 17, 18]], []))], reg := Sw.look [(7, ([(56, tB)], [1, 2, 5, 6])), (14, ([(91, tB)], [1, 2, 5, 7, 8, 9]))], join := Sw.look [], loop := Sw.look [(5, ([(6, tI)], [1, 2, 5])), (10, ([(7, tI)], [1, 2, 5])), (17, ([(10, tI)], [1, 2, 5, 7, 8]))], blk := Sw.lookL [(0, []), (1, []), (2, []), (3, []), (4, []), (5, [])], res := [(4, tB)], anys := [] }
theorem l_handed_whole : FnOk Try.prog 64 e_handed_whole :=
 fn_ok mixed (l := [(28, e_law5_sameInts), (63, e_handed_edits), (93, e_law5_sameEdits)]) ⟨l_law5_sameInts, l_handed_edits, l_law5_sameEdits, trivial⟩ (An := an_handed_whole) Try.func64 (c := Try.f64.body.getD .skip) (by kernel_rfl) Try.ntmps64 (by kernel_rfl) (fun _ _ => Try.call64 _ _) _ (by kernel_rfl) (fun x => by kernel_rfl) (by kernel_rfl)
def e_handed_spoil : Shallow := ⟨[(.agg [bI, .sl, .sl])], [], fun x => F_handed_spoil ids x.1⟩
def an_handed_spoil : Ann := { order := Sw.look [], reg := Sw.look [], join := Sw.look [], loop := Sw.look [(2, ([(2, tI)], [1])), (5, ([(3, tI)], [1, 2])), (9, ([(4, tI)], [1]))], blk := Sw.lookL [(0, []), (1, []), (2, []), (3, []), (4, []), (5, [])], res := [], anys := [] }
theorem l_handed_spoil : FnOk Try.prog 65 e_handed_spoil :=
 fn_ok mixed (l := []) trivial (An := an_handed_spoil) Try.func65 (c := Try.f65.body.getD .skip) (by kernel_rfl) Try.ntmps65 (by kernel_rfl) (fun _ _ => Try.call65 _ _) _ (by kernel_rfl) (fun x => by kernel_rfl) (by kernel_rfl)
def e_law5_written : Shallow := ⟨[tP, tP, tS], [tI, tB], fun x => F_law5_written ids x.1 x.2.1 x.2.2.1⟩
def an_law5_written : Ann := { order := Sw.look [], reg := Sw.look [], join := Sw.look [], loop := Sw.look [], blk := Sw.lookL [], res := [(6, tI), (7, tB)], anys := [] }
theorem l_law5_written : FnOk Try.prog 34 e_law5_written :=
 fn_ok mixed (l := [(62, e_law5_hand), (63, e_handed_edits), (26, e_Text_Change), (64, e_handed_whole), (65, e_handed_spoil)]) ⟨l_law5_hand, l_handed_edits, l_Text_Change, l_handed_whole, l_handed_spoil, trivial⟩ (An := an_law5_written) Try.func34 (c := Try.f34.body.getD .skip) (by kernel_rfl) Try.ntmps34 (by kernel_rfl) (fun _ _ => Try.call34 _ _) _ (by kernel_rfl) (fun x => by kernel_rfl) (by kernel_rfl)
end
end Go.Proofs.Ytjhnjehmbgaciaa
