/-
  Each function of the cut does what its shallow program says (the text is printed by program).
-/
import Derived.Test.YtjhnjehmbgaciaaSwLpiece0m
set_option maxRecDepth 100000
set_option maxHeartbeats 4000000
set_option linter.unusedVariables false
namespace Go.Proofs.Ytjhnjehmbgaciaa
open Go Go.Sw
noncomputable def e_law5_sameBytes : Shallow := ⟨[(.one .sl), (.one .sl)], [(.one .bool)], fun x => F_law5_sameBytes ids x.1 x.2.1⟩
noncomputable def an_law5_sameBytes : Ann := { order := Go.Sw.look [(6, ([[0, 1, 2, 3, 4, 5, 6, 7, 8]], []))], reg := Go.Sw.look [], join := Go.Sw.look [], loop := Go.Sw.look [(4, ([(5, (.one (.int .i64)))], [0, 1]))], blk := Go.Sw.lookL [(0, []), (1, [])], res := [(4, (.one .bool))], anys := [] }
theorem l_law5_sameBytes : FnOk Try.prog 18 e_law5_sameBytes :=
  fn_ok mixed (l := []) trivial (An := an_law5_sameBytes) Try.func18 (c := Try.f18.body.getD .skip) (by kernel_rfl) Try.ntmps18 (by kernel_rfl) (fun _ _ => Try.call18 _ _) _ (by kernel_rfl) (fun x => by kernel_rfl) (by kernel_rfl)
noncomputable def e_ref1_known : Shallow := ⟨[(.one (.int .i64))], [(.one .bool)], fun x => F_ref1_known ids x.1⟩
noncomputable def an_ref1_known : Ann := { order := Go.Sw.look [], reg := Go.Sw.look [(1, ([(2, (.one .bool))], []))], join := Go.Sw.look [], loop := Go.Sw.look [], blk := Go.Sw.lookL [], res := [(2, (.one .bool))], anys := [] }
theorem l_ref1_known : FnOk Try.prog 95 e_ref1_known :=
  fn_ok mixed (l := []) trivial (An := an_ref1_known) Try.func95 (c := Try.f95.body.getD .skip) (by kernel_rfl) Try.ntmps95 (by kernel_rfl) (fun _ _ => Try.call95 _ _) _ (by kernel_rfl) (fun x => by kernel_rfl) (by kernel_rfl)
noncomputable def e_ref1_meant : Shallow := ⟨[(.one .sl), (.one (.int .i64)), (.one (.int .i64))], [(.one (.int .i64))], fun x => F_ref1_meant ids x.1 x.2.1 x.2.2.1⟩
noncomputable def an_ref1_meant : Ann := { order := Go.Sw.look [(2, ([[0, 1, 2, 3, 4, 5, 6, 7, 8, 9]], []))], reg := Go.Sw.look [], join := Go.Sw.look [], loop := Go.Sw.look [(4, ([(8, (.one (.int .i64))), (9, (.one (.int .i64)))], [0, 1, 2]))], blk := Go.Sw.lookL [(0, [(8, (.one (.int .i64)))]), (1, [(8, (.one (.int .i64)))])], res := [(6, (.one (.int .i64)))], anys := [] }
theorem l_ref1_meant : FnOk Try.prog 110 e_ref1_meant :=
  fn_ok mixed (l := []) trivial (An := an_ref1_meant) Try.func110 (c := Try.f110.body.getD .skip) (by kernel_rfl) Try.ntmps110 (by kernel_rfl) (fun _ _ => Try.call110 _ _) _ (by kernel_rfl) (fun x => by kernel_rfl) (by kernel_rfl)
noncomputable def e_ref1_Scalar : Shallow := ⟨[(.one (.int .i64))], [(.one .bool)], fun x => F_ref1_Scalar ids x.1⟩
noncomputable def an_ref1_Scalar : Ann := { order := Go.Sw.look [], reg := Go.Sw.look [(1, ([(2, (.one .bool))], []))], join := Go.Sw.look [], loop := Go.Sw.look [], blk := Go.Sw.lookL [], res := [(2, (.one .bool))], anys := [] }
theorem l_ref1_Scalar : FnOk Try.prog 106 e_ref1_Scalar :=
  fn_ok mixed (l := []) trivial (An := an_ref1_Scalar) Try.func106 (c := Try.f106.body.getD .skip) (by kernel_rfl) Try.ntmps106 (by kernel_rfl) (fun _ _ => Try.call106 _ _) _ (by kernel_rfl) (fun x => by kernel_rfl) (by kernel_rfl)
noncomputable def e_ref1_eight : Shallow := ⟨[(.one (.int .i64))], [(.one .sl)], fun x => F_ref1_eight ids x.1⟩
noncomputable def an_ref1_eight : Ann := { order := Go.Sw.look [], reg := Go.Sw.look [], join := Go.Sw.look [], loop := Go.Sw.look [], blk := Go.Sw.lookL [(0, [])], res := [(2, (.one .sl))], anys := [] }
theorem l_ref1_eight : FnOk Try.prog 98 e_ref1_eight :=
  fn_ok mixed (l := []) trivial (An := an_ref1_eight) Try.func98 (c := Try.f98.body.getD .skip) (by kernel_rfl) Try.ntmps98 (by kernel_rfl) (fun _ _ => Try.call98 _ _) _ (by kernel_rfl) (fun x => by kernel_rfl) (by kernel_rfl)
noncomputable def e_ref1_begins : Shallow := ⟨[(.one .sl), (.one (.int .i64)), (.one .sl)], [(.one .bool)], fun x => F_ref1_begins ids x.1 x.2.1 x.2.2.1⟩
noncomputable def an_ref1_begins : Ann := { order := Go.Sw.look [(6, ([[0, 1, 2, 3, 4, 5, 6, 7, 8, 9, 10]], []))], reg := Go.Sw.look [], join := Go.Sw.look [], loop := Go.Sw.look [(4, ([(7, (.one (.int .i64)))], [0, 1, 2]))], blk := Go.Sw.lookL [(0, []), (1, [])], res := [(6, (.one .bool))], anys := [] }
theorem l_ref1_begins : FnOk Try.prog 111 e_ref1_begins :=
  fn_ok mixed (l := []) trivial (An := an_ref1_begins) Try.func111 (c := Try.f111.body.getD .skip) (by kernel_rfl) Try.ntmps111 (by kernel_rfl) (fun _ _ => Try.call111 _ _) _ (by kernel_rfl) (fun x => by kernel_rfl) (by kernel_rfl)
noncomputable def e_ref1_eightAt : Shallow := ⟨[(.one .sl), (.one (.int .i64))], [(.one (.int .i64)), (.one (.int .i64))], fun x => F_ref1_eightAt ids x.1 x.2.1⟩
noncomputable def an_ref1_eightAt : Ann := { order := Go.Sw.look [], reg := Go.Sw.look [(2, ([(20, (.one .bool))], [0, 1, 6])), (9, ([(43, (.one .bool))], [0, 1, 6, 7]))], join := Go.Sw.look [(3, ([], [0, 1, 6]))], loop := Go.Sw.look [(2, ([(6, (.one (.int .i64)))], [0, 1]))], blk := Go.Sw.lookL [(0, []), (1, [])], res := [(4, (.one (.int .i64))), (5, (.one (.int .i64)))], anys := [] }
theorem l_ref1_eightAt : FnOk Try.prog 104 e_ref1_eightAt :=
  fn_ok mixed (l := [(110, e_ref1_meant), (106, e_ref1_Scalar), (98, e_ref1_eight), (111, e_ref1_begins)]) ⟨l_ref1_meant, l_ref1_Scalar, l_ref1_eight, l_ref1_begins, trivial⟩ (An := an_ref1_eightAt) Try.func104 (c := Try.f104.body.getD .skip) (by kernel_rfl) Try.ntmps104 (by kernel_rfl) (fun _ _ => Try.call104 _ _) _ (by kernel_rfl) (fun x => by kernel_rfl) (by kernel_rfl)
noncomputable def e_ref1_unitAt : Shallow := ⟨[(.one (.int .i64)), (.one .sl), (.one (.int .i64))], [(.one (.int .i64))], fun x => F_ref1_unitAt ids x.1 x.2.1 x.2.2.1⟩
noncomputable def an_ref1_unitAt : Ann := { order := Go.Sw.look [(4, ([[0, 1, 2, 3, 4, 5, 6, 7, 8, 9, 10, 11, 12, 13]], [])), (5, ([[0, 1, 2, 3, 4, 5, 6, 7, 8, 9, 10, 11, 12, 13]], []))], reg := Go.Sw.look [], join := Go.Sw.look [], loop := Go.Sw.look [], blk := Go.Sw.lookL [], res := [(6, (.one (.int .i64)))], anys := [] }
theorem l_ref1_unitAt : FnOk Try.prog 105 e_ref1_unitAt :=
  fn_ok mixed (l := []) trivial (An := an_ref1_unitAt) Try.func105 (c := Try.f105.body.getD .skip) (by kernel_rfl) Try.ntmps105 (by kernel_rfl) (fun _ _ => Try.call105 _ _) _ (by kernel_rfl) (fun x => by kernel_rfl) (by kernel_rfl)
noncomputable def e_ref1_At : Shallow := ⟨[(.one (.int .i64)), (.one .sl), (.one (.int .i64))], [(.one (.int .i64)), (.one (.int .i64))], fun x => F_ref1_At ids x.1 x.2.1 x.2.2.1⟩
noncomputable def an_ref1_At : Ann := { order := Go.Sw.look [], reg := Go.Sw.look [(9, ([(54, (.one .bool))], [8, 9]))], join := Go.Sw.look [], loop := Go.Sw.look [], blk := Go.Sw.lookL [], res := [(6, (.one (.int .i64))), (7, (.one (.int .i64)))], anys := [] }
theorem l_ref1_At : FnOk Try.prog 96 e_ref1_At :=
  fn_ok mixed (l := [(104, e_ref1_eightAt), (105, e_ref1_unitAt)]) ⟨l_ref1_eightAt, l_ref1_unitAt, trivial⟩ (An := an_ref1_At) Try.func96 (c := Try.f96.body.getD .skip) (by kernel_rfl) Try.ntmps96 (by kernel_rfl) (fun _ _ => Try.call96 _ _) _ (by kernel_rfl) (fun x => by kernel_rfl) (by kernel_rfl)
noncomputable def e_ref1_Next : Shallow := ⟨[(.one (.int .i64)), (.one .sl), (.one (.int .i64))], [(.one (.int .i64)), (.one (.int .i64))], fun x => F_ref1_Next ids x.1 x.2.1 x.2.2.1⟩
noncomputable def an_ref1_Next : Ann := { order := Go.Sw.look [], reg := Go.Sw.look [(2, ([(22, (.one .bool))], [0, 1, 2]))], join := Go.Sw.look [], loop := Go.Sw.look [], blk := Go.Sw.lookL [], res := [(6, (.one (.int .i64))), (7, (.one (.int .i64)))], anys := [] }
theorem l_ref1_Next : FnOk Try.prog 81 e_ref1_Next :=
  fn_ok mixed (l := [(95, e_ref1_known), (96, e_ref1_At)]) ⟨l_ref1_known, l_ref1_At, trivial⟩ (An := an_ref1_Next) Try.func81 (c := Try.f81.body.getD .skip) (by kernel_rfl) Try.ntmps81 (by kernel_rfl) (fun _ _ => Try.call81 _ _) _ (by kernel_rfl) (fun x => by kernel_rfl) (by kernel_rfl)
noncomputable def e_ref5_Open : Shallow := ⟨[(.one (.int .i64)), (.one .sl), (.one (.int .i64))], [(.one .ptr), (.one (.int .i64))], fun x => F_ref5_Open ids x.1 x.2.1 x.2.2.1⟩
noncomputable def an_ref5_Open : Ann := { order := Go.Sw.look [], reg := Go.Sw.look [(1, ([(17, (.one .bool))], [0, 1, 2])), (3, ([(23, (.one .bool))], [0, 1, 2]))], join := Go.Sw.look [], loop := Go.Sw.look [(9, ([(9, (.one (.int .i64)))], [0, 1, 8]))], blk := Go.Sw.lookL [(0, []), (1, [(9, (.one (.int .i64)))])], res := [(6, (.one .ptr)), (7, (.one (.int .i64)))], anys := [] }
theorem l_ref5_Open : FnOk Try.prog 50 e_ref5_Open :=
  fn_ok mixed (l := [(81, e_ref1_Next)]) ⟨l_ref1_Next, trivial⟩ (An := an_ref5_Open) Try.func50 (c := Try.f50.body.getD .skip) (by kernel_rfl) Try.ntmps50 (by kernel_rfl) (fun _ _ => Try.call50 _ _) _ (by kernel_rfl) (fun x => by kernel_rfl) (by kernel_rfl)
noncomputable def e_world_begin : Shallow := ⟨[(.one .ptr), (.agg [(.int .i64), (.int .i64), (.int .i64), (.int .i64), .sl, .sl, .sl])], [(.one .bool)], fun x => F_world_begin ids x.1 x.2.1⟩
noncomputable def an_world_begin : Ann := { order := Go.Sw.look [(12, ([[0, 1, 2, 3, 4, 5, 6, 7, 8, 9, 10, 11, 12, 13, 14]], [])), (13, ([[0, 1, 2, 3, 4, 5, 6, 7, 8, 9, 10, 11, 12, 13, 14, 15, 16, 17]], []))], reg := Go.Sw.look [(14, ([(97, (.one .bool))], [0, 3, 5, 6, 7, 9, 10, 12]))], join := Go.Sw.look [], loop := Go.Sw.look [(2, ([(5, (.one (.int .i64)))], [0, 3])), (8, ([(8, (.one (.int .i64)))], [0, 3, 5, 6, 7])), (17, ([(14, (.one (.int .i64)))], [0, 3, 5, 7, 9, 10, 12])), (22, ([(15, (.one (.int .i64)))], [0, 3, 5, 9, 10, 12]))], blk := Go.Sw.lookL [(0, []), (1, []), (2, []), (3, []), (4, []), (5, []), (6, []), (7, [])], res := [(4, (.one .bool))], anys := [] }
theorem l_world_begin : FnOk Try.prog 19 e_world_begin :=
  fn_ok mixed (l := [(21, e_piece_Open), (50, e_ref5_Open), (18, e_law5_sameBytes)]) ⟨l_piece_Open, l_ref5_Open, l_law5_sameBytes, trivial⟩ (An := an_world_begin) Try.func19 (c := Try.f19.body.getD .skip) (by kernel_rfl) Try.ntmps19 (by kernel_rfl) (fun _ _ => Try.call19 _ _) _ (by kernel_rfl) (fun x => by kernel_rfl) (by kernel_rfl)
noncomputable def e_Text_Enc : Shallow := ⟨[(.one .ptr)], [(.one (.int .i64))], fun x => F_Text_Enc ids x.1⟩
noncomputable def an_Text_Enc : Ann := { order := Go.Sw.look [], reg := Go.Sw.look [], join := Go.Sw.look [], loop := Go.Sw.look [], blk := Go.Sw.lookL [], res := [(2, (.one (.int .i64)))], anys := [] }
theorem l_Text_Enc : FnOk Try.prog 51 e_Text_Enc :=
  fn_ok mixed (l := []) trivial (An := an_Text_Enc) Try.func51 (c := Try.f51.body.getD .skip) (by kernel_rfl) Try.ntmps51 (by kernel_rfl) (fun _ _ => Try.call51 _ _) _ (by kernel_rfl) (fun x => by kernel_rfl) (by kernel_rfl)
noncomputable def e_ref1_Fits : Shallow := ⟨[(.one (.int .i64)), (.one (.int .i64))], [(.one .bool)], fun x => F_ref1_Fits ids x.1 x.2.1⟩
noncomputable def an_ref1_Fits : Ann := { order := Go.Sw.look [], reg := Go.Sw.look [(3, ([(4, (.one .bool))], [])), (6, ([(4, (.one .bool))], [])), (8, ([(4, (.one .bool))], []))], join := Go.Sw.look [(9, ([], []))], loop := Go.Sw.look [], blk := Go.Sw.lookL [(0, [])], res := [(4, (.one .bool))], anys := [] }
theorem l_ref1_Fits : FnOk Try.prog 97 e_ref1_Fits :=
  fn_ok mixed (l := [(106, e_ref1_Scalar)]) ⟨l_ref1_Scalar, trivial⟩ (An := an_ref1_Fits) Try.func97 (c := Try.f97.body.getD .skip) (by kernel_rfl) Try.ntmps97 (by kernel_rfl) (fun _ _ => Try.call97 _ _) _ (by kernel_rfl) (fun x => by kernel_rfl) (by kernel_rfl)
noncomputable def e_ref1_unit : Shallow := ⟨[(.one (.int .i64)), (.one (.int .i64))], [(.one .sl)], fun x => F_ref1_unit ids x.1 x.2.1⟩
noncomputable def an_ref1_unit : Ann := { order := Go.Sw.look [], reg := Go.Sw.look [], join := Go.Sw.look [], loop := Go.Sw.look [], blk := Go.Sw.lookL [], res := [(4, (.one .sl))], anys := [] }
theorem l_ref1_unit : FnOk Try.prog 99 e_ref1_unit :=
  fn_ok mixed (l := []) trivial (An := an_ref1_unit) Try.func99 (c := Try.f99.body.getD .skip) (by kernel_rfl) Try.ntmps99 (by kernel_rfl) (fun _ _ => Try.call99 _ _) _ (by kernel_rfl) (fun x => by kernel_rfl) (by kernel_rfl)
noncomputable def e_ref1_Put : Shallow := ⟨[(.one (.int .i64)), (.one (.int .i64))], [(.one .sl)], fun x => F_ref1_Put ids x.1 x.2.1⟩
noncomputable def an_ref1_Put : Ann := { order := Go.Sw.look [(10, ([[0, 1, 2, 3, 4, 5, 6, 7, 8, 9, 10, 11, 12, 13]], []))], reg := Go.Sw.look [], join := Go.Sw.look [], loop := Go.Sw.look [], blk := Go.Sw.lookL [(0, [])], res := [(4, (.one .sl))], anys := [] }
theorem l_ref1_Put : FnOk Try.prog 84 e_ref1_Put :=
  fn_ok mixed (l := [(98, e_ref1_eight), (99, e_ref1_unit)]) ⟨l_ref1_eight, l_ref1_unit, trivial⟩ (An := an_ref1_Put) Try.func84 (c := Try.f84.body.getD .skip) (by kernel_rfl) Try.ntmps84 (by kernel_rfl) (fun _ _ => Try.call84 _ _) _ (by kernel_rfl) (fun x => by kernel_rfl) (by kernel_rfl)
noncomputable def e_ref1_Size : Shallow := ⟨[(.one (.int .i64)), (.one (.int .i64))], [(.one (.int .i64))], fun x => F_ref1_Size ids x.1 x.2.1⟩
noncomputable def an_ref1_Size : Ann := { order := Go.Sw.look [], reg := Go.Sw.look [], join := Go.Sw.look [], loop := Go.Sw.look [], blk := Go.Sw.lookL [], res := [(4, (.one (.int .i64)))], anys := [] }
theorem l_ref1_Size : FnOk Try.prog 82 e_ref1_Size :=
  fn_ok mixed (l := [(97, e_ref1_Fits), (84, e_ref1_Put)]) ⟨l_ref1_Fits, l_ref1_Put, trivial⟩ (An := an_ref1_Size) Try.func82 (c := Try.f82.body.getD .skip) (by kernel_rfl) Try.ntmps82 (by kernel_rfl) (fun _ _ => Try.call82 _ _) _ (by kernel_rfl) (fun x => by kernel_rfl) (by kernel_rfl)
noncomputable def e_ref_Text_Size : Shallow := ⟨[(.one .ptr)], [(.one (.int .i64))], fun x => F_ref_Text_Size ids x.1⟩
noncomputable def an_ref_Text_Size : Ann := { order := Go.Sw.look [(5, ([[0, 1, 2, 3, 4, 5, 6, 7, 8, 9, 10, 11, 12, 13, 14]], []))], reg := Go.Sw.look [], join := Go.Sw.look [], loop := Go.Sw.look [(3, ([(3, (.one (.int .i64))), (4, (.one (.int .i64)))], [0]))], blk := Go.Sw.lookL [(0, [(3, (.one (.int .i64)))]), (1, [(3, (.one (.int .i64)))])], res := [(2, (.one (.int .i64)))], anys := [] }
theorem l_ref_Text_Size : FnOk Try.prog 52 e_ref_Text_Size :=
  fn_ok mixed (l := [(82, e_ref1_Size)]) ⟨l_ref1_Size, trivial⟩ (An := an_ref_Text_Size) Try.func52 (c := Try.f52.body.getD .skip) (by kernel_rfl) Try.ntmps52 (by kernel_rfl) (fun _ _ => Try.call52 _ _) _ (by kernel_rfl) (fun x => by kernel_rfl) (by kernel_rfl)
noncomputable def e_Tree_part_Items : Shallow := ⟨[(.agg [.ptr]), (.one (.int .i64))], [(.one .any)], fun x => F_Tree_part_Items ids x.1 x.2.1⟩
noncomputable def an_Tree_part_Items : Ann := { order := Go.Sw.look [], reg := Go.Sw.look [], join := Go.Sw.look [], loop := Go.Sw.look [], blk := Go.Sw.lookL [], res := [(4, (.one .any))], anys := [] }
theorem l_Tree_part_Items : FnOk Try.prog 47 e_Tree_part_Items :=
  fn_ok mixed (l := []) trivial (An := an_Tree_part_Items) Try.func47 (c := Try.f47.body.getD .skip) (by kernel_rfl) Try.ntmps47 (by kernel_rfl) (fun _ _ => Try.call47 _ _) _ (by kernel_rfl) (fun x => by kernel_rfl) (by kernel_rfl)
noncomputable def e_Text_walk : Shallow := ⟨[(.one .ptr), (.one (.int .i64)), (.one (.int .i64)), (.one .any)], [], fun x => F_Text_walk ids x.1 x.2.1 x.2.2.1 x.2.2.2.1⟩
noncomputable def an_Text_walk : Ann := { order := Go.Sw.look [(9, ([[0, 1, 2, 3, 4, 5, 6, 7, 8, 9, 10, 11, 12]], []))], reg := Go.Sw.look [], join := Go.Sw.look [(15, ([], [4, 7, 9, 10, 11, 12, 14])), (17, ([], [4, 7, 9, 10, 11, 12, 14]))], loop := Go.Sw.look [(8, ([(12, (.one (.int .i64)))], [4, 7, 9, 10, 11]))], blk := Go.Sw.lookL [(0, []), (1, []), (2, []), (3, [(12, (.one (.int .i64)))])], res := [], anys := [3, 38, 63, 66], rng := Go.Sw.look [(39, ([(39, (.agg [.sl, (.int .i64), (.int .i64), (.int .i64), (.int .i64), .bool, .bool]))], [(11, (.one .ptr))]))] }
theorem l_Text_walk : FnOk Try.prog 70 e_Text_walk :=
  fn_ok mixed (l := [(42, e_Text_Len), (86, e_Text_find), (47, e_Tree_part_Items), (45, e_codec_Next)]) ⟨l_Text_Len, l_Text_find, l_Tree_part_Items, l_codec_Next, trivial⟩ (An := an_Text_walk) Try.func70 (c := Try.f70.body.getD .skip) (by kernel_rfl) Try.ntmps70 (by kernel_rfl) (fun _ _ => Try.call70 _ _) _ (by kernel_rfl) (fun x => by kernel_rfl) (by kernel_rfl)
noncomputable def e_Text_Atoms : Shallow := ⟨[(.one .ptr), (.one (.int .i64)), (.one (.int .i64))], [(.one .sl)], fun x => F_Text_Atoms ids x.1 x.2.1 x.2.2.1⟩
noncomputable def an_Text_Atoms : Ann := { order := Go.Sw.look [], reg := Go.Sw.look [], join := Go.Sw.look [], loop := Go.Sw.look [], blk := Go.Sw.lookL [], res := [(6, (.one .sl))], anys := [] }
theorem l_Text_Atoms : FnOk Try.prog 41 e_Text_Atoms :=
  fn_ok mixed (l := [(70, e_Text_walk)]) ⟨l_Text_walk, trivial⟩ (An := an_Text_Atoms) Try.func41 (c := Try.f41.body.getD .skip) (by kernel_rfl) Try.ntmps41 (by kernel_rfl) (fun _ _ => Try.call41 _ _) _ (by kernel_rfl) (fun x => by kernel_rfl) (by kernel_rfl)
noncomputable def e_law5_sameInts : Shallow := ⟨[(.one .sl), (.one .sl)], [(.one .bool)], fun x => F_law5_sameInts ids x.1 x.2.1⟩
noncomputable def an_law5_sameInts : Ann := { order := Go.Sw.look [(6, ([[0, 1, 2, 3, 4, 5, 6, 7, 8]], []))], reg := Go.Sw.look [], join := Go.Sw.look [], loop := Go.Sw.look [(4, ([(5, (.one (.int .i64)))], [0, 1]))], blk := Go.Sw.lookL [(0, []), (1, [])], res := [(4, (.one .bool))], anys := [] }
theorem l_law5_sameInts : FnOk Try.prog 28 e_law5_sameInts :=
  fn_ok mixed (l := []) trivial (An := an_law5_sameInts) Try.func28 (c := Try.f28.body.getD .skip) (by kernel_rfl) Try.ntmps28 (by kernel_rfl) (fun _ _ => Try.call28 _ _) _ (by kernel_rfl) (fun x => by kernel_rfl) (by kernel_rfl)
noncomputable def e_Text_Tags : Shallow := ⟨[(.one .ptr), (.one (.int .i64)), (.one (.int .i64))], [(.one .sl)], fun x => F_Text_Tags ids x.1 x.2.1 x.2.2.1⟩
noncomputable def an_Text_Tags : Ann := { order := Go.Sw.look [], reg := Go.Sw.look [], join := Go.Sw.look [], loop := Go.Sw.look [], blk := Go.Sw.lookL [], res := [(6, (.one .sl))], anys := [] }
theorem l_Text_Tags : FnOk Try.prog 53 e_Text_Tags :=
  fn_ok mixed (l := [(70, e_Text_walk)]) ⟨l_Text_walk, trivial⟩ (An := an_Text_Tags) Try.func53 (c := Try.f53.body.getD .skip) (by kernel_rfl) Try.ntmps53 (by kernel_rfl) (fun _ _ => Try.call53 _ _) _ (by kernel_rfl) (fun x => by kernel_rfl) (by kernel_rfl)
noncomputable def e_Text_Bytes : Shallow := ⟨[(.one .ptr)], [(.one .sl)], fun x => F_Text_Bytes ids x.1⟩
noncomputable def an_Text_Bytes : Ann := { order := Go.Sw.look [(5, ([[0, 1, 2, 3, 4, 5, 6, 7, 8]], [(0, 6)]))], reg := Go.Sw.look [], join := Go.Sw.look [], loop := Go.Sw.look [], blk := Go.Sw.lookL [(0, []), (1, [])], res := [(2, (.one .sl))], anys := [13], rng := Go.Sw.look [(14, ([(14, (.agg [.sl, (.int .i64), (.int .i64), (.int .i64), (.int .i64), .bool, .bool]))], [(5, (.one .ptr))]))] }
theorem l_Text_Bytes : FnOk Try.prog 33 e_Text_Bytes :=
  fn_ok mixed (l := [(29, e_Text_Size), (47, e_Tree_part_Items)]) ⟨l_Text_Size, l_Tree_part_Items, trivial⟩ (An := an_Text_Bytes) Try.func33 (c := Try.f33.body.getD .skip) (by kernel_rfl) Try.ntmps33 (by kernel_rfl) (fun _ _ => Try.call33 _ _) _ (by kernel_rfl) (fun x => by kernel_rfl) (by kernel_rfl)
noncomputable def e_ref_Text_Bytes : Shallow := ⟨[(.one .ptr)], [(.one .sl)], fun x => F_ref_Text_Bytes ids x.1⟩
noncomputable def an_ref_Text_Bytes : Ann := { order := Go.Sw.look [(5, ([[0, 1, 2, 3, 4, 5, 6, 7, 8, 9, 10, 11, 12, 13, 14]], []))], reg := Go.Sw.look [], join := Go.Sw.look [], loop := Go.Sw.look [(3, ([(3, (.one .sl)), (4, (.one (.int .i64)))], [0]))], blk := Go.Sw.lookL [(0, [(3, (.one .sl))]), (1, [(3, (.one .sl))])], res := [(2, (.one .sl))], anys := [] }
theorem l_ref_Text_Bytes : FnOk Try.prog 54 e_ref_Text_Bytes :=
  fn_ok mixed (l := [(84, e_ref1_Put)]) ⟨l_ref1_Put, trivial⟩ (An := an_ref_Text_Bytes) Try.func54 (c := Try.f54.body.getD .skip) (by kernel_rfl) Try.ntmps54 (by kernel_rfl) (fun _ _ => Try.call54 _ _) _ (by kernel_rfl) (fun x => by kernel_rfl) (by kernel_rfl)
noncomputable def e_world_look : Shallow := ⟨[(.one .ptr), (.one (.int .i64))], [(.one .bool)], fun x => F_world_look ids x.1 x.2.1⟩
noncomputable def an_world_look : Ann := { order := Go.Sw.look [(4, ([[0, 2, 3, 4, 5, 1, 6, 7, 8, 10, 9, 11, 12, 13, 14, 16, 15, 17, 18, 19]], [(5, 1)])), (6, ([[0, 1, 3, 4, 5, 6, 2, 7, 8, 9, 10, 12, 13, 14, 15, 11, 16, 17, 18, 19, 21, 20, 22, 23, 24, 25]], [(6, 2), (15, 11)]))], reg := Go.Sw.look [(4, ([(44, (.one .bool))], [5, 6, 7])), (6, ([(4, (.one .bool))], []))], join := Go.Sw.look [], loop := Go.Sw.look [], blk := Go.Sw.lookL [], res := [(4, (.one .bool))], anys := [] }
theorem l_world_look : FnOk Try.prog 20 e_world_look :=
  fn_ok mixed (l := [(51, e_Text_Enc), (42, e_Text_Len), (29, e_Text_Size), (52, e_ref_Text_Size), (41, e_Text_Atoms), (28, e_law5_sameInts), (53, e_Text_Tags), (33, e_Text_Bytes), (54, e_ref_Text_Bytes), (18, e_law5_sameBytes)]) ⟨l_Text_Enc, l_Text_Len, l_Text_Size, l_ref_Text_Size, l_Text_Atoms, l_law5_sameInts, l_Text_Tags, l_Text_Bytes, l_ref_Text_Bytes, l_law5_sameBytes, trivial⟩ (An := an_world_look) Try.func20 (c := Try.f20.body.getD .skip) (by kernel_rfl) Try.ntmps20 (by kernel_rfl) (fun _ _ => Try.call20 _ _) _ (by kernel_rfl) (fun x => by kernel_rfl) (by kernel_rfl)
noncomputable def e_law5_PieceOpen : Shallow := ⟨[(.one (.int .i64)), (.one .sl), (.one (.int .i64))], [(.one .bool)], fun x => F_law5_PieceOpen ids x.1 x.2.1 x.2.2.1⟩
noncomputable def an_law5_PieceOpen : Ann := { order := Go.Sw.look [], reg := Go.Sw.look [(6, ([(6, (.one .bool))], []))], join := Go.Sw.look [], loop := Go.Sw.look [], blk := Go.Sw.lookL [], res := [(6, (.one .bool))], anys := [] }
theorem l_law5_PieceOpen : FnOk Try.prog 4 e_law5_PieceOpen :=
  fn_ok mixed (l := [(10, e_law5_able), (19, e_world_begin), (20, e_world_look)]) ⟨l_law5_able, l_world_begin, l_world_look, trivial⟩ (An := an_law5_PieceOpen) Try.func4 (c := Try.f4.body.getD .skip) (by kernel_rfl) Try.ntmps4 (by kernel_rfl) (fun _ _ => Try.call4 _ _) _ (by kernel_rfl) (fun x => by kernel_rfl) (by kernel_rfl)
end Go.Proofs.Ytjhnjehmbgaciaa
