/-
  Each function of the cut does what its shallow program says (the text is printed by program).
-/
import Derived.Test.YteoloieadjeneaaSwLtree1
set_option maxRecDepth 100000
set_option maxHeartbeats 4000000
set_option linter.unusedVariables false
namespace Go.Proofs.Yteoloieadjeneaa
open Go Go.Sw
noncomputable def e_Tree_Word_Items_1 : Shallow := ⟨[(.one .any), (.one .ptr), (.one .ptr)], [], fun x => F_Tree_Word_Items_1 ids x.1 x.2.1 x.2.2.1⟩
noncomputable def an_Tree_Word_Items_1 : Ann := { order := Go.Sw.look [], reg := Go.Sw.look [], join := Go.Sw.look [], loop := Go.Sw.look [], blk := Go.Sw.lookL [], res := [], anys := [0, 6] }
theorem l_Tree_Word_Items_1 : FnOk Try.prog 80 e_Tree_Word_Items_1 :=
  fn_ok mixed (l := []) trivial (An := an_Tree_Word_Items_1) Try.func80 (c := Try.f80.body.getD .skip) (by kernel_rfl) Try.ntmps80 (by kernel_rfl) (fun _ _ => Try.call80 _ _) _ (by kernel_rfl) (fun x => by kernel_rfl)
noncomputable def e_Tree_Word_Items_1_1 : Shallow := ⟨[(.one .ptr), (.one (.int .i64)), (.one .ptr), (.one .ptr)], [(.one .bool)], fun x => F_Tree_Word_Items_1_1 ids x.1 x.2.1 x.2.2.1 x.2.2.2.1⟩
noncomputable def an_Tree_Word_Items_1_1 : Ann := { order := Go.Sw.look [(4, ([[0, 1, 2, 3, 4, 5, 6, 7, 8, 9, 10, 11, 12]], [])), (6, ([[0, 1, 2, 3, 4, 5, 6, 7, 8, 9, 10, 11]], [])), (8, ([[0, 1, 2, 3, 4, 5, 6, 7, 8, 9, 10, 11]], []))], reg := Go.Sw.look [(1, ([(17, (.one .bool))], [0, 1, 2, 3])), (4, ([(35, (.one .bool))], [0, 1, 2, 3, 7])), (6, ([(47, (.one .bool))], [0, 1, 2, 7]))], join := Go.Sw.look [], loop := Go.Sw.look [], blk := Go.Sw.lookL [], res := [(6, (.one .bool))], anys := [27, 40, 48] }
theorem l_Tree_Word_Items_1_1 : FnOk Try.prog 81 e_Tree_Word_Items_1_1 :=
  fn_ok mixed (l := [(56, e_node_Word_count)]) ⟨l_node_Word_count, trivial⟩ (An := an_Tree_Word_Items_1_1) Try.func81 (c := Try.f81.body.getD .skip) (by kernel_rfl) Try.ntmps81 (by kernel_rfl) (fun _ _ => Try.call81 _ _) _ (by kernel_rfl) (fun x => by kernel_rfl)
noncomputable def e_law4_walked_1 : Shallow := ⟨[(.agg [.str]), (.one .ptr), (.one .ptr), (.one .ptr), (.one .ptr), (.one .ptr)], [(.one .bool)], fun x => F_law4_walked_1 ids x.1 x.2.1 x.2.2.1 x.2.2.2.1 x.2.2.2.2.1 x.2.2.2.2.2.1⟩
noncomputable def an_law4_walked_1 : Ann := { order := Go.Sw.look [(1, ([[0, 1, 2, 3, 4, 5, 6, 7, 8, 9, 10, 11, 12, 13, 14, 15, 16, 17, 18, 19]], []))], reg := Go.Sw.look [(1, ([], [1, 2, 3, 5])), (3, ([], [2]))], join := Go.Sw.look [], loop := Go.Sw.look [], blk := Go.Sw.lookL [], res := [(7, (.one .bool))], anys := [] }
theorem l_law4_walked_1 : FnOk Try.prog 82 e_law4_walked_1 :=
  fn_ok mixed (l := []) trivial (An := an_law4_walked_1) Try.func82 (c := Try.f82.body.getD .skip) (by kernel_rfl) Try.ntmps82 (by kernel_rfl) (fun _ _ => Try.call82 _ _) _ (by kernel_rfl) (fun x => by kernel_rfl)
noncomputable def e_Tree_Run_Items_1 : Shallow := ⟨[(.one .any), (.one .ptr), (.one .ptr)], [], fun x => F_Tree_Run_Items_1 ids x.1 x.2.1 x.2.2.1⟩
noncomputable def an_Tree_Run_Items_1 : Ann := { order := Go.Sw.look [], reg := Go.Sw.look [], join := Go.Sw.look [], loop := Go.Sw.look [], blk := Go.Sw.lookL [], res := [], anys := [0, 6] }
theorem l_Tree_Run_Items_1 : FnOk Try.prog 86 e_Tree_Run_Items_1 :=
  fn_ok mixed (l := []) trivial (An := an_Tree_Run_Items_1) Try.func86 (c := Try.f86.body.getD .skip) (by kernel_rfl) Try.ntmps86 (by kernel_rfl) (fun _ _ => Try.call86 _ _) _ (by kernel_rfl) (fun x => by kernel_rfl)
noncomputable def e_Tree_Run_Items_1_1 : Shallow := ⟨[(.one .ptr), (.one (.int .i64)), (.one .ptr), (.one .ptr)], [(.one .bool)], fun x => F_Tree_Run_Items_1_1 ids x.1 x.2.1 x.2.2.1 x.2.2.2.1⟩
noncomputable def an_Tree_Run_Items_1_1 : Ann := { order := Go.Sw.look [(4, ([[0, 1, 2, 3, 4, 5, 6, 7, 8, 9, 10, 11, 12]], [])), (6, ([[0, 1, 2, 3, 4, 5, 6, 7, 8, 9, 10, 11]], [])), (8, ([[0, 1, 2, 3, 4, 5, 6, 7, 8, 9, 10, 11]], []))], reg := Go.Sw.look [(1, ([(17, (.one .bool))], [0, 1, 2, 3])), (4, ([(35, (.one .bool))], [0, 1, 2, 3, 7])), (6, ([(47, (.one .bool))], [0, 1, 2, 7]))], join := Go.Sw.look [], loop := Go.Sw.look [], blk := Go.Sw.lookL [], res := [(6, (.one .bool))], anys := [27, 40, 48] }
theorem l_Tree_Run_Items_1_1 : FnOk Try.prog 87 e_Tree_Run_Items_1_1 :=
  fn_ok mixed (l := [(41, e_node_Run_count)]) ⟨l_node_Run_count, trivial⟩ (An := an_Tree_Run_Items_1_1) Try.func87 (c := Try.f87.body.getD .skip) (by kernel_rfl) Try.ntmps87 (by kernel_rfl) (fun _ _ => Try.call87 _ _) _ (by kernel_rfl) (fun x => by kernel_rfl)
noncomputable def e_law4_take_1 : Shallow := ⟨[(.agg [(.int .i64), (.int .i64)]), (.one .ptr), (.one .ptr), (.one .ptr)], [(.one .bool)], fun x => F_law4_take_1 ids x.1 x.2.1 x.2.2.1 x.2.2.2.1⟩
noncomputable def an_law4_take_1 : Ann := { order := Go.Sw.look [], reg := Go.Sw.look [], join := Go.Sw.look [], loop := Go.Sw.look [], blk := Go.Sw.lookL [], res := [(5, (.one .bool))], anys := [] }
theorem l_law4_take_1 : FnOk Try.prog 88 e_law4_take_1 :=
  fn_ok mixed (l := []) trivial (An := an_law4_take_1) Try.func88 (c := Try.f88.body.getD .skip) (by kernel_rfl) Try.ntmps88 (by kernel_rfl) (fun _ _ => Try.call88 _ _) _ (by kernel_rfl) (fun x => by kernel_rfl)
noncomputable def e_law4_nested_1 : Shallow := ⟨[(.agg [(.int .i64), (.int .i64)]), (.one .ptr), (.one .ptr), (.one .ptr), (.one .ptr), (.one .ptr)], [(.one .bool)], fun x => F_law4_nested_1 ids x.1 x.2.1 x.2.2.1 x.2.2.2.1 x.2.2.2.2.1 x.2.2.2.2.2.1⟩
noncomputable def an_law4_nested_1 : Ann := { order := Go.Sw.look [(7, ([[0, 1, 2, 3, 4, 5, 6, 7, 8, 9]], []))], reg := Go.Sw.look [(3, ([], [1, 4, 5, 6, 8])), (5, ([(36, (.one .bool))], [1, 4, 5, 6, 8, 10])), (9, ([(7, (.one .bool))], []))], join := Go.Sw.look [(8, ([], [1, 4, 5, 6]))], loop := Go.Sw.look [(5, ([(10, (.one (.int .i64)))], [1, 4, 5, 6, 8]))], blk := Go.Sw.lookL [(0, []), (1, [])], res := [(7, (.one .bool))], anys := [16] }
theorem l_law4_nested_1 : FnOk Try.prog 89 e_law4_nested_1 :=
  fn_ok mixed (l := [(84, e_law4_take)]) ⟨l_law4_take, trivial⟩ (An := an_law4_nested_1) Try.func89 (c := Try.f89.body.getD .skip) (by kernel_rfl) Try.ntmps89 (by kernel_rfl) (fun _ _ => Try.call89 _ _) _ (by kernel_rfl) (fun x => by kernel_rfl)
end Go.Proofs.Yteoloieadjeneaa
