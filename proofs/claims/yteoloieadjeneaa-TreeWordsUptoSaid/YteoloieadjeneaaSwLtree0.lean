/-
  Each function of the cut does what its shallow program says (the text is printed by program).
-/
import Derived.Test.YteoloieadjeneaaProg
import Derived.KernelRfl
import Derived.Test.YteoloieadjeneaaSwS10
import Derived.Test.YteoloieadjeneaaSwFtree
set_option maxRecDepth 100000
set_option maxHeartbeats 4000000
set_option linter.unusedVariables false
namespace Go.Proofs.Yteoloieadjeneaa
open Go Go.Sw
noncomputable def ids : Ids := { f_Tree_Run_Items_1 := 86, f_Tree_Run_Items_1_1 := 87, f_Tree_Word_Items_1 := 80, f_Tree_Word_Items_1_1 := 81, f_law4_nested_1 := 89, f_law4_take_1 := 88, f_law4_walked_1 := 82, none := () }
theorem mixed : Try.prog.follows .mixedOrders = true := by kernel_rfl
noncomputable def e_Run_Measure : Shallow := ⟨[(.agg [(.int .i64), (.int .i64)])], [(.agg [(.int .i64), (.int .i64), (.int .i64), (.int .i64)])], fun x => F_Run_Measure ids x.1⟩
noncomputable def an_Run_Measure : Ann := { order := Go.Sw.look [], reg := Go.Sw.look [], join := Go.Sw.look [], loop := Go.Sw.look [], blk := Go.Sw.lookL [], res := [(2, (.one .ptr))], anys := [] }
theorem l_Run_Measure : FnOk Try.prog 38 e_Run_Measure :=
  fn_ok mixed (l := []) trivial (An := an_Run_Measure) Try.func38 (c := Try.f38.body.getD .skip) (by kernel_rfl) Try.ntmps38 (by kernel_rfl) (fun _ _ => Try.call38 _ _) _ (by kernel_rfl) (fun x => by kernel_rfl)
noncomputable def e_Runs_Add : Shallow := ⟨[(.agg [(.int .i64), (.int .i64), (.int .i64), (.int .i64)]), (.agg [(.int .i64), (.int .i64), (.int .i64), (.int .i64)])], [(.agg [(.int .i64), (.int .i64), (.int .i64), (.int .i64)])], fun x => F_Runs_Add ids x.1 x.2.1⟩
noncomputable def an_Runs_Add : Ann := { order := Go.Sw.look [], reg := Go.Sw.look [], join := Go.Sw.look [(8, ([(5, (.one (.int .i64)))], [2, 3, 4]))], loop := Go.Sw.look [], blk := Go.Sw.lookL [(0, [])], res := [(4, (.one .ptr))], anys := [] }
theorem l_Runs_Add : FnOk Try.prog 14 e_Runs_Add :=
  fn_ok mixed (l := []) trivial (An := an_Runs_Add) Try.func14 (c := Try.f14.body.getD .skip) (by kernel_rfl) Try.ntmps14 (by kernel_rfl) (fun _ _ => Try.call14 _ _) _ (by kernel_rfl) (fun x => by kernel_rfl)
noncomputable def e_law4_added : Shallow := ⟨[(.one .sl)], [(.agg [(.int .i64), (.int .i64), (.int .i64), (.int .i64)])], fun x => F_law4_added ids x.1⟩
noncomputable def an_law4_added : Ann := { order := Go.Sw.look [(5, ([[0, 1, 2, 3, 4, 5, 6, 7]], [(0, 5)]))], reg := Go.Sw.look [], join := Go.Sw.look [], loop := Go.Sw.look [(3, ([(4, (.one (.int .i64)))], [0, 2, 3]))], blk := Go.Sw.lookL [(0, []), (1, [])], res := [(2, (.one .ptr))], anys := [] }
theorem l_law4_added : FnOk Try.prog 13 e_law4_added :=
  fn_ok mixed (l := [(38, e_Run_Measure), (14, e_Runs_Add)]) ⟨l_Run_Measure, l_Runs_Add, trivial⟩ (An := an_law4_added) Try.func13 (c := Try.f13.body.getD .skip) (by kernel_rfl) Try.ntmps13 (by kernel_rfl) (fun _ _ => Try.call13 _ _) _ (by kernel_rfl) (fun x => by kernel_rfl)
noncomputable def e_law4_plain : Shallow := ⟨[(.one .sl)], [(.one .sl)], fun x => F_law4_plain ids x.1⟩
noncomputable def an_law4_plain : Ann := { order := Go.Sw.look [(5, ([[0, 1, 2, 3, 4, 5, 6, 7, 8, 9, 10, 11, 12, 13, 14]], []))], reg := Go.Sw.look [], join := Go.Sw.look [], loop := Go.Sw.look [(3, ([(3, (.one .sl)), (4, (.one (.int .i64)))], [0]))], blk := Go.Sw.lookL [(0, [(3, (.one .sl))]), (1, [(3, (.one .sl))])], res := [(2, (.one .sl))], anys := [] }
theorem l_law4_plain : FnOk Try.prog 16 e_law4_plain :=
  fn_ok mixed (l := []) trivial (An := an_law4_plain) Try.func16 (c := Try.f16.body.getD .skip) (by kernel_rfl) Try.ntmps16 (by kernel_rfl) (fun _ _ => Try.call16 _ _) _ (by kernel_rfl) (fun x => by kernel_rfl)
noncomputable def e_ref4_behind : Shallow := ⟨[(.agg [(.int .i64), (.int .i64), (.int .i64), (.int .i64)]), (.agg [(.int .i64), (.int .i64)])], [(.agg [(.int .i64), (.int .i64), (.int .i64), (.int .i64)])], fun x => F_ref4_behind ids x.1 x.2.1⟩
noncomputable def an_ref4_behind : Ann := { order := Go.Sw.look [], reg := Go.Sw.look [], join := Go.Sw.look [(8, ([], [2, 3, 4])), (12, ([], [2, 4]))], loop := Go.Sw.look [], blk := Go.Sw.lookL [], res := [(4, (.one .ptr))], anys := [] }
theorem l_ref4_behind : FnOk Try.prog 39 e_ref4_behind :=
  fn_ok mixed (l := []) trivial (An := an_ref4_behind) Try.func39 (c := Try.f39.body.getD .skip) (by kernel_rfl) Try.ntmps39 (by kernel_rfl) (fun _ _ => Try.call39 _ _) _ (by kernel_rfl) (fun x => by kernel_rfl)
noncomputable def e_ref4_Upto : Shallow := ⟨[(.one .sl), (.one (.int .i64))], [(.agg [(.int .i64), (.int .i64), (.int .i64), (.int .i64)])], fun x => F_ref4_Upto ids x.1 x.2.1⟩
noncomputable def an_ref4_Upto : Ann := { order := Go.Sw.look [(5, ([[0, 1, 2, 3, 4, 5, 6]], []))], reg := Go.Sw.look [(3, ([(15, (.one .bool))], [0, 1, 4, 5, 6]))], join := Go.Sw.look [], loop := Go.Sw.look [(3, ([(6, (.one (.int .i64)))], [0, 1, 4, 5]))], blk := Go.Sw.lookL [(0, []), (1, [])], res := [(4, (.one .ptr))], anys := [] }
theorem l_ref4_Upto : FnOk Try.prog 15 e_ref4_Upto :=
  fn_ok mixed (l := [(39, e_ref4_behind)]) ⟨l_ref4_behind, trivial⟩ (An := an_ref4_Upto) Try.func15 (c := Try.f15.body.getD .skip) (by kernel_rfl) Try.ntmps15 (by kernel_rfl) (fun _ _ => Try.call15 _ _) _ (by kernel_rfl) (fun x => by kernel_rfl)
noncomputable def e_law4_sameRuns : Shallow := ⟨[(.agg [(.int .i64), (.int .i64), (.int .i64), (.int .i64)]), (.agg [(.int .i64), (.int .i64), (.int .i64), (.int .i64)])], [(.one .bool)], fun x => F_law4_sameRuns ids x.1 x.2.1⟩
noncomputable def an_law4_sameRuns : Ann := { order := Go.Sw.look [], reg := Go.Sw.look [(1, ([(4, (.one .bool))], []))], join := Go.Sw.look [], loop := Go.Sw.look [], blk := Go.Sw.lookL [], res := [(4, (.one .bool))], anys := [] }
theorem l_law4_sameRuns : FnOk Try.prog 17 e_law4_sameRuns :=
  fn_ok mixed (l := []) trivial (An := an_law4_sameRuns) Try.func17 (c := Try.f17.body.getD .skip) (by kernel_rfl) Try.ntmps17 (by kernel_rfl) (fun _ _ => Try.call17 _ _) _ (by kernel_rfl) (fun x => by kernel_rfl)
noncomputable def e_Runs_Key : Shallow := ⟨[(.agg [(.int .i64), (.int .i64), (.int .i64), (.int .i64)]), (.one (.int .i64))], [(.one (.int .i64))], fun x => F_Runs_Key ids x.1 x.2.1⟩
noncomputable def an_Runs_Key : Ann := { order := Go.Sw.look [], reg := Go.Sw.look [], join := Go.Sw.look [], loop := Go.Sw.look [], blk := Go.Sw.lookL [(0, [])], res := [(4, (.one (.int .i64)))], anys := [] }
theorem l_Runs_Key : FnOk Try.prog 18 e_Runs_Key :=
  fn_ok mixed (l := []) trivial (An := an_Runs_Key) Try.func18 (c := Try.f18.body.getD .skip) (by kernel_rfl) Try.ntmps18 (by kernel_rfl) (fun _ _ => Try.call18 _ _) _ (by kernel_rfl) (fun x => by kernel_rfl)
noncomputable def e_ref4_Key : Shallow := ⟨[(.agg [(.int .i64), (.int .i64), (.int .i64), (.int .i64)]), (.one (.int .i64))], [(.one (.int .i64))], fun x => F_ref4_Key ids x.1 x.2.1⟩
noncomputable def an_ref4_Key : Ann := { order := Go.Sw.look [], reg := Go.Sw.look [], join := Go.Sw.look [], loop := Go.Sw.look [], blk := Go.Sw.lookL [(0, [])], res := [(4, (.one (.int .i64)))], anys := [] }
theorem l_ref4_Key : FnOk Try.prog 19 e_ref4_Key :=
  fn_ok mixed (l := []) trivial (An := an_ref4_Key) Try.func19 (c := Try.f19.body.getD .skip) (by kernel_rfl) Try.ntmps19 (by kernel_rfl) (fun _ _ => Try.call19 _ _) _ (by kernel_rfl) (fun x => by kernel_rfl)
noncomputable def e_law4_TreeRuns : Shallow := ⟨[(.one .sl), (.one .sl), (.one .sl)], [(.one .bool)], fun x => F_law4_TreeRuns ids x.1 x.2.1 x.2.2.1⟩
noncomputable def an_law4_TreeRuns : Ann := { order := Go.Sw.look [(9, ([[0, 1, 3, 2, 4, 5, 6], [0, 1, 3, 2, 5, 4, 6], [0, 1, 3, 5, 2, 4, 6]], [(0, 5), (1, 5), (3, 2), (3, 5)])), (10, ([[0, 1, 2, 3, 4, 5, 6], [0, 1, 2, 3, 5, 4, 6], [0, 1, 2, 5, 3, 4, 6]], [(0, 3), (0, 5), (1, 5), (2, 5)])), (17, ([[0, 1, 3, 4, 2, 5, 6, 7, 8, 9, 11, 12, 10, 13, 14, 15]], [(3, 2), (11, 10)]))], reg := Go.Sw.look [(1, ([(27, (.one .bool))], [0, 1, 2])), (9, ([(11, (.one .ptr))], [7, 8, 9, 10])), (10, ([(12, (.one .ptr))], [7, 8, 11])), (12, ([(73, (.one .bool))], [8, 11, 13])), (17, ([(93, (.one .bool))], [8, 11, 13, 14]))], join := Go.Sw.look [], loop := Go.Sw.look [(15, ([(14, (.one (.int .i64)))], [8, 11, 13]))], blk := Go.Sw.lookL [(0, []), (1, [])], res := [(6, (.one .bool))], anys := [] }
theorem l_law4_TreeRuns : FnOk Try.prog 3 e_law4_TreeRuns :=
  fn_ok mixed (l := [(13, e_law4_added), (14, e_Runs_Add), (16, e_law4_plain), (15, e_ref4_Upto), (17, e_law4_sameRuns), (18, e_Runs_Key), (19, e_ref4_Key)]) ⟨l_law4_added, l_Runs_Add, l_law4_plain, l_ref4_Upto, l_law4_sameRuns, l_Runs_Key, l_ref4_Key, trivial⟩ (An := an_law4_TreeRuns) Try.func3 (c := Try.f3.body.getD .skip) (by kernel_rfl) Try.ntmps3 (by kernel_rfl) (fun _ _ => Try.call3 _ _) _ (by kernel_rfl) (fun x => by kernel_rfl)
noncomputable def e_node_Run_count : Shallow := ⟨[(.one .ptr)], [(.one (.int .i64))], fun x => F_node_Run_count ids x.1⟩
noncomputable def an_node_Run_count : Ann := { order := Go.Sw.look [], reg := Go.Sw.look [], join := Go.Sw.look [], loop := Go.Sw.look [], blk := Go.Sw.lookL [], res := [(2, (.one (.int .i64)))], anys := [] }
theorem l_node_Run_count : FnOk Try.prog 41 e_node_Run_count :=
  fn_ok mixed (l := []) trivial (An := an_node_Run_count) Try.func41 (c := Try.f41.body.getD .skip) (by kernel_rfl) Try.ntmps41 (by kernel_rfl) (fun _ _ => Try.call41 _ _) _ (by kernel_rfl) (fun x => by kernel_rfl)
noncomputable def e_node_Run_tall : Shallow := ⟨[(.one .ptr)], [(.one (.int .i64))], fun x => F_node_Run_tall ids x.1⟩
noncomputable def an_node_Run_tall : Ann := { order := Go.Sw.look [], reg := Go.Sw.look [], join := Go.Sw.look [], loop := Go.Sw.look [], blk := Go.Sw.lookL [], res := [(2, (.one (.int .i64)))], anys := [] }
theorem l_node_Run_tall : FnOk Try.prog 44 e_node_Run_tall :=
  fn_ok mixed (l := []) trivial (An := an_node_Run_tall) Try.func44 (c := Try.f44.body.getD .skip) (by kernel_rfl) Try.ntmps44 (by kernel_rfl) (fun _ _ => Try.call44 _ _) _ (by kernel_rfl) (fun x => by kernel_rfl)
noncomputable def e_tree_of_Run : Shallow := ⟨[(.one .ptr), (.agg [(.int .i64), (.int .i64)]), (.one .ptr)], [(.one .ptr)], fun x => F_tree_of_Run ids x.1 x.2.1 x.2.2.1⟩
noncomputable def an_tree_of_Run : Ann := { order := Go.Sw.look [(1, ([[0, 1, 2, 3, 6, 9, 11, 4, 5, 7, 8, 10, 12, 13, 14, 15, 16, 17]], [(1, 4), (1, 7), (1, 10), (1, 12)])), (4, ([[0, 1, 2, 3, 4, 5, 6, 7, 8, 9, 10, 11, 12, 13]], [])), (6, ([[0, 1, 2, 3, 4, 5, 6, 7, 8, 9, 10, 11, 12, 13]], []))], reg := Go.Sw.look [], join := Go.Sw.look [(5, ([], [2, 7])), (7, ([], [7]))], loop := Go.Sw.look [], blk := Go.Sw.lookL [], res := [(6, (.one .ptr))], anys := [] }
theorem l_tree_of_Run : FnOk Try.prog 61 e_tree_of_Run :=
  fn_ok mixed (l := [(41, e_node_Run_count), (44, e_node_Run_tall), (38, e_Run_Measure), (14, e_Runs_Add)]) ⟨l_node_Run_count, l_node_Run_tall, l_Run_Measure, l_Runs_Add, trivial⟩ (An := an_tree_of_Run) Try.func61 (c := Try.f61.body.getD .skip) (by kernel_rfl) Try.ntmps61 (by kernel_rfl) (fun _ _ => Try.call61 _ _) _ (by kernel_rfl) (fun x => by kernel_rfl)
noncomputable def e_tree_build_Run : Shallow := ⟨[(.one .sl)], [(.one .ptr)], fun x => F_tree_build_Run ids x.1⟩
noncomputable def an_tree_build_Run : Ann := { order := Go.Sw.look [(4, ([[0, 1, 2, 4, 5, 6, 7, 8, 9, 10, 11, 3, 12, 13, 14]], [(7, 3), (7, 12)]))], reg := Go.Sw.look [], join := Go.Sw.look [], loop := Go.Sw.look [], blk := Go.Sw.lookL [], res := [(2, (.one .ptr))], anys := [] }
theorem l_tree_build_Run : FnOk Try.prog 40 e_tree_build_Run :=
  fn_ex (tys := [(.one .sl)]) (res := [(.one .ptr)]) (R := fun fuelN => fun x => R_tree_build_Run fuelN ids x.1) (fun _ => rfl) (fun _ _ => Try.call40 _ _) fun fuelN ih =>
  fn_ok mixed (l := [(40, (⟨[(.one .sl)], [(.one .ptr)], fun x => R_tree_build_Run fuelN ids x.1⟩ : Shallow)), (61, e_tree_of_Run)]) ⟨ih, l_tree_of_Run, trivial⟩ (An := an_tree_build_Run) Try.func40 (c := Try.f40.body.getD .skip) (by kernel_rfl) Try.ntmps40 (by kernel_rfl) (fun _ _ => Try.call40 _ _) _ (by kernel_rfl) (fun x => by kernel_rfl)
noncomputable def e_tree_Of_Run : Shallow := ⟨[(.one .sl)], [(.agg [.ptr])], fun x => F_tree_Of_Run ids x.1⟩
noncomputable def an_tree_Of_Run : Ann := { order := Go.Sw.look [], reg := Go.Sw.look [], join := Go.Sw.look [], loop := Go.Sw.look [], blk := Go.Sw.lookL [], res := [(2, (.one .ptr))], anys := [] }
theorem l_tree_Of_Run : FnOk Try.prog 20 e_tree_Of_Run :=
  fn_ok mixed (l := [(40, e_tree_build_Run)]) ⟨l_tree_build_Run, trivial⟩ (An := an_tree_Of_Run) Try.func20 (c := Try.f20.body.getD .skip) (by kernel_rfl) Try.ntmps20 (by kernel_rfl) (fun _ _ => Try.call20 _ _) _ (by kernel_rfl) (fun x => by kernel_rfl)
noncomputable def e_Tree_Run_Sum : Shallow := ⟨[(.agg [.ptr])], [(.agg [(.int .i64), (.int .i64), (.int .i64), (.int .i64)])], fun x => F_Tree_Run_Sum ids x.1⟩
noncomputable def an_Tree_Run_Sum : Ann := { order := Go.Sw.look [], reg := Go.Sw.look [], join := Go.Sw.look [], loop := Go.Sw.look [], blk := Go.Sw.lookL [], res := [(2, (.one .ptr))], anys := [] }
theorem l_Tree_Run_Sum : FnOk Try.prog 21 e_Tree_Run_Sum :=
  fn_ok mixed (l := []) trivial (An := an_Tree_Run_Sum) Try.func21 (c := Try.f21.body.getD .skip) (by kernel_rfl) Try.ntmps21 (by kernel_rfl) (fun _ _ => Try.call21 _ _) _ (by kernel_rfl) (fun x => by kernel_rfl)
noncomputable def e_Tree_Run_Size : Shallow := ⟨[(.agg [.ptr])], [(.one (.int .i64))], fun x => F_Tree_Run_Size ids x.1⟩
noncomputable def an_Tree_Run_Size : Ann := { order := Go.Sw.look [], reg := Go.Sw.look [], join := Go.Sw.look [], loop := Go.Sw.look [], blk := Go.Sw.lookL [], res := [(2, (.one (.int .i64)))], anys := [] }
theorem l_Tree_Run_Size : FnOk Try.prog 22 e_Tree_Run_Size :=
  fn_ok mixed (l := [(41, e_node_Run_count)]) ⟨l_node_Run_count, trivial⟩ (An := an_Tree_Run_Size) Try.func22 (c := Try.f22.body.getD .skip) (by kernel_rfl) Try.ntmps22 (by kernel_rfl) (fun _ _ => Try.call22 _ _) _ (by kernel_rfl) (fun x => by kernel_rfl)
noncomputable def e_Tree_Run_Find : Shallow := ⟨[(.agg [.ptr]), (.one (.int .i64)), (.one (.int .i64))], [(.one (.int .i64))], fun x => F_Tree_Run_Find ids x.1 x.2.1 x.2.2.1⟩
noncomputable def an_Tree_Run_Find : Ann := { order := Go.Sw.look [(9, ([[0, 1, 2, 3, 4, 5, 6, 7, 8, 9, 10]], [])), (13, ([[0, 1, 2, 3, 4, 5, 6, 7, 8, 9]], [(0, 7)]))], reg := Go.Sw.look [], join := Go.Sw.look [(10, ([], [1, 2, 7, 8, 9, 10]))], loop := Go.Sw.look [(6, ([(8, (.one (.int .i64))), (9, (.one .ptr))], [1, 2, 7]))], blk := Go.Sw.lookL [(0, [(8, (.one (.int .i64)))]), (1, [(8, (.one (.int .i64))), (9, (.one .ptr))])], res := [(6, (.one (.int .i64)))], anys := [] }
theorem l_Tree_Run_Find : FnOk Try.prog 23 e_Tree_Run_Find :=
  fn_ok mixed (l := [(14, e_Runs_Add), (18, e_Runs_Key), (41, e_node_Run_count), (38, e_Run_Measure)]) ⟨l_Runs_Add, l_Runs_Key, l_node_Run_count, l_Run_Measure, trivial⟩ (An := an_Tree_Run_Find) Try.func23 (c := Try.f23.body.getD .skip) (by kernel_rfl) Try.ntmps23 (by kernel_rfl) (fun _ _ => Try.call23 _ _) _ (by kernel_rfl) (fun x => by kernel_rfl)
noncomputable def e_Tree_Run_Upto : Shallow := ⟨[(.agg [.ptr]), (.one (.int .i64))], [(.agg [(.int .i64), (.int .i64), (.int .i64), (.int .i64)])], fun x => F_Tree_Run_Upto ids x.1 x.2.1⟩
noncomputable def an_Tree_Run_Upto : Ann := { order := Go.Sw.look [(9, ([[0, 1, 2, 3, 4, 5, 6, 7, 8, 9, 10]], [])), (10, ([[0, 1, 2, 3, 4, 5, 6, 7, 8, 9]], [(0, 7)]))], reg := Go.Sw.look [(4, ([(19, (.one .bool))], [1, 4, 5, 6]))], join := Go.Sw.look [(10, ([], [1, 4, 5, 6, 7]))], loop := Go.Sw.look [(4, ([(1, (.one (.int .i64))), (6, (.one .ptr))], [4, 5]))], blk := Go.Sw.lookL [(0, []), (1, [(1, (.one (.int .i64))), (6, (.one .ptr))])], res := [(4, (.one .ptr))], anys := [] }
theorem l_Tree_Run_Upto : FnOk Try.prog 24 e_Tree_Run_Upto :=
  fn_ok mixed (l := [(22, e_Tree_Run_Size), (41, e_node_Run_count), (14, e_Runs_Add), (38, e_Run_Measure)]) ⟨l_Tree_Run_Size, l_node_Run_count, l_Runs_Add, l_Run_Measure, trivial⟩ (An := an_Tree_Run_Upto) Try.func24 (c := Try.f24.body.getD .skip) (by kernel_rfl) Try.ntmps24 (by kernel_rfl) (fun _ _ => Try.call24 _ _) _ (by kernel_rfl) (fun x => by kernel_rfl)
noncomputable def e_law4_TreeFinds : Shallow := ⟨[(.one .sl), (.one (.int .i64)), (.one (.int .i64))], [(.one .bool)], fun x => F_law4_TreeFinds ids x.1 x.2.1 x.2.2.1⟩
noncomputable def an_law4_TreeFinds : Ann := { order := Go.Sw.look [], reg := Go.Sw.look [(6, ([(32, (.one .bool))], [0, 1, 2, 7])), (9, ([(45, (.one .bool))], [0, 1, 2, 7, 9]))], join := Go.Sw.look [(15, ([], [1, 2, 7, 9])), (19, ([], []))], loop := Go.Sw.look [], blk := Go.Sw.lookL [], res := [(6, (.one .bool))], anys := [] }
theorem l_law4_TreeFinds : FnOk Try.prog 4 e_law4_TreeFinds :=
  fn_ok mixed (l := [(20, e_tree_Of_Run), (21, e_Tree_Run_Sum), (22, e_Tree_Run_Size), (18, e_Runs_Key), (23, e_Tree_Run_Find), (24, e_Tree_Run_Upto)]) ⟨l_tree_Of_Run, l_Tree_Run_Sum, l_Tree_Run_Size, l_Runs_Key, l_Tree_Run_Find, l_Tree_Run_Upto, trivial⟩ (An := an_law4_TreeFinds) Try.func4 (c := Try.f4.body.getD .skip) (by kernel_rfl) Try.ntmps4 (by kernel_rfl) (fun _ _ => Try.call4 _ _) _ (by kernel_rfl) (fun x => by kernel_rfl)
noncomputable def e_law4_slot : Shallow := ⟨[(.one (.int .i64)), (.one (.int .i64))], [(.one (.int .i64))], fun x => F_law4_slot ids x.1 x.2.1⟩
noncomputable def an_law4_slot : Ann := { order := Go.Sw.look [], reg := Go.Sw.look [], join := Go.Sw.look [(4, ([(0, (.one (.int .i64)))], []))], loop := Go.Sw.look [], blk := Go.Sw.lookL [], res := [(4, (.one (.int .i64)))], anys := [] }
theorem l_law4_slot : FnOk Try.prog 25 e_law4_slot :=
  fn_ok mixed (l := []) trivial (An := an_law4_slot) Try.func25 (c := Try.f25.body.getD .skip) (by kernel_rfl) Try.ntmps25 (by kernel_rfl) (fun _ _ => Try.call25 _ _) _ (by kernel_rfl) (fun x => by kernel_rfl)
noncomputable def e_tree_even_Run : Shallow := ⟨[(.one .ptr), (.agg [(.int .i64), (.int .i64)]), (.one .ptr)], [(.one .ptr)], fun x => F_tree_even_Run ids x.1 x.2.1 x.2.2.1⟩
noncomputable def an_tree_even_Run : Ann := { order := Go.Sw.look [(2, ([[0, 1, 2, 3, 5, 6, 7, 8, 4, 9, 10]], [(8, 4)])), (3, ([[0, 1, 2, 3, 4, 5, 6, 7, 8, 9, 10, 11, 12, 13, 14, 15, 16]], [(3, 14), (7, 14)])), (5, ([[0, 1, 2, 3, 4, 5, 6, 7, 8, 9, 10, 11, 13, 14, 15, 16, 17, 18, 19, 20, 21, 22, 12, 23, 24, 25]], [(16, 12), (16, 23), (20, 12), (21, 12)])), (7, ([[0, 1, 2, 3, 5, 6, 7, 8, 4, 9, 10]], [(8, 4)])), (8, ([[0, 1, 2, 3, 4, 5, 7, 8, 9, 10, 11, 12, 13, 14, 6, 15, 16]], [(10, 6), (14, 6)])), (10, ([[0, 1, 2, 3, 4, 5, 7, 8, 9, 10, 11, 12, 13, 14, 15, 16, 17, 18, 19, 20, 21, 22, 6, 23, 24, 25]], [(10, 6), (10, 23), (14, 6), (18, 6), (22, 6)]))], reg := Go.Sw.look [], join := Go.Sw.look [], loop := Go.Sw.look [], blk := Go.Sw.lookL [(0, [])], res := [(6, (.one .ptr))], anys := [] }
theorem l_tree_even_Run : FnOk Try.prog 77 e_tree_even_Run :=
  fn_ok mixed (l := [(44, e_node_Run_tall), (61, e_tree_of_Run)]) ⟨l_node_Run_tall, l_tree_of_Run, trivial⟩ (An := an_tree_even_Run) Try.func77 (c := Try.f77.body.getD .skip) (by kernel_rfl) Try.ntmps77 (by kernel_rfl) (fun _ _ => Try.call77 _ _) _ (by kernel_rfl) (fun x => by kernel_rfl)
noncomputable def e_tree_join_Run : Shallow := ⟨[(.one .ptr), (.agg [(.int .i64), (.int .i64)]), (.one .ptr)], [(.one .ptr)], fun x => F_tree_join_Run ids x.1 x.2.1 x.2.2.1⟩
noncomputable def an_tree_join_Run : Ann := { order := Go.Sw.look [(2, ([[0, 1, 2, 3, 4, 5, 6, 7, 8, 9, 10, 11, 12, 13, 14, 15, 16]], [(3, 14), (7, 14)])), (4, ([[0, 1, 2, 3, 4, 5, 7, 8, 9, 10, 11, 12, 13, 14, 6, 15, 16]], [(10, 6), (14, 6)]))], reg := Go.Sw.look [], join := Go.Sw.look [], loop := Go.Sw.look [], blk := Go.Sw.lookL [(0, [])], res := [(6, (.one .ptr))], anys := [] }
theorem l_tree_join_Run : FnOk Try.prog 62 e_tree_join_Run :=
  fn_ex (tys := [(.one .ptr), (.agg [(.int .i64), (.int .i64)]), (.one .ptr)]) (res := [(.one .ptr)]) (R := fun fuelN => fun x => R_tree_join_Run fuelN ids x.1 x.2.1 x.2.2.1) (fun _ => rfl) (fun _ _ => Try.call62 _ _) fun fuelN ih =>
  fn_ok mixed (l := [(44, e_node_Run_tall), (62, (⟨[(.one .ptr), (.agg [(.int .i64), (.int .i64)]), (.one .ptr)], [(.one .ptr)], fun x => R_tree_join_Run fuelN ids x.1 x.2.1 x.2.2.1⟩ : Shallow)), (77, e_tree_even_Run), (61, e_tree_of_Run)]) ⟨l_node_Run_tall, ih, l_tree_even_Run, l_tree_of_Run, trivial⟩ (An := an_tree_join_Run) Try.func62 (c := Try.f62.body.getD .skip) (by kernel_rfl) Try.ntmps62 (by kernel_rfl) (fun _ _ => Try.call62 _ _) _ (by kernel_rfl) (fun x => by kernel_rfl)
noncomputable def e_node_Run_cut : Shallow := ⟨[(.one .ptr), (.one (.int .i64))], [(.one .ptr), (.one .ptr)], fun x => F_node_Run_cut ids x.1 x.2.1⟩
noncomputable def an_node_Run_cut : Ann := { order := Go.Sw.look [(6, ([[0, 1, 2, 3, 4, 5, 6, 7, 8, 9, 10, 11, 12]], [])), (8, ([[0, 1, 2, 3, 4, 5, 6, 7, 8, 10, 9, 11, 12]], []))], reg := Go.Sw.look [], join := Go.Sw.look [], loop := Go.Sw.look [], blk := Go.Sw.lookL [], res := [(4, (.one .ptr)), (5, (.one .ptr))], anys := [] }
theorem l_node_Run_cut : FnOk Try.prog 42 e_node_Run_cut :=
  fn_ex (tys := [(.one .ptr), (.one (.int .i64))]) (res := [(.one .ptr), (.one .ptr)]) (R := fun fuelN => fun x => R_node_Run_cut fuelN ids x.1 x.2.1) (fun _ => rfl) (fun _ _ => Try.call42 _ _) fun fuelN ih =>
  fn_ok mixed (l := [(41, e_node_Run_count), (42, (⟨[(.one .ptr), (.one (.int .i64))], [(.one .ptr), (.one .ptr)], fun x => R_node_Run_cut fuelN ids x.1 x.2.1⟩ : Shallow)), (62, e_tree_join_Run)]) ⟨l_node_Run_count, ih, l_tree_join_Run, trivial⟩ (An := an_node_Run_cut) Try.func42 (c := Try.f42.body.getD .skip) (by kernel_rfl) Try.ntmps42 (by kernel_rfl) (fun _ _ => Try.call42 _ _) _ (by kernel_rfl) (fun x => by kernel_rfl)
noncomputable def e_node_Run_first : Shallow := ⟨[(.one .ptr)], [(.agg [(.int .i64), (.int .i64)]), (.one .ptr)], fun x => F_node_Run_first ids x.1⟩
noncomputable def an_node_Run_first : Ann := { order := Go.Sw.look [(2, ([[0, 1, 2, 3, 4, 5, 6, 7, 8, 9]], [(7, 8)])), (4, ([[0, 1, 2, 3, 4, 5, 6, 7, 8, 9, 10, 11, 12]], [(0, 10)]))], reg := Go.Sw.look [], join := Go.Sw.look [], loop := Go.Sw.look [], blk := Go.Sw.lookL [], res := [(2, (.one .ptr)), (3, (.one .ptr))], anys := [] }
theorem l_node_Run_first : FnOk Try.prog 63 e_node_Run_first :=
  fn_ex (tys := [(.one .ptr)]) (res := [(.agg [(.int .i64), (.int .i64)]), (.one .ptr)]) (R := fun fuelN => fun x => R_node_Run_first fuelN ids x.1) (fun _ => rfl) (fun _ _ => Try.call63 _ _) fun fuelN ih =>
  fn_ok mixed (l := [(63, (⟨[(.one .ptr)], [(.agg [(.int .i64), (.int .i64)]), (.one .ptr)], fun x => R_node_Run_first fuelN ids x.1⟩ : Shallow)), (77, e_tree_even_Run)]) ⟨ih, l_tree_even_Run, trivial⟩ (An := an_node_Run_first) Try.func63 (c := Try.f63.body.getD .skip) (by kernel_rfl) Try.ntmps63 (by kernel_rfl) (fun _ _ => Try.call63 _ _) _ (by kernel_rfl) (fun x => by kernel_rfl)
noncomputable def e_tree_both_Run : Shallow := ⟨[(.one .ptr), (.one .ptr)], [(.one .ptr)], fun x => F_tree_both_Run ids x.1 x.2.1⟩
noncomputable def an_tree_both_Run : Ann := { order := Go.Sw.look [], reg := Go.Sw.look [], join := Go.Sw.look [], loop := Go.Sw.look [], blk := Go.Sw.lookL [], res := [(4, (.one .ptr))], anys := [] }
theorem l_tree_both_Run : FnOk Try.prog 43 e_tree_both_Run :=
  fn_ok mixed (l := [(63, e_node_Run_first), (62, e_tree_join_Run)]) ⟨l_node_Run_first, l_tree_join_Run, trivial⟩ (An := an_tree_both_Run) Try.func43 (c := Try.f43.body.getD .skip) (by kernel_rfl) Try.ntmps43 (by kernel_rfl) (fun _ _ => Try.call43 _ _) _ (by kernel_rfl) (fun x => by kernel_rfl)
noncomputable def e_Tree_Run_Replace : Shallow := ⟨[(.agg [.ptr]), (.one (.int .i64)), (.one (.int .i64)), (.one .sl)], [(.agg [.ptr]), (.one (.int .i64))], fun x => F_Tree_Run_Replace ids x.1 x.2.1 x.2.2.1 x.2.2.2.1⟩
noncomputable def an_Tree_Run_Replace : Ann := { order := Go.Sw.look [], reg := Go.Sw.look [(1, ([(26, (.one .bool))], [1, 2, 3, 4, 8]))], join := Go.Sw.look [], loop := Go.Sw.look [], blk := Go.Sw.lookL [], res := [(8, (.one .ptr)), (9, (.one (.int .i64)))], anys := [] }
theorem l_Tree_Run_Replace : FnOk Try.prog 26 e_Tree_Run_Replace :=
  fn_ok mixed (l := [(22, e_Tree_Run_Size), (42, e_node_Run_cut), (40, e_tree_build_Run), (43, e_tree_both_Run)]) ⟨l_Tree_Run_Size, l_node_Run_cut, l_tree_build_Run, l_tree_both_Run, trivial⟩ (An := an_Tree_Run_Replace) Try.func26 (c := Try.f26.body.getD .skip) (by kernel_rfl) Try.ntmps26 (by kernel_rfl) (fun _ _ => Try.call26 _ _) _ (by kernel_rfl) (fun x => by kernel_rfl)
noncomputable def e_Tree_Run_At : Shallow := ⟨[(.agg [.ptr]), (.one (.int .i64))], [(.agg [(.int .i64), (.int .i64)]), (.one .bool)], fun x => F_Tree_Run_At ids x.1 x.2.1⟩
noncomputable def an_Tree_Run_At : Ann := { order := Go.Sw.look [], reg := Go.Sw.look [(2, ([(16, (.one .bool))], [1, 4, 6]))], join := Go.Sw.look [], loop := Go.Sw.look [(2, ([(1, (.one (.int .i64))), (6, (.one .ptr))], [4]))], blk := Go.Sw.lookL [(0, []), (1, [(1, (.one (.int .i64))), (6, (.one .ptr))]), (2, [(1, (.one (.int .i64))), (6, (.one .ptr))])], res := [(4, (.one .ptr)), (5, (.one .bool))], anys := [] }
theorem l_Tree_Run_At : FnOk Try.prog 27 e_Tree_Run_At :=
  fn_ok mixed (l := [(41, e_node_Run_count)]) ⟨l_node_Run_count, trivial⟩ (An := an_Tree_Run_At) Try.func27 (c := Try.f27.body.getD .skip) (by kernel_rfl) Try.ntmps27 (by kernel_rfl) (fun _ _ => Try.call27 _ _) _ (by kernel_rfl) (fun x => by kernel_rfl)
noncomputable def e_law4_num : Shallow := ⟨[(.one (.int .i64))], [(.one (.int .i64))], fun x => F_law4_num ids x.1⟩
noncomputable def an_law4_num : Ann := { order := Go.Sw.look [], reg := Go.Sw.look [], join := Go.Sw.look [], loop := Go.Sw.look [], blk := Go.Sw.lookL [], res := [(2, (.one (.int .i64)))], anys := [] }
theorem l_law4_num : FnOk Try.prog 28 e_law4_num :=
  fn_ok mixed (l := []) trivial (An := an_law4_num) Try.func28 (c := Try.f28.body.getD .skip) (by kernel_rfl) Try.ntmps28 (by kernel_rfl) (fun _ _ => Try.call28 _ _) _ (by kernel_rfl) (fun x => by kernel_rfl)
noncomputable def e_Tree_Run_Height : Shallow := ⟨[(.agg [.ptr])], [(.one (.int .i64))], fun x => F_Tree_Run_Height ids x.1⟩
noncomputable def an_Tree_Run_Height : Ann := { order := Go.Sw.look [], reg := Go.Sw.look [], join := Go.Sw.look [], loop := Go.Sw.look [], blk := Go.Sw.lookL [], res := [(2, (.one (.int .i64)))], anys := [] }
theorem l_Tree_Run_Height : FnOk Try.prog 29 e_Tree_Run_Height :=
  fn_ok mixed (l := [(44, e_node_Run_tall)]) ⟨l_node_Run_tall, trivial⟩ (An := an_Tree_Run_Height) Try.func29 (c := Try.f29.body.getD .skip) (by kernel_rfl) Try.ntmps29 (by kernel_rfl) (fun _ _ => Try.call29 _ _) _ (by kernel_rfl) (fun x => by kernel_rfl)
noncomputable def e_ref4_Digits : Shallow := ⟨[(.one (.int .i64))], [(.one (.int .i64))], fun x => F_ref4_Digits ids x.1⟩
noncomputable def an_ref4_Digits : Ann := { order := Go.Sw.look [], reg := Go.Sw.look [], join := Go.Sw.look [], loop := Go.Sw.look [(2, ([(0, (.one (.int .i64))), (3, (.one (.int .i64)))], []))], blk := Go.Sw.lookL [(0, [(3, (.one (.int .i64)))]), (1, [(0, (.one (.int .i64))), (3, (.one (.int .i64)))])], res := [(2, (.one (.int .i64)))], anys := [] }
theorem l_ref4_Digits : FnOk Try.prog 30 e_ref4_Digits :=
  fn_ok mixed (l := []) trivial (An := an_ref4_Digits) Try.func30 (c := Try.f30.body.getD .skip) (by kernel_rfl) Try.ntmps30 (by kernel_rfl) (fun _ _ => Try.call30 _ _) _ (by kernel_rfl) (fun x => by kernel_rfl)
noncomputable def e_law4_TreeGrows : Shallow := ⟨[(.one .sl), (.one (.int .i64))], [(.one .bool)], fun x => F_law4_TreeGrows ids x.1 x.2.1⟩
noncomputable def an_law4_TreeGrows : Ann := { order := Go.Sw.look [], reg := Go.Sw.look [(8, ([(24, (.one .bool))], [0, 1, 5, 6, 7])), (12, ([(89, (.one .bool))], [0, 1, 5, 6, 8]))], join := Go.Sw.look [(10, ([(7, (.one (.int .i64)))], [0, 1, 5, 6]))], loop := Go.Sw.look [(3, ([(6, (.one (.int .i64)))], [0, 1, 5]))], blk := Go.Sw.lookL [(0, []), (1, []), (2, [(7, (.one (.int .i64)))])], res := [(4, (.one .bool))], anys := [] }
theorem l_law4_TreeGrows : FnOk Try.prog 5 e_law4_TreeGrows :=
  fn_ok mixed (l := [(25, e_law4_slot), (26, e_Tree_Run_Replace), (27, e_Tree_Run_At), (28, e_law4_num), (22, e_Tree_Run_Size), (29, e_Tree_Run_Height), (30, e_ref4_Digits), (21, e_Tree_Run_Sum)]) ⟨l_law4_slot, l_Tree_Run_Replace, l_Tree_Run_At, l_law4_num, l_Tree_Run_Size, l_Tree_Run_Height, l_ref4_Digits, l_Tree_Run_Sum, trivial⟩ (An := an_law4_TreeGrows) Try.func5 (c := Try.f5.body.getD .skip) (by kernel_rfl) Try.ntmps5 (by kernel_rfl) (fun _ _ => Try.call5 _ _) _ (by kernel_rfl) (fun x => by kernel_rfl)
noncomputable def e_law4_same : Shallow := ⟨[(.agg [.ptr]), (.agg [.ptr])], [(.one .bool)], fun x => F_law4_same ids x.1 x.2.1⟩
noncomputable def an_law4_same : Ann := { order := Go.Sw.look [(1, ([[0, 2, 1, 3, 4, 5, 6, 8, 7, 9, 10, 11]], [(2, 1), (8, 7)]))], reg := Go.Sw.look [(1, ([(21, (.one .bool))], [2, 3])), (8, ([(50, (.one .bool))], [2, 3, 5]))], join := Go.Sw.look [], loop := Go.Sw.look [(4, ([(5, (.one (.int .i64)))], [2, 3]))], blk := Go.Sw.lookL [(0, []), (1, [])], res := [(4, (.one .bool))], anys := [] }
theorem l_law4_same : FnOk Try.prog 31 e_law4_same :=
  fn_ok mixed (l := [(22, e_Tree_Run_Size), (21, e_Tree_Run_Sum), (27, e_Tree_Run_At)]) ⟨l_Tree_Run_Size, l_Tree_Run_Sum, l_Tree_Run_At, trivial⟩ (An := an_law4_same) Try.func31 (c := Try.f31.body.getD .skip) (by kernel_rfl) Try.ntmps31 (by kernel_rfl) (fun _ _ => Try.call31 _ _) _ (by kernel_rfl) (fun x => by kernel_rfl)
noncomputable def e_law4_TreeCuts : Shallow := ⟨[(.one .sl), (.one (.int .i64)), (.one (.int .i64)), (.one .sl)], [(.one .bool)], fun x => F_law4_TreeCuts ids x.1 x.2.1 x.2.2.1 x.2.2.2.1⟩
noncomputable def an_law4_TreeCuts : Ann := { order := Go.Sw.look [(10, ([[0, 1, 2, 3, 4, 5, 6, 7, 8, 9, 10, 11, 12, 13, 14, 15, 16], [0, 1, 2, 3, 4, 5, 6, 7, 8, 9, 14, 10, 11, 12, 13, 15, 16]], [(0, 14)])), (15, ([[0, 1, 3, 6, 2, 4, 5, 7, 8, 9, 10], [0, 1, 3, 6, 2, 4, 5, 7, 9, 8, 10], [0, 1, 3, 6, 2, 4, 5, 9, 7, 8, 10], [0, 1, 3, 6, 2, 4, 9, 5, 7, 8, 10], [0, 1, 3, 6, 2, 9, 4, 5, 7, 8, 10], [0, 1, 3, 6, 9, 2, 4, 5, 7, 8, 10]], [(0, 9), (3, 2), (3, 9), (6, 2), (6, 4), (6, 5), (6, 9)])), (17, ([[0, 2, 3, 1, 4, 5, 6, 7, 8, 9, 10, 11, 12, 13, 14, 15, 16, 17, 18, 19, 20, 21, 22, 24, 25, 26, 27, 28, 29, 30, 31, 32, 23, 33, 34, 35, 36, 38, 39, 41, 44, 37, 40, 42, 43, 45, 46, 47, 48, 49]], [(6, 8), (38, 37), (44, 37), (44, 40), (44, 42), (44, 43)]))], reg := Go.Sw.look [(1, ([(28, (.one .bool))], [0, 1, 2, 3])), (10, ([(14, (.one .ptr)), (15, (.one (.int .i64)))], [0, 3, 9, 10, 11, 12, 13])), (12, ([(88, (.one .bool))], [0, 3, 9, 10, 11, 12, 14, 16])), (15, ([(19, (.one .ptr))], [0, 3, 9, 10, 11, 12, 14, 16])), (17, ([(8, (.one .bool))], []))], join := Go.Sw.look [(9, ([(10, (.one (.int .i64))), (11, (.one (.int .i64)))], [0, 3, 9]))], loop := Go.Sw.look [], blk := Go.Sw.lookL [], res := [(8, (.one .bool))], anys := [] }
theorem l_law4_TreeCuts : FnOk Try.prog 6 e_law4_TreeCuts :=
  fn_ok mixed (l := [(20, e_tree_Of_Run), (25, e_law4_slot), (26, e_Tree_Run_Replace), (28, e_law4_num), (24, e_Tree_Run_Upto), (21, e_Tree_Run_Sum), (14, e_Runs_Add), (22, e_Tree_Run_Size), (31, e_law4_same), (13, e_law4_added)]) ⟨l_tree_Of_Run, l_law4_slot, l_Tree_Run_Replace, l_law4_num, l_Tree_Run_Upto, l_Tree_Run_Sum, l_Runs_Add, l_Tree_Run_Size, l_law4_same, l_law4_added, trivial⟩ (An := an_law4_TreeCuts) Try.func6 (c := Try.f6.body.getD .skip) (by kernel_rfl) Try.ntmps6 (by kernel_rfl) (fun _ _ => Try.call6 _ _) _ (by kernel_rfl) (fun x => by kernel_rfl)
noncomputable def e_node_Word_count : Shallow := ⟨[(.one .ptr)], [(.one (.int .i64))], fun x => F_node_Word_count ids x.1⟩
noncomputable def an_node_Word_count : Ann := { order := Go.Sw.look [], reg := Go.Sw.look [], join := Go.Sw.look [], loop := Go.Sw.look [], blk := Go.Sw.lookL [], res := [(2, (.one (.int .i64)))], anys := [] }
theorem l_node_Word_count : FnOk Try.prog 56 e_node_Word_count :=
  fn_ok mixed (l := []) trivial (An := an_node_Word_count) Try.func56 (c := Try.f56.body.getD .skip) (by kernel_rfl) Try.ntmps56 (by kernel_rfl) (fun _ _ => Try.call56 _ _) _ (by kernel_rfl) (fun x => by kernel_rfl)
noncomputable def e_node_Word_tall : Shallow := ⟨[(.one .ptr)], [(.one (.int .i64))], fun x => F_node_Word_tall ids x.1⟩
noncomputable def an_node_Word_tall : Ann := { order := Go.Sw.look [], reg := Go.Sw.look [], join := Go.Sw.look [], loop := Go.Sw.look [], blk := Go.Sw.lookL [], res := [(2, (.one (.int .i64)))], anys := [] }
theorem l_node_Word_tall : FnOk Try.prog 78 e_node_Word_tall :=
  fn_ok mixed (l := []) trivial (An := an_node_Word_tall) Try.func78 (c := Try.f78.body.getD .skip) (by kernel_rfl) Try.ntmps78 (by kernel_rfl) (fun _ _ => Try.call78 _ _) _ (by kernel_rfl) (fun x => by kernel_rfl)
noncomputable def e_Word_Measure : Shallow := ⟨[(.agg [.str])], [(.agg [.str, (.int .i64)])], fun x => F_Word_Measure ids x.1⟩
noncomputable def an_Word_Measure : Ann := { order := Go.Sw.look [], reg := Go.Sw.look [], join := Go.Sw.look [], loop := Go.Sw.look [], blk := Go.Sw.lookL [], res := [(2, (.one .ptr))], anys := [] }
theorem l_Word_Measure : FnOk Try.prog 51 e_Word_Measure :=
  fn_ok mixed (l := []) trivial (An := an_Word_Measure) Try.func51 (c := Try.f51.body.getD .skip) (by kernel_rfl) Try.ntmps51 (by kernel_rfl) (fun _ _ => Try.call51 _ _) _ (by kernel_rfl) (fun x => by kernel_rfl)
noncomputable def e_Words_Add : Shallow := ⟨[(.agg [.str, (.int .i64)]), (.agg [.str, (.int .i64)])], [(.agg [.str, (.int .i64)])], fun x => F_Words_Add ids x.1 x.2.1⟩
noncomputable def an_Words_Add : Ann := { order := Go.Sw.look [], reg := Go.Sw.look [], join := Go.Sw.look [], loop := Go.Sw.look [], blk := Go.Sw.lookL [], res := [(4, (.one .ptr))], anys := [] }
theorem l_Words_Add : FnOk Try.prog 50 e_Words_Add :=
  fn_ok mixed (l := []) trivial (An := an_Words_Add) Try.func50 (c := Try.f50.body.getD .skip) (by kernel_rfl) Try.ntmps50 (by kernel_rfl) (fun _ _ => Try.call50 _ _) _ (by kernel_rfl) (fun x => by kernel_rfl)
noncomputable def e_tree_of_Word : Shallow := ⟨[(.one .ptr), (.agg [.str]), (.one .ptr)], [(.one .ptr)], fun x => F_tree_of_Word ids x.1 x.2.1 x.2.2.1⟩
noncomputable def an_tree_of_Word : Ann := { order := Go.Sw.look [(1, ([[0, 1, 2, 3, 6, 9, 11, 4, 5, 7, 8, 10, 12, 13, 14, 15, 16, 17]], [(1, 4), (1, 7), (1, 10), (1, 12)])), (4, ([[0, 1, 2, 3, 4, 5, 6, 7, 8, 9, 10, 11, 12, 13]], [])), (6, ([[0, 1, 2, 3, 4, 5, 6, 7, 8, 9, 10, 11, 12, 13]], []))], reg := Go.Sw.look [], join := Go.Sw.look [(5, ([], [2, 7])), (7, ([], [7]))], loop := Go.Sw.look [], blk := Go.Sw.lookL [], res := [(6, (.one .ptr))], anys := [] }
theorem l_tree_of_Word : FnOk Try.prog 64 e_tree_of_Word :=
  fn_ok mixed (l := [(56, e_node_Word_count), (78, e_node_Word_tall), (51, e_Word_Measure), (50, e_Words_Add)]) ⟨l_node_Word_count, l_node_Word_tall, l_Word_Measure, l_Words_Add, trivial⟩ (An := an_tree_of_Word) Try.func64 (c := Try.f64.body.getD .skip) (by kernel_rfl) Try.ntmps64 (by kernel_rfl) (fun _ _ => Try.call64 _ _) _ (by kernel_rfl) (fun x => by kernel_rfl)
noncomputable def e_tree_build_Word : Shallow := ⟨[(.one .sl)], [(.one .ptr)], fun x => F_tree_build_Word ids x.1⟩
noncomputable def an_tree_build_Word : Ann := { order := Go.Sw.look [(4, ([[0, 1, 2, 4, 5, 6, 7, 8, 9, 10, 11, 3, 12, 13, 14]], [(7, 3), (7, 12)]))], reg := Go.Sw.look [], join := Go.Sw.look [], loop := Go.Sw.look [], blk := Go.Sw.lookL [], res := [(2, (.one .ptr))], anys := [] }
theorem l_tree_build_Word : FnOk Try.prog 45 e_tree_build_Word :=
  fn_ex (tys := [(.one .sl)]) (res := [(.one .ptr)]) (R := fun fuelN => fun x => R_tree_build_Word fuelN ids x.1) (fun _ => rfl) (fun _ _ => Try.call45 _ _) fun fuelN ih =>
  fn_ok mixed (l := [(45, (⟨[(.one .sl)], [(.one .ptr)], fun x => R_tree_build_Word fuelN ids x.1⟩ : Shallow)), (64, e_tree_of_Word)]) ⟨ih, l_tree_of_Word, trivial⟩ (An := an_tree_build_Word) Try.func45 (c := Try.f45.body.getD .skip) (by kernel_rfl) Try.ntmps45 (by kernel_rfl) (fun _ _ => Try.call45 _ _) _ (by kernel_rfl) (fun x => by kernel_rfl)
end Go.Proofs.Yteoloieadjeneaa
