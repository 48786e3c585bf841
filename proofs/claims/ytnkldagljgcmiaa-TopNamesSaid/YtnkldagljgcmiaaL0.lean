/-
  Each function of the cut does what its shallow program says (the text is printed by program).
-/
import Derived.Test.YtnkldagljgcmiaaProg
import Derived.KernelRfl
import Derived.Test.YtnkldagljgcmiaaSwS10
import Derived.Test.YtnkldagljgcmiaaSwFnames
set_option maxRecDepth 100000
set_option maxHeartbeats 4000000
set_option linter.unusedVariables false
namespace Go.Proofs.Ytnkldagljgcmiaa
open Go Go.Sw
noncomputable def ids : Ids := { none := () }
theorem mixed : Try.prog.follows .mixedOrders = true := by kernel_rfl
noncomputable def e_top_names1 : Shallow := ⟨[], [(.one .sl)], fun x => F_top_names1 ids⟩
noncomputable def an_top_names1 : Ann := { order := Go.Sw.look [], reg := Go.Sw.look [], join := Go.Sw.look [], loop := Go.Sw.look [], blk := Go.Sw.lookL [], res := [(0, (.one .sl))], anys := [] }
theorem l_top_names1 : FnOk Try.prog 5 e_top_names1 :=
  fn_ok mixed (l := []) trivial (An := an_top_names1) Try.func5 (c := Try.f5.body.getD .skip) (by kernel_rfl) Try.ntmps5 (by kernel_rfl) (fun _ _ => Try.call5 _ _) _ (by kernel_rfl) (fun x => by kernel_rfl)
noncomputable def e_top_named : Shallow := ⟨[(.one .sl)], [(.one .bool)], fun x => F_top_named ids x.1⟩
noncomputable def an_top_named : Ann := { order := Go.Sw.look [(4, ([[0, 1, 2, 3, 4, 5, 6, 7, 8, 9, 10]], []))], reg := Go.Sw.look [], join := Go.Sw.look [], loop := Go.Sw.look [(2, ([(3, (.one (.int .i64)))], [0]))], blk := Go.Sw.lookL [(0, []), (1, [])], res := [(2, (.one .bool))], anys := [] }
theorem l_top_named : FnOk Try.prog 4 e_top_named :=
  fn_ok mixed (l := []) trivial (An := an_top_named) Try.func4 (c := Try.f4.body.getD .skip) (by kernel_rfl) Try.ntmps4 (by kernel_rfl) (fun _ _ => Try.call4 _ _) _ (by kernel_rfl) (fun x => by kernel_rfl)
noncomputable def e_top_names2 : Shallow := ⟨[], [(.one .sl)], fun x => F_top_names2 ids⟩
noncomputable def an_top_names2 : Ann := { order := Go.Sw.look [], reg := Go.Sw.look [], join := Go.Sw.look [], loop := Go.Sw.look [], blk := Go.Sw.lookL [], res := [(0, (.one .sl))], anys := [] }
theorem l_top_names2 : FnOk Try.prog 6 e_top_names2 :=
  fn_ok mixed (l := []) trivial (An := an_top_names2) Try.func6 (c := Try.f6.body.getD .skip) (by kernel_rfl) Try.ntmps6 (by kernel_rfl) (fun _ _ => Try.call6 _ _) _ (by kernel_rfl) (fun x => by kernel_rfl)
noncomputable def e_top_names3 : Shallow := ⟨[], [(.one .sl)], fun x => F_top_names3 ids⟩
noncomputable def an_top_names3 : Ann := { order := Go.Sw.look [], reg := Go.Sw.look [], join := Go.Sw.look [], loop := Go.Sw.look [], blk := Go.Sw.lookL [], res := [(0, (.one .sl))], anys := [] }
theorem l_top_names3 : FnOk Try.prog 7 e_top_names3 :=
  fn_ok mixed (l := []) trivial (An := an_top_names3) Try.func7 (c := Try.f7.body.getD .skip) (by kernel_rfl) Try.ntmps7 (by kernel_rfl) (fun _ _ => Try.call7 _ _) _ (by kernel_rfl) (fun x => by kernel_rfl)
noncomputable def e_top_names4 : Shallow := ⟨[], [(.one .sl)], fun x => F_top_names4 ids⟩
noncomputable def an_top_names4 : Ann := { order := Go.Sw.look [], reg := Go.Sw.look [], join := Go.Sw.look [], loop := Go.Sw.look [], blk := Go.Sw.lookL [], res := [(0, (.one .sl))], anys := [] }
theorem l_top_names4 : FnOk Try.prog 8 e_top_names4 :=
  fn_ok mixed (l := []) trivial (An := an_top_names4) Try.func8 (c := Try.f8.body.getD .skip) (by kernel_rfl) Try.ntmps8 (by kernel_rfl) (fun _ _ => Try.call8 _ _) _ (by kernel_rfl) (fun x => by kernel_rfl)
noncomputable def e_top_names5 : Shallow := ⟨[], [(.one .sl)], fun x => F_top_names5 ids⟩
noncomputable def an_top_names5 : Ann := { order := Go.Sw.look [], reg := Go.Sw.look [], join := Go.Sw.look [], loop := Go.Sw.look [], blk := Go.Sw.lookL [], res := [(0, (.one .sl))], anys := [] }
theorem l_top_names5 : FnOk Try.prog 9 e_top_names5 :=
  fn_ok mixed (l := []) trivial (An := an_top_names5) Try.func9 (c := Try.f9.body.getD .skip) (by kernel_rfl) Try.ntmps9 (by kernel_rfl) (fun _ _ => Try.call9 _ _) _ (by kernel_rfl) (fun x => by kernel_rfl)
noncomputable def e_top_names6 : Shallow := ⟨[], [(.one .sl)], fun x => F_top_names6 ids⟩
noncomputable def an_top_names6 : Ann := { order := Go.Sw.look [], reg := Go.Sw.look [], join := Go.Sw.look [], loop := Go.Sw.look [], blk := Go.Sw.lookL [], res := [(0, (.one .sl))], anys := [] }
theorem l_top_names6 : FnOk Try.prog 10 e_top_names6 :=
  fn_ok mixed (l := []) trivial (An := an_top_names6) Try.func10 (c := Try.f10.body.getD .skip) (by kernel_rfl) Try.ntmps10 (by kernel_rfl) (fun _ _ => Try.call10 _ _) _ (by kernel_rfl) (fun x => by kernel_rfl)
noncomputable def e_top_num : Shallow := ⟨[(.one (.int .i64))], [(.one (.int .i64))], fun x => F_top_num ids x.1⟩
noncomputable def an_top_num : Ann := { order := Go.Sw.look [], reg := Go.Sw.look [], join := Go.Sw.look [], loop := Go.Sw.look [], blk := Go.Sw.lookL [], res := [(2, (.one (.int .i64)))], anys := [] }
theorem l_top_num : FnOk Try.prog 11 e_top_num :=
  fn_ok mixed (l := []) trivial (An := an_top_num) Try.func11 (c := Try.f11.body.getD .skip) (by kernel_rfl) Try.ntmps11 (by kernel_rfl) (fun _ _ => Try.call11 _ _) _ (by kernel_rfl) (fun x => by kernel_rfl)
noncomputable def e_top_TopNames : Shallow := ⟨[], [(.one .bool)], fun x => F_top_TopNames ids⟩
noncomputable def an_top_TopNames : Ann := { order := Go.Sw.look [], reg := Go.Sw.look [(1, ([(0, (.one .bool))], []))], join := Go.Sw.look [], loop := Go.Sw.look [], blk := Go.Sw.lookL [], res := [(0, (.one .bool))], anys := [] }
theorem l_top_TopNames : FnOk Try.prog 3 e_top_TopNames :=
  fn_ok mixed (l := [(5, e_top_names1), (4, e_top_named), (6, e_top_names2), (7, e_top_names3), (8, e_top_names4), (9, e_top_names5), (10, e_top_names6), (11, e_top_num)]) ⟨l_top_names1, l_top_named, l_top_names2, l_top_names3, l_top_names4, l_top_names5, l_top_names6, l_top_num, trivial⟩ (An := an_top_TopNames) Try.func3 (c := Try.f3.body.getD .skip) (by kernel_rfl) Try.ntmps3 (by kernel_rfl) (fun _ _ => Try.call3 _ _) _ (by kernel_rfl) (fun x => by kernel_rfl)
end Go.Proofs.Ytnkldagljgcmiaa
