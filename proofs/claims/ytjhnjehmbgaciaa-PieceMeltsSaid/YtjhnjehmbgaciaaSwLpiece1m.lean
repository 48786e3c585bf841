/-
  Each function of the cut does what its shallow program says (the text is printed by program).
-/
import Derived.Test.YtjhnjehmbgaciaaSwLpiece0m
set_option maxRecDepth 100000
set_option maxHeartbeats 4000000
set_option linter.unusedVariables false
namespace Go.Proofs.Ytjhnjehmbgaciaa
open Go Go.Sw
noncomputable def e_law5_sameBytes : Shallow := ⟨[(.one .sl), (.one .sl)], [(.one .bool)], fun x => F_law5_sameBytes ids x.1 x.2.1⟩
noncomputable def an_law5_sameBytes : Ann := { order := Go.Sw.look [(6, ([[0, 1, 2, 3, 4, 5, 6, 7, 8]], []))], reg := Go.Sw.look [], join := Go.Sw.look [], loop := Go.Sw.look [(4, ([(5, (.one (.int .i64)))], [0, 1]))], blk := Go.Sw.lookL [(0, []), (1, [])], res := [(4, (.one .bool))], anys := [] }
theorem l_law5_sameBytes : FnOk Try.prog 18 e_law5_sameBytes :=
  fn_ok mixed (l := []) trivial (An := an_law5_sameBytes) Try.func18 (c := Try.f18.body.getD .skip) (by kernel_rfl) Try.ntmps18 (by kernel_rfl) (fun _ _ => Try.call18 _ _) _ (by kernel_rfl) (fun x => by kernel_rfl) (by kernel_rfl)
noncomputable def e_Tree_part_Items : Shallow := ⟨[(.agg [.ptr]), (.one (.int .i64))], [(.one .any)], fun x => F_Tree_part_Items ids x.1 x.2.1⟩
noncomputable def an_Tree_part_Items : Ann := { order := Go.Sw.look [], reg := Go.Sw.look [], join := Go.Sw.look [], loop := Go.Sw.look [], blk := Go.Sw.lookL [], res := [(4, (.one .any))], anys := [] }
theorem l_Tree_part_Items : FnOk Try.prog 47 e_Tree_part_Items :=
  fn_ok mixed (l := []) trivial (An := an_Tree_part_Items) Try.func47 (c := Try.f47.body.getD .skip) (by kernel_rfl) Try.ntmps47 (by kernel_rfl) (fun _ _ => Try.call47 _ _) _ (by kernel_rfl) (fun x => by kernel_rfl) (by kernel_rfl)
noncomputable def e_Text_walk : Shallow := ⟨[(.one .ptr), (.one (.int .i64)), (.one (.int .i64)), (.one .any)], [], fun x => F_Text_walk ids x.1 x.2.1 x.2.2.1 x.2.2.2.1⟩
noncomputable def an_Text_walk : Ann := { order := Go.Sw.look [(9, ([[0, 1, 2, 3, 4, 5, 6, 7, 8, 9, 10, 11, 12]], []))], reg := Go.Sw.look [], join := Go.Sw.look [(15, ([], [4, 7, 9, 10, 11, 12, 14])), (17, ([], [4, 7, 9, 10, 11, 12, 14]))], loop := Go.Sw.look [(8, ([(12, (.one (.int .i64)))], [4, 7, 9, 10, 11]))], blk := Go.Sw.lookL [(0, []), (1, []), (2, []), (3, [(12, (.one (.int .i64)))])], res := [], anys := [3, 38, 63, 66], rng := Go.Sw.look [(39, ([(39, (.agg [.sl, (.int .i64), (.int .i64), (.int .i64), (.int .i64), .bool, .bool]))], [(11, (.one .ptr))]))] }
theorem l_Text_walk : FnOk Try.prog 70 e_Text_walk :=
  fn_ok mixed (l := [(42, e_Text_Len), (86, e_Text_find), (47, e_Tree_part_Items), (45, e_codec_Next)]) ⟨l_Text_Len, l_Text_find, l_Tree_part_Items, l_codec_Next, trivial⟩ (An := an_Text_walk) Try.func70 (c := Try.f70.body.getD .skip) (by kernel_rfl) Try.ntmps70 (by kernel_rfl) (fun _ _ => Try.call70 _ _) _ (by kernel_rfl) (fun x => by kernel_rfl) (by kernel_rfl)
noncomputable def e_Text_Atoms : Shallow := ⟨[(.one .ptr), (.one (.int .i64)), (.one (.int .i64))], [(.one .sl)], fun x => F_Text_Atoms ids x.1 x.2.1 x.2.2.1⟩
noncomputable def an_Text_Atoms : Ann := { order := Go.Sw.look [], reg := Go.Sw.look [], join := Go.Sw.look [], loop := Go.Sw.look [], blk := Go.Sw.lookL [], res := [(6, (.one .sl))], anys := [] }
theorem l_Text_Atoms : FnOk Try.prog 41 e_Text_Atoms :=
  fn_ok mixed (l := [(70, e_Text_walk)]) ⟨l_Text_walk, trivial⟩ (An := an_Text_Atoms) Try.func41 (c := Try.f41.body.getD .skip) (by kernel_rfl) Try.ntmps41 (by kernel_rfl) (fun _ _ => Try.call41 _ _) _ (by kernel_rfl) (fun x => by kernel_rfl) (by kernel_rfl)
noncomputable def e_law5_sameInts : Shallow := ⟨[(.one .sl), (.one .sl)], [(.one .bool)], fun x => F_law5_sameInts ids x.1 x.2.1⟩
noncomputable def an_law5_sameInts : Ann := { order := Go.Sw.look [(6, ([[0, 1, 2, 3, 4, 5, 6, 7, 8]], []))], reg := Go.Sw.look [], join := Go.Sw.look [], loop := Go.Sw.look [(4, ([(5, (.one (.int .i64)))], [0, 1]))], blk := Go.Sw.lookL [(0, []), (1, [])], res := [(4, (.one .bool))], anys := [] }
theorem l_law5_sameInts : FnOk Try.prog 28 e_law5_sameInts :=
  fn_ok mixed (l := []) trivial (An := an_law5_sameInts) Try.func28 (c := Try.f28.body.getD .skip) (by kernel_rfl) Try.ntmps28 (by kernel_rfl) (fun _ _ => Try.call28 _ _) _ (by kernel_rfl) (fun x => by kernel_rfl) (by kernel_rfl)
noncomputable def e_Text_Tags : Shallow := ⟨[(.one .ptr), (.one (.int .i64)), (.one (.int .i64))], [(.one .sl)], fun x => F_Text_Tags ids x.1 x.2.1 x.2.2.1⟩
noncomputable def an_Text_Tags : Ann := { order := Go.Sw.look [], reg := Go.Sw.look [], join := Go.Sw.look [], loop := Go.Sw.look [], blk := Go.Sw.lookL [], res := [(6, (.one .sl))], anys := [] }
theorem l_Text_Tags : FnOk Try.prog 53 e_Text_Tags :=
  fn_ok mixed (l := [(70, e_Text_walk)]) ⟨l_Text_walk, trivial⟩ (An := an_Text_Tags) Try.func53 (c := Try.f53.body.getD .skip) (by kernel_rfl) Try.ntmps53 (by kernel_rfl) (fun _ _ => Try.call53 _ _) _ (by kernel_rfl) (fun x => by kernel_rfl) (by kernel_rfl)
noncomputable def e_Text_Bytes : Shallow := ⟨[(.one .ptr)], [(.one .sl)], fun x => F_Text_Bytes ids x.1⟩
noncomputable def an_Text_Bytes : Ann := { order := Go.Sw.look [(5, ([[0, 1, 2, 3, 4, 5, 6, 7, 8]], [(0, 6)]))], reg := Go.Sw.look [], join := Go.Sw.look [], loop := Go.Sw.look [], blk := Go.Sw.lookL [(0, []), (1, [])], res := [(2, (.one .sl))], anys := [13], rng := Go.Sw.look [(14, ([(14, (.agg [.sl, (.int .i64), (.int .i64), (.int .i64), (.int .i64), .bool, .bool]))], [(5, (.one .ptr))]))] }
theorem l_Text_Bytes : FnOk Try.prog 33 e_Text_Bytes :=
  fn_ok mixed (l := [(29, e_Text_Size), (47, e_Tree_part_Items)]) ⟨l_Text_Size, l_Tree_part_Items, trivial⟩ (An := an_Text_Bytes) Try.func33 (c := Try.f33.body.getD .skip) (by kernel_rfl) Try.ntmps33 (by kernel_rfl) (fun _ _ => Try.call33 _ _) _ (by kernel_rfl) (fun x => by kernel_rfl) (by kernel_rfl)
noncomputable def e_law5_see : Shallow := ⟨[(.one .ptr)], [(.agg [.sl, .sl, .sl])], fun x => F_law5_see ids x.1⟩
noncomputable def an_law5_see : Ann := { order := Go.Sw.look [], reg := Go.Sw.look [], join := Go.Sw.look [], loop := Go.Sw.look [], blk := Go.Sw.lookL [], res := [(2, (.one .ptr))], anys := [] }
theorem l_law5_see : FnOk Try.prog 22 e_law5_see :=
  fn_ok mixed (l := [(42, e_Text_Len), (41, e_Text_Atoms), (53, e_Text_Tags), (33, e_Text_Bytes)]) ⟨l_Text_Len, l_Text_Atoms, l_Text_Tags, l_Text_Bytes, trivial⟩ (An := an_law5_see) Try.func22 (c := Try.f22.body.getD .skip) (by kernel_rfl) Try.ntmps22 (by kernel_rfl) (fun _ _ => Try.call22 _ _) _ (by kernel_rfl) (fun x => by kernel_rfl) (by kernel_rfl)
noncomputable def e_codec_Fits : Shallow := ⟨[(.one (.int .i64)), (.one (.int .i64))], [(.one .bool)], fun x => F_codec_Fits ids x.1 x.2.1⟩
noncomputable def an_codec_Fits : Ann := { order := Go.Sw.look [], reg := Go.Sw.look [], join := Go.Sw.look [], loop := Go.Sw.look [], blk := Go.Sw.lookL [], res := [(4, (.one .bool))], anys := [] }
theorem l_codec_Fits : FnOk Try.prog 25 e_codec_Fits :=
  fn_ok mixed (l := [(57, e_codec_Size)]) ⟨l_codec_Size, trivial⟩ (An := an_codec_Fits) Try.func25 (c := Try.f25.body.getD .skip) (by kernel_rfl) Try.ntmps25 (by kernel_rfl) (fun _ _ => Try.call25 _ _) _ (by kernel_rfl) (fun x => by kernel_rfl) (by kernel_rfl)
end Go.Proofs.Ytjhnjehmbgaciaa
