/-
  Each function of the cut does what its shallow program says (the text is printed by program).
-/
import Derived.Test.YtjhnjehmbgaciaaSwLpiece1m
set_option maxRecDepth 100000
set_option maxHeartbeats 4000000
set_option linter.unusedVariables false
namespace Go.Proofs.Ytjhnjehmbgaciaa
open Go Go.Sw
noncomputable def e_law5_ends : Shallow := ⟨[(.one .sl)], [(.one .sl)], fun x => F_law5_ends ids x.1⟩
noncomputable def an_law5_ends : Ann := { order := Go.Sw.look [], reg := Go.Sw.look [(5, ([(39, (.one .bool))], [0, 3, 4]))], join := Go.Sw.look [(4, ([(3, (.one .sl))], [0, 4]))], loop := Go.Sw.look [(3, ([(3, (.one .sl)), (4, (.one (.int .i64)))], [0]))], blk := Go.Sw.lookL [(0, [(3, (.one .sl))]), (1, [(3, (.one .sl))])], res := [(2, (.one .sl))], anys := [] }
theorem l_law5_ends : FnOk Try.prog 40 e_law5_ends :=
  fn_ok mixed (l := []) trivial (An := an_law5_ends) Try.func40 (c := Try.f40.body.getD .skip) (by kernel_rfl) Try.ntmps40 (by kernel_rfl) (fun _ _ => Try.call40 _ _) _ (by kernel_rfl) (fun x => by kernel_rfl) (by kernel_rfl)
noncomputable def e_Text_Breaks : Shallow := ⟨[(.one .ptr), (.one (.int .i64))], [(.one (.int .i64))], fun x => F_Text_Breaks ids x.1 x.2.1⟩
noncomputable def an_Text_Breaks : Ann := { order := Go.Sw.look [], reg := Go.Sw.look [(6, ([(34, (.one .bool))], [5]))], join := Go.Sw.look [], loop := Go.Sw.look [], blk := Go.Sw.lookL [(0, [])], res := [(4, (.one (.int .i64)))], anys := [] }
theorem l_Text_Breaks : FnOk Try.prog 43 e_Text_Breaks :=
  fn_ok mixed (l := [(42, e_Text_Len), (61, e_Tree_part_Sum), (72, e_Text_ahead), (41, e_Text_Atoms)]) ⟨l_Text_Len, l_Tree_part_Sum, l_Text_ahead, l_Text_Atoms, trivial⟩ (An := an_Text_Breaks) Try.func43 (c := Try.f43.body.getD .skip) (by kernel_rfl) Try.ntmps43 (by kernel_rfl) (fun _ _ => Try.call43 _ _) _ (by kernel_rfl) (fun x => by kernel_rfl) (by kernel_rfl)
noncomputable def e_Text_Seek : Shallow := ⟨[(.one .ptr), (.one (.int .i64))], [(.one (.int .i64))], fun x => F_Text_Seek ids x.1 x.2.1⟩
noncomputable def an_Text_Seek : Ann := { order := Go.Sw.look [(10, ([[0, 1, 2, 3, 4, 5, 6, 7, 8, 9, 10, 11, 12]], [])), (11, ([[0, 1, 2, 3, 4, 5]], [(0, 3)]))], reg := Go.Sw.look [(3, ([(16, (.one .bool))], [0, 1])), (9, ([(61, (.one .bool))], [0, 1, 6, 7, 9])), (14, ([(100, (.one .bool))], [6]))], join := Go.Sw.look [], loop := Go.Sw.look [(9, ([(9, (.one (.int .i64)))], [0, 1, 6, 7]))], blk := Go.Sw.lookL [(0, []), (1, []), (2, [(9, (.one (.int .i64)))])], res := [(4, (.one (.int .i64)))], anys := [] }
theorem l_Text_Seek : FnOk Try.prog 44 e_Text_Seek :=
  fn_ok mixed (l := [(61, e_Tree_part_Sum), (73, e_Tree_part_Find), (74, e_Tree_part_Upto), (75, e_Tree_part_At), (45, e_codec_Next), (77, e_piece_single), (76, e_sums_Add), (41, e_Text_Atoms)]) ⟨l_Tree_part_Sum, l_Tree_part_Find, l_Tree_part_Upto, l_Tree_part_At, l_codec_Next, l_piece_single, l_sums_Add, l_Text_Atoms, trivial⟩ (An := an_Text_Seek) Try.func44 (c := Try.f44.body.getD .skip) (by kernel_rfl) Try.ntmps44 (by kernel_rfl) (fun _ _ => Try.call44 _ _) _ (by kernel_rfl) (fun x => by kernel_rfl) (by kernel_rfl)
noncomputable def e_law5_PieceSeam : Shallow := ⟨[(.one (.int .i64)), (.one .sl), (.one .sl), (.one .sl)], [(.one .bool)], fun x => F_law5_PieceSeam ids x.1 x.2.1 x.2.2.1 x.2.2.2.1⟩
noncomputable def an_law5_PieceSeam : Ann := { order := Go.Sw.look [(19, ([[0, 1, 2, 3, 4, 5, 6, 7, 8, 9, 10, 11, 12, 13, 14, 15, 16, 17, 18, 19, 20, 21, 22, 23, 24, 25, 26, 27, 28, 29, 30, 31, 32, 33, 34, 35, 36, 37, 38, 39, 40, 41, 42]], [])), (21, ([[0, 1, 2, 3, 4, 6, 7, 8, 9, 10, 11, 5, 12, 13, 14, 15, 16, 17, 18, 19, 20, 23, 21, 22, 24, 25, 26]], [(11, 5)]))], reg := Go.Sw.look [(6, ([(32, (.one .bool))], [2, 3, 9])), (13, ([(68, (.one .bool))], [2, 3, 9, 10, 11, 12])), (19, ([(123, (.one .bool))], [2, 3, 9, 10, 11, 12, 13, 14])), (21, ([(150, (.one .bool))], [2, 3, 9, 10, 11, 12, 13]))], join := Go.Sw.look [(10, ([], [2, 3, 9, 10]))], loop := Go.Sw.look [(9, ([(10, (.one (.int .i64)))], [2, 3, 9])), (16, ([(13, (.one (.int .i64)))], [2, 3, 9, 10, 11, 12]))], blk := Go.Sw.lookL [(0, []), (1, []), (2, []), (3, [])], res := [(8, (.one .bool))], anys := [] }
theorem l_law5_PieceSeam : FnOk Try.prog 9 e_law5_PieceSeam :=
  fn_ok mixed (l := [(10, e_law5_able), (11, e_law5_known), (12, e_law5_opened), (33, e_Text_Bytes), (18, e_law5_sameBytes), (42, e_Text_Len), (41, e_Text_Atoms), (40, e_law5_ends), (43, e_Text_Breaks), (44, e_Text_Seek), (17, e_law5_changed)]) ⟨l_law5_able, l_law5_known, l_law5_opened, l_Text_Bytes, l_law5_sameBytes, l_Text_Len, l_Text_Atoms, l_law5_ends, l_Text_Breaks, l_Text_Seek, l_law5_changed, trivial⟩ (An := an_law5_PieceSeam) Try.func9 (c := Try.f9.body.getD .skip) (by kernel_rfl) Try.ntmps9 (by kernel_rfl) (fun _ _ => Try.call9 _ _) _ (by kernel_rfl) (fun x => by kernel_rfl) (by kernel_rfl)
noncomputable def e_Text_Chunks_1 : Shallow := ⟨[(.one .any), (.one .ptr), (.one .ptr)], [], fun x => F_Text_Chunks_1 ids x.1 x.2.1 x.2.2.1⟩
noncomputable def an_Text_Chunks_1 : Ann := { order := Go.Sw.look [(8, ([[0, 1, 2, 3, 4, 5]], []))], reg := Go.Sw.look [], join := Go.Sw.look [], loop := Go.Sw.look [(6, ([(6, (.one .sl))], [1, 3, 4]))], blk := Go.Sw.lookL [(0, []), (1, []), (2, []), (3, [(6, (.one .sl))])], res := [], anys := [0, 11, 37, 44], rng := Go.Sw.look [(12, ([(12, (.agg [.sl, (.int .i64), (.int .i64), (.int .i64), (.int .i64), .bool, .bool]))], [(5, (.one .ptr))]))] }
theorem l_Text_Chunks_1 : FnOk Try.prog 46 e_Text_Chunks_1 :=
  fn_ok mixed (l := [(47, e_Tree_part_Items)]) ⟨l_Tree_part_Items, trivial⟩ (An := an_Text_Chunks_1) Try.func46 (c := Try.f46.body.getD .skip) (by kernel_rfl) Try.ntmps46 (by kernel_rfl) (fun _ _ => Try.call46 _ _) _ (by kernel_rfl) (fun x => by kernel_rfl) (by kernel_rfl)
noncomputable def e_Text_Atoms_1 : Shallow := ⟨[(.one (.int .i64)), (.one (.int .i64)), (.one .ptr)], [], fun x => F_Text_Atoms_1 ids x.1 x.2.1 x.2.2.1⟩
noncomputable def an_Text_Atoms_1 : Ann := { order := Go.Sw.look [], reg := Go.Sw.look [], join := Go.Sw.look [], loop := Go.Sw.look [], blk := Go.Sw.lookL [], res := [], anys := [] }
theorem l_Text_Atoms_1 : FnOk Try.prog 71 e_Text_Atoms_1 :=
  fn_ok mixed (l := []) trivial (An := an_Text_Atoms_1) Try.func71 (c := Try.f71.body.getD .skip) (by kernel_rfl) Try.ntmps71 (by kernel_rfl) (fun _ _ => Try.call71 _ _) _ (by kernel_rfl) (fun x => by kernel_rfl) (by kernel_rfl)
noncomputable def e_Tree_part_Items_1 : Shallow := ⟨[(.one .any), (.one .ptr), (.one .ptr)], [], fun x => F_Tree_part_Items_1 ids x.1 x.2.1 x.2.2.1⟩
noncomputable def an_Tree_part_Items_1 : Ann := { order := Go.Sw.look [], reg := Go.Sw.look [], join := Go.Sw.look [], loop := Go.Sw.look [], blk := Go.Sw.lookL [], res := [], anys := [0, 6] }
theorem l_Tree_part_Items_1 : FnOk Try.prog 78 e_Tree_part_Items_1 :=
  fn_ok mixed (l := []) trivial (An := an_Tree_part_Items_1) Try.func78 (c := Try.f78.body.getD .skip) (by kernel_rfl) Try.ntmps78 (by kernel_rfl) (fun _ _ => Try.call78 _ _) _ (by kernel_rfl) (fun x => by kernel_rfl) (by kernel_rfl)
noncomputable def e_Tree_part_Items_1_1 : Shallow := ⟨[(.one .ptr), (.one (.int .i64)), (.one .ptr), (.one .ptr)], [(.one .bool)], fun x => F_Tree_part_Items_1_1 ids x.1 x.2.1 x.2.2.1 x.2.2.2.1⟩
noncomputable def an_Tree_part_Items_1_1 : Ann := { order := Go.Sw.look [(4, ([[0, 1, 2, 3, 4, 5, 6, 7, 8, 9, 10, 11, 12]], [])), (6, ([[0, 1, 2, 3, 4, 5, 6, 7, 8, 9, 10, 11]], [])), (8, ([[0, 1, 2, 3, 4, 5, 6, 7, 8, 9, 10, 11]], []))], reg := Go.Sw.look [(1, ([(17, (.one .bool))], [0, 1, 2, 3])), (4, ([(35, (.one .bool))], [0, 1, 2, 3, 7])), (6, ([(47, (.one .bool))], [0, 1, 2, 7]))], join := Go.Sw.look [], loop := Go.Sw.look [], blk := Go.Sw.lookL [], res := [(6, (.one .bool))], anys := [27, 40, 48] }
theorem l_Tree_part_Items_1_1 : FnOk Try.prog 79 e_Tree_part_Items_1_1 :=
  fn_ok mixed (l := [(80, e_node_part_count)]) ⟨l_node_part_count, trivial⟩ (An := an_Tree_part_Items_1_1) Try.func79 (c := Try.f79.body.getD .skip) (by kernel_rfl) Try.ntmps79 (by kernel_rfl) (fun _ _ => Try.call79 _ _) _ (by kernel_rfl) (fun x => by kernel_rfl) (by kernel_rfl)
noncomputable def e_Text_Tags_1 : Shallow := ⟨[(.one (.int .i64)), (.one (.int .i64)), (.one .ptr)], [], fun x => F_Text_Tags_1 ids x.1 x.2.1 x.2.2.1⟩
noncomputable def an_Text_Tags_1 : Ann := { order := Go.Sw.look [], reg := Go.Sw.look [], join := Go.Sw.look [], loop := Go.Sw.look [], blk := Go.Sw.lookL [], res := [], anys := [] }
theorem l_Text_Tags_1 : FnOk Try.prog 83 e_Text_Tags_1 :=
  fn_ok mixed (l := []) trivial (An := an_Text_Tags_1) Try.func83 (c := Try.f83.body.getD .skip) (by kernel_rfl) Try.ntmps83 (by kernel_rfl) (fun _ _ => Try.call83 _ _) _ (by kernel_rfl) (fun x => by kernel_rfl) (by kernel_rfl)
noncomputable def e_codec_bounds : Shallow := ⟨[(.one (.int .u8))], [(.one (.int .i64)), (.one (.int .u8)), (.one (.int .u8))], fun x => F_codec_bounds ids x.1⟩
noncomputable def an_codec_bounds : Ann := { order := Go.Sw.look [], reg := Go.Sw.look [], join := Go.Sw.look [], loop := Go.Sw.look [], blk := Go.Sw.lookL [(0, [])], res := [(2, (.one (.int .i64))), (3, (.one (.int .u8))), (4, (.one (.int .u8)))], anys := [] }
theorem l_codec_bounds : FnOk Try.prog 140 e_codec_bounds :=
  fn_ok mixed (l := []) trivial (An := an_codec_bounds) Try.func140 (c := Try.f140.body.getD .skip) (by kernel_rfl) Try.ntmps140 (by kernel_rfl) (fun _ _ => Try.call140 _ _) _ (by kernel_rfl) (fun x => by kernel_rfl) (by kernel_rfl)
noncomputable def e_codec_row : Shallow := ⟨[(.one .sl)], [(.one (.int .i64)), (.one (.int .i64))], fun x => F_codec_row ids x.1⟩
noncomputable def an_codec_row : Ann := { order := Go.Sw.look [], reg := Go.Sw.look [(4, ([(36, (.one .bool))], [0, 4])), (7, ([(54, (.one .bool))], [0, 4, 7]))], join := Go.Sw.look [], loop := Go.Sw.look [(7, ([(7, (.one (.int .i64)))], [0, 4]))], blk := Go.Sw.lookL [(0, [(7, (.one (.int .i64)))]), (1, [(7, (.one (.int .i64)))])], res := [(2, (.one (.int .i64))), (3, (.one (.int .i64)))], anys := [] }
theorem l_codec_row : FnOk Try.prog 139 e_codec_row :=
  fn_ok mixed (l := [(140, e_codec_bounds)]) ⟨l_codec_bounds, trivial⟩ (An := an_codec_row) Try.func139 (c := Try.f139.body.getD .skip) (by kernel_rfl) Try.ntmps139 (by kernel_rfl) (fun _ _ => Try.call139 _ _) _ (by kernel_rfl) (fun x => by kernel_rfl) (by kernel_rfl)
noncomputable def e_eight_first : Shallow := ⟨[(.agg []), (.one .sl)], [(.one (.int .i64)), (.one (.int .i64))], fun x => F_eight_first ids x.1 x.2.1⟩
noncomputable def an_eight_first : Ann := { order := Go.Sw.look [], reg := Go.Sw.look [(2, ([(22, (.one .bool))], [1, 7]))], join := Go.Sw.look [(12, ([(8, (.one (.int .i64)))], [1, 7]))], loop := Go.Sw.look [(13, ([(8, (.one (.int .i64))), (49, (.one (.int .i64)))], [7, 47, 48]))], blk := Go.Sw.lookL [(0, [(8, (.one (.int .i64)))]), (1, [(8, (.one (.int .i64)))]), (2, [(8, (.one (.int .i64)))])], res := [(4, (.one (.int .i64))), (5, (.one (.int .i64)))], anys := [] }
theorem l_eight_first : FnOk Try.prog 134 e_eight_first :=
  fn_ok mixed (l := [(139, e_codec_row)]) ⟨l_codec_row, trivial⟩ (An := an_eight_first) Try.func134 (c := Try.f134.body.getD .skip) (by kernel_rfl) Try.ntmps134 (by kernel_rfl) (fun _ _ => Try.call134 _ _) _ (by kernel_rfl) (fun x => by kernel_rfl) (by kernel_rfl)
noncomputable def e_eight_size : Shallow := ⟨[(.agg []), (.one (.int .i64))], [(.one (.int .i64))], fun x => F_eight_size ids x.1 x.2.1⟩
noncomputable def an_eight_size : Ann := { order := Go.Sw.look [], reg := Go.Sw.look [(1, ([(5, (.one .bool))], [1]))], join := Go.Sw.look [], loop := Go.Sw.look [], blk := Go.Sw.lookL [(0, [])], res := [(4, (.one (.int .i64)))], anys := [] }
theorem l_eight_size : FnOk Try.prog 138 e_eight_size :=
  fn_ok mixed (l := []) trivial (An := an_eight_size) Try.func138 (c := Try.f138.body.getD .skip) (by kernel_rfl) Try.ntmps138 (by kernel_rfl) (fun _ _ => Try.call138 _ _) _ (by kernel_rfl) (fun x => by kernel_rfl) (by kernel_rfl)
noncomputable def e_eight_put : Shallow := ⟨[(.agg []), (.one .sl), (.one (.int .i64))], [(.one .sl)], fun x => F_eight_put ids x.1 x.2.1 x.2.2.1⟩
noncomputable def an_eight_put : Ann := { order := Go.Sw.look [(7, ([[0, 1, 2, 3, 4, 5, 6, 7, 8, 9, 10, 11, 12, 13]], []))], reg := Go.Sw.look [], join := Go.Sw.look [], loop := Go.Sw.look [(9, ([(1, (.one .sl)), (9, (.one (.int .i64)))], [2]))], blk := Go.Sw.lookL [(0, [(1, (.one .sl))]), (1, [(1, (.one .sl))])], res := [(6, (.one .sl))], anys := [] }
theorem l_eight_put : FnOk Try.prog 137 e_eight_put :=
  fn_ok mixed (l := [(138, e_eight_size)]) ⟨l_eight_size, trivial⟩ (An := an_eight_put) Try.func137 (c := Try.f137.body.getD .skip) (by kernel_rfl) Try.ntmps137 (by kernel_rfl) (fun _ _ => Try.call137 _ _) _ (by kernel_rfl) (fun x => by kernel_rfl) (by kernel_rfl)
noncomputable def e_sixteen_unit : Shallow := ⟨[(.agg [(.int .i64)]), (.one .sl)], [(.one (.int .i64))], fun x => F_sixteen_unit ids x.1 x.2.1⟩
noncomputable def an_sixteen_unit : Ann := { order := Go.Sw.look [(1, ([[0, 1, 2, 3, 4, 5, 6, 7, 8, 9, 10, 11, 12, 13, 14, 15]], []))], reg := Go.Sw.look [], join := Go.Sw.look [], loop := Go.Sw.look [], blk := Go.Sw.lookL [], res := [(4, (.one (.int .i64)))], anys := [] }
theorem l_sixteen_unit : FnOk Try.prog 146 e_sixteen_unit :=
  fn_ok mixed (l := []) trivial (An := an_sixteen_unit) Try.func146 (c := Try.f146.body.getD .skip) (by kernel_rfl) Try.ntmps146 (by kernel_rfl) (fun _ _ => Try.call146 _ _) _ (by kernel_rfl) (fun x => by kernel_rfl) (by kernel_rfl)
noncomputable def e_codec_high : Shallow := ⟨[(.one (.int .i64))], [(.one .bool)], fun x => F_codec_high ids x.1⟩
noncomputable def an_codec_high : Ann := { order := Go.Sw.look [], reg := Go.Sw.look [], join := Go.Sw.look [], loop := Go.Sw.look [], blk := Go.Sw.lookL [], res := [(2, (.one .bool))], anys := [] }
theorem l_codec_high : FnOk Try.prog 147 e_codec_high :=
  fn_ok mixed (l := []) trivial (An := an_codec_high) Try.func147 (c := Try.f147.body.getD .skip) (by kernel_rfl) Try.ntmps147 (by kernel_rfl) (fun _ _ => Try.call147 _ _) _ (by kernel_rfl) (fun x => by kernel_rfl) (by kernel_rfl)
noncomputable def e_codec_low : Shallow := ⟨[(.one (.int .i64))], [(.one .bool)], fun x => F_codec_low ids x.1⟩
noncomputable def an_codec_low : Ann := { order := Go.Sw.look [], reg := Go.Sw.look [], join := Go.Sw.look [], loop := Go.Sw.look [], blk := Go.Sw.lookL [], res := [(2, (.one .bool))], anys := [] }
theorem l_codec_low : FnOk Try.prog 148 e_codec_low :=
  fn_ok mixed (l := []) trivial (An := an_codec_low) Try.func148 (c := Try.f148.body.getD .skip) (by kernel_rfl) Try.ntmps148 (by kernel_rfl) (fun _ _ => Try.call148 _ _) _ (by kernel_rfl) (fun x => by kernel_rfl) (by kernel_rfl)
end Go.Proofs.Ytjhnjehmbgaciaa
