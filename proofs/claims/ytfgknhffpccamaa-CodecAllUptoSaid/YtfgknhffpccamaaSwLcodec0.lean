/-
  Each function of the cut does what its shallow program says (the text is printed by program).
-/
import Derived.Test.YtfgknhffpccamaaProg
import Derived.KernelRfl
import Derived.Test.YtfgknhffpccamaaSwS10
import Derived.Test.YtfgknhffpccamaaSwFcodec
set_option maxRecDepth 100000
set_option maxHeartbeats 4000000
set_option linter.unusedVariables false
namespace Go.Proofs.Ytfgknhffpccamaa
open Go Go.Sw
noncomputable def ids : Ids := { m_first := methName Try.prog 106 0, m_held := methName Try.prog 106 1, m_last := methName Try.prog 106 2, m_put := methName Try.prog 106 3, m_size := methName Try.prog 106 4, t_codec_eight := 106, t_codec_latin := 110, t_codec_sixteen := 109, none := () }
theorem mixed : Try.prog.follows .mixedOrders = true := by kernel_rfl
noncomputable def e_codec_Mark : Shallow := ⟨[(.one (.int .i64))], [(.one .sl)], fun x => F_codec_Mark ids x.1⟩
noncomputable def an_codec_Mark : Ann := { order := Go.Sw.look [], reg := Go.Sw.look [], join := Go.Sw.look [], loop := Go.Sw.look [], blk := Go.Sw.lookL [(0, [])], res := [(2, (.one .sl))], anys := [] }
theorem l_codec_Mark : FnOk Try.prog 44 e_codec_Mark :=
  fn_ok mixed (l := []) trivial (An := an_codec_Mark) Try.func44 (c := Try.f44.body.getD .skip) (by kernel_rfl) Try.ntmps44 (by kernel_rfl) (fun _ _ => Try.call44 _ _) _ (by kernel_rfl) (fun x => by kernel_rfl) (by kernel_rfl)
noncomputable def e_law1_copyBytes : Shallow := ⟨[(.one .sl)], [(.one .sl)], fun x => F_law1_copyBytes ids x.1⟩
noncomputable def an_law1_copyBytes : Ann := { order := Go.Sw.look [], reg := Go.Sw.look [], join := Go.Sw.look [], loop := Go.Sw.look [(3, ([(3, (.one .sl)), (4, (.one (.int .i64)))], [0]))], blk := Go.Sw.lookL [(0, [(3, (.one .sl))]), (1, [(3, (.one .sl))])], res := [(2, (.one .sl))], anys := [] }
theorem l_law1_copyBytes : FnOk Try.prog 26 e_law1_copyBytes :=
  fn_ok mixed (l := []) trivial (An := an_law1_copyBytes) Try.func26 (c := Try.f26.body.getD .skip) (by kernel_rfl) Try.ntmps26 (by kernel_rfl) (fun _ _ => Try.call26 _ _) _ (by kernel_rfl) (fun x => by kernel_rfl) (by kernel_rfl)
noncomputable def e_law1_lend : Shallow := ⟨[(.one .sl)], [(.one .sl)], fun x => F_law1_lend ids x.1⟩
noncomputable def an_law1_lend : Ann := { order := Go.Sw.look [], reg := Go.Sw.look [], join := Go.Sw.look [], loop := Go.Sw.look [(3, ([(3, (.one .sl)), (4, (.one (.int .i64)))], [0])), (8, ([(5, (.one (.int .i64)))], [3]))], blk := Go.Sw.lookL [(0, [(3, (.one .sl))]), (1, [(3, (.one .sl))]), (2, []), (3, [])], res := [(2, (.one .sl))], anys := [] }
theorem l_law1_lend : FnOk Try.prog 53 e_law1_lend :=
  fn_ok mixed (l := [(26, e_law1_copyBytes)]) ⟨l_law1_copyBytes, trivial⟩ (An := an_law1_lend) Try.func53 (c := Try.f53.body.getD .skip) (by kernel_rfl) Try.ntmps53 (by kernel_rfl) (fun _ _ => Try.call53 _ _) _ (by kernel_rfl) (fun x => by kernel_rfl) (by kernel_rfl)
noncomputable def e_codec_Detect : Shallow := ⟨[(.one .sl)], [(.one (.int .i64)), (.one (.int .i64))], fun x => F_codec_Detect ids x.1⟩
noncomputable def an_codec_Detect : Ann := { order := Go.Sw.look [], reg := Go.Sw.look [(1, ([(4, (.one .bool))], [0])), (3, ([(26, (.one .bool))], [0])), (5, ([(42, (.one .bool))], []))], join := Go.Sw.look [], loop := Go.Sw.look [], blk := Go.Sw.lookL [(0, [])], res := [(2, (.one (.int .i64))), (3, (.one (.int .i64)))], anys := [] }
theorem l_codec_Detect : FnOk Try.prog 54 e_codec_Detect :=
  fn_ok mixed (l := []) trivial (An := an_codec_Detect) Try.func54 (c := Try.f54.body.getD .skip) (by kernel_rfl) Try.ntmps54 (by kernel_rfl) (fun _ _ => Try.call54 _ _) _ (by kernel_rfl) (fun x => by kernel_rfl) (by kernel_rfl)
noncomputable def e_ref1_Mark : Shallow := ⟨[(.one (.int .i64))], [(.one .sl)], fun x => F_ref1_Mark ids x.1⟩
noncomputable def an_ref1_Mark : Ann := { order := Go.Sw.look [], reg := Go.Sw.look [], join := Go.Sw.look [], loop := Go.Sw.look [], blk := Go.Sw.lookL [(0, [])], res := [(2, (.one .sl))], anys := [] }
theorem l_ref1_Mark : FnOk Try.prog 56 e_ref1_Mark :=
  fn_ok mixed (l := []) trivial (An := an_ref1_Mark) Try.func56 (c := Try.f56.body.getD .skip) (by kernel_rfl) Try.ntmps56 (by kernel_rfl) (fun _ _ => Try.call56 _ _) _ (by kernel_rfl) (fun x => by kernel_rfl) (by kernel_rfl)
noncomputable def e_ref1_begins : Shallow := ⟨[(.one .sl), (.one (.int .i64)), (.one .sl)], [(.one .bool)], fun x => F_ref1_begins ids x.1 x.2.1 x.2.2.1⟩
noncomputable def an_ref1_begins : Ann := { order := Go.Sw.look [(6, ([[0, 1, 2, 3, 4, 5, 6, 7, 8, 9, 10]], []))], reg := Go.Sw.look [], join := Go.Sw.look [], loop := Go.Sw.look [(4, ([(7, (.one (.int .i64)))], [0, 1, 2]))], blk := Go.Sw.lookL [(0, []), (1, [])], res := [(6, (.one .bool))], anys := [] }
theorem l_ref1_begins : FnOk Try.prog 77 e_ref1_begins :=
  fn_ok mixed (l := []) trivial (An := an_ref1_begins) Try.func77 (c := Try.f77.body.getD .skip) (by kernel_rfl) Try.ntmps77 (by kernel_rfl) (fun _ _ => Try.call77 _ _) _ (by kernel_rfl) (fun x => by kernel_rfl) (by kernel_rfl)
noncomputable def e_ref1_Detect : Shallow := ⟨[(.one .sl)], [(.one (.int .i64)), (.one (.int .i64))], fun x => F_ref1_Detect ids x.1⟩
noncomputable def an_ref1_Detect : Ann := { order := Go.Sw.look [], reg := Go.Sw.look [], join := Go.Sw.look [], loop := Go.Sw.look [(2, ([(4, (.one (.int .i64)))], [0]))], blk := Go.Sw.lookL [(0, []), (1, [])], res := [(2, (.one (.int .i64))), (3, (.one (.int .i64)))], anys := [] }
theorem l_ref1_Detect : FnOk Try.prog 55 e_ref1_Detect :=
  fn_ok mixed (l := [(56, e_ref1_Mark), (77, e_ref1_begins)]) ⟨l_ref1_Mark, l_ref1_begins, trivial⟩ (An := an_ref1_Detect) Try.func55 (c := Try.f55.body.getD .skip) (by kernel_rfl) Try.ntmps55 (by kernel_rfl) (fun _ _ => Try.call55 _ _) _ (by kernel_rfl) (fun x => by kernel_rfl) (by kernel_rfl)
noncomputable def e_law1_sameBytes : Shallow := ⟨[(.one .sl), (.one .sl)], [(.one .bool)], fun x => F_law1_sameBytes ids x.1 x.2.1⟩
noncomputable def an_law1_sameBytes : Ann := { order := Go.Sw.look [], reg := Go.Sw.look [], join := Go.Sw.look [], loop := Go.Sw.look [], blk := Go.Sw.lookL [], res := [(4, (.one .bool))], anys := [] }
theorem l_law1_sameBytes : FnOk Try.prog 40 e_law1_sameBytes :=
  fn_ok mixed (l := []) trivial (An := an_law1_sameBytes) Try.func40 (c := Try.f40.body.getD .skip) (by kernel_rfl) Try.ntmps40 (by kernel_rfl) (fun _ _ => Try.call40 _ _) _ (by kernel_rfl) (fun x => by kernel_rfl) (by kernel_rfl)
noncomputable def e_law1_kept : Shallow := ⟨[(.one .sl), (.one .sl)], [(.one .bool)], fun x => F_law1_kept ids x.1 x.2.1⟩
noncomputable def an_law1_kept : Ann := { order := Go.Sw.look [(7, ([[0, 1, 2, 3, 4, 5, 6, 7, 8, 9, 10, 11, 12, 13, 14]], []))], reg := Go.Sw.look [(7, ([(4, (.one .bool))], []))], join := Go.Sw.look [], loop := Go.Sw.look [(3, ([(6, (.one (.int .i64)))], [0, 1, 5]))], blk := Go.Sw.lookL [(0, []), (1, [])], res := [(4, (.one .bool))], anys := [] }
theorem l_law1_kept : FnOk Try.prog 57 e_law1_kept :=
  fn_ok mixed (l := []) trivial (An := an_law1_kept) Try.func57 (c := Try.f57.body.getD .skip) (by kernel_rfl) Try.ntmps57 (by kernel_rfl) (fun _ _ => Try.call57 _ _) _ (by kernel_rfl) (fun x => by kernel_rfl) (by kernel_rfl)
noncomputable def e_law1_turned : Shallow := ⟨[(.one .sl), (.one (.int .i64))], [(.one .sl)], fun x => F_law1_turned ids x.1 x.2.1⟩
noncomputable def an_law1_turned : Ann := { order := Go.Sw.look [], reg := Go.Sw.look [], join := Go.Sw.look [], loop := Go.Sw.look [(2, ([(5, (.one (.int .i64)))], [0, 1]))], blk := Go.Sw.lookL [(0, []), (1, [])], res := [(4, (.one .sl))], anys := [] }
theorem l_law1_turned : FnOk Try.prog 58 e_law1_turned :=
  fn_ok mixed (l := [(26, e_law1_copyBytes)]) ⟨l_law1_copyBytes, trivial⟩ (An := an_law1_turned) Try.func58 (c := Try.f58.body.getD .skip) (by kernel_rfl) Try.ntmps58 (by kernel_rfl) (fun _ _ => Try.call58 _ _) _ (by kernel_rfl) (fun x => by kernel_rfl) (by kernel_rfl)
noncomputable def e_law1_marked : Shallow := ⟨[(.one (.int .i64)), (.one .sl)], [(.one .bool)], fun x => F_law1_marked ids x.1 x.2.1⟩
noncomputable def an_law1_marked : Ann := { order := Go.Sw.look [], reg := Go.Sw.look [(5, ([(49, (.one .bool))], [1, 6])), (10, ([(4, (.one .bool))], []))], join := Go.Sw.look [], loop := Go.Sw.look [], blk := Go.Sw.lookL [], res := [(4, (.one .bool))], anys := [] }
theorem l_law1_marked : FnOk Try.prog 16 e_law1_marked :=
  fn_ok mixed (l := [(44, e_codec_Mark), (53, e_law1_lend), (54, e_codec_Detect), (55, e_ref1_Detect), (56, e_ref1_Mark), (40, e_law1_sameBytes), (57, e_law1_kept), (58, e_law1_turned)]) ⟨l_codec_Mark, l_law1_lend, l_codec_Detect, l_ref1_Detect, l_ref1_Mark, l_law1_sameBytes, l_law1_kept, l_law1_turned, trivial⟩ (An := an_law1_marked) Try.func16 (c := Try.f16.body.getD .skip) (by kernel_rfl) Try.ntmps16 (by kernel_rfl) (fun _ _ => Try.call16 _ _) _ (by kernel_rfl) (fun x => by kernel_rfl) (by kernel_rfl)
noncomputable def e_law1_CodecMarks : Shallow := ⟨[(.one (.int .i64)), (.one .sl)], [(.one .bool)], fun x => F_law1_CodecMarks ids x.1 x.2.1⟩
noncomputable def an_law1_CodecMarks : Ann := { order := Go.Sw.look [], reg := Go.Sw.look [(1, ([(4, (.one .bool))], []))], join := Go.Sw.look [], loop := Go.Sw.look [], blk := Go.Sw.lookL [], res := [(4, (.one .bool))], anys := [] }
theorem l_law1_CodecMarks : FnOk Try.prog 3 e_law1_CodecMarks :=
  fn_ok mixed (l := [(16, e_law1_marked)]) ⟨l_law1_marked, trivial⟩ (An := an_law1_CodecMarks) Try.func3 (c := Try.f3.body.getD .skip) (by kernel_rfl) Try.ntmps3 (by kernel_rfl) (fun _ _ => Try.call3 _ _) _ (by kernel_rfl) (fun x => by kernel_rfl) (by kernel_rfl)
noncomputable def e_codec_of : Shallow := ⟨[(.one (.int .i64))], [(.one .any)], fun x => F_codec_of ids x.1⟩
noncomputable def an_codec_of : Ann := { order := Go.Sw.look [], reg := Go.Sw.look [], join := Go.Sw.look [], loop := Go.Sw.look [], blk := Go.Sw.lookL [(0, [])], res := [(2, (.one .any))], anys := [] }
theorem l_codec_of : FnOk Try.prog 69 e_codec_of :=
  fn_ok mixed (l := []) trivial (An := an_codec_of) Try.func69 (c := Try.f69.body.getD .skip) (by kernel_rfl) Try.ntmps69 (by kernel_rfl) (fun _ _ => Try.call69 _ _) _ (by kernel_rfl) (fun x => by kernel_rfl) (by kernel_rfl)
noncomputable def e_codec_Size : Shallow := ⟨[(.one (.int .i64)), (.one (.int .i64))], [(.one (.int .i64))], fun x => F_codec_Size ids x.1 x.2.1⟩
noncomputable def an_codec_Size : Ann := { order := Go.Sw.look [], reg := Go.Sw.look [], join := Go.Sw.look [], loop := Go.Sw.look [], blk := Go.Sw.lookL [], res := [(4, (.one (.int .i64)))], anys := [5, 7, 8, 10] }
theorem l_codec_Size : FnOk Try.prog 39 e_codec_Size :=
  fn_ok mixed (l := [(69, e_codec_of)]) ⟨l_codec_of, trivial⟩ (An := an_codec_Size) Try.func39 (c := Try.f39.body.getD .skip) (by kernel_rfl) Try.ntmps39 (by kernel_rfl) (fun _ _ => Try.call39 _ _) _ (by kernel_rfl) (fun x => by kernel_rfl) (by kernel_rfl)
noncomputable def e_codec_Fits : Shallow := ⟨[(.one (.int .i64)), (.one (.int .i64))], [(.one .bool)], fun x => F_codec_Fits ids x.1 x.2.1⟩
noncomputable def an_codec_Fits : Ann := { order := Go.Sw.look [], reg := Go.Sw.look [], join := Go.Sw.look [], loop := Go.Sw.look [], blk := Go.Sw.lookL [], res := [(4, (.one .bool))], anys := [] }
theorem l_codec_Fits : FnOk Try.prog 38 e_codec_Fits :=
  fn_ok mixed (l := [(39, e_codec_Size)]) ⟨l_codec_Size, trivial⟩ (An := an_codec_Fits) Try.func38 (c := Try.f38.body.getD .skip) (by kernel_rfl) Try.ntmps38 (by kernel_rfl) (fun _ _ => Try.call38 _ _) _ (by kernel_rfl) (fun x => by kernel_rfl) (by kernel_rfl)
noncomputable def e_ref1_Scalar : Shallow := ⟨[(.one (.int .i64))], [(.one .bool)], fun x => F_ref1_Scalar ids x.1⟩
noncomputable def an_ref1_Scalar : Ann := { order := Go.Sw.look [], reg := Go.Sw.look [(1, ([(2, (.one .bool))], []))], join := Go.Sw.look [], loop := Go.Sw.look [], blk := Go.Sw.lookL [], res := [(2, (.one .bool))], anys := [] }
theorem l_ref1_Scalar : FnOk Try.prog 78 e_ref1_Scalar :=
  fn_ok mixed (l := []) trivial (An := an_ref1_Scalar) Try.func78 (c := Try.f78.body.getD .skip) (by kernel_rfl) Try.ntmps78 (by kernel_rfl) (fun _ _ => Try.call78 _ _) _ (by kernel_rfl) (fun x => by kernel_rfl) (by kernel_rfl)
noncomputable def e_ref1_Fits : Shallow := ⟨[(.one (.int .i64)), (.one (.int .i64))], [(.one .bool)], fun x => F_ref1_Fits ids x.1 x.2.1⟩
noncomputable def an_ref1_Fits : Ann := { order := Go.Sw.look [], reg := Go.Sw.look [(3, ([(4, (.one .bool))], [])), (6, ([(4, (.one .bool))], [])), (8, ([(4, (.one .bool))], []))], join := Go.Sw.look [(9, ([], []))], loop := Go.Sw.look [], blk := Go.Sw.lookL [(0, [])], res := [(4, (.one .bool))], anys := [] }
theorem l_ref1_Fits : FnOk Try.prog 59 e_ref1_Fits :=
  fn_ok mixed (l := [(78, e_ref1_Scalar)]) ⟨l_ref1_Scalar, trivial⟩ (An := an_ref1_Fits) Try.func59 (c := Try.f59.body.getD .skip) (by kernel_rfl) Try.ntmps59 (by kernel_rfl) (fun _ _ => Try.call59 _ _) _ (by kernel_rfl) (fun x => by kernel_rfl) (by kernel_rfl)
noncomputable def e_ref1_eight : Shallow := ⟨[(.one (.int .i64))], [(.one .sl)], fun x => F_ref1_eight ids x.1⟩
noncomputable def an_ref1_eight : Ann := { order := Go.Sw.look [], reg := Go.Sw.look [], join := Go.Sw.look [], loop := Go.Sw.look [], blk := Go.Sw.lookL [(0, [])], res := [(2, (.one .sl))], anys := [] }
theorem l_ref1_eight : FnOk Try.prog 86 e_ref1_eight :=
  fn_ok mixed (l := []) trivial (An := an_ref1_eight) Try.func86 (c := Try.f86.body.getD .skip) (by kernel_rfl) Try.ntmps86 (by kernel_rfl) (fun _ _ => Try.call86 _ _) _ (by kernel_rfl) (fun x => by kernel_rfl) (by kernel_rfl)
noncomputable def e_ref1_unit : Shallow := ⟨[(.one (.int .i64)), (.one (.int .i64))], [(.one .sl)], fun x => F_ref1_unit ids x.1 x.2.1⟩
noncomputable def an_ref1_unit : Ann := { order := Go.Sw.look [], reg := Go.Sw.look [], join := Go.Sw.look [], loop := Go.Sw.look [], blk := Go.Sw.lookL [], res := [(4, (.one .sl))], anys := [] }
theorem l_ref1_unit : FnOk Try.prog 87 e_ref1_unit :=
  fn_ok mixed (l := []) trivial (An := an_ref1_unit) Try.func87 (c := Try.f87.body.getD .skip) (by kernel_rfl) Try.ntmps87 (by kernel_rfl) (fun _ _ => Try.call87 _ _) _ (by kernel_rfl) (fun x => by kernel_rfl) (by kernel_rfl)
noncomputable def e_ref1_Put : Shallow := ⟨[(.one (.int .i64)), (.one (.int .i64))], [(.one .sl)], fun x => F_ref1_Put ids x.1 x.2.1⟩
noncomputable def an_ref1_Put : Ann := { order := Go.Sw.look [(10, ([[0, 1, 2, 3, 4, 5, 6, 7, 8, 9, 10, 11, 12, 13]], []))], reg := Go.Sw.look [], join := Go.Sw.look [], loop := Go.Sw.look [], blk := Go.Sw.lookL [(0, [])], res := [(4, (.one .sl))], anys := [] }
theorem l_ref1_Put : FnOk Try.prog 79 e_ref1_Put :=
  fn_ok mixed (l := [(86, e_ref1_eight), (87, e_ref1_unit)]) ⟨l_ref1_eight, l_ref1_unit, trivial⟩ (An := an_ref1_Put) Try.func79 (c := Try.f79.body.getD .skip) (by kernel_rfl) Try.ntmps79 (by kernel_rfl) (fun _ _ => Try.call79 _ _) _ (by kernel_rfl) (fun x => by kernel_rfl) (by kernel_rfl)
noncomputable def e_ref1_Size : Shallow := ⟨[(.one (.int .i64)), (.one (.int .i64))], [(.one (.int .i64))], fun x => F_ref1_Size ids x.1 x.2.1⟩
noncomputable def an_ref1_Size : Ann := { order := Go.Sw.look [], reg := Go.Sw.look [], join := Go.Sw.look [], loop := Go.Sw.look [], blk := Go.Sw.lookL [], res := [(4, (.one (.int .i64)))], anys := [] }
theorem l_ref1_Size : FnOk Try.prog 60 e_ref1_Size :=
  fn_ok mixed (l := [(59, e_ref1_Fits), (79, e_ref1_Put)]) ⟨l_ref1_Fits, l_ref1_Put, trivial⟩ (An := an_ref1_Size) Try.func60 (c := Try.f60.body.getD .skip) (by kernel_rfl) Try.ntmps60 (by kernel_rfl) (fun _ _ => Try.call60 _ _) _ (by kernel_rfl) (fun x => by kernel_rfl) (by kernel_rfl)
noncomputable def e_law1_sized : Shallow := ⟨[(.one (.int .i64)), (.one (.int .i64))], [(.one .bool)], fun x => F_law1_sized ids x.1 x.2.1⟩
noncomputable def an_law1_sized : Ann := { order := Go.Sw.look [], reg := Go.Sw.look [(1, ([(4, (.one .bool))], []))], join := Go.Sw.look [], loop := Go.Sw.look [], blk := Go.Sw.lookL [], res := [(4, (.one .bool))], anys := [] }
theorem l_law1_sized : FnOk Try.prog 17 e_law1_sized :=
  fn_ok mixed (l := [(38, e_codec_Fits), (59, e_ref1_Fits), (39, e_codec_Size), (60, e_ref1_Size)]) ⟨l_codec_Fits, l_ref1_Fits, l_codec_Size, l_ref1_Size, trivial⟩ (An := an_law1_sized) Try.func17 (c := Try.f17.body.getD .skip) (by kernel_rfl) Try.ntmps17 (by kernel_rfl) (fun _ _ => Try.call17 _ _) _ (by kernel_rfl) (fun x => by kernel_rfl) (by kernel_rfl)
noncomputable def e_law1_CodecSizes : Shallow := ⟨[(.one (.int .i64)), (.one (.int .i64))], [(.one .bool)], fun x => F_law1_CodecSizes ids x.1 x.2.1⟩
noncomputable def an_law1_CodecSizes : Ann := { order := Go.Sw.look [], reg := Go.Sw.look [(1, ([(4, (.one .bool))], []))], join := Go.Sw.look [], loop := Go.Sw.look [], blk := Go.Sw.lookL [], res := [(4, (.one .bool))], anys := [] }
theorem l_law1_CodecSizes : FnOk Try.prog 4 e_law1_CodecSizes :=
  fn_ok mixed (l := [(17, e_law1_sized)]) ⟨l_law1_sized, trivial⟩ (An := an_law1_CodecSizes) Try.func4 (c := Try.f4.body.getD .skip) (by kernel_rfl) Try.ntmps4 (by kernel_rfl) (fun _ _ => Try.call4 _ _) _ (by kernel_rfl) (fun x => by kernel_rfl) (by kernel_rfl)
noncomputable def e_law1_copyInts : Shallow := ⟨[(.one .sl)], [(.one .sl)], fun x => F_law1_copyInts ids x.1⟩
noncomputable def an_law1_copyInts : Ann := { order := Go.Sw.look [], reg := Go.Sw.look [], join := Go.Sw.look [], loop := Go.Sw.look [(3, ([(3, (.one .sl)), (4, (.one (.int .i64)))], [0]))], blk := Go.Sw.lookL [(0, [(3, (.one .sl))]), (1, [(3, (.one .sl))])], res := [(2, (.one .sl))], anys := [] }
theorem l_law1_copyInts : FnOk Try.prog 37 e_law1_copyInts :=
  fn_ok mixed (l := []) trivial (An := an_law1_copyInts) Try.func37 (c := Try.f37.body.getD .skip) (by kernel_rfl) Try.ntmps37 (by kernel_rfl) (fun _ _ => Try.call37 _ _) _ (by kernel_rfl) (fun x => by kernel_rfl) (by kernel_rfl)
noncomputable def e_law1_lendInts : Shallow := ⟨[(.one .sl)], [(.one .sl)], fun x => F_law1_lendInts ids x.1⟩
noncomputable def an_law1_lendInts : Ann := { order := Go.Sw.look [], reg := Go.Sw.look [], join := Go.Sw.look [], loop := Go.Sw.look [(3, ([(3, (.one .sl)), (4, (.one (.int .i64)))], [0])), (8, ([(5, (.one (.int .i64)))], [3]))], blk := Go.Sw.lookL [(0, [(3, (.one .sl))]), (1, [(3, (.one .sl))]), (2, []), (3, [])], res := [(2, (.one .sl))], anys := [] }
theorem l_law1_lendInts : FnOk Try.prog 61 e_law1_lendInts :=
  fn_ok mixed (l := [(37, e_law1_copyInts)]) ⟨l_law1_copyInts, trivial⟩ (An := an_law1_lendInts) Try.func61 (c := Try.f61.body.getD .skip) (by kernel_rfl) Try.ntmps61 (by kernel_rfl) (fun _ _ => Try.call61 _ _) _ (by kernel_rfl) (fun x => by kernel_rfl) (by kernel_rfl)
noncomputable def e_codec_Encode : Shallow := ⟨[(.one (.int .i64)), (.one .sl)], [(.one .sl), (.one (.int .i64)), (.one (.int .i64))], fun x => F_codec_Encode ids x.1 x.2.1⟩
noncomputable def an_codec_Encode : Ann := { order := Go.Sw.look [], reg := Go.Sw.look [], join := Go.Sw.look [], loop := Go.Sw.look [(6, ([(8, (.one .sl)), (17, (.one (.int .i64)))], [7, 15, 16]))], blk := Go.Sw.lookL [(0, [(8, (.one .sl))]), (1, [(8, (.one .sl))])], res := [(4, (.one .sl)), (5, (.one (.int .i64))), (6, (.one (.int .i64)))], anys := [7, 12, 13, 22, 27] }
theorem l_codec_Encode : FnOk Try.prog 36 e_codec_Encode :=
  fn_ok mixed (l := [(69, e_codec_of)]) ⟨l_codec_of, trivial⟩ (An := an_codec_Encode) Try.func36 (c := Try.f36.body.getD .skip) (by kernel_rfl) Try.ntmps36 (by kernel_rfl) (fun _ _ => Try.call36 _ _) _ (by kernel_rfl) (fun x => by kernel_rfl) (by kernel_rfl)
noncomputable def e_ref1_known : Shallow := ⟨[(.one (.int .i64))], [(.one .bool)], fun x => F_ref1_known ids x.1⟩
noncomputable def an_ref1_known : Ann := { order := Go.Sw.look [], reg := Go.Sw.look [(1, ([(2, (.one .bool))], []))], join := Go.Sw.look [], loop := Go.Sw.look [], blk := Go.Sw.lookL [], res := [(2, (.one .bool))], anys := [] }
theorem l_ref1_known : FnOk Try.prog 73 e_ref1_known :=
  fn_ok mixed (l := []) trivial (An := an_ref1_known) Try.func73 (c := Try.f73.body.getD .skip) (by kernel_rfl) Try.ntmps73 (by kernel_rfl) (fun _ _ => Try.call73 _ _) _ (by kernel_rfl) (fun x => by kernel_rfl) (by kernel_rfl)
noncomputable def e_ref1_Encode : Shallow := ⟨[(.one (.int .i64)), (.one .sl)], [(.one .sl), (.one (.int .i64)), (.one (.int .i64))], fun x => F_ref1_Encode ids x.1 x.2.1⟩
noncomputable def an_ref1_Encode : Ann := { order := Go.Sw.look [], reg := Go.Sw.look [], join := Go.Sw.look [], loop := Go.Sw.look [(6, ([(8, (.one .sl)), (9, (.one (.int .i64)))], [0, 1])), (13, ([(8, (.one .sl)), (12, (.one (.int .i64)))], [0, 1, 9, 11]))], blk := Go.Sw.lookL [(0, [(8, (.one .sl))]), (1, [(8, (.one .sl))]), (2, [(8, (.one .sl))]), (3, [(8, (.one .sl))])], res := [(4, (.one .sl)), (5, (.one (.int .i64))), (6, (.one (.int .i64)))], anys := [] }
theorem l_ref1_Encode : FnOk Try.prog 62 e_ref1_Encode :=
  fn_ok mixed (l := [(73, e_ref1_known), (59, e_ref1_Fits), (79, e_ref1_Put)]) ⟨l_ref1_known, l_ref1_Fits, l_ref1_Put, trivial⟩ (An := an_ref1_Encode) Try.func62 (c := Try.f62.body.getD .skip) (by kernel_rfl) Try.ntmps62 (by kernel_rfl) (fun _ _ => Try.call62 _ _) _ (by kernel_rfl) (fun x => by kernel_rfl) (by kernel_rfl)
noncomputable def e_law1_num : Shallow := ⟨[(.one (.int .i64))], [(.one (.int .i64))], fun x => F_law1_num ids x.1⟩
noncomputable def an_law1_num : Ann := { order := Go.Sw.look [], reg := Go.Sw.look [], join := Go.Sw.look [], loop := Go.Sw.look [], blk := Go.Sw.lookL [], res := [(2, (.one (.int .i64)))], anys := [] }
theorem l_law1_num : FnOk Try.prog 27 e_law1_num :=
  fn_ok mixed (l := []) trivial (An := an_law1_num) Try.func27 (c := Try.f27.body.getD .skip) (by kernel_rfl) Try.ntmps27 (by kernel_rfl) (fun _ _ => Try.call27 _ _) _ (by kernel_rfl) (fun x => by kernel_rfl) (by kernel_rfl)
noncomputable def e_law1_sameInts : Shallow := ⟨[(.one .sl), (.one .sl)], [(.one .bool)], fun x => F_law1_sameInts ids x.1 x.2.1⟩
noncomputable def an_law1_sameInts : Ann := { order := Go.Sw.look [(6, ([[0, 1, 2, 3, 4, 5, 6, 7, 8]], []))], reg := Go.Sw.look [], join := Go.Sw.look [], loop := Go.Sw.look [(4, ([(5, (.one (.int .i64)))], [0, 1]))], blk := Go.Sw.lookL [(0, []), (1, [])], res := [(4, (.one .bool))], anys := [] }
theorem l_law1_sameInts : FnOk Try.prog 34 e_law1_sameInts :=
  fn_ok mixed (l := []) trivial (An := an_law1_sameInts) Try.func34 (c := Try.f34.body.getD .skip) (by kernel_rfl) Try.ntmps34 (by kernel_rfl) (fun _ _ => Try.call34 _ _) _ (by kernel_rfl) (fun x => by kernel_rfl) (by kernel_rfl)
noncomputable def e_law1_keptInts : Shallow := ⟨[(.one .sl), (.one .sl)], [(.one .bool)], fun x => F_law1_keptInts ids x.1 x.2.1⟩
noncomputable def an_law1_keptInts : Ann := { order := Go.Sw.look [], reg := Go.Sw.look [(7, ([(4, (.one .bool))], []))], join := Go.Sw.look [], loop := Go.Sw.look [(3, ([(6, (.one (.int .i64)))], [0, 1, 5]))], blk := Go.Sw.lookL [(0, []), (1, [])], res := [(4, (.one .bool))], anys := [] }
theorem l_law1_keptInts : FnOk Try.prog 63 e_law1_keptInts :=
  fn_ok mixed (l := [(34, e_law1_sameInts)]) ⟨l_law1_sameInts, trivial⟩ (An := an_law1_keptInts) Try.func63 (c := Try.f63.body.getD .skip) (by kernel_rfl) Try.ntmps63 (by kernel_rfl) (fun _ _ => Try.call63 _ _) _ (by kernel_rfl) (fun x => by kernel_rfl) (by kernel_rfl)
noncomputable def e_law1_encoded : Shallow := ⟨[(.one (.int .i64)), (.one .sl)], [(.one .bool)], fun x => F_law1_encoded ids x.1 x.2.1⟩
noncomputable def an_law1_encoded : Ann := { order := Go.Sw.look [], reg := Go.Sw.look [(7, ([(65, (.one .bool))], [0, 1, 5, 6, 7, 8, 9, 10, 11, 12])), (9, ([(86, (.one .bool))], [0, 5, 6])), (18, ([(4, (.one .bool))], []))], join := Go.Sw.look [], loop := Go.Sw.look [(12, ([(19, (.one (.int .i64)))], [0, 5, 6]))], blk := Go.Sw.lookL [(0, []), (1, [])], res := [(4, (.one .bool))], anys := [] }
theorem l_law1_encoded : FnOk Try.prog 18 e_law1_encoded :=
  fn_ok mixed (l := [(61, e_law1_lendInts), (36, e_codec_Encode), (62, e_ref1_Encode), (27, e_law1_num), (40, e_law1_sameBytes), (63, e_law1_keptInts), (37, e_law1_copyInts)]) ⟨l_law1_lendInts, l_codec_Encode, l_ref1_Encode, l_law1_num, l_law1_sameBytes, l_law1_keptInts, l_law1_copyInts, trivial⟩ (An := an_law1_encoded) Try.func18 (c := Try.f18.body.getD .skip) (by kernel_rfl) Try.ntmps18 (by kernel_rfl) (fun _ _ => Try.call18 _ _) _ (by kernel_rfl) (fun x => by kernel_rfl) (by kernel_rfl)
noncomputable def e_law1_CodecEncode : Shallow := ⟨[(.one (.int .i64)), (.one .sl)], [(.one .bool)], fun x => F_law1_CodecEncode ids x.1 x.2.1⟩
noncomputable def an_law1_CodecEncode : Ann := { order := Go.Sw.look [], reg := Go.Sw.look [(1, ([(4, (.one .bool))], []))], join := Go.Sw.look [], loop := Go.Sw.look [], blk := Go.Sw.lookL [], res := [(4, (.one .bool))], anys := [] }
theorem l_law1_CodecEncode : FnOk Try.prog 5 e_law1_CodecEncode :=
  fn_ok mixed (l := [(18, e_law1_encoded)]) ⟨l_law1_encoded, trivial⟩ (An := an_law1_CodecEncode) Try.func5 (c := Try.f5.body.getD .skip) (by kernel_rfl) Try.ntmps5 (by kernel_rfl) (fun _ _ => Try.call5 _ _) _ (by kernel_rfl) (fun x => by kernel_rfl) (by kernel_rfl)
noncomputable def e_codec_all : Shallow := ⟨[(.one .any), (.one .sl)], [(.one .sl)], fun x => F_codec_all ids x.1 x.2.1⟩
noncomputable def an_codec_all : Ann := { order := Go.Sw.look [], reg := Go.Sw.look [], join := Go.Sw.look [], loop := Go.Sw.look [(2, ([(1, (.one .sl)), (5, (.one .sl))], [0]))], blk := Go.Sw.lookL [(0, [(5, (.one .sl))]), (1, [(1, (.one .sl)), (5, (.one .sl))])], res := [(4, (.one .sl))], anys := [0, 15] }
theorem l_codec_all : FnOk Try.prog 70 e_codec_all :=
  fn_ok mixed (l := []) trivial (An := an_codec_all) Try.func70 (c := Try.f70.body.getD .skip) (by kernel_rfl) Try.ntmps70 (by kernel_rfl) (fun _ _ => Try.call70 _ _) _ (by kernel_rfl) (fun x => by kernel_rfl) (by kernel_rfl)
noncomputable def e_codec_Decode : Shallow := ⟨[(.one (.int .i64)), (.one .sl)], [(.one .sl), (.one (.int .i64))], fun x => F_codec_Decode ids x.1 x.2.1⟩
noncomputable def an_codec_Decode : Ann := { order := Go.Sw.look [], reg := Go.Sw.look [], join := Go.Sw.look [], loop := Go.Sw.look [], blk := Go.Sw.lookL [], res := [(4, (.one .sl)), (5, (.one (.int .i64)))], anys := [6, 8, 9, 11] }
theorem l_codec_Decode : FnOk Try.prog 25 e_codec_Decode :=
  fn_ok mixed (l := [(69, e_codec_of), (70, e_codec_all)]) ⟨l_codec_of, l_codec_all, trivial⟩ (An := an_codec_Decode) Try.func25 (c := Try.f25.body.getD .skip) (by kernel_rfl) Try.ntmps25 (by kernel_rfl) (fun _ _ => Try.call25 _ _) _ (by kernel_rfl) (fun x => by kernel_rfl) (by kernel_rfl)
noncomputable def e_ref1_meant : Shallow := ⟨[(.one .sl), (.one (.int .i64)), (.one (.int .i64))], [(.one (.int .i64))], fun x => F_ref1_meant ids x.1 x.2.1 x.2.2.1⟩
noncomputable def an_ref1_meant : Ann := { order := Go.Sw.look [(2, ([[0, 1, 2, 3, 4, 5, 6, 7, 8, 9]], []))], reg := Go.Sw.look [], join := Go.Sw.look [], loop := Go.Sw.look [(4, ([(8, (.one (.int .i64))), (9, (.one (.int .i64)))], [0, 1, 2]))], blk := Go.Sw.lookL [(0, [(8, (.one (.int .i64)))]), (1, [(8, (.one (.int .i64)))])], res := [(6, (.one (.int .i64)))], anys := [] }
theorem l_ref1_meant : FnOk Try.prog 89 e_ref1_meant :=
  fn_ok mixed (l := []) trivial (An := an_ref1_meant) Try.func89 (c := Try.f89.body.getD .skip) (by kernel_rfl) Try.ntmps89 (by kernel_rfl) (fun _ _ => Try.call89 _ _) _ (by kernel_rfl) (fun x => by kernel_rfl) (by kernel_rfl)
noncomputable def e_ref1_eightAt : Shallow := ⟨[(.one .sl), (.one (.int .i64))], [(.one (.int .i64)), (.one (.int .i64))], fun x => F_ref1_eightAt ids x.1 x.2.1⟩
noncomputable def an_ref1_eightAt : Ann := { order := Go.Sw.look [], reg := Go.Sw.look [(2, ([(20, (.one .bool))], [0, 1, 6])), (9, ([(43, (.one .bool))], [0, 1, 6, 7]))], join := Go.Sw.look [(3, ([], [0, 1, 6]))], loop := Go.Sw.look [(2, ([(6, (.one (.int .i64)))], [0, 1]))], blk := Go.Sw.lookL [(0, []), (1, [])], res := [(4, (.one (.int .i64))), (5, (.one (.int .i64)))], anys := [] }
theorem l_ref1_eightAt : FnOk Try.prog 84 e_ref1_eightAt :=
  fn_ok mixed (l := [(89, e_ref1_meant), (78, e_ref1_Scalar), (86, e_ref1_eight), (77, e_ref1_begins)]) ⟨l_ref1_meant, l_ref1_Scalar, l_ref1_eight, l_ref1_begins, trivial⟩ (An := an_ref1_eightAt) Try.func84 (c := Try.f84.body.getD .skip) (by kernel_rfl) Try.ntmps84 (by kernel_rfl) (fun _ _ => Try.call84 _ _) _ (by kernel_rfl) (fun x => by kernel_rfl) (by kernel_rfl)
noncomputable def e_ref1_unitAt : Shallow := ⟨[(.one (.int .i64)), (.one .sl), (.one (.int .i64))], [(.one (.int .i64))], fun x => F_ref1_unitAt ids x.1 x.2.1 x.2.2.1⟩
noncomputable def an_ref1_unitAt : Ann := { order := Go.Sw.look [(4, ([[0, 1, 2, 3, 4, 5, 6, 7, 8, 9, 10, 11, 12, 13]], [])), (5, ([[0, 1, 2, 3, 4, 5, 6, 7, 8, 9, 10, 11, 12, 13]], []))], reg := Go.Sw.look [], join := Go.Sw.look [], loop := Go.Sw.look [], blk := Go.Sw.lookL [], res := [(6, (.one (.int .i64)))], anys := [] }
theorem l_ref1_unitAt : FnOk Try.prog 85 e_ref1_unitAt :=
  fn_ok mixed (l := []) trivial (An := an_ref1_unitAt) Try.func85 (c := Try.f85.body.getD .skip) (by kernel_rfl) Try.ntmps85 (by kernel_rfl) (fun _ _ => Try.call85 _ _) _ (by kernel_rfl) (fun x => by kernel_rfl) (by kernel_rfl)
noncomputable def e_ref1_At : Shallow := ⟨[(.one (.int .i64)), (.one .sl), (.one (.int .i64))], [(.one (.int .i64)), (.one (.int .i64))], fun x => F_ref1_At ids x.1 x.2.1 x.2.2.1⟩
noncomputable def an_ref1_At : Ann := { order := Go.Sw.look [], reg := Go.Sw.look [(9, ([(54, (.one .bool))], [8, 9]))], join := Go.Sw.look [], loop := Go.Sw.look [], blk := Go.Sw.lookL [], res := [(6, (.one (.int .i64))), (7, (.one (.int .i64)))], anys := [] }
theorem l_ref1_At : FnOk Try.prog 80 e_ref1_At :=
  fn_ok mixed (l := [(84, e_ref1_eightAt), (85, e_ref1_unitAt)]) ⟨l_ref1_eightAt, l_ref1_unitAt, trivial⟩ (An := an_ref1_At) Try.func80 (c := Try.f80.body.getD .skip) (by kernel_rfl) Try.ntmps80 (by kernel_rfl) (fun _ _ => Try.call80 _ _) _ (by kernel_rfl) (fun x => by kernel_rfl) (by kernel_rfl)
noncomputable def e_ref1_Decode : Shallow := ⟨[(.one (.int .i64)), (.one .sl)], [(.one .sl), (.one (.int .i64))], fun x => F_ref1_Decode ids x.1 x.2.1⟩
noncomputable def an_ref1_Decode : Ann := { order := Go.Sw.look [], reg := Go.Sw.look [], join := Go.Sw.look [], loop := Go.Sw.look [(6, ([(7, (.one .sl)), (8, (.one (.int .i64)))], [0, 1]))], blk := Go.Sw.lookL [(0, [(7, (.one .sl))]), (1, [(7, (.one .sl)), (8, (.one (.int .i64)))])], res := [(4, (.one .sl)), (5, (.one (.int .i64)))], anys := [] }
theorem l_ref1_Decode : FnOk Try.prog 64 e_ref1_Decode :=
  fn_ok mixed (l := [(73, e_ref1_known), (80, e_ref1_At)]) ⟨l_ref1_known, l_ref1_At, trivial⟩ (An := an_ref1_Decode) Try.func64 (c := Try.f64.body.getD .skip) (by kernel_rfl) Try.ntmps64 (by kernel_rfl) (fun _ _ => Try.call64 _ _) _ (by kernel_rfl) (fun x => by kernel_rfl) (by kernel_rfl)
end Go.Proofs.Ytfgknhffpccamaa
