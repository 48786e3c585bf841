/-
  Each function of the cut does what its shallow program says (the text is printed by program).
-/
import Derived.Test.YtncolficnfcdcaaGreatSwLhistoryZ1m
set_option maxRecDepth 100000
set_option maxHeartbeats 4000000
set_option linter.unusedVariables false
namespace Go.Proofs.YtncolficnfcdcaaGreat
open Go Go.Sw
noncomputable section
def e_slices_Delete_history_group__history_group___:Shallow:=⟨[tS,tI,tI],[tS],fun x=>F_slices_Delete_history_group__history_group___ ids x.1 x.2.1 x.2.2.1⟩
def an_slices_Delete_history_group__history_group___:Ann:={ order:=Sw.look [(5,([[0,1,2,3,4,5,6,7]],[]))],reg:=Sw.look [],join:=Sw.look [],loop:=Sw.look [],blk:=Sw.lookL [],res:=[(6,tS)],anys:=[] }
theorem l_slices_Delete_history_group__history_group___:FnOk Tryz.prog 64 e_slices_Delete_history_group__history_group___:=
 fn_ok mixed (l:=[]) trivial (An:=an_slices_Delete_history_group__history_group___) Tryz.func64 (c:=Tryz.f64.body.getD .skip) (by kernel_rfl) Tryz.ntmps64 (by kernel_rfl) (fun _ _=>Tryz.call64 _ _) _ (by kernel_rfl) (fun x=>by kernel_rfl) (by kernel_rfl)
def e_Book_End:Shallow:=⟨[tP,tI],[tI],fun x=>F_Book_End ids x.1 x.2.1⟩
def an_Book_End:Ann:={ order:=Sw.look [(10,([[0,1,2,3,5,6,7,8,9,4,10,11,12,13,14,15]],[(9,4)])),(14,([[0,1,2,3,4,5,6,7,8,9]],[]))],reg:=Sw.look [],join:=Sw.look [(16,([],[]))],loop:=Sw.look [],blk:=Sw.lookL [],res:=[(4,tI)],anys:=[] }
theorem l_Book_End:FnOk Tryz.prog 41 e_Book_End:=
 fn_ok mixed (l:=[(49,e_Book_inside),(54,e_Book_shut),(52,e_Text_Snap),(64,e_slices_Delete_history_group__history_group___)]) ⟨l_Book_inside,l_Book_shut,l_Text_Snap,l_slices_Delete_history_group__history_group___,trivial⟩ (An:=an_Book_End) Tryz.func41 (c:=Tryz.f41.body.getD .skip) (by kernel_rfl) Tryz.ntmps41 (by kernel_rfl) (fun _ _=>Tryz.call41 _ _) _ (by kernel_rfl) (fun x=>by kernel_rfl) (by kernel_rfl)
def e_law7_group:Shallow:=⟨[tP,tS,tI],[tB],fun x=>F_law7_group ids x.1 x.2.1 x.2.2.1⟩
def an_law7_group:Ann:={ order:=Sw.look [(7,([[0,1,2,3,4,5,6,7,8,9,10,11]],[(4,6)]))],reg:=Sw.look [],join:=Sw.look [],loop:=Sw.look [(5,([(8,tI)],[0,1,2,7]))],blk:=Sw.lookL [(0,[]),(1,[])],res:=[(6,tB)],anys:=[] }
theorem l_law7_group:FnOk Tryz.prog 13 e_law7_group:=
 fn_ok mixed (l:=[(18,e_Book_Text),(23,e_Text_Len),(22,e_law7_slot),(25,e_Book_Begin),(15,e_law7_num),(27,e_law7_edit),(26,e_Book_Change),(41,e_Book_End)]) ⟨l_Book_Text,l_Text_Len,l_law7_slot,l_Book_Begin,l_law7_num,l_law7_edit,l_Book_Change,l_Book_End,trivial⟩ (An:=an_law7_group) Tryz.func13 (c:=Tryz.f13.body.getD .skip) (by kernel_rfl) Tryz.ntmps13 (by kernel_rfl) (fun _ _=>Tryz.call13 _ _) _ (by kernel_rfl) (fun x=>by kernel_rfl) (by kernel_rfl)
def e_Text_Back:Shallow:=⟨[tP,tP],[tI],fun x=>F_Text_Back ids x.1 x.2.1⟩
def an_Text_Back:Ann:={ order:=Sw.look [],reg:=Sw.look [(1,([(14,tB)],[0,1]))],join:=Sw.look [],loop:=Sw.look [],blk:=Sw.lookL [],res:=[(4,tI)],anys:=[] }
theorem l_Text_Back:FnOk Tryz.prog 42 e_Text_Back:=
 fn_ok mixed (l:=[]) trivial (An:=an_Text_Back) Tryz.func42 (c:=Tryz.f42.body.getD .skip) (by kernel_rfl) Tryz.ntmps42 (by kernel_rfl) (fun _ _=>Tryz.call42 _ _) _ (by kernel_rfl) (fun x=>by kernel_rfl) (by kernel_rfl)
def e_history_inverse:Shallow:=⟨[tS],[tS],fun x=>F_history_inverse ids x.1⟩
def an_history_inverse:Ann:={ order:=Sw.look [],reg:=Sw.look [],join:=Sw.look [],loop:=Sw.look [(4,([(4,tI),(12,tI)],[3,10,11]))],blk:=Sw.lookL [(0,[]),(1,[(4,tI)])],res:=[(2,tS)],anys:=[] }
theorem l_history_inverse:FnOk Tryz.prog 44 e_history_inverse:=
 fn_ok mixed (l:=[]) trivial (An:=an_history_inverse) Tryz.func44 (c:=Tryz.f44.body.getD .skip) (by kernel_rfl) Tryz.ntmps44 (by kernel_rfl) (fun _ _=>Tryz.call44 _ _) _ (by kernel_rfl) (fun x=>by kernel_rfl) (by kernel_rfl)
def e_Book_Undo:Shallow:=⟨[tP],[tI,tI],fun x=>F_Book_Undo ids x.1⟩
def an_Book_Undo:Ann:={ order:=Sw.look [(7,([[0,1,2,3,4,5,6,7,8,9,10,11,12,13,14,15,16,17,18,19,20,21]],[(5,14),(5,15),(12,14)])),(8,([[0,1,2,3,4,5,6,7,8]],[]))],reg:=Sw.look [],join:=Sw.look [],loop:=Sw.look [(10,([(6,tI)],[0,5]))],blk:=Sw.lookL [(0,[]),(1,[])],res:=[(2,tI),(3,tI)],anys:=[] }
theorem l_Book_Undo:FnOk Tryz.prog 14 e_Book_Undo:=
 fn_ok mixed (l:=[(42,e_Text_Back),(44,e_history_inverse),(43,e_Book_follow)]) ⟨l_Text_Back,l_history_inverse,l_Book_follow,trivial⟩ (An:=an_Book_Undo) Tryz.func14 (c:=Tryz.f14.body.getD .skip) (by kernel_rfl) Tryz.ntmps14 (by kernel_rfl) (fun _ _=>Tryz.call14 _ _) _ (by kernel_rfl) (fun x=>by kernel_rfl) (by kernel_rfl)
def e_law7_sameInts:Shallow:=⟨[tS,tS],[tB],fun x=>F_law7_sameInts ids x.1 x.2.1⟩
def an_law7_sameInts:Ann:={ order:=Sw.look [(6,([[0,1,2,3,4,5,6,7,8]],[]))],reg:=Sw.look [],join:=Sw.look [],loop:=Sw.look [(4,([(5,tI)],[0,1]))],blk:=Sw.lookL [(0,[]),(1,[])],res:=[(4,tB)],anys:=[] }
theorem l_law7_sameInts:FnOk Tryz.prog 45 e_law7_sameInts:=
 fn_ok mixed (l:=[]) trivial (An:=an_law7_sameInts) Tryz.func45 (c:=Tryz.f45.body.getD .skip) (by kernel_rfl) Tryz.ntmps45 (by kernel_rfl) (fun _ _=>Tryz.call45 _ _) _ (by kernel_rfl) (fun x=>by kernel_rfl) (by kernel_rfl)
def e_law7_alike:Shallow:=⟨[(.agg [.sl, .sl, .sl, .sl,bI,bI, .bool, .bool]),(.agg [.sl, .sl, .sl, .sl,bI,bI, .bool, .bool])],[tB],fun x=>F_law7_alike ids x.1 x.2.1⟩
def an_law7_alike:Ann:={ order:=Sw.look [],reg:=Sw.look [(1,([(4,tB)],[]))],join:=Sw.look [],loop:=Sw.look [],blk:=Sw.lookL [],res:=[(4,tB)],anys:=[] }
theorem l_law7_alike:FnOk Tryz.prog 16 e_law7_alike:=
 fn_ok mixed (l:=[(45,e_law7_sameInts)]) ⟨l_law7_sameInts,trivial⟩ (An:=an_law7_alike) Tryz.func16 (c:=Tryz.f16.body.getD .skip) (by kernel_rfl) Tryz.ntmps16 (by kernel_rfl) (fun _ _=>Tryz.call16 _ _) _ (by kernel_rfl) (fun x=>by kernel_rfl) (by kernel_rfl)
def e_history_isName:Shallow:=⟨[tI],[tB],fun x=>F_history_isName ids x.1⟩
def an_history_isName:Ann:={ order:=Sw.look [],reg:=Sw.look [(1,([(2,tB)],[]))],join:=Sw.look [],loop:=Sw.look [],blk:=Sw.lookL [],res:=[(2,tB)],anys:=[] }
theorem l_history_isName:FnOk Tryz.prog 48 e_history_isName:=
 fn_ok mixed (l:=[]) trivial (An:=an_history_isName) Tryz.func48 (c:=Tryz.f48.body.getD .skip) (by kernel_rfl) Tryz.ntmps48 (by kernel_rfl) (fun _ _=>Tryz.call48 _ _) _ (by kernel_rfl) (fun x=>by kernel_rfl) (by kernel_rfl)
def e_Book_SetMark:Shallow:=⟨[tP,tI,tI],[tI],fun x=>F_Book_SetMark ids x.1 x.2.1 x.2.2.1⟩
def an_Book_SetMark:Ann:={ order:=Sw.look [],reg:=Sw.look [],join:=Sw.look [],loop:=Sw.look [],blk:=Sw.lookL [],res:=[(6,tI)],anys:=[] }
theorem l_Book_SetMark:FnOk Tryz.prog 21 e_Book_SetMark:=
 fn_ok mixed (l:=[(48,e_history_isName),(49,e_Book_inside)]) ⟨l_history_isName,l_Book_inside,trivial⟩ (An:=an_Book_SetMark) Tryz.func21 (c:=Tryz.f21.body.getD .skip) (by kernel_rfl) Tryz.ntmps21 (by kernel_rfl) (fun _ _=>Tryz.call21 _ _) _ (by kernel_rfl) (fun x=>by kernel_rfl) (by kernel_rfl)
def e_Book_Watch:Shallow:=⟨[tP,tS],[tI],fun x=>F_Book_Watch ids x.1 x.2.1⟩
def an_Book_Watch:Ann:={ order:=Sw.look [],reg:=Sw.look [],join:=Sw.look [],loop:=Sw.look [(2,([(9,tI)],[0,1,7,8]))],blk:=Sw.lookL [(0,[]),(1,[])],res:=[(4,tI)],anys:=[] }
theorem l_Book_Watch:FnOk Tryz.prog 24 e_Book_Watch:=
 fn_ok mixed (l:=[(49,e_Book_inside),(51,e_slices_Cloneint_int___)]) ⟨l_Book_inside,l_slices_Cloneint_int___,trivial⟩ (An:=an_Book_Watch) Tryz.func24 (c:=Tryz.f24.body.getD .skip) (by kernel_rfl) Tryz.ntmps24 (by kernel_rfl) (fun _ _=>Tryz.call24 _ _) _ (by kernel_rfl) (fun x=>by kernel_rfl) (by kernel_rfl)
def e_Book_Drop:Shallow:=⟨[tP],[tI,tI],fun x=>F_Book_Drop ids x.1⟩
def an_Book_Drop:Ann:={ order:=Sw.look [(4,([[0,1,2,3,4,5,6,7,8,9,10,11,12]],[])),(5,([[0,1,2,3,4,5,6,7,8,9,10,11,12,13,14,15,16,17,18,19,20,21]],[]))],reg:=Sw.look [],join:=Sw.look [],loop:=Sw.look [],blk:=Sw.lookL [],res:=[(2,tI),(3,tI)],anys:=[] }
theorem l_Book_Drop:FnOk Tryz.prog 28 e_Book_Drop:=
 fn_ok mixed (l:=[(54,e_Book_shut),(42,e_Text_Back)]) ⟨l_Book_shut,l_Text_Back,trivial⟩ (An:=an_Book_Drop) Tryz.func28 (c:=Tryz.f28.body.getD .skip) (by kernel_rfl) Tryz.ntmps28 (by kernel_rfl) (fun _ _=>Tryz.call28 _ _) _ (by kernel_rfl) (fun x=>by kernel_rfl) (by kernel_rfl)
def e_law7_same:Shallow:=⟨[(.agg [.sl, .sl, .sl, .sl,bI,bI, .bool, .bool]),(.agg [.sl, .sl, .sl, .sl,bI,bI, .bool, .bool])],[tB],fun x=>F_law7_same ids x.1 x.2.1⟩
def an_law7_same:Ann:={ order:=Sw.look [(6,([[0,1,2,3,4,5,6,7,8,9,10]],[]))],reg:=Sw.look [(1,([(26,tB)],[2,3])),(8,([(4,tB)],[]))],join:=Sw.look [],loop:=Sw.look [(4,([(5,tI)],[2,3]))],blk:=Sw.lookL [(0,[]),(1,[])],res:=[(4,tB)],anys:=[] }
theorem l_law7_same:FnOk Tryz.prog 29 e_law7_same:=
 fn_ok mixed (l:=[(16,e_law7_alike),(45,e_law7_sameInts)]) ⟨l_law7_alike,l_law7_sameInts,trivial⟩ (An:=an_law7_same) Tryz.func29 (c:=Tryz.f29.body.getD .skip) (by kernel_rfl) Tryz.ntmps29 (by kernel_rfl) (fun _ _=>Tryz.call29 _ _) _ (by kernel_rfl) (fun x=>by kernel_rfl) (by kernel_rfl)
def e_law7_HistoryDropped:Shallow:=⟨[tI,tS,tS,tI,tS,tS],[tB],fun x=>F_law7_HistoryDropped ids x.1 x.2.1 x.2.2.1 x.2.2.2.1 x.2.2.2.2.1 x.2.2.2.2.2.1⟩
def an_law7_HistoryDropped:Ann:={ order:=Sw.look [(14,([[0,1,2,3,4,5,6,7,8,9,10,11]],[(6,8),(6,9)])),(30,([[0,1,2,3,4,5,6,7,8,9,10,11,12]],[(4,6),(4,7)])),(35,([[0,1,2,3,4,5,6,7,8,9,10,11,12,13,14,15,16,17,18,19,20,21,22,23,25,24,26,27,28]],[(25,24)]))],reg:=Sw.look [(1,([(38,tB)],[0,1,2,3,4,5])),(4,([(51,tB)],[2,3,4,5,13])),(35,([(12,tB)],[]))],join:=Sw.look [],loop:=Sw.look [(7,([(14,tI)],[2,3,4,5,13])),(12,([(15,tI)],[3,4,5,13])),(16,([(16,tI)],[3,4,13])),(28,([(20,tI)],[4,13,17,18,19]))],blk:=Sw.lookL [(0,[]),(1,[]),(2,[]),(3,[]),(4,[]),(5,[]),(6,[]),(7,[])],res:=[(12,tB)],anys:=[] }
theorem l_law7_HistoryDropped:FnOk Tryz.prog 4 e_law7_HistoryDropped:=
 fn_ok mixed (l:=[(9,e_law7_short),(10,e_law7_book),(13,e_law7_group),(18,e_Book_Text),(23,e_Text_Len),(22,e_law7_slot),(21,e_Book_SetMark),(14,e_Book_Undo),(24,e_Book_Watch),(11,e_law7_see),(25,e_Book_Begin),(15,e_law7_num),(27,e_law7_edit),(26,e_Book_Change),(28,e_Book_Drop),(16,e_law7_alike),(29,e_law7_same)]) ⟨l_law7_short,l_law7_book,l_law7_group,l_Book_Text,l_Text_Len,l_law7_slot,l_Book_SetMark,l_Book_Undo,l_Book_Watch,l_law7_see,l_Book_Begin,l_law7_num,l_law7_edit,l_Book_Change,l_Book_Drop,l_law7_alike,l_law7_same,trivial⟩ (An:=an_law7_HistoryDropped) Tryz.func4 (c:=Tryz.f4.body.getD .skip) (by kernel_rfl) Tryz.ntmps4 (by kernel_rfl) (fun _ _=>Tryz.call4 _ _) _ (by kernel_rfl) (fun x=>by kernel_rfl) (by kernel_rfl)
end
end Go.Proofs.YtncolficnfcdcaaGreat
