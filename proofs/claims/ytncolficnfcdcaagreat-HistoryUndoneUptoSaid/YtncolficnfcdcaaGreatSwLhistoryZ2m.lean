/-
  Each function of the cut does what its shallow program says (the text is printed by program).
-/
import Derived.Test.YtncolficnfcdcaaGreatSwLhistoryZ1m
set_option maxRecDepth 100000
set_option maxHeartbeats 4000000
set_option linter.unusedVariables false
namespace Go.Proofs.YtncolficnfcdcaaGreat
open Go Go.Sw
noncomputable section
def e_slices_Delete_history_group__history_group___:Shallow:=⟨[tS,tI,tI],[tS],fun x=>F_slices_Delete_history_group__history_group___ ids x.1 x.2.1 x.2.2.1⟩
def an_slices_Delete_history_group__history_group___:Ann:={ order:=Sw.look [(5,([[0,1,2,3,4,5,6,7]],[]))],reg:=Sw.look [],join:=Sw.look [],loop:=Sw.look [],blk:=Sw.lookL [],res:=[(6,tS)],anys:=[] }
theorem l_slices_Delete_history_group__history_group___:FnOk Tryz.prog 64 e_slices_Delete_history_group__history_group___:=
 fn_ok mixed (l:=[]) trivial (An:=an_slices_Delete_history_group__history_group___) Tryz.func64 (c:=Tryz.f64.body.getD .skip) (by kernel_rfl) Tryz.ntmps64 (by kernel_rfl) (fun _ _=>Tryz.call64 _ _) _ (by kernel_rfl) (fun x=>by kernel_rfl) (by kernel_rfl)
def e_Book_End:Shallow:=⟨[tP,tI],[tI],fun x=>F_Book_End ids x.1 x.2.1⟩
def an_Book_End:Ann:={ order:=Sw.look [(10,([[0,1,2,3,5,6,7,8,9,4,10,11,12,13,14,15]],[(9,4)])),(14,([[0,1,2,3,4,5,6,7,8,9]],[]))],reg:=Sw.look [],join:=Sw.look [(16,([],[]))],loop:=Sw.look [],blk:=Sw.lookL [],res:=[(4,tI)],anys:=[] }
theorem l_Book_End:FnOk Tryz.prog 41 e_Book_End:=
 fn_ok mixed (l:=[(49,e_Book_inside),(54,e_Book_shut),(52,e_Text_Snap),(64,e_slices_Delete_history_group__history_group___)]) ⟨l_Book_inside,l_Book_shut,l_Text_Snap,l_slices_Delete_history_group__history_group___,trivial⟩ (An:=an_Book_End) Tryz.func41 (c:=Tryz.f41.body.getD .skip) (by kernel_rfl) Tryz.ntmps41 (by kernel_rfl) (fun _ _=>Tryz.call41 _ _) _ (by kernel_rfl) (fun x=>by kernel_rfl) (by kernel_rfl)
def e_law7_group:Shallow:=⟨[tP,tS,tI],[tB],fun x=>F_law7_group ids x.1 x.2.1 x.2.2.1⟩
def an_law7_group:Ann:={ order:=Sw.look [(7,([[0,1,2,3,4,5,6,7,8,9,10,11]],[(4,6)]))],reg:=Sw.look [],join:=Sw.look [],loop:=Sw.look [(5,([(8,tI)],[0,1,2,7]))],blk:=Sw.lookL [(0,[]),(1,[])],res:=[(6,tB)],anys:=[] }
theorem l_law7_group:FnOk Tryz.prog 13 e_law7_group:=
 fn_ok mixed (l:=[(18,e_Book_Text),(23,e_Text_Len),(22,e_law7_slot),(25,e_Book_Begin),(15,e_law7_num),(27,e_law7_edit),(26,e_Book_Change),(41,e_Book_End)]) ⟨l_Book_Text,l_Text_Len,l_law7_slot,l_Book_Begin,l_law7_num,l_law7_edit,l_Book_Change,l_Book_End,trivial⟩ (An:=an_law7_group) Tryz.func13 (c:=Tryz.f13.body.getD .skip) (by kernel_rfl) Tryz.ntmps13 (by kernel_rfl) (fun _ _=>Tryz.call13 _ _) _ (by kernel_rfl) (fun x=>by kernel_rfl) (by kernel_rfl)
def e_Text_Back:Shallow:=⟨[tP,tP],[tI],fun x=>F_Text_Back ids x.1 x.2.1⟩
def an_Text_Back:Ann:={ order:=Sw.look [],reg:=Sw.look [(1,([(14,tB)],[0,1]))],join:=Sw.look [],loop:=Sw.look [],blk:=Sw.lookL [],res:=[(4,tI)],anys:=[] }
theorem l_Text_Back:FnOk Tryz.prog 42 e_Text_Back:=
 fn_ok mixed (l:=[]) trivial (An:=an_Text_Back) Tryz.func42 (c:=Tryz.f42.body.getD .skip) (by kernel_rfl) Tryz.ntmps42 (by kernel_rfl) (fun _ _=>Tryz.call42 _ _) _ (by kernel_rfl) (fun x=>by kernel_rfl) (by kernel_rfl)
def e_history_inverse:Shallow:=⟨[tS],[tS],fun x=>F_history_inverse ids x.1⟩
def an_history_inverse:Ann:={ order:=Sw.look [],reg:=Sw.look [],join:=Sw.look [],loop:=Sw.look [(4,([(4,tI),(12,tI)],[3,10,11]))],blk:=Sw.lookL [(0,[]),(1,[(4,tI)])],res:=[(2,tS)],anys:=[] }
theorem l_history_inverse:FnOk Tryz.prog 44 e_history_inverse:=
 fn_ok mixed (l:=[]) trivial (An:=an_history_inverse) Tryz.func44 (c:=Tryz.f44.body.getD .skip) (by kernel_rfl) Tryz.ntmps44 (by kernel_rfl) (fun _ _=>Tryz.call44 _ _) _ (by kernel_rfl) (fun x=>by kernel_rfl) (by kernel_rfl)
def e_Book_Undo:Shallow:=⟨[tP],[tI,tI],fun x=>F_Book_Undo ids x.1⟩
def an_Book_Undo:Ann:={ order:=Sw.look [(7,([[0,1,2,3,4,5,6,7,8,9,10,11,12,13,14,15,16,17,18,19,20,21]],[(5,14),(5,15),(12,14)])),(8,([[0,1,2,3,4,5,6,7,8]],[]))],reg:=Sw.look [],join:=Sw.look [],loop:=Sw.look [(10,([(6,tI)],[0,5]))],blk:=Sw.lookL [(0,[]),(1,[])],res:=[(2,tI),(3,tI)],anys:=[] }
theorem l_Book_Undo:FnOk Tryz.prog 14 e_Book_Undo:=
 fn_ok mixed (l:=[(42,e_Text_Back),(44,e_history_inverse),(43,e_Book_follow)]) ⟨l_Text_Back,l_history_inverse,l_Book_follow,trivial⟩ (An:=an_Book_Undo) Tryz.func14 (c:=Tryz.f14.body.getD .skip) (by kernel_rfl) Tryz.ntmps14 (by kernel_rfl) (fun _ _=>Tryz.call14 _ _) _ (by kernel_rfl) (fun x=>by kernel_rfl) (by kernel_rfl)
def e_law7_sameInts:Shallow:=⟨[tS,tS],[tB],fun x=>F_law7_sameInts ids x.1 x.2.1⟩
def an_law7_sameInts:Ann:={ order:=Sw.look [(6,([[0,1,2,3,4,5,6,7,8]],[]))],reg:=Sw.look [],join:=Sw.look [],loop:=Sw.look [(4,([(5,tI)],[0,1]))],blk:=Sw.lookL [(0,[]),(1,[])],res:=[(4,tB)],anys:=[] }
theorem l_law7_sameInts:FnOk Tryz.prog 45 e_law7_sameInts:=
 fn_ok mixed (l:=[]) trivial (An:=an_law7_sameInts) Tryz.func45 (c:=Tryz.f45.body.getD .skip) (by kernel_rfl) Tryz.ntmps45 (by kernel_rfl) (fun _ _=>Tryz.call45 _ _) _ (by kernel_rfl) (fun x=>by kernel_rfl) (by kernel_rfl)
def e_law7_alike:Shallow:=⟨[(.agg [.sl, .sl, .sl, .sl,bI,bI, .bool, .bool]),(.agg [.sl, .sl, .sl, .sl,bI,bI, .bool, .bool])],[tB],fun x=>F_law7_alike ids x.1 x.2.1⟩
def an_law7_alike:Ann:={ order:=Sw.look [],reg:=Sw.look [(1,([(4,tB)],[]))],join:=Sw.look [],loop:=Sw.look [],blk:=Sw.lookL [],res:=[(4,tB)],anys:=[] }
theorem l_law7_alike:FnOk Tryz.prog 16 e_law7_alike:=
 fn_ok mixed (l:=[(45,e_law7_sameInts)]) ⟨l_law7_sameInts,trivial⟩ (An:=an_law7_alike) Tryz.func16 (c:=Tryz.f16.body.getD .skip) (by kernel_rfl) Tryz.ntmps16 (by kernel_rfl) (fun _ _=>Tryz.call16 _ _) _ (by kernel_rfl) (fun x=>by kernel_rfl) (by kernel_rfl)
def e_Text_Bytes:Shallow:=⟨[tP],[tS],fun x=>F_Text_Bytes ids x.1⟩
def an_Text_Bytes:Ann:={ order:=Sw.look [(5,([[0,1,2,3,4,5,6,7,8]],[(0,6)]))],reg:=Sw.look [],join:=Sw.look [],loop:=Sw.look [],blk:=Sw.lookL [(0,[]),(1,[])],res:=[(2,tS)],anys:=[13],rng:=Sw.look [(14,([(14,(.agg b7))],[(5,tP)]))] }
theorem l_Text_Bytes:FnOk Tryz.prog 19 e_Text_Bytes:=
 fn_ok mixed (l:=[(46,e_Text_Size),(47,e_Tree_part_Items)]) ⟨l_Text_Size,l_Tree_part_Items,trivial⟩ (An:=an_Text_Bytes) Tryz.func19 (c:=Tryz.f19.body.getD .skip) (by kernel_rfl) Tryz.ntmps19 (by kernel_rfl) (fun _ _=>Tryz.call19 _ _) _ (by kernel_rfl) (fun x=>by kernel_rfl) (by kernel_rfl)
def e_Book_Redo:Shallow:=⟨[tP],[tI,tI],fun x=>F_Book_Redo ids x.1⟩
def an_Book_Redo:Ann:={ order:=Sw.look [(7,([[0,1,2,3,4,5,6,7,8,9,10,11,12,13,14,15,16,17,18,19,20,21]],[(5,14),(5,15),(12,14)])),(8,([[0,1,2,3,4,5,6,7,8]],[]))],reg:=Sw.look [],join:=Sw.look [],loop:=Sw.look [(10,([(62,tI)],[0,5,60,61]))],blk:=Sw.lookL [(0,[]),(1,[])],res:=[(2,tI),(3,tI)],anys:=[] }
theorem l_Book_Redo:FnOk Tryz.prog 20 e_Book_Redo:=
 fn_ok mixed (l:=[(42,e_Text_Back),(43,e_Book_follow)]) ⟨l_Text_Back,l_Book_follow,trivial⟩ (An:=an_Book_Redo) Tryz.func20 (c:=Tryz.f20.body.getD .skip) (by kernel_rfl) Tryz.ntmps20 (by kernel_rfl) (fun _ _=>Tryz.call20 _ _) _ (by kernel_rfl) (fun x=>by kernel_rfl) (by kernel_rfl)
def e_law7_HistoryUndone:Shallow:=⟨[tI,tS,tS,tI],[tB],fun x=>F_law7_HistoryUndone ids x.1 x.2.1 x.2.2.1 x.2.2.2.1⟩
def an_law7_HistoryUndone:Ann:={ order:=Sw.look [(23,([[0,1,2,3,4,6,7,8,9,5,10,11,12]],[(9,5)])),(27,([[0,1,2,3,4,5,6,7,11,12,8,9,10,13,14]],[(12,8),(12,9)])),(33,([[0,1,2,3,4,6,7,8,9,5,10,11,12]],[(9,5)]))],reg:=Sw.look [(17,([(102,tB)],[1,3,9,10,11,12])),(23,([(127,tB)],[1,9,10,17])),(27,([(149,tB)],[9,10])),(33,([(173,tB)],[9,10,23])),(36,([(8,tB)],[]))],join:=Sw.look [(10,([(10,tS)],[1,3,9,11,12]))],loop:=Sw.look [(9,([(10,tS),(12,tI)],[1,3,9,11])),(20,([(17,tI)],[1,9,10])),(30,([(23,tI)],[9,10]))],blk:=Sw.lookL [(0,[(10,tS)]),(1,[(10,tS)]),(2,[]),(3,[]),(4,[]),(5,[])],res:=[(8,tB)],anys:=[] }
theorem l_law7_HistoryUndone:FnOk Tryz.prog 3 e_law7_HistoryUndone:=
 fn_ok mixed (l:=[(9,e_law7_short),(10,e_law7_book),(11,e_law7_see),(12,e_Book_Depth),(13,e_law7_group),(14,e_Book_Undo),(15,e_law7_num),(16,e_law7_alike),(17,e_Book_Dirty),(18,e_Book_Text),(19,e_Text_Bytes),(20,e_Book_Redo)]) ⟨l_law7_short,l_law7_book,l_law7_see,l_Book_Depth,l_law7_group,l_Book_Undo,l_law7_num,l_law7_alike,l_Book_Dirty,l_Book_Text,l_Text_Bytes,l_Book_Redo,trivial⟩ (An:=an_law7_HistoryUndone) Tryz.func3 (c:=Tryz.f3.body.getD .skip) (by kernel_rfl) Tryz.ntmps3 (by kernel_rfl) (fun _ _=>Tryz.call3 _ _) _ (by kernel_rfl) (fun x=>by kernel_rfl) (by kernel_rfl)
end
end Go.Proofs.YtncolficnfcdcaaGreat
