/-
  Each function of the cut does what its shallow program says (the text is printed by program).
-/
import Derived.Test.YtncolficnfcdcaaGreatSwLhistoryZ0m
set_option maxRecDepth 100000
set_option maxHeartbeats 4000000
set_option linter.unusedVariables false
namespace Go.Proofs.YtncolficnfcdcaaGreat
open Go Go.Sw
noncomputable section
def e_slices_medianCmpFuncint___2:Shallow:=⟨[tS,tI,tI,tI,tP,(.one .any)],[tI],fun x=>F_slices_medianCmpFuncint___2 ids x.1 x.2.1 x.2.2.1 x.2.2.2.1 x.2.2.2.2.1 x.2.2.2.2.2.1⟩
def an_slices_medianCmpFuncint___2:Ann:={ order:=Sw.look [],reg:=Sw.look [],join:=Sw.look [],loop:=Sw.look [],blk:=Sw.lookL [],res:=[(12,tI)],anys:=[5,18,27,36] }
theorem l_slices_medianCmpFuncint___2:FnOk Tryz.prog 149 e_slices_medianCmpFuncint___2:=
 fn_ok mixed (l:=[(157,e_slices_order2CmpFuncint___2)]) ⟨l_slices_order2CmpFuncint___2,trivial⟩ (An:=an_slices_medianCmpFuncint___2) Tryz.func149 (c:=Tryz.f149.body.getD .skip) (by kernel_rfl) Tryz.ntmps149 (by kernel_rfl) (fun _ _=>Tryz.call149 _ _) _ (by kernel_rfl) (fun x=>by kernel_rfl) (by kernel_rfl)
def e_slices_medianAdjacentCmpFuncint___2:Shallow:=⟨[tS,tI,tP,(.one .any)],[tI],fun x=>F_slices_medianAdjacentCmpFuncint___2 ids x.1 x.2.1 x.2.2.1 x.2.2.2.1⟩
def an_slices_medianAdjacentCmpFuncint___2:Ann:={ order:=Sw.look [],reg:=Sw.look [],join:=Sw.look [],loop:=Sw.look [],blk:=Sw.lookL [],res:=[(8,tI)],anys:=[3,16] }
theorem l_slices_medianAdjacentCmpFuncint___2:FnOk Tryz.prog 148 e_slices_medianAdjacentCmpFuncint___2:=
 fn_ok mixed (l:=[(149,e_slices_medianCmpFuncint___2)]) ⟨l_slices_medianCmpFuncint___2,trivial⟩ (An:=an_slices_medianAdjacentCmpFuncint___2) Tryz.func148 (c:=Tryz.f148.body.getD .skip) (by kernel_rfl) Tryz.ntmps148 (by kernel_rfl) (fun _ _=>Tryz.call148 _ _) _ (by kernel_rfl) (fun x=>by kernel_rfl) (by kernel_rfl)
def e_slices_choosePivotCmpFuncint___2:Shallow:=⟨[tS,tI,tI,(.one .any)],[tI,tI],fun x=>F_slices_choosePivotCmpFuncint___2 ids x.1 x.2.1 x.2.2.1 x.2.2.2.1⟩
def an_slices_choosePivotCmpFuncint___2:Ann:={ order:=Sw.look [],reg:=Sw.look [],join:=Sw.look [(11,([(12,tI),(13,tI),(14,tI)],[0,3,11])),(12,([(13,tI)],[11]))],loop:=Sw.look [],blk:=Sw.lookL [(0,[(8,tI),(9,tI)])],res:=[(8,tI),(9,tI)],anys:=[3,39,43,47,53] }
theorem l_slices_choosePivotCmpFuncint___2:FnOk Tryz.prog 127 e_slices_choosePivotCmpFuncint___2:=
 fn_ok mixed (l:=[(148,e_slices_medianAdjacentCmpFuncint___2),(149,e_slices_medianCmpFuncint___2)]) ⟨l_slices_medianAdjacentCmpFuncint___2,l_slices_medianCmpFuncint___2,trivial⟩ (An:=an_slices_choosePivotCmpFuncint___2) Tryz.func127 (c:=Tryz.f127.body.getD .skip) (by kernel_rfl) Tryz.ntmps127 (by kernel_rfl) (fun _ _=>Tryz.call127 _ _) _ (by kernel_rfl) (fun x=>by kernel_rfl) (by kernel_rfl)
def e_slices_reverseRangeCmpFuncint___2:Shallow:=⟨[tS,tI,tI,(.one .any)],[],fun x=>F_slices_reverseRangeCmpFuncint___2 ids x.1 x.2.1 x.2.2.1 x.2.2.2.1⟩
def an_slices_reverseRangeCmpFuncint___2:Ann:={ order:=Sw.look [(3,([[0,1,2,3,4,5,6,7,8,9,10,11,12,13,14,15]],[]))],reg:=Sw.look [],join:=Sw.look [],loop:=Sw.look [(2,([(8,tI),(9,tI)],[0]))],blk:=Sw.lookL [(0,[]),(1,[(8,tI),(9,tI)])],res:=[],anys:=[3] }
theorem l_slices_reverseRangeCmpFuncint___2:FnOk Tryz.prog 128 e_slices_reverseRangeCmpFuncint___2:=
 fn_ok mixed (l:=[]) trivial (An:=an_slices_reverseRangeCmpFuncint___2) Tryz.func128 (c:=Tryz.f128.body.getD .skip) (by kernel_rfl) Tryz.ntmps128 (by kernel_rfl) (fun _ _=>Tryz.call128 _ _) _ (by kernel_rfl) (fun x=>by kernel_rfl) (by kernel_rfl)
def e_slices_partialInsertionSortCmpFuncint___2:Shallow:=⟨[tS,tI,tI,(.one .any)],[tB],fun x=>F_slices_partialInsertionSortCmpFuncint___2 ids x.1 x.2.1 x.2.2.1 x.2.2.2.1⟩
def an_slices_partialInsertionSortCmpFuncint___2:Ann:={ order:=Sw.look [(5,([[0,1,2,3,4,5,6,7,8,9,10,11,12,13,14,15,16,17]],[])),(11,([[0,1,2,3,4,5,6,7,8,9,10,11,12,13,14,15,16,17]],[])),(16,([[0,1,2,3,4,5,6,7,8,9,10,11,12]],[])),(17,([[0,1,2,3,4,5,6,7,8,9,10,11,12,13,14,15,16,17]],[])),(22,([[0,1,2,3,4,5,6,7,8,9,10,11,12]],[])),(23,([[0,1,2,3,4,5,6,7,8,9,10,11,12,13,14,15,16,17]],[]))],reg:=Sw.look [(5,([(36,tB)],[0,1,2,3,9,10]))],join:=Sw.look [(4,([(9,tI)],[0,1,2,3,10])),(18,([],[0,1,2,3,9,10]))],loop:=Sw.look [(3,([(9,tI),(10,tI)],[0,1,2,3])),(5,([(9,tI)],[0,1,2,3,10])),(14,([(11,tI)],[0,1,2,3,9,10])),(20,([(12,tI)],[0,1,2,3,9,10]))],blk:=Sw.lookL [(0,[]),(1,[(9,tI)]),(2,[(9,tI)]),(3,[(9,tI)]),(4,[]),(5,[]),(6,[]),(7,[])],res:=[(8,tB)],anys:=[3,23,72,112] }
theorem l_slices_partialInsertionSortCmpFuncint___2:FnOk Tryz.prog 129 e_slices_partialInsertionSortCmpFuncint___2:=
 fn_ok mixed (l:=[]) trivial (An:=an_slices_partialInsertionSortCmpFuncint___2) Tryz.func129 (c:=Tryz.f129.body.getD .skip) (by kernel_rfl) Tryz.ntmps129 (by kernel_rfl) (fun _ _=>Tryz.call129 _ _) _ (by kernel_rfl) (fun x=>by kernel_rfl) (by kernel_rfl)
def e_slices_partitionEqualCmpFuncint___2:Shallow:=⟨[tS,tI,tI,tI,(.one .any)],[tI],fun x=>F_slices_partitionEqualCmpFuncint___2 ids x.1 x.2.1 x.2.2.1 x.2.2.2.1 x.2.2.2.2.1⟩
def an_slices_partitionEqualCmpFuncint___2:Ann:={ order:=Sw.look [(1,([[0,1,2,3,4,5,6,7,8,9,10,11,12,13,14,15]],[])),(3,([[0,1,2,3,4,5,6,7,8,9,10,11,12,13,14,15,16]],[])),(5,([[0,1,2,3,4,5,6,7,8,9,10,11,12,13,14,15]],[])),(8,([[0,1,2,3,4,5,6,7,8,9,10,11,12,13,14,15]],[]))],reg:=Sw.look [(3,([(47,tB)],[0,1,4,11,12])),(5,([(65,tB)],[0,1,4,11,12]))],join:=Sw.look [],loop:=Sw.look [(3,([(11,tI)],[0,1,4,12])),(5,([(12,tI)],[0,1,4,11])),(1000003,([(11,tI),(12,tI)],[0,1,4]))],blk:=Sw.lookL [(0,[(11,tI)]),(1,[(11,tI),(12,tI)]),(2,[(11,tI)]),(3,[(11,tI)]),(4,[(12,tI)]),(5,[(12,tI)])],res:=[(10,tI)],anys:=[4,35,54] }
theorem l_slices_partitionEqualCmpFuncint___2:FnOk Tryz.prog 130 e_slices_partitionEqualCmpFuncint___2:=
 fn_ok mixed (l:=[]) trivial (An:=an_slices_partitionEqualCmpFuncint___2) Tryz.func130 (c:=Tryz.f130.body.getD .skip) (by kernel_rfl) Tryz.ntmps130 (by kernel_rfl) (fun _ _=>Tryz.call130 _ _) _ (by kernel_rfl) (fun x=>by kernel_rfl) (by kernel_rfl)
def e_slices_partitionCmpFuncint___2:Shallow:=⟨[tS,tI,tI,tI,(.one .any)],[tI,tB],fun x=>F_slices_partitionCmpFuncint___2 ids x.1 x.2.1 x.2.2.1 x.2.2.2.1 x.2.2.2.2.1⟩
def an_slices_partitionCmpFuncint___2:Ann:={ order:=Sw.look [(1,([[0,1,2,3,4,5,6,7,8,9,10,11,12,13,14,15]],[])),(3,([[0,1,2,3,4,5,6,7,8,9,10,11,12,13,14,15]],[])),(5,([[0,1,2,3,4,5,6,7,8,9,10,11,12,13,14,15,16]],[])),(8,([[0,1,2,3,4,5,6,7,8,9,10,11,12,13,14,15]],[])),(10,([[0,1,2,3,4,5,6,7,8,9,10,11,12,13,14,15]],[])),(13,([[0,1,2,3,4,5,6,7,8,9,10,11,12,13,14,15]],[])),(15,([[0,1,2,3,4,5,6,7,8,9,10,11,12,13,14,15,16]],[])),(18,([[0,1,2,3,4,5,6,7,8,9,10,11,12,13,14,15]],[])),(21,([[0,1,2,3,4,5,6,7,8,9,10,11,12,13,14,15]],[]))],reg:=Sw.look [(3,([(47,tB)],[0,1,4,12,13])),(5,([(66,tB)],[0,1,4,12,13])),(13,([(120,tB)],[0,1,4,12,13])),(15,([(139,tB)],[0,1,4,12,13]))],join:=Sw.look [],loop:=Sw.look [(3,([(12,tI)],[0,1,4,13])),(5,([(13,tI)],[0,1,4,12])),(13,([(12,tI)],[0,1,4,13])),(15,([(13,tI)],[0,1,4,12])),(1000013,([(12,tI),(13,tI)],[0,1,4]))],blk:=Sw.lookL [(0,[(12,tI)]),(1,[(12,tI)]),(2,[(13,tI)]),(3,[(13,tI)]),(4,[(13,tI)]),(5,[(12,tI),(13,tI)]),(6,[(12,tI)]),(7,[(12,tI)]),(8,[(13,tI)]),(9,[(13,tI)])],res:=[(10,tI),(11,tB)],anys:=[4,36,54,109,127] }
theorem l_slices_partitionCmpFuncint___2:FnOk Tryz.prog 131 e_slices_partitionCmpFuncint___2:=
 fn_ok mixed (l:=[]) trivial (An:=an_slices_partitionCmpFuncint___2) Tryz.func131 (c:=Tryz.f131.body.getD .skip) (by kernel_rfl) Tryz.ntmps131 (by kernel_rfl) (fun _ _=>Tryz.call131 _ _) _ (by kernel_rfl) (fun x=>by kernel_rfl) (by kernel_rfl)
def e_slices_pdqsortCmpFuncint___2:Shallow:=⟨[tS,tI,tI,tI,(.one .any)],[],fun x=>F_slices_pdqsortCmpFuncint___2 ids x.1 x.2.1 x.2.2.1 x.2.2.2.1 x.2.2.2.2.1⟩
def an_slices_pdqsortCmpFuncint___2:Ann:={ order:=Sw.look [(17,([[0,1,2,3,4,5,6,7,8,9,10,11,12,13,14,15,16]],[]))],reg:=Sw.look [(15,([(75,tB)],[0,1,2,3,4,10,11,12,13])),(17,([(97,tB)],[0,1,2,3,4,10,11,12,13]))],join:=Sw.look [(10,([(3,tI)],[0,1,2,4,10,11,12])),(15,([(13,tI),(14,tI)],[0,1,2,3,4,10,11,12])),(17,([],[0,1,2,3,4,10,11,12,13]))],loop:=Sw.look [(2,([(1,tI),(2,tI),(3,tI),(10,tB),(11,tB)],[0,4]))],blk:=Sw.lookL [(0,[]),(1,[(1,tI),(2,tI),(3,tI),(10,tB),(11,tB)])],res:=[],anys:=[4,29,36,43,51,60,79,84,102,110,133,145] }
theorem l_slices_pdqsortCmpFuncint___2:FnOk Tryz.prog 96 e_slices_pdqsortCmpFuncint___2:=
 fn_ex (tys:=[tS,tI,tI,tI,(.one .any)]) (res:=[]) (R:=fun fuelN=>fun x=>R_slices_pdqsortCmpFuncint___2 fuelN ids x.1 x.2.1 x.2.2.1 x.2.2.2.1 x.2.2.2.2.1) (fun _=>rfl) (fun _ _=>Tryz.call96 _ _) fun fuelN ih=>
 fn_ok mixed (l:=[(124,e_slices_insertionSortCmpFuncint___2),(125,e_slices_heapSortCmpFuncint___2),(126,e_slices_breakPatternsCmpFuncint___2),(127,e_slices_choosePivotCmpFuncint___2),(128,e_slices_reverseRangeCmpFuncint___2),(129,e_slices_partialInsertionSortCmpFuncint___2),(130,e_slices_partitionEqualCmpFuncint___2),(131,e_slices_partitionCmpFuncint___2),(96,(⟨[tS,tI,tI,tI,(.one .any)],[],fun x=>R_slices_pdqsortCmpFuncint___2 fuelN ids x.1 x.2.1 x.2.2.1 x.2.2.2.1 x.2.2.2.2.1⟩:Shallow))]) ⟨l_slices_insertionSortCmpFuncint___2,l_slices_heapSortCmpFuncint___2,l_slices_breakPatternsCmpFuncint___2,l_slices_choosePivotCmpFuncint___2,l_slices_reverseRangeCmpFuncint___2,l_slices_partialInsertionSortCmpFuncint___2,l_slices_partitionEqualCmpFuncint___2,l_slices_partitionCmpFuncint___2,ih,trivial⟩ (An:=an_slices_pdqsortCmpFuncint___2) Tryz.func96 (c:=Tryz.f96.body.getD .skip) (by kernel_rfl) Tryz.ntmps96 (by kernel_rfl) (fun _ _=>Tryz.call96 _ _) _ (by kernel_rfl) (fun x=>by kernel_rfl) (by kernel_rfl)
def e_slices_SortFunc_2_int__2_int___:Shallow:=⟨[tS,(.one .any)],[],fun x=>F_slices_SortFunc_2_int__2_int___ ids x.1 x.2.1⟩
def an_slices_SortFunc_2_int__2_int___:Ann:={ order:=Sw.look [],reg:=Sw.look [],join:=Sw.look [],loop:=Sw.look [],blk:=Sw.lookL [],res:=[],anys:=[1,12] }
theorem l_slices_SortFunc_2_int__2_int___:FnOk Tryz.prog 62 e_slices_SortFunc_2_int__2_int___:=
 fn_ok mixed (l:=[(97,e_math_bits_Len),(96,e_slices_pdqsortCmpFuncint___2)]) ⟨l_math_bits_Len,l_slices_pdqsortCmpFuncint___2,trivial⟩ (An:=an_slices_SortFunc_2_int__2_int___) Tryz.func62 (c:=Tryz.f62.body.getD .skip) (by kernel_rfl) Tryz.ntmps62 (by kernel_rfl) (fun _ _=>Tryz.call62 _ _) _ (by kernel_rfl) (fun x=>by kernel_rfl) (by kernel_rfl)
def e_Book_Marks:Shallow:=⟨[tP],[tS],fun x=>F_Book_Marks ids x.1⟩
def an_Book_Marks:Ann:={ order:=Sw.look [],reg:=Sw.look [],join:=Sw.look [],loop:=Sw.look [(3,([(3,tS)],[16]))],blk:=Sw.lookL [(0,[(3,tS)]),(1,[(3,tS)])],res:=[(2,tS)],anys:=[] }
theorem l_Book_Marks:FnOk Tryz.prog 39 e_Book_Marks:=
 fn_ok mixed (l:=[(62,e_slices_SortFunc_2_int__2_int___)]) ⟨l_slices_SortFunc_2_int__2_int___,trivial⟩ (An:=an_Book_Marks) Tryz.func39 (c:=Tryz.f39.body.getD .skip) (by kernel_rfl) Tryz.ntmps39 (by kernel_rfl) (fun _ _=>Tryz.call39 _ _) _ (by kernel_rfl) (fun x=>by kernel_rfl) (by kernel_rfl)
def e_Book_Depth:Shallow:=⟨[tP],[tI,tI],fun x=>F_Book_Depth ids x.1⟩
def an_Book_Depth:Ann:={ order:=Sw.look [(1,([[0,1,2,3,4,5,6,7,8,9,10,11]],[]))],reg:=Sw.look [],join:=Sw.look [],loop:=Sw.look [],blk:=Sw.lookL [],res:=[(2,tI),(3,tI)],anys:=[] }
theorem l_Book_Depth:FnOk Tryz.prog 12 e_Book_Depth:=
 fn_ok mixed (l:=[]) trivial (An:=an_Book_Depth) Tryz.func12 (c:=Tryz.f12.body.getD .skip) (by kernel_rfl) Tryz.ntmps12 (by kernel_rfl) (fun _ _=>Tryz.call12 _ _) _ (by kernel_rfl) (fun x=>by kernel_rfl) (by kernel_rfl)
def e_Book_Dirty:Shallow:=⟨[tP],[tB],fun x=>F_Book_Dirty ids x.1⟩
def an_Book_Dirty:Ann:={ order:=Sw.look [(1,([[0,1,2,3,4,5,6,7,8,9,10,11,12,13,14,15,16,17,18,19,20,21,22,23,24,25]],[]))],reg:=Sw.look [(1,([(2,tB)],[]))],join:=Sw.look [],loop:=Sw.look [],blk:=Sw.lookL [],res:=[(2,tB)],anys:=[] }
theorem l_Book_Dirty:FnOk Tryz.prog 17 e_Book_Dirty:=
 fn_ok mixed (l:=[]) trivial (An:=an_Book_Dirty) Tryz.func17 (c:=Tryz.f17.body.getD .skip) (by kernel_rfl) Tryz.ntmps17 (by kernel_rfl) (fun _ _=>Tryz.call17 _ _) _ (by kernel_rfl) (fun x=>by kernel_rfl) (by kernel_rfl)
def e_Book_IsOpen:Shallow:=⟨[tP],[tB],fun x=>F_Book_IsOpen ids x.1⟩
def an_Book_IsOpen:Ann:={ order:=Sw.look [],reg:=Sw.look [],join:=Sw.look [],loop:=Sw.look [],blk:=Sw.lookL [],res:=[(2,tB)],anys:=[] }
theorem l_Book_IsOpen:FnOk Tryz.prog 40 e_Book_IsOpen:=
 fn_ok mixed (l:=[]) trivial (An:=an_Book_IsOpen) Tryz.func40 (c:=Tryz.f40.body.getD .skip) (by kernel_rfl) Tryz.ntmps40 (by kernel_rfl) (fun _ _=>Tryz.call40 _ _) _ (by kernel_rfl) (fun x=>by kernel_rfl) (by kernel_rfl)
def e_law7_see:Shallow:=⟨[tP],[(.agg [.sl, .sl, .sl, .sl,bI,bI, .bool, .bool])],fun x=>F_law7_see ids x.1⟩
def an_law7_see:Ann:={ order:=Sw.look [],reg:=Sw.look [],join:=Sw.look [],loop:=Sw.look [],blk:=Sw.lookL [],res:=[(2,tP)],anys:=[] }
theorem l_law7_see:FnOk Tryz.prog 11 e_law7_see:=
 fn_ok mixed (l:=[(18,e_Book_Text),(23,e_Text_Len),(36,e_Text_Atoms),(37,e_Text_Tags),(38,e_Book_Watched),(39,e_Book_Marks),(12,e_Book_Depth),(17,e_Book_Dirty),(40,e_Book_IsOpen)]) ⟨l_Book_Text,l_Text_Len,l_Text_Atoms,l_Text_Tags,l_Book_Watched,l_Book_Marks,l_Book_Depth,l_Book_Dirty,l_Book_IsOpen,trivial⟩ (An:=an_law7_see) Tryz.func11 (c:=Tryz.f11.body.getD .skip) (by kernel_rfl) Tryz.ntmps11 (by kernel_rfl) (fun _ _=>Tryz.call11 _ _) _ (by kernel_rfl) (fun x=>by kernel_rfl) (by kernel_rfl)
def e_law7_slot:Shallow:=⟨[tI,tI],[tI],fun x=>F_law7_slot ids x.1 x.2.1⟩
def an_law7_slot:Ann:={ order:=Sw.look [],reg:=Sw.look [],join:=Sw.look [(4,([(0,tI)],[]))],loop:=Sw.look [],blk:=Sw.lookL [],res:=[(4,tI)],anys:=[] }
theorem l_law7_slot:FnOk Tryz.prog 22 e_law7_slot:=
 fn_ok mixed (l:=[]) trivial (An:=an_law7_slot) Tryz.func22 (c:=Tryz.f22.body.getD .skip) (by kernel_rfl) Tryz.ntmps22 (by kernel_rfl) (fun _ _=>Tryz.call22 _ _) _ (by kernel_rfl) (fun x=>by kernel_rfl) (by kernel_rfl)
def e_Book_inside:Shallow:=⟨[tP,tI],[tB],fun x=>F_Book_inside ids x.1 x.2.1⟩
def an_Book_inside:Ann:={ order:=Sw.look [],reg:=Sw.look [(1,([(4,tB)],[]))],join:=Sw.look [],loop:=Sw.look [],blk:=Sw.lookL [],res:=[(4,tB)],anys:=[] }
theorem l_Book_inside:FnOk Tryz.prog 49 e_Book_inside:=
 fn_ok mixed (l:=[(23,e_Text_Len)]) ⟨l_Text_Len,trivial⟩ (An:=an_Book_inside) Tryz.func49 (c:=Tryz.f49.body.getD .skip) (by kernel_rfl) Tryz.ntmps49 (by kernel_rfl) (fun _ _=>Tryz.call49 _ _) _ (by kernel_rfl) (fun x=>by kernel_rfl) (by kernel_rfl)
def e_Text_Snap:Shallow:=⟨[tP],[tP],fun x=>F_Text_Snap ids x.1⟩
def an_Text_Snap:Ann:={ order:=Sw.look [],reg:=Sw.look [],join:=Sw.look [],loop:=Sw.look [],blk:=Sw.lookL [],res:=[(2,tP)],anys:=[] }
theorem l_Text_Snap:FnOk Tryz.prog 52 e_Text_Snap:=
 fn_ok mixed (l:=[]) trivial (An:=an_Text_Snap) Tryz.func52 (c:=Tryz.f52.body.getD .skip) (by kernel_rfl) Tryz.ntmps52 (by kernel_rfl) (fun _ _=>Tryz.call52 _ _) _ (by kernel_rfl) (fun x=>by kernel_rfl) (by kernel_rfl)
def e_Book_Begin:Shallow:=⟨[tP,tI],[tI],fun x=>F_Book_Begin ids x.1 x.2.1⟩
def an_Book_Begin:Ann:={ order:=Sw.look [(6,([[0,1,2,3,4,5,6,8,9,10,11,12,7,13,14,15,16,17,18,19,20,21,22,23,24]],[(12,7)]))],reg:=Sw.look [],join:=Sw.look [],loop:=Sw.look [(8,([],[0,5,51]))],blk:=Sw.lookL [(0,[]),(1,[])],res:=[(4,tI)],anys:=[] }
theorem l_Book_Begin:FnOk Tryz.prog 25 e_Book_Begin:=
 fn_ok mixed (l:=[(49,e_Book_inside),(51,e_slices_Cloneint_int___),(52,e_Text_Snap)]) ⟨l_Book_inside,l_slices_Cloneint_int___,l_Text_Snap,trivial⟩ (An:=an_Book_Begin) Tryz.func25 (c:=Tryz.f25.body.getD .skip) (by kernel_rfl) Tryz.ntmps25 (by kernel_rfl) (fun _ _=>Tryz.call25 _ _) _ (by kernel_rfl) (fun x=>by kernel_rfl) (by kernel_rfl)
def e_law7_edit:Shallow:=⟨[(.agg [bI,bI, .sl]),tI],[(.agg [bI,bI, .sl])],fun x=>F_law7_edit ids x.1 x.2.1⟩
def an_law7_edit:Ann:={ order:=Sw.look [],reg:=Sw.look [],join:=Sw.look [],loop:=Sw.look [(5,([(7,tS),(8,tI)],[2,4,5,6]))],blk:=Sw.lookL [(0,[(7,tS)]),(1,[(7,tS)])],res:=[(4,tP)],anys:=[] }
theorem l_law7_edit:FnOk Tryz.prog 27 e_law7_edit:=
 fn_ok mixed (l:=[(22,e_law7_slot)]) ⟨l_law7_slot,trivial⟩ (An:=an_law7_edit) Tryz.func27 (c:=Tryz.f27.body.getD .skip) (by kernel_rfl) Tryz.ntmps27 (by kernel_rfl) (fun _ _=>Tryz.call27 _ _) _ (by kernel_rfl) (fun x=>by kernel_rfl) (by kernel_rfl)
def e_Text_Size:Shallow:=⟨[tP],[tI],fun x=>F_Text_Size ids x.1⟩
def an_Text_Size:Ann:={ order:=Sw.look [],reg:=Sw.look [],join:=Sw.look [],loop:=Sw.look [],blk:=Sw.lookL [],res:=[(2,tI)],anys:=[] }
theorem l_Text_Size:FnOk Tryz.prog 46 e_Text_Size:=
 fn_ok mixed (l:=[(50,e_Tree_part_Sum)]) ⟨l_Tree_part_Sum,trivial⟩ (An:=an_Text_Size) Tryz.func46 (c:=Tryz.f46.body.getD .skip) (by kernel_rfl) Tryz.ntmps46 (by kernel_rfl) (fun _ _=>Tryz.call46 _ _) _ (by kernel_rfl) (fun x=>by kernel_rfl) (by kernel_rfl)
def e_codec_Size:Shallow:=⟨[tI,tI],[tI],fun x=>F_codec_Size ids x.1 x.2.1⟩
def an_codec_Size:Ann:={ order:=Sw.look [],reg:=Sw.look [],join:=Sw.look [],loop:=Sw.look [],blk:=Sw.lookL [],res:=[(4,tI)],anys:=[5,7,8,10] }
theorem l_codec_Size:FnOk Tryz.prog 98 e_codec_Size:=
 fn_ok mixed (l:=[(118,e_codec_of)]) ⟨l_codec_of,trivial⟩ (An:=an_codec_Size) Tryz.func98 (c:=Tryz.f98.body.getD .skip) (by kernel_rfl) Tryz.ntmps98 (by kernel_rfl) (fun _ _=>Tryz.call98 _ _) _ (by kernel_rfl) (fun x=>by kernel_rfl) (by kernel_rfl)
def e_Tree_part_At:Shallow:=⟨[(.agg [.ptr]),tI],[(.agg b7),tB],fun x=>F_Tree_part_At ids x.1 x.2.1⟩
def an_Tree_part_At:Ann:={ order:=Sw.look [],reg:=Sw.look [(2,([(16,tB)],[1,4,6]))],join:=Sw.look [],loop:=Sw.look [(2,([(1,tI),(6,tP)],[4]))],blk:=Sw.lookL [(0,[]),(1,[(1,tI),(6,tP)]),(2,[(1,tI),(6,tP)])],res:=[(4,tP),(5,tB)],anys:=[] }
theorem l_Tree_part_At:FnOk Tryz.prog 100 e_Tree_part_At:=
 fn_ok mixed (l:=[(68,e_node_part_count)]) ⟨l_node_part_count,trivial⟩ (An:=an_Tree_part_At) Tryz.func100 (c:=Tryz.f100.body.getD .skip) (by kernel_rfl) Tryz.ntmps100 (by kernel_rfl) (fun _ _=>Tryz.call100 _ _) _ (by kernel_rfl) (fun x=>by kernel_rfl) (by kernel_rfl)
def e_part_cut:Shallow:=⟨[(.agg b7),tI,tI],[(.agg b7),(.agg b7)],fun x=>F_part_cut ids x.1 x.2.1 x.2.2.1⟩
def an_part_cut:Ann:={ order:=Sw.look [(9,([[0,1,2,3,4,5,6,7,9,10,11,12,13,14,8,15,16,17]],[(11,8)]))],reg:=Sw.look [(2,([(20,tB)],[1,2,3,6,7,8]))],join:=Sw.look [(9,([(11,tI)],[1,3,6,7,8]))],loop:=Sw.look [(2,([(2,tI),(8,tI)],[1,3,6,7]))],blk:=Sw.lookL [(0,[(8,tI)]),(1,[(8,tI)])],res:=[(6,tP),(7,tP)],anys:=[] }
theorem l_part_cut:FnOk Tryz.prog 101 e_part_cut:=
 fn_ok mixed (l:=[(92,e_codec_Next),(93,e_piece_newPart)]) ⟨l_codec_Next,l_piece_newPart,trivial⟩ (An:=an_part_cut) Tryz.func101 (c:=Tryz.f101.body.getD .skip) (by kernel_rfl) Tryz.ntmps101 (by kernel_rfl) (fun _ _=>Tryz.call101 _ _) _ (by kernel_rfl) (fun x=>by kernel_rfl) (by kernel_rfl)
def e_Text_ahead:Shallow:=⟨[tP,tI],[(.agg b5)],fun x=>F_Text_ahead ids x.1 x.2.1⟩
def an_Text_ahead:Ann:={ order:=Sw.look [(5,([[0,1,2,3,4,5,6,7,8,9,10,11,12,13],[0,1,2,3,4,5,6,7,8,9,11,10,12,13],[0,1,2,3,4,5,10,6,7,8,9,11,12,13],[0,1,2,3,4,5,10,11,6,7,8,9,12,13],[0,1,2,3,4,5,11,6,7,8,9,10,12,13],[0,1,2,3,4,5,11,10,6,7,8,9,12,13]],[(0,10),(0,11),(4,10),(4,11)]))],reg:=Sw.look [(5,([(10,tP)],[4,7]))],join:=Sw.look [(7,([],[4,7]))],loop:=Sw.look [],blk:=Sw.lookL [],res:=[(4,tP)],anys:=[] }
theorem l_Text_ahead:FnOk Tryz.prog 99 e_Text_ahead:=
 fn_ok mixed (l:=[(95,e_Text_find),(123,e_Tree_part_Upto),(100,e_Tree_part_At),(101,e_part_cut),(119,e_sums_Add)]) ⟨l_Text_find,l_Tree_part_Upto,l_Tree_part_At,l_part_cut,l_sums_Add,trivial⟩ (An:=an_Text_ahead) Tryz.func99 (c:=Tryz.f99.body.getD .skip) (by kernel_rfl) Tryz.ntmps99 (by kernel_rfl) (fun _ _=>Tryz.call99 _ _) _ (by kernel_rfl) (fun x=>by kernel_rfl) (by kernel_rfl)
def e_Text_refuse:Shallow:=⟨[tP,tS],[tI],fun x=>F_Text_refuse ids x.1 x.2.1⟩
def an_Text_refuse:Ann:={ order:=Sw.look [(28,([[0,1,2,3,6,7,8,4,5,9,10,11,12,13]],[(8,4)]))],reg:=Sw.look [(7,([(44,tB)],[0,1,6,8,22,23,24]))],join:=Sw.look [(29,([(9,tI)],[0,76,77,78]))],loop:=Sw.look [(5,([(5,tI),(24,tI)],[0,1,6,22,23])),(13,([(9,tI),(52,tI)],[0,1,50,51])),(16,([(9,tI),(59,tI)],[0,1,50,51,52,57,58])),(25,([(9,tI),(78,tI)],[0,76,77]))],blk:=Sw.lookL [(0,[]),(1,[(5,tI)]),(2,[(9,tI)]),(3,[(9,tI)]),(4,[(9,tI)]),(5,[(9,tI)]),(6,[(9,tI)]),(7,[(9,tI)])],res:=[(4,tI)],anys:=[] }
theorem l_Text_refuse:FnOk Tryz.prog 69 e_Text_refuse:=
 fn_ok mixed (l:=[(23,e_Text_Len),(46,e_Text_Size),(98,e_codec_Size),(99,e_Text_ahead)]) ⟨l_Text_Len,l_Text_Size,l_codec_Size,l_Text_ahead,trivial⟩ (An:=an_Text_refuse) Tryz.func69 (c:=Tryz.f69.body.getD .skip) (by kernel_rfl) Tryz.ntmps69 (by kernel_rfl) (fun _ _=>Tryz.call69 _ _) _ (by kernel_rfl) (fun x=>by kernel_rfl) (by kernel_rfl)
def e_Text_fresh_1:Shallow:=⟨[tP,tP,tP,tP],[],fun x=>F_Text_fresh_1 ids x.1 x.2.1 x.2.2.1 x.2.2.2.1⟩
def an_Text_fresh_1:Ann:={ order:=Sw.look [(2,([[0,1,2,3,4,5,6,7,8,9,10,11,12,13,14,15,16]],[(0,13),(0,14)]))],reg:=Sw.look [],join:=Sw.look [],loop:=Sw.look [],blk:=Sw.lookL [],res:=[],anys:=[] }
theorem l_Text_fresh_1:FnOk Tryz.prog 134 e_Text_fresh_1:=
 fn_ok mixed (l:=[(93,e_piece_newPart)]) ⟨l_piece_newPart,trivial⟩ (An:=an_Text_fresh_1) Tryz.func134 (c:=Tryz.f134.body.getD .skip) (by kernel_rfl) Tryz.ntmps134 (by kernel_rfl) (fun _ _=>Tryz.call134 _ _) _ (by kernel_rfl) (fun x=>by kernel_rfl) (by kernel_rfl)
def e_codec_Encode:Shallow:=⟨[tI,tS],[tS,tI,tI],fun x=>F_codec_Encode ids x.1 x.2.1⟩
def an_codec_Encode:Ann:={ order:=Sw.look [],reg:=Sw.look [],join:=Sw.look [],loop:=Sw.look [(6,([(8,tS),(17,tI)],[7,15,16]))],blk:=Sw.lookL [(0,[(8,tS)]),(1,[(8,tS)])],res:=[(4,tS),(5,tI),(6,tI)],anys:=[7,12,13,22,27] }
theorem l_codec_Encode:FnOk Tryz.prog 135 e_codec_Encode:=
 fn_ok mixed (l:=[(118,e_codec_of)]) ⟨l_codec_of,trivial⟩ (An:=an_codec_Encode) Tryz.func135 (c:=Tryz.f135.body.getD .skip) (by kernel_rfl) Tryz.ntmps135 (by kernel_rfl) (fun _ _=>Tryz.call135 _ _) _ (by kernel_rfl) (fun x=>by kernel_rfl) (by kernel_rfl)
def e_Text_fresh:Shallow:=⟨[tP,tS],[tS],fun x=>F_Text_fresh ids x.1 x.2.1⟩
def an_Text_fresh:Ann:={ order:=Sw.look [(12,([[0,1,2,3,4,5,6,7,8,9]],[(0,6)]))],reg:=Sw.look [(8,([(11,tB)],[2,5,7,8,10,21,22,23])),(9,([(42,tB)],[2,5,7,8,10,11,21,22,23]))],join:=Sw.look [(11,([],[2,5,7,8,10,11,21,22,23])),(16,([],[2,5,7,8,21,22,23]))],loop:=Sw.look [(6,([(23,tI)],[2,5,7,8,21,22]))],blk:=Sw.lookL [(0,[]),(1,[])],res:=[(4,tS)],anys:=[] }
theorem l_Text_fresh:FnOk Tryz.prog 102 e_Text_fresh:=
 fn_ok mixed (l:=[(134,e_Text_fresh_1),(135,e_codec_Encode)]) ⟨l_Text_fresh_1,l_codec_Encode,trivial⟩ (An:=an_Text_fresh) Tryz.func102 (c:=Tryz.f102.body.getD .skip) (by kernel_rfl) Tryz.ntmps102 (by kernel_rfl) (fun _ _=>Tryz.call102 _ _) _ (by kernel_rfl) (fun x=>by kernel_rfl) (by kernel_rfl)
def e_tree_even_part:Shallow:=⟨[tP,(.agg b7),tP],[tP],fun x=>F_tree_even_part ids x.1 x.2.1 x.2.2.1⟩
def an_tree_even_part:Ann:={ order:=Sw.look [(2,([[0,1,2,3,5,6,7,8,4,9,10]],[(8,4)])),(3,([[0,1,2,3,4,5,6,7,8,9,10,11,12,13,14,15,16]],[(3,14),(7,14)])),(5,([[0,1,2,3,4,5,6,7,8,9,10,11,13,14,15,16,17,18,19,20,21,22,12,23,24,25]],[(16,12),(16,23),(20,12),(21,12)])),(7,([[0,1,2,3,5,6,7,8,4,9,10]],[(8,4)])),(8,([[0,1,2,3,4,5,7,8,9,10,11,12,13,14,6,15,16]],[(10,6),(14,6)])),(10,([[0,1,2,3,4,5,7,8,9,10,11,12,13,14,15,16,17,18,19,20,21,22,6,23,24,25]],[(10,6),(10,23),(14,6),(18,6),(22,6)]))],reg:=Sw.look [],join:=Sw.look [],loop:=Sw.look [],blk:=Sw.lookL [(0,[])],res:=[(6,tP)],anys:=[] }
theorem l_tree_even_part:FnOk Tryz.prog 158 e_tree_even_part:=
 fn_ok mixed (l:=[(156,e_node_part_tall),(144,e_tree_of_part)]) ⟨l_node_part_tall,l_tree_of_part,trivial⟩ (An:=an_tree_even_part) Tryz.func158 (c:=Tryz.f158.body.getD .skip) (by kernel_rfl) Tryz.ntmps158 (by kernel_rfl) (fun _ _=>Tryz.call158 _ _) _ (by kernel_rfl) (fun x=>by kernel_rfl) (by kernel_rfl)
def e_tree_join_part:Shallow:=⟨[tP,(.agg b7),tP],[tP],fun x=>F_tree_join_part ids x.1 x.2.1 x.2.2.1⟩
def an_tree_join_part:Ann:={ order:=Sw.look [(2,([[0,1,2,3,4,5,6,7,8,9,10,11,12,13,14,15,16]],[(3,14),(7,14)])),(4,([[0,1,2,3,4,5,7,8,9,10,11,12,13,14,6,15,16]],[(10,6),(14,6)]))],reg:=Sw.look [],join:=Sw.look [],loop:=Sw.look [],blk:=Sw.lookL [(0,[])],res:=[(6,tP)],anys:=[] }
theorem l_tree_join_part:FnOk Tryz.prog 150 e_tree_join_part:=
 fn_ex (tys:=[tP,(.agg b7),tP]) (res:=[tP]) (R:=fun fuelN=>fun x=>R_tree_join_part fuelN ids x.1 x.2.1 x.2.2.1) (fun _=>rfl) (fun _ _=>Tryz.call150 _ _) fun fuelN ih=>
 fn_ok mixed (l:=[(156,e_node_part_tall),(150,(⟨[tP,(.agg b7),tP],[tP],fun x=>R_tree_join_part fuelN ids x.1 x.2.1 x.2.2.1⟩:Shallow)),(158,e_tree_even_part),(144,e_tree_of_part)]) ⟨l_node_part_tall,ih,l_tree_even_part,l_tree_of_part,trivial⟩ (An:=an_tree_join_part) Tryz.func150 (c:=Tryz.f150.body.getD .skip) (by kernel_rfl) Tryz.ntmps150 (by kernel_rfl) (fun _ _=>Tryz.call150 _ _) _ (by kernel_rfl) (fun x=>by kernel_rfl) (by kernel_rfl)
def e_node_part_cut:Shallow:=⟨[tP,tI],[tP,tP],fun x=>F_node_part_cut ids x.1 x.2.1⟩
def an_node_part_cut:Ann:={ order:=Sw.look [(6,([[0,1,2,3,4,5,6,7,8,9,10,11,12]],[])),(8,([[0,1,2,3,4,5,6,7,8,10,9,11,12]],[]))],reg:=Sw.look [],join:=Sw.look [],loop:=Sw.look [],blk:=Sw.lookL [],res:=[(4,tP),(5,tP)],anys:=[] }
theorem l_node_part_cut:FnOk Tryz.prog 136 e_node_part_cut:=
 fn_ex (tys:=[tP,tI]) (res:=[tP,tP]) (R:=fun fuelN=>fun x=>R_node_part_cut fuelN ids x.1 x.2.1) (fun _=>rfl) (fun _ _=>Tryz.call136 _ _) fun fuelN ih=>
 fn_ok mixed (l:=[(68,e_node_part_count),(136,(⟨[tP,tI],[tP,tP],fun x=>R_node_part_cut fuelN ids x.1 x.2.1⟩:Shallow)),(150,e_tree_join_part)]) ⟨l_node_part_count,ih,l_tree_join_part,trivial⟩ (An:=an_node_part_cut) Tryz.func136 (c:=Tryz.f136.body.getD .skip) (by kernel_rfl) Tryz.ntmps136 (by kernel_rfl) (fun _ _=>Tryz.call136 _ _) _ (by kernel_rfl) (fun x=>by kernel_rfl) (by kernel_rfl)
def e_node_part_first:Shallow:=⟨[tP],[(.agg b7),tP],fun x=>F_node_part_first ids x.1⟩
def an_node_part_first:Ann:={ order:=Sw.look [(2,([[0,1,2,3,4,5,6,7,8,9]],[(7,8)])),(4,([[0,1,2,3,4,5,6,7,8,9,10,11,12]],[(0,10)]))],reg:=Sw.look [],join:=Sw.look [],loop:=Sw.look [],blk:=Sw.lookL [],res:=[(2,tP),(3,tP)],anys:=[] }
theorem l_node_part_first:FnOk Tryz.prog 151 e_node_part_first:=
 fn_ex (tys:=[tP]) (res:=[(.agg b7),tP]) (R:=fun fuelN=>fun x=>R_node_part_first fuelN ids x.1) (fun _=>rfl) (fun _ _=>Tryz.call151 _ _) fun fuelN ih=>
 fn_ok mixed (l:=[(151,(⟨[tP],[(.agg b7),tP],fun x=>R_node_part_first fuelN ids x.1⟩:Shallow)),(158,e_tree_even_part)]) ⟨ih,l_tree_even_part,trivial⟩ (An:=an_node_part_first) Tryz.func151 (c:=Tryz.f151.body.getD .skip) (by kernel_rfl) Tryz.ntmps151 (by kernel_rfl) (fun _ _=>Tryz.call151 _ _) _ (by kernel_rfl) (fun x=>by kernel_rfl) (by kernel_rfl)
def e_tree_both_part:Shallow:=⟨[tP,tP],[tP],fun x=>F_tree_both_part ids x.1 x.2.1⟩
def an_tree_both_part:Ann:={ order:=Sw.look [],reg:=Sw.look [],join:=Sw.look [],loop:=Sw.look [],blk:=Sw.lookL [],res:=[(4,tP)],anys:=[] }
theorem l_tree_both_part:FnOk Tryz.prog 137 e_tree_both_part:=
 fn_ok mixed (l:=[(151,e_node_part_first),(150,e_tree_join_part)]) ⟨l_node_part_first,l_tree_join_part,trivial⟩ (An:=an_tree_both_part) Tryz.func137 (c:=Tryz.f137.body.getD .skip) (by kernel_rfl) Tryz.ntmps137 (by kernel_rfl) (fun _ _=>Tryz.call137 _ _) _ (by kernel_rfl) (fun x=>by kernel_rfl) (by kernel_rfl)
def e_Tree_part_Replace:Shallow:=⟨[(.agg [.ptr]),tI,tI,tS],[(.agg [.ptr]),tI],fun x=>F_Tree_part_Replace ids x.1 x.2.1 x.2.2.1 x.2.2.2.1⟩
def an_Tree_part_Replace:Ann:={ order:=Sw.look [],reg:=Sw.look [(1,([(26,tB)],[1,2,3,4,8]))],join:=Sw.look [],loop:=Sw.look [],blk:=Sw.lookL [],res:=[(8,tP),(9,tI)],anys:=[] }
theorem l_Tree_part_Replace:FnOk Tryz.prog 103 e_Tree_part_Replace:=
 fn_ok mixed (l:=[(104,e_Tree_part_Size),(136,e_node_part_cut),(121,e_tree_build_part),(137,e_tree_both_part)]) ⟨l_Tree_part_Size,l_node_part_cut,l_tree_build_part,l_tree_both_part,trivial⟩ (An:=an_Tree_part_Replace) Tryz.func103 (c:=Tryz.f103.body.getD .skip) (by kernel_rfl) Tryz.ntmps103 (by kernel_rfl) (fun _ _=>Tryz.call103 _ _) _ (by kernel_rfl) (fun x=>by kernel_rfl) (by kernel_rfl)
def e_Text_replace:Shallow:=⟨[tP,tI,tI,tS],[],fun x=>F_Text_replace ids x.1 x.2.1 x.2.2.1 x.2.2.2.1⟩
def an_Text_replace:Ann:={ order:=Sw.look [(5,([[0,1,2,3,4,5,6,7,8,9,10,11,12,13],[0,1,2,3,4,5,6,7,8,9,11,10,12,13],[0,1,2,3,4,5,10,6,7,8,9,11,12,13],[0,1,2,3,4,5,10,11,6,7,8,9,12,13],[0,1,2,3,4,5,11,6,7,8,9,10,12,13],[0,1,2,3,4,5,11,10,6,7,8,9,12,13]],[(0,10),(0,11),(4,10),(4,11)])),(10,([[0,1,2,3,4,5,6,7,8,9,10,11,12,13],[0,1,2,3,4,5,6,7,8,9,11,10,12,13],[0,1,2,3,4,5,10,6,7,8,9,11,12,13],[0,1,2,3,4,5,10,11,6,7,8,9,12,13],[0,1,2,3,4,5,11,6,7,8,9,10,12,13],[0,1,2,3,4,5,11,10,6,7,8,9,12,13]],[(0,10),(0,11),(4,10),(4,11)])),(13,([[0,1,2,3,4,5,6,7,8,9,10,11,14,12,13,15,16,17,18,19,20,21]],[(4,12)]))],reg:=Sw.look [(4,([(46,tB)],[0,3,8,9,10,11,12,13])),(5,([(15,tP)],[0,3,8,10,11,12])),(10,([(20,tP)],[0,8,10,12]))],join:=Sw.look [(7,([(12,tS)],[0,3,8,10,11])),(13,([(12,tS)],[0,8,10]))],loop:=Sw.look [],blk:=Sw.lookL [],res:=[],anys:=[] }
theorem l_Text_replace:FnOk Tryz.prog 70 e_Text_replace:=
 fn_ok mixed (l:=[(95,e_Text_find),(100,e_Tree_part_At),(101,e_part_cut),(102,e_Text_fresh),(104,e_Tree_part_Size),(103,e_Tree_part_Replace)]) ⟨l_Text_find,l_Tree_part_At,l_part_cut,l_Text_fresh,l_Tree_part_Size,l_Tree_part_Replace,trivial⟩ (An:=an_Text_replace) Tryz.func70 (c:=Tryz.f70.body.getD .skip) (by kernel_rfl) Tryz.ntmps70 (by kernel_rfl) (fun _ _=>Tryz.call70 _ _) _ (by kernel_rfl) (fun x=>by kernel_rfl) (by kernel_rfl)
def e_Text_Change:Shallow:=⟨[tP,tS],[tI],fun x=>F_Text_Change ids x.1 x.2.1⟩
def an_Text_Change:Ann:={ order:=Sw.look [],reg:=Sw.look [(8,([(35,tB)],[0,1,6,7]))],join:=Sw.look [(6,([],[0,1,6]))],loop:=Sw.look [(5,([(6,tI)],[0,1]))],blk:=Sw.lookL [(0,[]),(1,[])],res:=[(4,tI)],anys:=[] }
theorem l_Text_Change:FnOk Tryz.prog 53 e_Text_Change:=
 fn_ok mixed (l:=[(69,e_Text_refuse),(70,e_Text_replace)]) ⟨l_Text_refuse,l_Text_replace,trivial⟩ (An:=an_Text_Change) Tryz.func53 (c:=Tryz.f53.body.getD .skip) (by kernel_rfl) Tryz.ntmps53 (by kernel_rfl) (fun _ _=>Tryz.call53 _ _) _ (by kernel_rfl) (fun x=>by kernel_rfl) (by kernel_rfl)
def e_history_goes:Shallow:=⟨[tI,tS],[tI,tB],fun x=>F_history_goes ids x.1 x.2.1⟩
def an_history_goes:Ann:={ order:=Sw.look [],reg:=Sw.look [],join:=Sw.look [(4,([(0,tI),(6,tB)],[1,7]))],loop:=Sw.look [(3,([(0,tI),(6,tB),(7,tI)],[1]))],blk:=Sw.lookL [(0,[(0,tI),(6,tB)]),(1,[(0,tI),(6,tB)]),(2,[(0,tI),(6,tB)])],res:=[(4,tI),(5,tB)],anys:=[] }
theorem l_history_goes:FnOk Tryz.prog 65 e_history_goes:=
 fn_ok mixed (l:=[]) trivial (An:=an_history_goes) Tryz.func65 (c:=Tryz.f65.body.getD .skip) (by kernel_rfl) Tryz.ntmps65 (by kernel_rfl) (fun _ _=>Tryz.call65 _ _) _ (by kernel_rfl) (fun x=>by kernel_rfl) (by kernel_rfl)
def e_Book_follow:Shallow:=⟨[tP,tS],[],fun x=>F_Book_follow ids x.1 x.2.1⟩
def an_Book_follow:Ann:={ order:=Sw.look [(3,([[0,1,2,3,4,5,6,7,8,9,10,11]],[(3,7)]))],reg:=Sw.look [],join:=Sw.look [(11,([(8,tI)],[0,1,6,34,35,36])),(12,([],[0,1,34,35,36]))],loop:=Sw.look [(1,([],[0,1,14])),(5,([(36,tI)],[0,1,34,35]))],blk:=Sw.lookL [(0,[]),(1,[]),(2,[]),(3,[])],res:=[],anys:=[] }
theorem l_Book_follow:FnOk Tryz.prog 43 e_Book_follow:=
 fn_ok mixed (l:=[(65,e_history_goes)]) ⟨l_history_goes,trivial⟩ (An:=an_Book_follow) Tryz.func43 (c:=Tryz.f43.body.getD .skip) (by kernel_rfl) Tryz.ntmps43 (by kernel_rfl) (fun _ _=>Tryz.call43 _ _) _ (by kernel_rfl) (fun x=>by kernel_rfl) (by kernel_rfl)
def e_Book_Change:Shallow:=⟨[tP,tS],[tI],fun x=>F_Book_Change ids x.1 x.2.1⟩
def an_Book_Change:Ann:={ order:=Sw.look [(14,([[0,1,2,3,4,5,6,7,8,9,10,11,12,13,14,15,16,17,18]],[(3,13),(3,14),(7,13),(11,13)]))],reg:=Sw.look [(11,([(54,tB)],[0,6,26,27,28]))],join:=Sw.look [(13,([],[0,6,26,27,28]))],loop:=Sw.look [(8,([(28,tI)],[0,6,26,27]))],blk:=Sw.lookL [(0,[]),(1,[])],res:=[(4,tI)],anys:=[] }
theorem l_Book_Change:FnOk Tryz.prog 26 e_Book_Change:=
 fn_ok mixed (l:=[(53,e_Text_Change),(43,e_Book_follow)]) ⟨l_Text_Change,l_Book_follow,trivial⟩ (An:=an_Book_Change) Tryz.func26 (c:=Tryz.f26.body.getD .skip) (by kernel_rfl) Tryz.ntmps26 (by kernel_rfl) (fun _ _=>Tryz.call26 _ _) _ (by kernel_rfl) (fun x=>by kernel_rfl) (by kernel_rfl)
def e_Book_shut:Shallow:=⟨[tP],[],fun x=>F_Book_shut ids x.1⟩
def an_Book_shut:Ann:={ order:=Sw.look [],reg:=Sw.look [],join:=Sw.look [],loop:=Sw.look [],blk:=Sw.lookL [],res:=[],anys:=[] }
theorem l_Book_shut:FnOk Tryz.prog 54 e_Book_shut:=
 fn_ok mixed (l:=[]) trivial (An:=an_Book_shut) Tryz.func54 (c:=Tryz.f54.body.getD .skip) (by kernel_rfl) Tryz.ntmps54 (by kernel_rfl) (fun _ _=>Tryz.call54 _ _) _ (by kernel_rfl) (fun x=>by kernel_rfl) (by kernel_rfl)
theorem ld_Book_shut:FnOkD Tryz.prog 54 e_Book_shut:=
 fn_okD mixed (l:=[]) trivial (An:=an_Book_shut) Tryz.func54 (c:=Tryz.f54.body.getD .skip) (by kernel_rfl) Tryz.ntmps54 (by kernel_rfl) _ (by kernel_rfl) (fun x=>by kernel_rfl) (by kernel_rfl) (by kernel_rfl)
end
end Go.Proofs.YtncolficnfcdcaaGreat
