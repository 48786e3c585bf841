/-
  Each function of the cut does what its shallow program says (the text is printed by program).
-/
import Derived.Test.YtncolficnfcdcaaGreatProg
import Derived.KernelRfl
import Derived.Test.YtncolficnfcdcaaGreatSwS11
import Derived.Test.YtncolficnfcdcaaGreatSwFcodec
set_option maxRecDepth 100000
set_option maxHeartbeats 4000000
set_option linter.unusedVariables false
namespace Go.Proofs.YtncolficnfcdcaaGreat
open Go Go.Sw
noncomputable section
def ids:Ids:={ f_Book_Marks_1:=63,f_Book_shut:=54,f_Text_Atoms_1:=60,f_Text_Tags_1:=61,f_Tree_part_Items_1:=66,f_Tree_part_Items_1_1:=67,m_first:=methName Tryz.prog 205 0,m_put:=methName Tryz.prog 205 3,m_size:=methName Tryz.prog 205 4,t_codec_eight:=205,t_codec_latin:=208,t_codec_sixteen:=207,none:=() }
theorem mixed:Tryz.prog.follows .mixedOrders=true:=by kernel_rfl
def e_law7_short:Shallow:=⟨[tS,tS],[tB],fun x=>F_law7_short ids x.1 x.2.1⟩
def an_law7_short:Ann:={ order:=Sw.look [],reg:=Sw.look [(10,([(4,tB)],[]))],join:=Sw.look [],loop:=Sw.look [(3,([(5,tI),(6,tI)],[1])),(7,([(5,tI),(7,tI)],[1,6]))],blk:=Sw.lookL [(0,[(5,tI)]),(1,[(5,tI)]),(2,[(5,tI)]),(3,[(5,tI)])],res:=[(4,tB)],anys:=[] }
theorem l_law7_short:FnOk Tryz.prog 9 e_law7_short:=
 fn_ok mixed (l:=[]) trivial (An:=an_law7_short) Tryz.func9 (c:=Tryz.f9.body.getD .skip) (by kernel_rfl) Tryz.ntmps9 (by kernel_rfl) (fun _ _=>Tryz.call9 _ _) _ (by kernel_rfl) (fun x=>by kernel_rfl) (by kernel_rfl)
def e_codec_of:Shallow:=⟨[tI],[(.one .any)],fun x=>F_codec_of ids x.1⟩
def an_codec_of:Ann:={ order:=Sw.look [],reg:=Sw.look [],join:=Sw.look [],loop:=Sw.look [],blk:=Sw.lookL [(0,[])],res:=[(2,(.one .any))],anys:=[] }
theorem l_codec_of:FnOk Tryz.prog 118 e_codec_of:=
 fn_ok mixed (l:=[]) trivial (An:=an_codec_of) Tryz.func118 (c:=Tryz.f118.body.getD .skip) (by kernel_rfl) Tryz.ntmps118 (by kernel_rfl) (fun _ _=>Tryz.call118 _ _) _ (by kernel_rfl) (fun x=>by kernel_rfl) (by kernel_rfl)
def e_codec_Next:Shallow:=⟨[tI,tS,tI],[tI,tI],fun x=>F_codec_Next ids x.1 x.2.1 x.2.2.1⟩
def an_codec_Next:Ann:={ order:=Sw.look [(4,([[0,1,2,3,4,5,6,7,8,9,10,11]],[]))],reg:=Sw.look [(2,([(22,tB)],[1,2,8]))],join:=Sw.look [],loop:=Sw.look [],blk:=Sw.lookL [],res:=[(6,tI),(7,tI)],anys:=[8,10,11,23,29] }
theorem l_codec_Next:FnOk Tryz.prog 92 e_codec_Next:=
 fn_ok mixed (l:=[(118,e_codec_of)]) ⟨l_codec_of,trivial⟩ (An:=an_codec_Next) Tryz.func92 (c:=Tryz.f92.body.getD .skip) (by kernel_rfl) Tryz.ntmps92 (by kernel_rfl) (fun _ _=>Tryz.call92 _ _) _ (by kernel_rfl) (fun x=>by kernel_rfl) (by kernel_rfl)
def e_piece_single:Shallow:=⟨[tI,tI],[(.agg b5)],fun x=>F_piece_single ids x.1 x.2.1⟩
def an_piece_single:Ann:={ order:=Sw.look [],reg:=Sw.look [(2,([(17,tB)],[4,5]))],join:=Sw.look [(4,([],[4,5]))],loop:=Sw.look [],blk:=Sw.lookL [],res:=[(4,tP)],anys:=[] }
theorem l_piece_single:FnOk Tryz.prog 120 e_piece_single:=
 fn_ok mixed (l:=[]) trivial (An:=an_piece_single) Tryz.func120 (c:=Tryz.f120.body.getD .skip) (by kernel_rfl) Tryz.ntmps120 (by kernel_rfl) (fun _ _=>Tryz.call120 _ _) _ (by kernel_rfl) (fun x=>by kernel_rfl) (by kernel_rfl)
def e_sums_Add:Shallow:=⟨[(.agg b5),(.agg b5)],[(.agg b5)],fun x=>F_sums_Add ids x.1 x.2.1⟩
def an_sums_Add:Ann:={ order:=Sw.look [],reg:=Sw.look [(6,([(39,tB)],[4,5]))],join:=Sw.look [(8,([],[4,5]))],loop:=Sw.look [],blk:=Sw.lookL [],res:=[(4,tP)],anys:=[] }
theorem l_sums_Add:FnOk Tryz.prog 119 e_sums_Add:=
 fn_ok mixed (l:=[]) trivial (An:=an_sums_Add) Tryz.func119 (c:=Tryz.f119.body.getD .skip) (by kernel_rfl) Tryz.ntmps119 (by kernel_rfl) (fun _ _=>Tryz.call119 _ _) _ (by kernel_rfl) (fun x=>by kernel_rfl) (by kernel_rfl)
def e_piece_newPart:Shallow:=⟨[tI,tS,tI],[(.agg b7)],fun x=>F_piece_newPart ids x.1 x.2.1 x.2.2.1⟩
def an_piece_newPart:Ann:={ order:=Sw.look [(5,([[0,1,2,3,4,5,6,7]],[(1,4)]))],reg:=Sw.look [],join:=Sw.look [],loop:=Sw.look [(3,([(8,tI)],[0,1,6,7]))],blk:=Sw.lookL [(0,[]),(1,[(8,tI)])],res:=[(6,tP)],anys:=[] }
theorem l_piece_newPart:FnOk Tryz.prog 93 e_piece_newPart:=
 fn_ok mixed (l:=[(92,e_codec_Next),(120,e_piece_single),(119,e_sums_Add)]) ⟨l_codec_Next,l_piece_single,l_sums_Add,trivial⟩ (An:=an_piece_newPart) Tryz.func93 (c:=Tryz.f93.body.getD .skip) (by kernel_rfl) Tryz.ntmps93 (by kernel_rfl) (fun _ _=>Tryz.call93 _ _) _ (by kernel_rfl) (fun x=>by kernel_rfl) (by kernel_rfl)
def e_node_part_count:Shallow:=⟨[tP],[tI],fun x=>F_node_part_count ids x.1⟩
def an_node_part_count:Ann:={ order:=Sw.look [],reg:=Sw.look [],join:=Sw.look [],loop:=Sw.look [],blk:=Sw.lookL [],res:=[(2,tI)],anys:=[] }
theorem l_node_part_count:FnOk Tryz.prog 68 e_node_part_count:=
 fn_ok mixed (l:=[]) trivial (An:=an_node_part_count) Tryz.func68 (c:=Tryz.f68.body.getD .skip) (by kernel_rfl) Tryz.ntmps68 (by kernel_rfl) (fun _ _=>Tryz.call68 _ _) _ (by kernel_rfl) (fun x=>by kernel_rfl) (by kernel_rfl)
def e_node_part_tall:Shallow:=⟨[tP],[tI],fun x=>F_node_part_tall ids x.1⟩
def an_node_part_tall:Ann:={ order:=Sw.look [],reg:=Sw.look [],join:=Sw.look [],loop:=Sw.look [],blk:=Sw.lookL [],res:=[(2,tI)],anys:=[] }
theorem l_node_part_tall:FnOk Tryz.prog 156 e_node_part_tall:=
 fn_ok mixed (l:=[]) trivial (An:=an_node_part_tall) Tryz.func156 (c:=Tryz.f156.body.getD .skip) (by kernel_rfl) Tryz.ntmps156 (by kernel_rfl) (fun _ _=>Tryz.call156 _ _) _ (by kernel_rfl) (fun x=>by kernel_rfl) (by kernel_rfl)
def e_part_Measure:Shallow:=⟨[(.agg b7)],[(.agg b5)],fun x=>F_part_Measure ids x.1⟩
def an_part_Measure:Ann:={ order:=Sw.look [],reg:=Sw.look [],join:=Sw.look [],loop:=Sw.look [],blk:=Sw.lookL [],res:=[(2,tP)],anys:=[] }
theorem l_part_Measure:FnOk Tryz.prog 184 e_part_Measure:=
 fn_ok mixed (l:=[]) trivial (An:=an_part_Measure) Tryz.func184 (c:=Tryz.f184.body.getD .skip) (by kernel_rfl) Tryz.ntmps184 (by kernel_rfl) (fun _ _=>Tryz.call184 _ _) _ (by kernel_rfl) (fun x=>by kernel_rfl) (by kernel_rfl)
def e_tree_of_part:Shallow:=⟨[tP,(.agg b7),tP],[tP],fun x=>F_tree_of_part ids x.1 x.2.1 x.2.2.1⟩
def an_tree_of_part:Ann:={ order:=Sw.look [(1,([[0,1,2,3,6,9,11,4,5,7,8,10,12,13,14,15,16,17]],[(1,4),(1,7),(1,10),(1,12)])),(4,([[0,1,2,3,4,5,6,7,8,9,10,11,12,13]],[])),(6,([[0,1,2,3,4,5,6,7,8,9,10,11,12,13]],[]))],reg:=Sw.look [],join:=Sw.look [(5,([],[2,7])),(7,([],[7]))],loop:=Sw.look [],blk:=Sw.lookL [],res:=[(6,tP)],anys:=[] }
theorem l_tree_of_part:FnOk Tryz.prog 144 e_tree_of_part:=
 fn_ok mixed (l:=[(68,e_node_part_count),(156,e_node_part_tall),(184,e_part_Measure),(119,e_sums_Add)]) ⟨l_node_part_count,l_node_part_tall,l_part_Measure,l_sums_Add,trivial⟩ (An:=an_tree_of_part) Tryz.func144 (c:=Tryz.f144.body.getD .skip) (by kernel_rfl) Tryz.ntmps144 (by kernel_rfl) (fun _ _=>Tryz.call144 _ _) _ (by kernel_rfl) (fun x=>by kernel_rfl) (by kernel_rfl)
def e_tree_build_part:Shallow:=⟨[tS],[tP],fun x=>F_tree_build_part ids x.1⟩
def an_tree_build_part:Ann:={ order:=Sw.look [(4,([[0,1,2,4,5,6,7,8,9,10,11,3,12,13,14]],[(7,3),(7,12)]))],reg:=Sw.look [],join:=Sw.look [],loop:=Sw.look [],blk:=Sw.lookL [],res:=[(2,tP)],anys:=[] }
theorem l_tree_build_part:FnOk Tryz.prog 121 e_tree_build_part:=
 fn_ex (tys:=[tS]) (res:=[tP]) (R:=fun fuelN=>fun x=>R_tree_build_part fuelN ids x.1) (fun _=>rfl) (fun _ _=>Tryz.call121 _ _) fun fuelN ih=>
 fn_ok mixed (l:=[(121,(⟨[tS],[tP],fun x=>R_tree_build_part fuelN ids x.1⟩:Shallow)),(144,e_tree_of_part)]) ⟨ih,l_tree_of_part,trivial⟩ (An:=an_tree_build_part) Tryz.func121 (c:=Tryz.f121.body.getD .skip) (by kernel_rfl) Tryz.ntmps121 (by kernel_rfl) (fun _ _=>Tryz.call121 _ _) _ (by kernel_rfl) (fun x=>by kernel_rfl) (by kernel_rfl)
def e_tree_Of_part:Shallow:=⟨[tS],[(.agg [.ptr])],fun x=>F_tree_Of_part ids x.1⟩
def an_tree_Of_part:Ann:={ order:=Sw.look [],reg:=Sw.look [],join:=Sw.look [],loop:=Sw.look [],blk:=Sw.lookL [],res:=[(2,tP)],anys:=[] }
theorem l_tree_Of_part:FnOk Tryz.prog 94 e_tree_Of_part:=
 fn_ok mixed (l:=[(121,e_tree_build_part)]) ⟨l_tree_build_part,trivial⟩ (An:=an_tree_Of_part) Tryz.func94 (c:=Tryz.f94.body.getD .skip) (by kernel_rfl) Tryz.ntmps94 (by kernel_rfl) (fun _ _=>Tryz.call94 _ _) _ (by kernel_rfl) (fun x=>by kernel_rfl) (by kernel_rfl)
def e_piece_Open:Shallow:=⟨[tI,tS,tI],[tP,tI],fun x=>F_piece_Open ids x.1 x.2.1 x.2.2.1⟩
def an_piece_Open:Ann:={ order:=Sw.look [],reg:=Sw.look [(1,([(16,tB)],[0,1,2])),(3,([(23,tB)],[0,1,2])),(14,([(57,tB)],[0,8,9,10,11,12,13]))],join:=Sw.look [],loop:=Sw.look [(12,([(10,tS),(11,tI)],[0,8,9])),(14,([(12,tI),(13,tI)],[0,8,9,10,11]))],blk:=Sw.lookL [(0,[]),(1,[(10,tS)]),(2,[(10,tS),(11,tI)]),(3,[(12,tI)]),(4,[(12,tI)])],res:=[(6,tP),(7,tI)],anys:=[] }
theorem l_piece_Open:FnOk Tryz.prog 58 e_piece_Open:=
 fn_ok mixed (l:=[(92,e_codec_Next),(93,e_piece_newPart),(94,e_tree_Of_part)]) ⟨l_codec_Next,l_piece_newPart,l_tree_Of_part,trivial⟩ (An:=an_piece_Open) Tryz.func58 (c:=Tryz.f58.body.getD .skip) (by kernel_rfl) Tryz.ntmps58 (by kernel_rfl) (fun _ _=>Tryz.call58 _ _) _ (by kernel_rfl) (fun x=>by kernel_rfl) (by kernel_rfl)
def e_history_Open:Shallow:=⟨[tI,tS,tI,tI],[tP,tI],fun x=>F_history_Open ids x.1 x.2.1 x.2.2.1 x.2.2.2.1⟩
def an_history_Open:Ann:={ order:=Sw.look [],reg:=Sw.look [(1,([(17,tB)],[0,1,2,3]))],join:=Sw.look [],loop:=Sw.look [],blk:=Sw.lookL [],res:=[(8,tP),(9,tI)],anys:=[] }
theorem l_history_Open:FnOk Tryz.prog 35 e_history_Open:=
 fn_ok mixed (l:=[(58,e_piece_Open)]) ⟨l_piece_Open,trivial⟩ (An:=an_history_Open) Tryz.func35 (c:=Tryz.f35.body.getD .skip) (by kernel_rfl) Tryz.ntmps35 (by kernel_rfl) (fun _ _=>Tryz.call35 _ _) _ (by kernel_rfl) (fun x=>by kernel_rfl) (by kernel_rfl)
def e_law7_num:Shallow:=⟨[tI],[tI],fun x=>F_law7_num ids x.1⟩
def an_law7_num:Ann:={ order:=Sw.look [],reg:=Sw.look [],join:=Sw.look [],loop:=Sw.look [],blk:=Sw.lookL [],res:=[(2,tI)],anys:=[] }
theorem l_law7_num:FnOk Tryz.prog 15 e_law7_num:=
 fn_ok mixed (l:=[]) trivial (An:=an_law7_num) Tryz.func15 (c:=Tryz.f15.body.getD .skip) (by kernel_rfl) Tryz.ntmps15 (by kernel_rfl) (fun _ _=>Tryz.call15 _ _) _ (by kernel_rfl) (fun x=>by kernel_rfl) (by kernel_rfl)
def e_Book_Text:Shallow:=⟨[tP],[tP],fun x=>F_Book_Text ids x.1⟩
def an_Book_Text:Ann:={ order:=Sw.look [],reg:=Sw.look [],join:=Sw.look [],loop:=Sw.look [],blk:=Sw.lookL [],res:=[(2,tP)],anys:=[] }
theorem l_Book_Text:FnOk Tryz.prog 18 e_Book_Text:=
 fn_ok mixed (l:=[]) trivial (An:=an_Book_Text) Tryz.func18 (c:=Tryz.f18.body.getD .skip) (by kernel_rfl) Tryz.ntmps18 (by kernel_rfl) (fun _ _=>Tryz.call18 _ _) _ (by kernel_rfl) (fun x=>by kernel_rfl) (by kernel_rfl)
def e_law7_book:Shallow:=⟨[tI,tS,tI],[tP],fun x=>F_law7_book ids x.1 x.2.1 x.2.2.1⟩
def an_law7_book:Ann:={ order:=Sw.look [],reg:=Sw.look [(2,([(30,tB)],[7]))],join:=Sw.look [],loop:=Sw.look [],blk:=Sw.lookL [],res:=[(6,tP)],anys:=[] }
theorem l_law7_book:FnOk Tryz.prog 10 e_law7_book:=
 fn_ok mixed (l:=[(35,e_history_Open),(15,e_law7_num),(18,e_Book_Text)]) ⟨l_history_Open,l_law7_num,l_Book_Text,trivial⟩ (An:=an_law7_book) Tryz.func10 (c:=Tryz.f10.body.getD .skip) (by kernel_rfl) Tryz.ntmps10 (by kernel_rfl) (fun _ _=>Tryz.call10 _ _) _ (by kernel_rfl) (fun x=>by kernel_rfl) (by kernel_rfl)
def e_Tree_part_Sum:Shallow:=⟨[(.agg [.ptr])],[(.agg b5)],fun x=>F_Tree_part_Sum ids x.1⟩
def an_Tree_part_Sum:Ann:={ order:=Sw.look [],reg:=Sw.look [],join:=Sw.look [],loop:=Sw.look [],blk:=Sw.lookL [],res:=[(2,tP)],anys:=[] }
theorem l_Tree_part_Sum:FnOk Tryz.prog 50 e_Tree_part_Sum:=
 fn_ok mixed (l:=[]) trivial (An:=an_Tree_part_Sum) Tryz.func50 (c:=Tryz.f50.body.getD .skip) (by kernel_rfl) Tryz.ntmps50 (by kernel_rfl) (fun _ _=>Tryz.call50 _ _) _ (by kernel_rfl) (fun x=>by kernel_rfl) (by kernel_rfl)
def e_Text_Len:Shallow:=⟨[tP],[tI],fun x=>F_Text_Len ids x.1⟩
def an_Text_Len:Ann:={ order:=Sw.look [],reg:=Sw.look [],join:=Sw.look [],loop:=Sw.look [],blk:=Sw.lookL [],res:=[(2,tI)],anys:=[] }
theorem l_Text_Len:FnOk Tryz.prog 23 e_Text_Len:=
 fn_ok mixed (l:=[(50,e_Tree_part_Sum)]) ⟨l_Tree_part_Sum,trivial⟩ (An:=an_Text_Len) Tryz.func23 (c:=Tryz.f23.body.getD .skip) (by kernel_rfl) Tryz.ntmps23 (by kernel_rfl) (fun _ _=>Tryz.call23 _ _) _ (by kernel_rfl) (fun x=>by kernel_rfl) (by kernel_rfl)
def e_sums_Key:Shallow:=⟨[(.agg b5),tI],[tI],fun x=>F_sums_Key ids x.1 x.2.1⟩
def an_sums_Key:Ann:={ order:=Sw.look [],reg:=Sw.look [],join:=Sw.look [],loop:=Sw.look [],blk:=Sw.lookL [(0,[])],res:=[(4,tI)],anys:=[] }
theorem l_sums_Key:FnOk Tryz.prog 183 e_sums_Key:=
 fn_ok mixed (l:=[]) trivial (An:=an_sums_Key) Tryz.func183 (c:=Tryz.f183.body.getD .skip) (by kernel_rfl) Tryz.ntmps183 (by kernel_rfl) (fun _ _=>Tryz.call183 _ _) _ (by kernel_rfl) (fun x=>by kernel_rfl) (by kernel_rfl)
def e_Tree_part_Find:Shallow:=⟨[(.agg [.ptr]),tI,tI],[tI],fun x=>F_Tree_part_Find ids x.1 x.2.1 x.2.2.1⟩
def an_Tree_part_Find:Ann:={ order:=Sw.look [(9,([[0,1,2,3,4,5,6,7,8,9,10]],[])),(13,([[0,1,2,3,4,5,6,7,8,9]],[(0,7)]))],reg:=Sw.look [],join:=Sw.look [(10,([],[1,2,7,8,9,10]))],loop:=Sw.look [(6,([(8,tI),(9,tP)],[1,2,7]))],blk:=Sw.lookL [(0,[(8,tI)]),(1,[(8,tI),(9,tP)])],res:=[(6,tI)],anys:=[] }
theorem l_Tree_part_Find:FnOk Tryz.prog 122 e_Tree_part_Find:=
 fn_ok mixed (l:=[(119,e_sums_Add),(183,e_sums_Key),(68,e_node_part_count),(184,e_part_Measure)]) ⟨l_sums_Add,l_sums_Key,l_node_part_count,l_part_Measure,trivial⟩ (An:=an_Tree_part_Find) Tryz.func122 (c:=Tryz.f122.body.getD .skip) (by kernel_rfl) Tryz.ntmps122 (by kernel_rfl) (fun _ _=>Tryz.call122 _ _) _ (by kernel_rfl) (fun x=>by kernel_rfl) (by kernel_rfl)
def e_Tree_part_Size:Shallow:=⟨[(.agg [.ptr])],[tI],fun x=>F_Tree_part_Size ids x.1⟩
def an_Tree_part_Size:Ann:={ order:=Sw.look [],reg:=Sw.look [],join:=Sw.look [],loop:=Sw.look [],blk:=Sw.lookL [],res:=[(2,tI)],anys:=[] }
theorem l_Tree_part_Size:FnOk Tryz.prog 104 e_Tree_part_Size:=
 fn_ok mixed (l:=[(68,e_node_part_count)]) ⟨l_node_part_count,trivial⟩ (An:=an_Tree_part_Size) Tryz.func104 (c:=Tryz.f104.body.getD .skip) (by kernel_rfl) Tryz.ntmps104 (by kernel_rfl) (fun _ _=>Tryz.call104 _ _) _ (by kernel_rfl) (fun x=>by kernel_rfl) (by kernel_rfl)
def e_Tree_part_Upto:Shallow:=⟨[(.agg [.ptr]),tI],[(.agg b5)],fun x=>F_Tree_part_Upto ids x.1 x.2.1⟩
def an_Tree_part_Upto:Ann:={ order:=Sw.look [(9,([[0,1,2,3,4,5,6,7,8,9,10]],[])),(10,([[0,1,2,3,4,5,6,7,8,9]],[(0,7)]))],reg:=Sw.look [(4,([(19,tB)],[1,4,5,6]))],join:=Sw.look [(10,([],[1,4,5,6,7]))],loop:=Sw.look [(4,([(1,tI),(6,tP)],[4,5]))],blk:=Sw.lookL [(0,[]),(1,[(1,tI),(6,tP)])],res:=[(4,tP)],anys:=[] }
theorem l_Tree_part_Upto:FnOk Tryz.prog 123 e_Tree_part_Upto:=
 fn_ok mixed (l:=[(104,e_Tree_part_Size),(68,e_node_part_count),(119,e_sums_Add),(184,e_part_Measure)]) ⟨l_Tree_part_Size,l_node_part_count,l_sums_Add,l_part_Measure,trivial⟩ (An:=an_Tree_part_Upto) Tryz.func123 (c:=Tryz.f123.body.getD .skip) (by kernel_rfl) Tryz.ntmps123 (by kernel_rfl) (fun _ _=>Tryz.call123 _ _) _ (by kernel_rfl) (fun x=>by kernel_rfl) (by kernel_rfl)
def e_Text_find:Shallow:=⟨[tP,tI],[tI,tI],fun x=>F_Text_find ids x.1 x.2.1⟩
def an_Text_find:Ann:={ order:=Sw.look [],reg:=Sw.look [],join:=Sw.look [],loop:=Sw.look [],blk:=Sw.lookL [],res:=[(4,tI),(5,tI)],anys:=[] }
theorem l_Text_find:FnOk Tryz.prog 95 e_Text_find:=
 fn_ok mixed (l:=[(122,e_Tree_part_Find),(123,e_Tree_part_Upto)]) ⟨l_Tree_part_Find,l_Tree_part_Upto,trivial⟩ (An:=an_Text_find) Tryz.func95 (c:=Tryz.f95.body.getD .skip) (by kernel_rfl) Tryz.ntmps95 (by kernel_rfl) (fun _ _=>Tryz.call95 _ _) _ (by kernel_rfl) (fun x=>by kernel_rfl) (by kernel_rfl)
def e_Tree_part_Items:Shallow:=⟨[(.agg [.ptr]),tI],[(.one .any)],fun x=>F_Tree_part_Items ids x.1 x.2.1⟩
def an_Tree_part_Items:Ann:={ order:=Sw.look [],reg:=Sw.look [],join:=Sw.look [],loop:=Sw.look [],blk:=Sw.lookL [],res:=[(4,(.one .any))],anys:=[] }
theorem l_Tree_part_Items:FnOk Tryz.prog 47 e_Tree_part_Items:=
 fn_ok mixed (l:=[]) trivial (An:=an_Tree_part_Items) Tryz.func47 (c:=Tryz.f47.body.getD .skip) (by kernel_rfl) Tryz.ntmps47 (by kernel_rfl) (fun _ _=>Tryz.call47 _ _) _ (by kernel_rfl) (fun x=>by kernel_rfl) (by kernel_rfl)
def e_Text_walk:Shallow:=⟨[tP,tI,tI,(.one .any)],[],fun x=>F_Text_walk ids x.1 x.2.1 x.2.2.1 x.2.2.2.1⟩
def an_Text_walk:Ann:={ order:=Sw.look [(9,([[0,1,2,3,4,5,6,7,8,9,10,11,12]],[]))],reg:=Sw.look [],join:=Sw.look [(15,([],[4,7,9,10,11,12,14])),(17,([],[4,7,9,10,11,12,14]))],loop:=Sw.look [(8,([(12,tI)],[4,7,9,10,11]))],blk:=Sw.lookL [(0,[]),(1,[]),(2,[]),(3,[(12,tI)])],res:=[],anys:=[3,38,63,66],rng:=Sw.look [(39,([(39,(.agg b7))],[(11,tP)]))] }
theorem l_Text_walk:FnOk Tryz.prog 59 e_Text_walk:=
 fn_ok mixed (l:=[(23,e_Text_Len),(95,e_Text_find),(47,e_Tree_part_Items),(92,e_codec_Next)]) ⟨l_Text_Len,l_Text_find,l_Tree_part_Items,l_codec_Next,trivial⟩ (An:=an_Text_walk) Tryz.func59 (c:=Tryz.f59.body.getD .skip) (by kernel_rfl) Tryz.ntmps59 (by kernel_rfl) (fun _ _=>Tryz.call59 _ _) _ (by kernel_rfl) (fun x=>by kernel_rfl) (by kernel_rfl)
def e_Text_Atoms:Shallow:=⟨[tP,tI,tI],[tS],fun x=>F_Text_Atoms ids x.1 x.2.1 x.2.2.1⟩
def an_Text_Atoms:Ann:={ order:=Sw.look [],reg:=Sw.look [],join:=Sw.look [],loop:=Sw.look [],blk:=Sw.lookL [],res:=[(6,tS)],anys:=[] }
theorem l_Text_Atoms:FnOk Tryz.prog 36 e_Text_Atoms:=
 fn_ok mixed (l:=[(59,e_Text_walk)]) ⟨l_Text_walk,trivial⟩ (An:=an_Text_Atoms) Tryz.func36 (c:=Tryz.f36.body.getD .skip) (by kernel_rfl) Tryz.ntmps36 (by kernel_rfl) (fun _ _=>Tryz.call36 _ _) _ (by kernel_rfl) (fun x=>by kernel_rfl) (by kernel_rfl)
def e_Text_Tags:Shallow:=⟨[tP,tI,tI],[tS],fun x=>F_Text_Tags ids x.1 x.2.1 x.2.2.1⟩
def an_Text_Tags:Ann:={ order:=Sw.look [],reg:=Sw.look [],join:=Sw.look [],loop:=Sw.look [],blk:=Sw.lookL [],res:=[(6,tS)],anys:=[] }
theorem l_Text_Tags:FnOk Tryz.prog 37 e_Text_Tags:=
 fn_ok mixed (l:=[(59,e_Text_walk)]) ⟨l_Text_walk,trivial⟩ (An:=an_Text_Tags) Tryz.func37 (c:=Tryz.f37.body.getD .skip) (by kernel_rfl) Tryz.ntmps37 (by kernel_rfl) (fun _ _=>Tryz.call37 _ _) _ (by kernel_rfl) (fun x=>by kernel_rfl) (by kernel_rfl)
def e_slices_Cloneint_int___:Shallow:=⟨[tS],[tS],fun x=>F_slices_Cloneint_int___ ids x.1⟩
def an_slices_Cloneint_int___:Ann:={ order:=Sw.look [],reg:=Sw.look [],join:=Sw.look [],loop:=Sw.look [],blk:=Sw.lookL [],res:=[(2,tS)],anys:=[] }
theorem l_slices_Cloneint_int___:FnOk Tryz.prog 51 e_slices_Cloneint_int___:=
 fn_ok mixed (l:=[]) trivial (An:=an_slices_Cloneint_int___) Tryz.func51 (c:=Tryz.f51.body.getD .skip) (by kernel_rfl) Tryz.ntmps51 (by kernel_rfl) (fun _ _=>Tryz.call51 _ _) _ (by kernel_rfl) (fun x=>by kernel_rfl) (by kernel_rfl)
def e_Book_Watched:Shallow:=⟨[tP],[tS],fun x=>F_Book_Watched ids x.1⟩
def an_Book_Watched:Ann:={ order:=Sw.look [],reg:=Sw.look [],join:=Sw.look [],loop:=Sw.look [],blk:=Sw.lookL [],res:=[(2,tS)],anys:=[] }
theorem l_Book_Watched:FnOk Tryz.prog 38 e_Book_Watched:=
 fn_ok mixed (l:=[(51,e_slices_Cloneint_int___)]) ⟨l_slices_Cloneint_int___,trivial⟩ (An:=an_Book_Watched) Tryz.func38 (c:=Tryz.f38.body.getD .skip) (by kernel_rfl) Tryz.ntmps38 (by kernel_rfl) (fun _ _=>Tryz.call38 _ _) _ (by kernel_rfl) (fun x=>by kernel_rfl) (by kernel_rfl)
def e_math_bits_Len32:Shallow:=⟨[(.one (.int .u32))],[tI],fun x=>F_math_bits_Len32 ids x.1⟩
def an_math_bits_Len32:Ann:={ order:=Sw.look [],reg:=Sw.look [],join:=Sw.look [(4,([(0,(.one (.int .u32))),(2,tI)],[])),(7,([(0,(.one (.int .u32))),(2,tI)],[]))],loop:=Sw.look [],blk:=Sw.lookL [],res:=[(2,tI)],anys:=[] }
theorem l_math_bits_Len32:FnOk Tryz.prog 132 e_math_bits_Len32:=
 fn_ok mixed (l:=[]) trivial (An:=an_math_bits_Len32) Tryz.func132 (c:=Tryz.f132.body.getD .skip) (by kernel_rfl) Tryz.ntmps132 (by kernel_rfl) (fun _ _=>Tryz.call132 _ _) _ (by kernel_rfl) (fun x=>by kernel_rfl) (by kernel_rfl)
def e_math_bits_Len64:Shallow:=⟨[(.one (.int .u64))],[tI],fun x=>F_math_bits_Len64 ids x.1⟩
def an_math_bits_Len64:Ann:={ order:=Sw.look [],reg:=Sw.look [],join:=Sw.look [(4,([(0,(.one (.int .u64))),(2,tI)],[])),(7,([(0,(.one (.int .u64))),(2,tI)],[])),(10,([(0,(.one (.int .u64))),(2,tI)],[]))],loop:=Sw.look [],blk:=Sw.lookL [],res:=[(2,tI)],anys:=[] }
theorem l_math_bits_Len64:FnOk Tryz.prog 133 e_math_bits_Len64:=
 fn_ok mixed (l:=[]) trivial (An:=an_math_bits_Len64) Tryz.func133 (c:=Tryz.f133.body.getD .skip) (by kernel_rfl) Tryz.ntmps133 (by kernel_rfl) (fun _ _=>Tryz.call133 _ _) _ (by kernel_rfl) (fun x=>by kernel_rfl) (by kernel_rfl)
def e_math_bits_Len:Shallow:=⟨[(.one (.int .u64))],[tI],fun x=>F_math_bits_Len ids x.1⟩
def an_math_bits_Len:Ann:={ order:=Sw.look [],reg:=Sw.look [],join:=Sw.look [],loop:=Sw.look [],blk:=Sw.lookL [],res:=[(2,tI)],anys:=[] }
theorem l_math_bits_Len:FnOk Tryz.prog 97 e_math_bits_Len:=
 fn_ok mixed (l:=[(132,e_math_bits_Len32),(133,e_math_bits_Len64)]) ⟨l_math_bits_Len32,l_math_bits_Len64,trivial⟩ (An:=an_math_bits_Len) Tryz.func97 (c:=Tryz.f97.body.getD .skip) (by kernel_rfl) Tryz.ntmps97 (by kernel_rfl) (fun _ _=>Tryz.call97 _ _) _ (by kernel_rfl) (fun x=>by kernel_rfl) (by kernel_rfl)
def e_slices_insertionSortCmpFuncint___2:Shallow:=⟨[tS,tI,tI,(.one .any)],[],fun x=>F_slices_insertionSortCmpFuncint___2 ids x.1 x.2.1 x.2.2.1 x.2.2.2.1⟩
def an_slices_insertionSortCmpFuncint___2:Ann:={ order:=Sw.look [(4,([[0,1,2,3,4,5,6,7,8,9,10,11,12,13,14,15,16]],[])),(6,([[0,1,2,3,4,5,6,7,8,9,10,11,12,13,14,15,16,17]],[]))],reg:=Sw.look [(4,([(34,tB)],[0,1,2,3,8,9]))],join:=Sw.look [],loop:=Sw.look [(1,([(8,tI)],[0,1,2,3])),(4,([(9,tI)],[0,1,2,3,8]))],blk:=Sw.lookL [(0,[]),(1,[]),(2,[]),(3,[])],res:=[],anys:=[3,22] }
theorem l_slices_insertionSortCmpFuncint___2:FnOk Tryz.prog 124 e_slices_insertionSortCmpFuncint___2:=
 fn_ok mixed (l:=[]) trivial (An:=an_slices_insertionSortCmpFuncint___2) Tryz.func124 (c:=Tryz.f124.body.getD .skip) (by kernel_rfl) Tryz.ntmps124 (by kernel_rfl) (fun _ _=>Tryz.call124 _ _) _ (by kernel_rfl) (fun x=>by kernel_rfl) (by kernel_rfl)
def e_slices_siftDownCmpFuncint___2:Shallow:=⟨[tS,tI,tI,tI,(.one .any)],[],fun x=>F_slices_siftDownCmpFuncint___2 ids x.1 x.2.1 x.2.2.1 x.2.2.2.1 x.2.2.2.2.1⟩
def an_slices_siftDownCmpFuncint___2:Ann:={ order:=Sw.look [(3,([[0,1,2,3,4,5,6,7,8,9,10,11,12,13,14,15,16,17,18,19,20,21]],[])),(5,([[0,1,2,3,4,5,6,7,8,9,10,11,12,13,14,15]],[])),(6,([[0,1,2,3,4,5,6,7,8,9,10,11,12,13,14,15,16,17,18,19,20,21,22,23]],[]))],reg:=Sw.look [(3,([(40,tB)],[0,2,3,4,10,11]))],join:=Sw.look [(5,([(11,tI)],[0,2,3,4,10]))],loop:=Sw.look [(1,([(10,tI)],[0,2,3,4]))],blk:=Sw.lookL [(0,[]),(1,[(10,tI)])],res:=[],anys:=[4,24,43] }
theorem l_slices_siftDownCmpFuncint___2:FnOk Tryz.prog 145 e_slices_siftDownCmpFuncint___2:=
 fn_ok mixed (l:=[]) trivial (An:=an_slices_siftDownCmpFuncint___2) Tryz.func145 (c:=Tryz.f145.body.getD .skip) (by kernel_rfl) Tryz.ntmps145 (by kernel_rfl) (fun _ _=>Tryz.call145 _ _) _ (by kernel_rfl) (fun x=>by kernel_rfl) (by kernel_rfl)
def e_slices_heapSortCmpFuncint___2:Shallow:=⟨[tS,tI,tI,(.one .any)],[],fun x=>F_slices_heapSortCmpFuncint___2 ids x.1 x.2.1 x.2.2.1 x.2.2.2.1⟩
def an_slices_heapSortCmpFuncint___2:Ann:={ order:=Sw.look [(10,([[0,1,2,3,4,5,6,7,8,9,10,11,12,13,14,15,16,17,18,19]],[]))],reg:=Sw.look [],join:=Sw.look [],loop:=Sw.look [(4,([(11,tI)],[0,3,8,9,10])),(8,([(12,tI)],[0,3,8,9]))],blk:=Sw.lookL [(0,[]),(1,[]),(2,[]),(3,[])],res:=[],anys:=[3,28,58] }
theorem l_slices_heapSortCmpFuncint___2:FnOk Tryz.prog 125 e_slices_heapSortCmpFuncint___2:=
 fn_ok mixed (l:=[(145,e_slices_siftDownCmpFuncint___2)]) ⟨l_slices_siftDownCmpFuncint___2,trivial⟩ (An:=an_slices_heapSortCmpFuncint___2) Tryz.func125 (c:=Tryz.f125.body.getD .skip) (by kernel_rfl) Tryz.ntmps125 (by kernel_rfl) (fun _ _=>Tryz.call125 _ _) _ (by kernel_rfl) (fun x=>by kernel_rfl) (by kernel_rfl)
def e_slices_nextPowerOfTwo:Shallow:=⟨[tI],[(.one (.int .u64))],fun x=>F_slices_nextPowerOfTwo ids x.1⟩
def an_slices_nextPowerOfTwo:Ann:={ order:=Sw.look [],reg:=Sw.look [],join:=Sw.look [],loop:=Sw.look [],blk:=Sw.lookL [],res:=[(2,(.one (.int .u64)))],anys:=[] }
theorem l_slices_nextPowerOfTwo:FnOk Tryz.prog 146 e_slices_nextPowerOfTwo:=
 fn_ok mixed (l:=[(97,e_math_bits_Len)]) ⟨l_math_bits_Len,trivial⟩ (An:=an_slices_nextPowerOfTwo) Tryz.func146 (c:=Tryz.f146.body.getD .skip) (by kernel_rfl) Tryz.ntmps146 (by kernel_rfl) (fun _ _=>Tryz.call146 _ _) _ (by kernel_rfl) (fun x=>by kernel_rfl) (by kernel_rfl)
def e_xorshift_Next:Shallow:=⟨[tP],[(.one (.int .u64))],fun x=>F_xorshift_Next ids x.1⟩
def an_xorshift_Next:Ann:={ order:=Sw.look [(1,([[0,1,2,3,4,5,6,7,8,9]],[])),(2,([[0,1,2,3,4,5,6,7,8,9]],[])),(3,([[0,1,2,3,4,5,6,7,8,9]],[]))],reg:=Sw.look [],join:=Sw.look [],loop:=Sw.look [],blk:=Sw.lookL [],res:=[(2,(.one (.int .u64)))],anys:=[] }
theorem l_xorshift_Next:FnOk Tryz.prog 147 e_xorshift_Next:=
 fn_ok mixed (l:=[]) trivial (An:=an_xorshift_Next) Tryz.func147 (c:=Tryz.f147.body.getD .skip) (by kernel_rfl) Tryz.ntmps147 (by kernel_rfl) (fun _ _=>Tryz.call147 _ _) _ (by kernel_rfl) (fun x=>by kernel_rfl) (by kernel_rfl)
def e_slices_breakPatternsCmpFuncint___2:Shallow:=⟨[tS,tI,tI,(.one .any)],[],fun x=>F_slices_breakPatternsCmpFuncint___2 ids x.1 x.2.1 x.2.2.1 x.2.2.2.1⟩
def an_slices_breakPatternsCmpFuncint___2:Ann:={ order:=Sw.look [(10,([[0,1,2,3,4,5,6,7,8,9,10,11,12,13,14,15,16,17,18,19]],[]))],reg:=Sw.look [],join:=Sw.look [(10,([(12,tI)],[0,1,8,9,10,11]))],loop:=Sw.look [(5,([(11,tI)],[0,1,8,9,10]))],blk:=Sw.lookL [(0,[]),(1,[])],res:=[],anys:=[3] }
theorem l_slices_breakPatternsCmpFuncint___2:FnOk Tryz.prog 126 e_slices_breakPatternsCmpFuncint___2:=
 fn_ok mixed (l:=[(146,e_slices_nextPowerOfTwo),(147,e_xorshift_Next)]) ⟨l_slices_nextPowerOfTwo,l_xorshift_Next,trivial⟩ (An:=an_slices_breakPatternsCmpFuncint___2) Tryz.func126 (c:=Tryz.f126.body.getD .skip) (by kernel_rfl) Tryz.ntmps126 (by kernel_rfl) (fun _ _=>Tryz.call126 _ _) _ (by kernel_rfl) (fun x=>by kernel_rfl) (by kernel_rfl)
def e_slices_order2CmpFuncint___2:Shallow:=⟨[tS,tI,tI,tP,(.one .any)],[tI,tI],fun x=>F_slices_order2CmpFuncint___2 ids x.1 x.2.1 x.2.2.1 x.2.2.2.1 x.2.2.2.2.1⟩
def an_slices_order2CmpFuncint___2:Ann:={ order:=Sw.look [(1,([[0,1,2,3,4,5,6,7,8,9,10]],[]))],reg:=Sw.look [],join:=Sw.look [],loop:=Sw.look [],blk:=Sw.lookL [],res:=[(10,tI),(11,tI)],anys:=[4,12] }
theorem l_slices_order2CmpFuncint___2:FnOk Tryz.prog 157 e_slices_order2CmpFuncint___2:=
 fn_ok mixed (l:=[]) trivial (An:=an_slices_order2CmpFuncint___2) Tryz.func157 (c:=Tryz.f157.body.getD .skip) (by kernel_rfl) Tryz.ntmps157 (by kernel_rfl) (fun _ _=>Tryz.call157 _ _) _ (by kernel_rfl) (fun x=>by kernel_rfl) (by kernel_rfl)
end
end Go.Proofs.YtncolficnfcdcaaGreat
