/-
  Each function of the cut does what its shallow program says (the text is printed by program).
-/
import Derived.Test.YtncolficnfcdcaaGreatSwLhistoryZ3m
set_option maxRecDepth 100000
set_option maxHeartbeats 4000000
set_option linter.unusedVariables false
namespace Go.Proofs.YtncolficnfcdcaaGreat
open Go Go.Sw
noncomputable section
def e_Book_Marks_1:Shallow:=⟨[(.agg [bI,bI]),(.agg [bI,bI])],[tI],fun x=>F_Book_Marks_1 ids x.1 x.2.1⟩
def an_Book_Marks_1:Ann:={ order:=Sw.look [],reg:=Sw.look [],join:=Sw.look [],loop:=Sw.look [],blk:=Sw.lookL [],res:=[(4,tI)],anys:=[] }
theorem l_Book_Marks_1:FnOk Tryz.prog 63 e_Book_Marks_1:=
 fn_ok mixed (l:=[]) trivial (An:=an_Book_Marks_1) Tryz.func63 (c:=Tryz.f63.body.getD .skip) (by kernel_rfl) Tryz.ntmps63 (by kernel_rfl) (fun _ _=>Tryz.call63 _ _) _ (by kernel_rfl) (fun x=>by kernel_rfl) (by kernel_rfl)
def e_Tree_part_Items_1:Shallow:=⟨[(.one .any),tP,tP],[],fun x=>F_Tree_part_Items_1 ids x.1 x.2.1 x.2.2.1⟩
def an_Tree_part_Items_1:Ann:={ order:=Sw.look [],reg:=Sw.look [],join:=Sw.look [],loop:=Sw.look [],blk:=Sw.lookL [],res:=[],anys:=[0,6] }
theorem l_Tree_part_Items_1:FnOk Tryz.prog 66 e_Tree_part_Items_1:=
 fn_ok mixed (l:=[]) trivial (An:=an_Tree_part_Items_1) Tryz.func66 (c:=Tryz.f66.body.getD .skip) (by kernel_rfl) Tryz.ntmps66 (by kernel_rfl) (fun _ _=>Tryz.call66 _ _) _ (by kernel_rfl) (fun x=>by kernel_rfl) (by kernel_rfl)
def e_Tree_part_Items_1_1:Shallow:=⟨[tP,tI,tP,tP],[tB],fun x=>F_Tree_part_Items_1_1 ids x.1 x.2.1 x.2.2.1 x.2.2.2.1⟩
def an_Tree_part_Items_1_1:Ann:={ order:=Sw.look [(4,([[0,1,2,3,4,5,6,7,8,9,10,11,12]],[])),(6,([[0,1,2,3,4,5,6,7,8,9,10,11]],[])),(8,([[0,1,2,3,4,5,6,7,8,9,10,11]],[]))],reg:=Sw.look [(1,([(17,tB)],[0,1,2,3])),(4,([(35,tB)],[0,1,2,3,7])),(6,([(47,tB)],[0,1,2,7]))],join:=Sw.look [],loop:=Sw.look [],blk:=Sw.lookL [],res:=[(6,tB)],anys:=[27,40,48] }
theorem l_Tree_part_Items_1_1:FnOk Tryz.prog 67 e_Tree_part_Items_1_1:=
 fn_ok mixed (l:=[(68,e_node_part_count)]) ⟨l_node_part_count,trivial⟩ (An:=an_Tree_part_Items_1_1) Tryz.func67 (c:=Tryz.f67.body.getD .skip) (by kernel_rfl) Tryz.ntmps67 (by kernel_rfl) (fun _ _=>Tryz.call67 _ _) _ (by kernel_rfl) (fun x=>by kernel_rfl) (by kernel_rfl)
def e_codec_bounds:Shallow:=⟨[(.one (.int .u8))],[tI,(.one (.int .u8)),(.one (.int .u8))],fun x=>F_codec_bounds ids x.1⟩
def an_codec_bounds:Ann:={ order:=Sw.look [],reg:=Sw.look [],join:=Sw.look [],loop:=Sw.look [],blk:=Sw.lookL [(0,[])],res:=[(2,tI),(3,(.one (.int .u8))),(4,(.one (.int .u8)))],anys:=[] }
theorem l_codec_bounds:FnOk Tryz.prog 191 e_codec_bounds:=
 fn_ok mixed (l:=[]) trivial (An:=an_codec_bounds) Tryz.func191 (c:=Tryz.f191.body.getD .skip) (by kernel_rfl) Tryz.ntmps191 (by kernel_rfl) (fun _ _=>Tryz.call191 _ _) _ (by kernel_rfl) (fun x=>by kernel_rfl) (by kernel_rfl)
def e_codec_row:Shallow:=⟨[tS],[tI,tI],fun x=>F_codec_row ids x.1⟩
def an_codec_row:Ann:={ order:=Sw.look [],reg:=Sw.look [(4,([(36,tB)],[0,4])),(7,([(54,tB)],[0,4,7]))],join:=Sw.look [],loop:=Sw.look [(7,([(7,tI)],[0,4]))],blk:=Sw.lookL [(0,[(7,tI)]),(1,[(7,tI)])],res:=[(2,tI),(3,tI)],anys:=[] }
theorem l_codec_row:FnOk Tryz.prog 190 e_codec_row:=
 fn_ok mixed (l:=[(191,e_codec_bounds)]) ⟨l_codec_bounds,trivial⟩ (An:=an_codec_row) Tryz.func190 (c:=Tryz.f190.body.getD .skip) (by kernel_rfl) Tryz.ntmps190 (by kernel_rfl) (fun _ _=>Tryz.call190 _ _) _ (by kernel_rfl) (fun x=>by kernel_rfl) (by kernel_rfl)
def e_eight_first:Shallow:=⟨[(.agg []),tS],[tI,tI],fun x=>F_eight_first ids x.1 x.2.1⟩
def an_eight_first:Ann:={ order:=Sw.look [],reg:=Sw.look [(2,([(22,tB)],[1,7]))],join:=Sw.look [(12,([(8,tI)],[1,7]))],loop:=Sw.look [(13,([(8,tI),(49,tI)],[7,47,48]))],blk:=Sw.lookL [(0,[(8,tI)]),(1,[(8,tI)]),(2,[(8,tI)])],res:=[(4,tI),(5,tI)],anys:=[] }
theorem l_eight_first:FnOk Tryz.prog 185 e_eight_first:=
 fn_ok mixed (l:=[(190,e_codec_row)]) ⟨l_codec_row,trivial⟩ (An:=an_eight_first) Tryz.func185 (c:=Tryz.f185.body.getD .skip) (by kernel_rfl) Tryz.ntmps185 (by kernel_rfl) (fun _ _=>Tryz.call185 _ _) _ (by kernel_rfl) (fun x=>by kernel_rfl) (by kernel_rfl)
def e_eight_size:Shallow:=⟨[(.agg []),tI],[tI],fun x=>F_eight_size ids x.1 x.2.1⟩
def an_eight_size:Ann:={ order:=Sw.look [],reg:=Sw.look [(1,([(5,tB)],[1]))],join:=Sw.look [],loop:=Sw.look [],blk:=Sw.lookL [(0,[])],res:=[(4,tI)],anys:=[] }
theorem l_eight_size:FnOk Tryz.prog 189 e_eight_size:=
 fn_ok mixed (l:=[]) trivial (An:=an_eight_size) Tryz.func189 (c:=Tryz.f189.body.getD .skip) (by kernel_rfl) Tryz.ntmps189 (by kernel_rfl) (fun _ _=>Tryz.call189 _ _) _ (by kernel_rfl) (fun x=>by kernel_rfl) (by kernel_rfl)
def e_eight_put:Shallow:=⟨[(.agg []),tS,tI],[tS],fun x=>F_eight_put ids x.1 x.2.1 x.2.2.1⟩
def an_eight_put:Ann:={ order:=Sw.look [(7,([[0,1,2,3,4,5,6,7,8,9,10,11,12,13]],[]))],reg:=Sw.look [],join:=Sw.look [],loop:=Sw.look [(9,([(1,tS),(9,tI)],[2]))],blk:=Sw.lookL [(0,[(1,tS)]),(1,[(1,tS)])],res:=[(6,tS)],anys:=[] }
theorem l_eight_put:FnOk Tryz.prog 188 e_eight_put:=
 fn_ok mixed (l:=[(189,e_eight_size)]) ⟨l_eight_size,trivial⟩ (An:=an_eight_put) Tryz.func188 (c:=Tryz.f188.body.getD .skip) (by kernel_rfl) Tryz.ntmps188 (by kernel_rfl) (fun _ _=>Tryz.call188 _ _) _ (by kernel_rfl) (fun x=>by kernel_rfl) (by kernel_rfl)
def e_sixteen_unit:Shallow:=⟨[(.agg [bI]),tS],[tI],fun x=>F_sixteen_unit ids x.1 x.2.1⟩
def an_sixteen_unit:Ann:={ order:=Sw.look [(1,([[0,1,2,3,4,5,6,7,8,9,10,11,12,13,14,15]],[]))],reg:=Sw.look [],join:=Sw.look [],loop:=Sw.look [],blk:=Sw.lookL [],res:=[(4,tI)],anys:=[] }
theorem l_sixteen_unit:FnOk Tryz.prog 197 e_sixteen_unit:=
 fn_ok mixed (l:=[]) trivial (An:=an_sixteen_unit) Tryz.func197 (c:=Tryz.f197.body.getD .skip) (by kernel_rfl) Tryz.ntmps197 (by kernel_rfl) (fun _ _=>Tryz.call197 _ _) _ (by kernel_rfl) (fun x=>by kernel_rfl) (by kernel_rfl)
def e_codec_high:Shallow:=⟨[tI],[tB],fun x=>F_codec_high ids x.1⟩
def an_codec_high:Ann:={ order:=Sw.look [],reg:=Sw.look [],join:=Sw.look [],loop:=Sw.look [],blk:=Sw.lookL [],res:=[(2,tB)],anys:=[] }
theorem l_codec_high:FnOk Tryz.prog 198 e_codec_high:=
 fn_ok mixed (l:=[]) trivial (An:=an_codec_high) Tryz.func198 (c:=Tryz.f198.body.getD .skip) (by kernel_rfl) Tryz.ntmps198 (by kernel_rfl) (fun _ _=>Tryz.call198 _ _) _ (by kernel_rfl) (fun x=>by kernel_rfl) (by kernel_rfl)
def e_codec_low:Shallow:=⟨[tI],[tB],fun x=>F_codec_low ids x.1⟩
def an_codec_low:Ann:={ order:=Sw.look [],reg:=Sw.look [],join:=Sw.look [],loop:=Sw.look [],blk:=Sw.lookL [],res:=[(2,tB)],anys:=[] }
theorem l_codec_low:FnOk Tryz.prog 199 e_codec_low:=
 fn_ok mixed (l:=[]) trivial (An:=an_codec_low) Tryz.func199 (c:=Tryz.f199.body.getD .skip) (by kernel_rfl) Tryz.ntmps199 (by kernel_rfl) (fun _ _=>Tryz.call199 _ _) _ (by kernel_rfl) (fun x=>by kernel_rfl) (by kernel_rfl)
def e_sixteen_first:Shallow:=⟨[(.agg [bI]),tS],[tI,tI],fun x=>F_sixteen_first ids x.1 x.2.1⟩
def an_sixteen_first:Ann:={ order:=Sw.look [(5,([[0,1,2,3,4]],[]))],reg:=Sw.look [(4,([(25,tB)],[1,2,6]))],join:=Sw.look [(8,([],[6]))],loop:=Sw.look [],blk:=Sw.lookL [],res:=[(4,tI),(5,tI)],anys:=[] }
theorem l_sixteen_first:FnOk Tryz.prog 192 e_sixteen_first:=
 fn_ok mixed (l:=[(197,e_sixteen_unit),(198,e_codec_high),(199,e_codec_low)]) ⟨l_sixteen_unit,l_codec_high,l_codec_low,trivial⟩ (An:=an_sixteen_first) Tryz.func192 (c:=Tryz.f192.body.getD .skip) (by kernel_rfl) Tryz.ntmps192 (by kernel_rfl) (fun _ _=>Tryz.call192 _ _) _ (by kernel_rfl) (fun x=>by kernel_rfl) (by kernel_rfl)
def e_sixteen_half:Shallow:=⟨[(.agg [bI]),tS,tI],[tS],fun x=>F_sixteen_half ids x.1 x.2.1 x.2.2.1⟩
def an_sixteen_half:Ann:={ order:=Sw.look [(2,([[0,1,2,3,4,5,6,7,8,9,10,11,12,13]],[(3,11)]))],reg:=Sw.look [],join:=Sw.look [],loop:=Sw.look [],blk:=Sw.lookL [],res:=[(6,tS)],anys:=[] }
theorem l_sixteen_half:FnOk Tryz.prog 200 e_sixteen_half:=
 fn_ok mixed (l:=[]) trivial (An:=an_sixteen_half) Tryz.func200 (c:=Tryz.f200.body.getD .skip) (by kernel_rfl) Tryz.ntmps200 (by kernel_rfl) (fun _ _=>Tryz.call200 _ _) _ (by kernel_rfl) (fun x=>by kernel_rfl) (by kernel_rfl)
def e_sixteen_put:Shallow:=⟨[(.agg [bI]),tS,tI],[tS],fun x=>F_sixteen_put ids x.1 x.2.1 x.2.2.1⟩
def an_sixteen_put:Ann:={ order:=Sw.look [(5,([[0,1,2,3,4,5,6,8,9,10,7,11,12]],[(0,7)]))],reg:=Sw.look [],join:=Sw.look [],loop:=Sw.look [],blk:=Sw.lookL [(0,[])],res:=[(6,tS)],anys:=[] }
theorem l_sixteen_put:FnOk Tryz.prog 195 e_sixteen_put:=
 fn_ok mixed (l:=[(200,e_sixteen_half)]) ⟨l_sixteen_half,trivial⟩ (An:=an_sixteen_put) Tryz.func195 (c:=Tryz.f195.body.getD .skip) (by kernel_rfl) Tryz.ntmps195 (by kernel_rfl) (fun _ _=>Tryz.call195 _ _) _ (by kernel_rfl) (fun x=>by kernel_rfl) (by kernel_rfl)
def e_sixteen_size:Shallow:=⟨[(.agg [bI]),tI],[tI],fun x=>F_sixteen_size ids x.1 x.2.1⟩
def an_sixteen_size:Ann:={ order:=Sw.look [],reg:=Sw.look [(1,([(5,tB)],[1]))],join:=Sw.look [],loop:=Sw.look [],blk:=Sw.lookL [(0,[])],res:=[(4,tI)],anys:=[] }
theorem l_sixteen_size:FnOk Tryz.prog 196 e_sixteen_size:=
 fn_ok mixed (l:=[]) trivial (An:=an_sixteen_size) Tryz.func196 (c:=Tryz.f196.body.getD .skip) (by kernel_rfl) Tryz.ntmps196 (by kernel_rfl) (fun _ _=>Tryz.call196 _ _) _ (by kernel_rfl) (fun x=>by kernel_rfl) (by kernel_rfl)
def e_latin_first:Shallow:=⟨[(.agg []),tS],[tI,tI],fun x=>F_latin_first ids x.1 x.2.1⟩
def an_latin_first:Ann:={ order:=Sw.look [],reg:=Sw.look [],join:=Sw.look [],loop:=Sw.look [],blk:=Sw.lookL [],res:=[(4,tI),(5,tI)],anys:=[] }
theorem l_latin_first:FnOk Tryz.prog 201 e_latin_first:=
 fn_ok mixed (l:=[]) trivial (An:=an_latin_first) Tryz.func201 (c:=Tryz.f201.body.getD .skip) (by kernel_rfl) Tryz.ntmps201 (by kernel_rfl) (fun _ _=>Tryz.call201 _ _) _ (by kernel_rfl) (fun x=>by kernel_rfl) (by kernel_rfl)
def e_latin_put:Shallow:=⟨[(.agg []),tS,tI],[tS],fun x=>F_latin_put ids x.1 x.2.1 x.2.2.1⟩
def an_latin_put:Ann:={ order:=Sw.look [],reg:=Sw.look [],join:=Sw.look [],loop:=Sw.look [],blk:=Sw.lookL [],res:=[(6,tS)],anys:=[] }
theorem l_latin_put:FnOk Tryz.prog 204 e_latin_put:=
 fn_ok mixed (l:=[]) trivial (An:=an_latin_put) Tryz.func204 (c:=Tryz.f204.body.getD .skip) (by kernel_rfl) Tryz.ntmps204 (by kernel_rfl) (fun _ _=>Tryz.call204 _ _) _ (by kernel_rfl) (fun x=>by kernel_rfl) (by kernel_rfl)
def e_latin_size:Shallow:=⟨[(.agg []),tI],[tI],fun x=>F_latin_size ids x.1 x.2.1⟩
def an_latin_size:Ann:={ order:=Sw.look [],reg:=Sw.look [(1,([(10,tB)],[]))],join:=Sw.look [],loop:=Sw.look [],blk:=Sw.lookL [],res:=[(4,tI)],anys:=[] }
theorem l_latin_size:FnOk Tryz.prog 205 e_latin_size:=
 fn_ok mixed (l:=[]) trivial (An:=an_latin_size) Tryz.func205 (c:=Tryz.f205.body.getD .skip) (by kernel_rfl) Tryz.ntmps205 (by kernel_rfl) (fun _ _=>Tryz.call205 _ _) _ (by kernel_rfl) (fun x=>by kernel_rfl) (by kernel_rfl)
end
end Go.Proofs.YtncolficnfcdcaaGreat
