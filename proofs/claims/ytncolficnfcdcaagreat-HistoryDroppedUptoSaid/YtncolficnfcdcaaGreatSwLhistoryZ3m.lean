/-
  Each function of the cut does what its shallow program says (the text is printed by program).
-/
import Derived.Test.YtncolficnfcdcaaGreatSwLhistoryZ2m
set_option maxRecDepth 100000
set_option maxHeartbeats 4000000
set_option linter.unusedVariables false
namespace Go.Proofs.YtncolficnfcdcaaGreat
open Go Go.Sw
noncomputable section
def e_Text_Atoms_1:Shallow:=⟨[tI,tI,tP],[],fun x=>F_Text_Atoms_1 ids x.1 x.2.1 x.2.2.1⟩
def an_Text_Atoms_1:Ann:={ order:=Sw.look [],reg:=Sw.look [],join:=Sw.look [],loop:=Sw.look [],blk:=Sw.lookL [],res:=[],anys:=[] }
theorem l_Text_Atoms_1:FnOk Tryz.prog 60 e_Text_Atoms_1:=
 fn_ok mixed (l:=[]) trivial (An:=an_Text_Atoms_1) Tryz.func60 (c:=Tryz.f60.body.getD .skip) (by kernel_rfl) Tryz.ntmps60 (by kernel_rfl) (fun _ _=>Tryz.call60 _ _) _ (by kernel_rfl) (fun x=>by kernel_rfl) (by kernel_rfl)
def e_Text_Tags_1:Shallow:=⟨[tI,tI,tP],[],fun x=>F_Text_Tags_1 ids x.1 x.2.1 x.2.2.1⟩
def an_Text_Tags_1:Ann:={ order:=Sw.look [],reg:=Sw.look [],join:=Sw.look [],loop:=Sw.look [],blk:=Sw.lookL [],res:=[],anys:=[] }
theorem l_Text_Tags_1:FnOk Tryz.prog 61 e_Text_Tags_1:=
 fn_ok mixed (l:=[]) trivial (An:=an_Text_Tags_1) Tryz.func61 (c:=Tryz.f61.body.getD .skip) (by kernel_rfl) Tryz.ntmps61 (by kernel_rfl) (fun _ _=>Tryz.call61 _ _) _ (by kernel_rfl) (fun x=>by kernel_rfl) (by kernel_rfl)
end
end Go.Proofs.YtncolficnfcdcaaGreat
