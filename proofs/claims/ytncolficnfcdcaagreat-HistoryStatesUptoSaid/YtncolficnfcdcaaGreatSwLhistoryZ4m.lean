
/- Steps. -/
import Derived.Test.YtncolficnfcdcaaGreatSwLhistoryZ3m
set_option linter.unusedVariables false
set_option linter.unusedSimpArgs false
set_option maxRecDepth 100000
set_option maxHeartbeats 4000000
namespace Go.Proofs.YtncolficnfcdcaaGreat
open Go Go.Sw Tryz
section
noncomputable section
noncomputable def Gm:aO:=⟨[(.one .any),tP,tP],[],λx=>Ac ids x.1 x.2.1 x.2.2.1⟩
theorem Af:bZ prog 66 Gm:=fo [] trivial (m0 [] [0,6]) func66 (by kernel_rfl) call66 λx=>by kernel_rfl
noncomputable def Ep:aO:=⟨[tP,tI,tP,tP],[tB],λx=>wL ids x.1 x.2.1 x.2.2.1 x.2.2.2.1⟩
theorem wQ:bZ prog 67 Ep:=fo [(68,gO)] ⟨iP,trivial⟩ (mA [(4,([[0,1,2,3,4,5,6,7,8,9,10,11,12]],[])),(6,([[0,1,2,3,4,5,6,7,8,9,10,11]],[])),(8,([[0,1,2,3,4,5,6,7,8,9,10,11]],[]))] [(1,([(17,tB)],[0,1,2,3])),(4,([(35,tB)],[0,1,2,3,7])),(6,([(47,tB)],[0,1,2,7]))] [] [] [] [(6,tB)] [27,40,48]) func67 (by kernel_rfl) call67 λx=>by kernel_rfl
noncomputable def EO:aO:=⟨[(.one (.int .u8))],[tI,(.one (.int .u8)),(.one (.int .u8))],λx=>uU ids x.1⟩
theorem MV:bZ prog 191 EO:=fo [] trivial (mA [] [] [] [] [(0,[])] [(2,tI),(3,(.one (.int .u8))),(4,(.one (.int .u8)))] []) func191 (by kernel_rfl) call191 λx=>by kernel_rfl
noncomputable def Kt:aO:=⟨[tS],[tI,tI],λx=>By ids x.1⟩
theorem SJ:bZ prog 190 Kt:=fo [(191,EO)] ⟨MV,trivial⟩ (mA [] [(4,([(36,tB)],[0,4])),(7,([(54,tB)],[0,4,7]))] [] [(7,([(7,tI)],[0,4]))] [(0,[(7,tI)]),(1,[(7,tI)])] [(2,tI),(3,tI)] []) func190 (by kernel_rfl) call190 λx=>by kernel_rfl
noncomputable def Od:aO:=⟨[(.agg []),tS],[tI,tI],λx=>xW ids x.1 x.2.1⟩
theorem Ou:bZ prog 185 Od:=fo [(190,Kt)] ⟨SJ,trivial⟩ (mA [] [(2,([(22,tB)],[1,7]))] [(12,([(8,tI)],[1,7]))] [(13,([(8,tI),(49,tI)],[7,47,48]))] [(0,[(8,tI)]),(1,[(8,tI)]),(2,[(8,tI)])] [(4,tI),(5,tI)] []) func185 (by kernel_rfl) call185 λx=>by kernel_rfl
noncomputable def Ie:aO:=⟨[(.agg []),tI],[tI],λx=>rJ ids x.1 x.2.1⟩
theorem IB:bZ prog 189 Ie:=fo [] trivial (mA [] [(1,([(5,tB)],[1]))] [] [] [(0,[])] [(4,tI)] []) func189 (by kernel_rfl) call189 λx=>by kernel_rfl
noncomputable def R7:aO:=⟨[(.agg []),tS,tI],[tS],λx=>Bz ids x.1 x.2.1 x.2.2.1⟩
theorem SK:bZ prog 188 R7:=fo [(189,Ie)] ⟨IB,trivial⟩ (mA [(7,([[0,1,2,3,4,5,6,7,8,9,10,11,12,13]],[]))] [] [] [(9,([(1,tS),(9,tI)],[2]))] [(0,[(1,tS)]),(1,[(1,tS)])] [(6,tS)] []) func188 (by kernel_rfl) call188 λx=>by kernel_rfl
noncomputable def E4:aO:=⟨[(.agg [bI]),tS],[tI],λx=>qX ids x.1 x.2.1⟩
theorem Nc:bZ prog 197 E4:=fo [] trivial (mA [(1,([[0,1,2,3,4,5,6,7,8,9,10,11,12,13,14,15]],[]))] [] [] [] [] [(4,tI)] []) func197 (by kernel_rfl) call197 λx=>by kernel_rfl
noncomputable def Ic:aO:=⟨[tI],[tB],λx=>Al ids x.1⟩
theorem Qm:bZ prog 198 Ic:=fo [] trivial (m0 [(2,tB)] []) func198 (by kernel_rfl) call198 λx=>by kernel_rfl
noncomputable def Ks:aO:=⟨[tI],[tB],λx=>Bx ids x.1⟩
theorem SI:bZ prog 199 Ks:=fo [] trivial (m0 [(2,tB)] []) func199 (by kernel_rfl) call199 λx=>by kernel_rfl
noncomputable def K4:aO:=⟨[(.agg [bI]),tS],[tI,tI],λx=>tM ids x.1 x.2.1⟩
theorem Lf:bZ prog 192 K4:=fo [(197,E4),(198,Ic),(199,Ks)] ⟨Nc,Qm,SI,trivial⟩ (mA [(5,([[0,1,2,3,4]],[]))] [(4,([(25,tB)],[1,2,6]))] [(8,([],[6]))] [] [] [(4,tI),(5,tI)] []) func192 (by kernel_rfl) call192 λx=>by kernel_rfl
noncomputable def E2:aO:=⟨[(.agg [bI]),tS,tI],[tS],λx=>nX ids x.1 x.2.1 x.2.2.1⟩
theorem Na:bZ prog 200 E2:=fo [] trivial (mA [(2,([[0,1,2,3,4,5,6,7,8,9,10,11,12,13]],[(3,11)]))] [] [] [] [] [(6,tS)] []) func200 (by kernel_rfl) call200 λx=>by kernel_rfl
noncomputable def Of:aO:=⟨[(.agg [bI]),tS,tI],[tS],λx=>yA ids x.1 x.2.1 x.2.2.1⟩
theorem OB:bZ prog 195 Of:=fo [(200,E2)] ⟨Na,trivial⟩ (mA [(5,([[0,1,2,3,4,5,6,8,9,10,7,11,12]],[(0,7)]))] [] [] [] [(0,[])] [(6,tS)] []) func195 (by kernel_rfl) call195 λx=>by kernel_rfl
noncomputable def MA:aO:=⟨[(.agg [bI]),tI],[tI],λx=>qW ids x.1 x.2.1⟩
theorem Nb:bZ prog 196 MA:=fo [] trivial (mA [] [(1,([(5,tB)],[1]))] [] [] [(0,[])] [(4,tI)] []) func196 (by kernel_rfl) call196 λx=>by kernel_rfl
noncomputable def Oe:aO:=⟨[(.agg []),tS],[tI,tI],λx=>xX ids x.1 x.2.1⟩
theorem Ov:bZ prog 201 Oe:=fo [] trivial (m0 [(4,tI),(5,tI)] []) func201 (by kernel_rfl) call201 λx=>by kernel_rfl
noncomputable def R9:aO:=⟨[(.agg []),tS,tI],[tS],λx=>BA ids x.1 x.2.1 x.2.2.1⟩
theorem SL:bZ prog 204 R9:=fo [] trivial (m0 [(6,tS)] []) func204 (by kernel_rfl) call204 λx=>by kernel_rfl
noncomputable def PT:aO:=⟨[(.agg []),tI],[tI],λx=>uW ids x.1 x.2.1⟩
theorem Qn:bZ prog 205 PT:=fo [] trivial (mA [] [(1,([(10,tB)],[]))] [] [] [] [(4,tI)] []) func205 (by kernel_rfl) call205 λx=>by kernel_rfl
end
end
end Go.Proofs.YtncolficnfcdcaaGreat
