
/- Steps. -/
import Derived.Test.YtncolficnfcdcaaGreatSwLhistoryZ3m
set_option linter.unusedVariables false
set_option linter.unusedSimpArgs false
set_option maxRecDepth 100000
set_option maxHeartbeats 4000000
namespace Go.Proofs.YtncolficnfcdcaaGreat
open Go Go.Sw Tryz
section
noncomputable section
noncomputable def M4:aO:=⟨[(.agg [bI,bI]),(.agg [bI,bI])],[tI],λx=>uZ ids x.1 x.2.1⟩
theorem Nr:cB prog 63 M4:=fo [] trivial (m0 [(4,tI)] []) func63 (by kernel_rfl) call63 λx=>by kernel_rfl
noncomputable def GI:aO:=⟨[(.one .any),tP,tP],[],λx=>At ids x.1 x.2.1 x.2.2.1⟩
theorem Ax:cB prog 66 GI:=fo [] trivial (m0 [] [0,6]) func66 (by kernel_rfl) call66 λx=>by kernel_rfl
noncomputable def EM:aO:=⟨[tP,tI,tP,tP],[tB],λx=>wZ ids x.1 x.2.1 x.2.2.1 x.2.2.2.1⟩
theorem xG:cB prog 67 EM:=fo [(68,iD)] ⟨jE,trivial⟩ (mA [(4,([[0,1,2,3,4,5,6,7,8,9,10,11,12]],[])),(6,([[0,1,2,3,4,5,6,7,8,9,10,11]],[])),(8,([[0,1,2,3,4,5,6,7,8,9,10,11]],[]))] [(1,([(17,tB)],[0,1,2,3])),(4,([(35,tB)],[0,1,2,3,7])),(6,([(47,tB)],[0,1,2,7]))] [] [] [] [(6,tB)] [27,40,48]) func67 (by kernel_rfl) call67 λx=>by kernel_rfl
noncomputable def Fe:aO:=⟨[(.one (.int .u8))],[tI,(.one (.int .u8)),(.one (.int .u8))],λx=>vG ids x.1⟩
theorem Ny:cB prog 191 Fe:=fo [] trivial (mA [] [] [] [] [(0,[])] [(2,tI),(3,(.one (.int .u8))),(4,(.one (.int .u8)))] []) func191 (by kernel_rfl) call191 λx=>by kernel_rfl
noncomputable def KY:aO:=⟨[tS],[tI,tI],λx=>BO ids x.1⟩
theorem To:cB prog 190 KY:=fo [(191,Fe)] ⟨Ny,trivial⟩ (mA [] [(4,([(36,tB)],[0,4])),(7,([(54,tB)],[0,4,7]))] [] [(7,([(7,tI)],[0,4]))] [(0,[(7,tI)]),(1,[(7,tI)])] [(2,tI),(3,tI)] []) func190 (by kernel_rfl) call190 λx=>by kernel_rfl
noncomputable def OR:aO:=⟨[(.agg []),tS],[tI,tI],λx=>yM ids x.1 x.2.1⟩
theorem O4:cB prog 185 OR:=fo [(190,KY)] ⟨To,trivial⟩ (mA [] [(2,([(22,tB)],[1,7]))] [(12,([(8,tI)],[1,7]))] [(13,([(8,tI),(49,tI)],[7,47,48]))] [(0,[(8,tI)]),(1,[(8,tI)]),(2,[(8,tI)])] [(4,tI),(5,tI)] []) func185 (by kernel_rfl) call185 λx=>by kernel_rfl
noncomputable def IF:aO:=⟨[(.agg []),tI],[tI],λx=>rX ids x.1 x.2.1⟩
theorem I1:cB prog 189 IF:=fo [] trivial (mA [] [(1,([(5,tB)],[1]))] [] [] [(0,[])] [(4,tI)] []) func189 (by kernel_rfl) call189 λx=>by kernel_rfl
noncomputable def SU:aO:=⟨[(.agg []),tS,tI],[tS],λx=>BP ids x.1 x.2.1 x.2.2.1⟩
theorem Tp:cB prog 188 SU:=fo [(189,IF)] ⟨I1,trivial⟩ (mA [(7,([[0,1,2,3,4,5,6,7,8,9,10,11,12,13]],[]))] [] [] [(9,([(1,tS),(9,tI)],[2]))] [(0,[(1,tS)]),(1,[(1,tS)])] [(6,tS)] []) func188 (by kernel_rfl) call188 λx=>by kernel_rfl
noncomputable def Fs:aO:=⟨[(.agg [bI]),tS],[tI],λx=>rI ids x.1 x.2.1⟩
theorem NK:cB prog 197 Fs:=fo [] trivial (mA [(1,([[0,1,2,3,4,5,6,7,8,9,10,11,12,13,14,15]],[]))] [] [] [] [] [(4,tI)] []) func197 (by kernel_rfl) call197 λx=>by kernel_rfl
noncomputable def IE:aO:=⟨[tI],[tB],λx=>AE ids x.1⟩
theorem QU:cB prog 198 IE:=fo [] trivial (m0 [(2,tB)] []) func198 (by kernel_rfl) call198 λx=>by kernel_rfl
noncomputable def KX:aO:=⟨[tI],[tB],λx=>BN ids x.1⟩
theorem Tn:cB prog 199 KX:=fo [] trivial (m0 [(2,tB)] []) func199 (by kernel_rfl) call199 λx=>by kernel_rfl
noncomputable def Lx:aO:=⟨[(.agg [bI]),tS],[tI,tI],λx=>uB ids x.1 x.2.1⟩
theorem LI:cB prog 192 Lx:=fo [(197,Fs),(198,IE),(199,KX)] ⟨NK,QU,Tn,trivial⟩ (mA [(5,([[0,1,2,3,4]],[]))] [(4,([(25,tB)],[1,2,6]))] [(8,([],[6]))] [] [] [(4,tI),(5,tI)] []) func192 (by kernel_rfl) call192 λx=>by kernel_rfl
noncomputable def Fq:aO:=⟨[(.agg [bI]),tS,tI],[tS],λx=>oH ids x.1 x.2.1 x.2.2.1⟩
theorem NI:cB prog 200 Fq:=fo [] trivial (mA [(2,([[0,1,2,3,4,5,6,7,8,9,10,11,12,13]],[(3,11)]))] [] [] [] [] [(6,tS)] []) func200 (by kernel_rfl) call200 λx=>by kernel_rfl
noncomputable def OT:aO:=⟨[(.agg [bI]),tS,tI],[tS],λx=>yQ ids x.1 x.2.1 x.2.2.1⟩
theorem Pa:cB prog 195 OT:=fo [(200,Fq)] ⟨NI,trivial⟩ (mA [(5,([[0,1,2,3,4,5,6,8,9,10,7,11,12]],[(0,7)]))] [] [] [] [(0,[])] [(6,tS)] []) func195 (by kernel_rfl) call195 λx=>by kernel_rfl
noncomputable def Na:aO:=⟨[(.agg [bI]),tI],[tI],λx=>rH ids x.1 x.2.1⟩
theorem NJ:cB prog 196 Na:=fo [] trivial (mA [] [(1,([(5,tB)],[1]))] [] [] [(0,[])] [(4,tI)] []) func196 (by kernel_rfl) call196 λx=>by kernel_rfl
noncomputable def OS:aO:=⟨[(.agg []),tS],[tI,tI],λx=>yN ids x.1 x.2.1⟩
theorem O5:cB prog 201 OS:=fo [] trivial (m0 [(4,tI),(5,tI)] []) func201 (by kernel_rfl) call201 λx=>by kernel_rfl
noncomputable def SW:aO:=⟨[(.agg []),tS,tI],[tS],λx=>BQ ids x.1 x.2.1 x.2.2.1⟩
theorem Tq:cB prog 204 SW:=fo [] trivial (m0 [(6,tS)] []) func204 (by kernel_rfl) call204 λx=>by kernel_rfl
noncomputable def Qs:aO:=⟨[(.agg []),tI],[tI],λx=>vJ ids x.1 x.2.1⟩
theorem QV:cB prog 205 Qs:=fo [] trivial (mA [] [(1,([(10,tB)],[]))] [] [] [] [(4,tI)] []) func205 (by kernel_rfl) call205 λx=>by kernel_rfl
end
end
end Go.Proofs.YtncolficnfcdcaaGreat
