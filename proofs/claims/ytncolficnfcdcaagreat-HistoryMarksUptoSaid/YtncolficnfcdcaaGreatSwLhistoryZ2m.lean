
/- Steps. -/
import Derived.Test.YtncolficnfcdcaaGreatSwLhistoryZ1m
set_option linter.unusedVariables false
set_option linter.unusedSimpArgs false
set_option maxRecDepth 100000
set_option maxHeartbeats 4000000
namespace Go.Proofs.YtncolficnfcdcaaGreat
open Go Go.Sw Tryz
section
noncomputable section
noncomputable def iE:aO:=⟨[tS,tI,tI],[tS],λx=>dX ids x.1 x.2.1 x.2.2.1⟩
theorem nG:cB prog 64 iE:=fo [] trivial (mA [(5,([[0,1,2,3,4,5,6,7]],[]))] [] [] [] [] [(6,tS)] []) func64 (by kernel_rfl) call64 λx=>by kernel_rfl
noncomputable def M0:aO:=⟨[tP,tI],[tI],λx=>uG ids x.1 x.2.1⟩
theorem U7:cB prog 41 M0:=fo [(49,tN),(54,B0),(52,E8),(64,iE)] ⟨yW,Le,Lf,nG,trivial⟩ (mA [(10,([[0,1,2,3,5,6,7,8,9,4,10,11,12,13,14,15]],[(9,4)])),(14,([[0,1,2,3,4,5,6,7,8,9]],[]))] [] [(16,([],[]))] [] [] [(4,tI)] []) func41 (by kernel_rfl) call41 λx=>by kernel_rfl
noncomputable def B1:aO:=⟨[tP,tP],[tI],λx=>uM ids x.1 x.2.1⟩
theorem FD:cB prog 42 B1:=fo [] trivial (mA [] [(1,([(14,tB)],[0,1]))] [] [] [] [(4,tI)] []) func42 (by kernel_rfl) call42 λx=>by kernel_rfl
noncomputable def B4:aO:=⟨[tS],[tS],λx=>qL ids x.1⟩
theorem I2:cB prog 44 B4:=fo [] trivial (mA [] [] [] [(4,([(4,tI),(12,tI)],[3,10,11]))] [(0,[]),(1,[(4,tI)])] [(2,tS)] []) func44 (by kernel_rfl) call44 λx=>by kernel_rfl
noncomputable def KU:aO:=⟨[tP],[tI,tI],λx=>nC ids x.1⟩
theorem Tk:cB prog 14 KU:=fo [(42,B1),(44,B4),(43,yT)] ⟨FD,I2,Cv,trivial⟩ (mA [(7,([[0,1,2,3,4,5,6,7,8,9,10,11,12,13,14,15,16,17,18,19,20,21]],[(5,14),(5,15),(12,14)])),(8,([[0,1,2,3,4,5,6,7,8]],[]))] [] [] [(10,([(6,tI)],[0,5]))] [(0,[]),(1,[])] [(2,tI),(3,tI)] []) func14 (by kernel_rfl) call14 λx=>by kernel_rfl
noncomputable def pZ:aO:=⟨[tS,tS],[tB],λx=>jJ ids x.1 x.2.1⟩
theorem uF:cB prog 45 pZ:=fo [] trivial (mA [(6,([[0,1,2,3,4,5,6,7,8]],[]))] [] [] [(4,([(5,tI)],[0,1]))] [(0,[]),(1,[])] [(4,tB)] []) func45 (by kernel_rfl) call45 λx=>by kernel_rfl
noncomputable def KT:aO:=⟨[tP],[tI,tI],λx=>nB ids x.1⟩
theorem Tj:cB prog 20 KT:=fo [(42,B1),(43,yT)] ⟨FD,Cv,trivial⟩ (mA [(7,([[0,1,2,3,4,5,6,7,8,9,10,11,12,13,14,15,16,17,18,19,20,21]],[(5,14),(5,15),(12,14)])),(8,([[0,1,2,3,4,5,6,7,8]],[]))] [] [] [(10,([(62,tI)],[0,5,60,61]))] [(0,[]),(1,[])] [(2,tI),(3,tI)] []) func20 (by kernel_rfl) call20 λx=>by kernel_rfl
noncomputable def CW:aO:=⟨[tI],[tB],λx=>rY ids x.1⟩
theorem Kd:cB prog 48 CW:=fo [] trivial (mA [] [(1,([(2,tB)],[]))] [] [] [] [(2,tB)] []) func48 (by kernel_rfl) call48 λx=>by kernel_rfl
noncomputable def E5:aO:=⟨[tP,tI,tI],[tI],λx=>qZ ids x.1 x.2.1 x.2.2.1⟩
theorem Ns:cB prog 21 E5:=fo [(48,CW),(49,tN)] ⟨Kd,yW,trivial⟩ (m0 [(6,tI)] []) func21 (by kernel_rfl) call21 λx=>by kernel_rfl
noncomputable def Iz:aO:=⟨[tP,tS],[tI],λx=>vC ids x.1 x.2.1⟩
theorem QP:cB prog 24 Iz:=fo [(49,tN),(51,kG)] ⟨yW,nN,trivial⟩ (mA [] [] [] [(2,([(9,tI)],[0,1,7,8]))] [(0,[]),(1,[])] [(4,tI)] []) func24 (by kernel_rfl) call24 λx=>by kernel_rfl
noncomputable def KR:aO:=⟨[tP],[tI,tI],λx=>qY ids x.1⟩
theorem Th:cB prog 28 KR:=fo [(54,B0),(42,B1)] ⟨Le,FD,trivial⟩ (mA [(4,([[0,1,2,3,4,5,6,7,8,9,10,11,12]],[])),(5,([[0,1,2,3,4,5,6,7,8,9,10,11,12,13,14,15,16,17,18,19,20,21]],[]))] [] [] [] [] [(2,tI),(3,tI)] []) func28 (by kernel_rfl) call28 λx=>by kernel_rfl
noncomputable def KZ:aO:=⟨[tI,tS],[tB],λx=>BR ids x.1 x.2.1⟩
theorem Tt:cB prog 31 KZ:=fo [] trivial (mA [] [(7,([(21,tB)],[1,5,6,7,8,9,10])),(23,([(4,tB)],[]))] [(8,([(5,tI),(6,tI),(7,tI),(8,tI),(9,tI)],[1,10]))] [(7,([(5,tI),(6,tI),(7,tI),(8,tI),(9,tI),(10,tI)],[1])),(15,([(5,tI),(6,tI),(11,tI)],[1,7,8,9,10]))] [(0,[(5,tI),(6,tI),(7,tI),(8,tI),(9,tI)]),(1,[(5,tI),(6,tI),(7,tI),(8,tI),(9,tI)]),(2,[(5,tI),(6,tI),(8,tI),(9,tI)]),(3,[(5,tI),(6,tI)]),(4,[(5,tI),(6,tI)])] [(4,tB)] []) func31 (by kernel_rfl) call31 λx=>by kernel_rfl
noncomputable def IM:aO:=⟨[tI],[tB],λx=>AI ids x.1⟩
theorem Q2:cB prog 138 IM:=fo [] trivial (mA [] [(1,([(2,tB)],[]))] [] [] [] [(2,tB)] []) func138 (by kernel_rfl) call138 λx=>by kernel_rfl
noncomputable def IN:aO:=⟨[tS,tI,tI],[tI],λx=>AJ ids x.1 x.2.1 x.2.2.1⟩
theorem Q3:cB prog 159 IN:=fo [] trivial (mA [(2,([[0,1,2,3,4,5,6,7,8,9]],[]))] [] [] [(4,([(8,tI),(9,tI)],[0,1,2]))] [(0,[(8,tI)]),(1,[(8,tI)])] [(6,tI)] []) func159 (by kernel_rfl) call159 λx=>by kernel_rfl
noncomputable def Cu:aO:=⟨[tI],[tB],λx=>tF ids x.1⟩
theorem G9:cB prog 160 Cu:=fo [] trivial (mA [] [(1,([(2,tB)],[]))] [] [] [] [(2,tB)] []) func160 (by kernel_rfl) call160 λx=>by kernel_rfl
noncomputable def DL:aO:=⟨[tI],[tS],λx=>vT ids x.1⟩
theorem I7:cB prog 161 DL:=fo [] trivial (mA [] [] [] [] [(0,[])] [(2,tS)] []) func161 (by kernel_rfl) call161 λx=>by kernel_rfl
noncomputable def GZ:aO:=⟨[tS,tI,tS],[tB],λx=>tG ids x.1 x.2.1 x.2.2.1⟩
theorem O6:cB prog 162 GZ:=fo [] trivial (mA [(6,([[0,1,2,3,4,5,6,7,8,9,10]],[]))] [] [] [(4,([(7,tI)],[0,1,2]))] [(0,[]),(1,[])] [(6,tB)] []) func162 (by kernel_rfl) call162 λx=>by kernel_rfl
noncomputable def Fl:aO:=⟨[tS,tI],[tI,tI],λx=>vV ids x.1 x.2.1⟩
theorem NF:cB prog 152 Fl:=fo [(159,IN),(160,Cu),(161,DL),(162,GZ)] ⟨Q3,G9,I7,O6,trivial⟩ (mA [] [(2,([(20,tB)],[0,1,6])),(9,([(43,tB)],[0,1,6,7]))] [(3,([],[0,1,6]))] [(2,([(6,tI)],[0,1]))] [(0,[]),(1,[])] [(4,tI),(5,tI)] []) func152 (by kernel_rfl) call152 λx=>by kernel_rfl
noncomputable def G1:aO:=⟨[tI,tS,tI],[tI],λx=>tH ids x.1 x.2.1 x.2.2.1⟩
theorem O7:cB prog 153 G1:=fo [] trivial (mA [(4,([[0,1,2,3,4,5,6,7,8,9,10,11,12,13]],[])),(5,([[0,1,2,3,4,5,6,7,8,9,10,11,12,13]],[]))] [] [] [] [] [(6,tI)] []) func153 (by kernel_rfl) call153 λx=>by kernel_rfl
noncomputable def Pu:aO:=⟨[tI,tS,tI],[tI,tI],λx=>F7 ids x.1 x.2.1 x.2.2.1⟩
theorem XF:cB prog 139 Pu:=fo [(152,Fl),(153,G1)] ⟨NF,O7,trivial⟩ (mA [] [(9,([(54,tB)],[8,9]))] [] [] [] [(6,tI),(7,tI)] []) func139 (by kernel_rfl) call139 λx=>by kernel_rfl
noncomputable def K3:aO:=⟨[tI,tS,tI],[tI,tI],λx=>BU ids x.1 x.2.1 x.2.2.1⟩
theorem Tw:cB prog 105 K3:=fo [(138,IM),(139,Pu)] ⟨Q2,XF,trivial⟩ (mA [] [(2,([(22,tB)],[0,1,2]))] [] [] [] [(6,tI),(7,tI)] []) func105 (by kernel_rfl) call105 λx=>by kernel_rfl
noncomputable def Fm:aO:=⟨[tI,tS,tI],[tP,tI],λx=>zH ids x.1 x.2.1 x.2.2.1⟩
theorem Lj:cB prog 71 Fm:=fo [(105,K3)] ⟨Tw,trivial⟩ (mA [] [(1,([(17,tB)],[0,1,2])),(3,([(23,tB)],[0,1,2]))] [] [(9,([(9,tI)],[0,1,8]))] [(0,[]),(1,[(9,tI)])] [(6,tP),(7,tI)] []) func71 (by kernel_rfl) call71 λx=>by kernel_rfl
noncomputable def K5:aO:=⟨[tI,tS,tI,tI],[tP,tI],λx=>BV ids x.1 x.2.1 x.2.2.1 x.2.2.2.1⟩
theorem Tz:cB prog 55 K5:=fo [(71,Fm)] ⟨Lj,trivial⟩ (mA [(10,([[0,1,2,3,4,5,6,7,8,9,10,11,12,13]],[(4,9)]))] [(1,([(19,tB)],[0,1,2,3]))] [] [(8,([(13,tI)],[1,12]))] [(0,[]),(1,[])] [(8,tP),(9,tI)] []) func55 (by kernel_rfl) call55 λx=>by kernel_rfl
noncomputable def Cs:aO:=⟨[(.agg [bI,bI,bI, .sl])],[tP,tB],λx=>tD ids x.1⟩
theorem G8:cB prog 33 Cs:=fo [(35,Ff),(55,K5),(15,DJ),(18,E6)] ⟨Nz,Tz,Hw,Lc,trivial⟩ (mA [(12,([[0,1,2,3,4,5,6,7,8,9,10,11,12,13,14]],[])),(14,([[0,2,1,3,4,5,6,7,8,9,10,11,12,13,14,15,16,17,18,19,20]],[]))] [(14,([(90,tB)],[4,5,8,10])),(21,([(111,tB)],[5,8,10]))] [] [(4,([(5,tS),(6,tI)],[1,4])),(9,([(7,tI)],[1,4,5])),(17,([(12,tI)],[5,8,10])),(24,([(13,tI)],[5,8,10]))] [(0,[(5,tS)]),(1,[(5,tS)]),(2,[]),(3,[]),(4,[]),(5,[]),(6,[]),(7,[])] [(2,tP),(3,tB)] []) func33 (by kernel_rfl) call33 λx=>by kernel_rfl
noncomputable def nE:aO:=⟨[tP,tI],[tB],λx=>jC ids x.1 x.2.1⟩
theorem qR:cB prog 106 nE:=fo [] trivial (mA [] [(1,([(4,tB)],[]))] [] [] [] [(4,tB)] []) func106 (by kernel_rfl) call106 λx=>by kernel_rfl
noncomputable def IQ:aO:=⟨[tS],[tS],λx=>AK ids x.1⟩
theorem Q5:cB prog 107 IQ:=fo [] trivial (mA [] [] [] [(3,([(3,tS),(4,tI)],[0]))] [(0,[(3,tS)]),(1,[(3,tS)])] [(2,tS)] []) func107 (by kernel_rfl) call107 λx=>by kernel_rfl
noncomputable def B8:aO:=⟨[tS],[tS],λx=>zI ids x.1⟩
theorem FI:cB prog 108 B8:=fo [] trivial (mA [] [] [] [(3,([(3,tS),(4,tI)],[0]))] [(0,[(3,tS)]),(1,[(3,tS)])] [(2,tS)] []) func108 (by kernel_rfl) call108 λx=>by kernel_rfl
noncomputable def CX:aO:=⟨[tP,tI],[tI],λx=>oF ids x.1 x.2.1⟩
theorem Ke:cB prog 72 CX:=fo [(106,nE),(107,IQ),(108,B8)] ⟨qR,Q5,FI,trivial⟩ (m0 [(4,tI)] []) func72 (by kernel_rfl) call72 λx=>by kernel_rfl
noncomputable def Es:aO:=⟨[tS],[tS],λx=>Ac ids x.1⟩
theorem Ly:cB prog 116 Es:=fo [] trivial (mA [] [] [] [(3,([(3,tS),(4,tI)],[0]))] [(0,[(3,tS)]),(1,[(3,tS)])] [(2,tS)] []) func116 (by kernel_rfl) call116 λx=>by kernel_rfl
noncomputable def Ag:aO:=⟨[tS],[tS],λx=>pR ids x.1⟩
theorem EH:cB prog 81 Ag:=fo [(116,Es)] ⟨Ly,trivial⟩ (mA [] [] [] [(3,([(3,tS),(4,tI)],[0])),(8,([(5,tI)],[3]))] [(0,[(3,tS)]),(1,[(3,tS)]),(2,[]),(3,[])] [(2,tS)] []) func81 (by kernel_rfl) call81 λx=>by kernel_rfl
noncomputable def K2:aO:=⟨[tS,tS],[tS,tS],λx=>BT ids x.1 x.2.1⟩
theorem Tv:cB prog 73 K2:=fo [(81,Ag)] ⟨EH,trivial⟩ (mA [(8,([[0,1,2,3,4,5,6,7,8,9,10,11,12,13,14,15,16,17,18,19,20,21,22]],[]))] [] [] [(4,([(6,tS),(7,tS),(8,tI)],[1])),(10,([(6,tS),(10,tI)],[1,7])),(15,([(11,tI)],[6,7]))] [(0,[(6,tS),(7,tS)]),(1,[(6,tS),(7,tS)]),(2,[(6,tS)]),(3,[(6,tS)]),(4,[]),(5,[])] [(4,tS),(5,tS)] []) func73 (by kernel_rfl) call73 λx=>by kernel_rfl
noncomputable def Fj:aO:=⟨[tI,tI],[tB],λx=>zF ids x.1 x.2.1⟩
theorem Lh:cB prog 154 Fj:=fo [(160,Cu)] ⟨G9,trivial⟩ (mA [] [(3,([(4,tB)],[])),(6,([(4,tB)],[])),(8,([(4,tB)],[]))] [(9,([],[]))] [] [(0,[])] [(4,tB)] []) func154 (by kernel_rfl) call154 λx=>by kernel_rfl
noncomputable def Bi:aO:=⟨[tP,tS],[tI],λx=>pH ids x.1 x.2.1⟩
theorem Hy:cB prog 140 Bi:=fo [(154,Fj)] ⟨Lh,trivial⟩ (mA [(8,([[0,1,2,3,4,5,6,7,8,9,10,11,12,13,14,15,16,17,18,19,20]],[])),(17,([[0,1,2,3,4,5,6,7,8,9,10,11,12,13]],[]))] [(8,([(43,tB)],[0,1,6,7]))] [] [(5,([(5,tI),(6,tI)],[0,1])),(12,([(8,tI)],[0,1])),(15,([(9,tI)],[0,1,8]))] [(0,[]),(1,[(5,tI)]),(2,[]),(3,[]),(4,[]),(5,[])] [(4,tI)] []) func140 (by kernel_rfl) call140 λx=>by kernel_rfl
noncomputable def K4:aO:=⟨[tI,tI],[tS],λx=>uN ids x.1 x.2.1⟩
theorem Tx:cB prog 163 K4:=fo [] trivial (m0 [(4,tS)] []) func163 (by kernel_rfl) call163 λx=>by kernel_rfl
end
end
end Go.Proofs.YtncolficnfcdcaaGreat
