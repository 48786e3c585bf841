
/- Steps. -/
import Derived.Test.YtncolficnfcdcaaGreatSwLhistoryZ2m
set_option linter.unusedVariables false
set_option linter.unusedSimpArgs false
set_option maxRecDepth 100000
set_option maxHeartbeats 4000000
namespace Go.Proofs.YtncolficnfcdcaaGreat
open Go Go.Sw Tryz
section
noncomputable section
noncomputable def Mz:aO:=⟨[tI,tI],[tS],λx=>Dc ids x.1 x.2.1⟩
theorem Us:bZ prog 155 Mz:=fo [(161,Ds),(163,Ky)] ⟨IH,SQ,trivial⟩ (mA [(10,([[0,1,2,3,4,5,6,7,8,9,10,11,12,13]],[]))] [] [] [] [(0,[])] [(4,tS)] []) func155 (by kernel_rfl) call155 λx=>by kernel_rfl
noncomputable def EW:aO:=⟨[tI,tI],[tI],λx=>yQ ids x.1 x.2.1⟩
theorem KM:bZ prog 141 EW:=fo [(154,EV),(155,Mz)] ⟨KL,Us,trivial⟩ (m0 [(4,tI)] []) func141 (by kernel_rfl) call141 λx=>by kernel_rfl
noncomputable def Ec:aO:=⟨[tP],[tI],λx=>tL ids x.1⟩
theorem Le:bZ prog 142 Ec:=fo [(141,EW)] ⟨KM,trivial⟩ (mA [(5,([[0,1,2,3,4,5,6,7,8,9,10,11,12,13,14]],[]))] [] [] [(3,([(3,tI),(4,tI)],[0]))] [(0,[(3,tI)]),(1,[(3,tI)])] [(2,tI)] []) func142 (by kernel_rfl) call142 λx=>by kernel_rfl
noncomputable def vN:aO:=⟨[tP,tS],[tI],λx=>jZ ids x.1 x.2.1⟩
theorem BW:bZ prog 109 vN:=fo [(140,AV),(141,EW),(142,Ec)] ⟨Hc,KM,Le,trivial⟩ (mA [(11,([[0,1,2,3,4,5,6,7,8,9,10,11,12,13,14,15]],[])),(14,([[0,1,2,3,4,5,6,7,8,9,10]],[])),(24,([[0,1,2,3,4,5,6,7,8,9,10,11,12,13,14,15,16,17]],[(4,13)])),(29,([[0,1,2,3,4,5,6,7,8,9,10,11,12,13,14,15,16]],[(4,12)])),(30,([[0,1,2,3,4,5,6,7,8,9,10,11,12,13,14,15,16]],[(4,12)])),(31,([[0,2,3,4,5,1,6]],[(5,1)]))] [(20,([(88,tB)],[0,1,9,10,11,12])),(28,([(143,tB)],[0,1,9,10,11,12]))] [(19,([(10,tI),(11,tI)],[0,1,9,12]))] [(6,([(6,tI),(7,tI)],[0,1])),(9,([(6,tI),(8,tI)],[0,1,7])),(18,([(10,tI),(11,tI),(12,tI)],[0,1,9])),(20,([(10,tI),(11,tI)],[0,1,9,12])),(22,([(13,tI)],[0,1,9,10,12]))] [(0,[]),(1,[(6,tI)]),(2,[(6,tI)]),(3,[(6,tI)]),(4,[]),(5,[(10,tI),(11,tI)]),(6,[(10,tI),(11,tI)]),(7,[(10,tI),(11,tI)]),(8,[]),(9,[])] [(4,tI)] []) func109 (by kernel_rfl) call109 λx=>by kernel_rfl
noncomputable def GF:aO:=⟨[tS],[tS],λx=>xZ ids x.1⟩
theorem Oz:bZ prog 110 GF:=fo [(108,BR)] ⟨Fl,trivial⟩ (mA [(5,([[0,1,2,3,4,5,6,7,8,9,10,11,12,13,14,15,16,17,18,19,20]],[(5,16),(10,16)]))] [] [] [(3,([(3,tS),(4,tI)],[0]))] [(0,[(3,tS)]),(1,[(3,tS)])] [(2,tS)] []) func110 (by kernel_rfl) call110 λx=>by kernel_rfl
noncomputable def Ip:aO:=⟨[tI,tS],[tI,tB],λx=>vG ids x.1 x.2.1⟩
theorem Qx:bZ prog 143 Ip:=fo [] trivial (mA [] [] [(4,([(0,tI),(6,tB)],[1,7])),(13,([(9,tI)],[1,6,7,8]))] [(3,([(0,tI),(6,tB),(7,tI)],[1]))] [(0,[(0,tI),(6,tB)]),(1,[(0,tI),(6,tB)])] [(4,tI),(5,tB)] []) func143 (by kernel_rfl) call143 λx=>by kernel_rfl
noncomputable def qG:aO:=⟨[tP,tS],[],λx=>jY ids x.1 x.2.1⟩
theorem vW:bZ prog 111 qG:=fo [(143,Ip)] ⟨Qx,trivial⟩ (mA [] [] [(7,([],[0,1,7])),(12,([(8,tI)],[0,1,7]))] [(1,([(4,tI)],[0,1])),(6,([(7,tI)],[0,1]))] [(0,[]),(1,[]),(2,[]),(3,[])] [] []) func111 (by kernel_rfl) call111 λx=>by kernel_rfl
noncomputable def BS:aO:=⟨[tP,tS],[tI],λx=>iL ids x.1 x.2.1⟩
theorem II:bZ prog 74 BS:=fo [(109,vN),(110,GF),(111,qG)] ⟨BW,Oz,vW,trivial⟩ (mA [(6,([[0,1,2,3,4,5,6,7,8,9,10,11,12,13]],[(5,7),(5,8)]))] [] [] [] [] [(4,tI)] []) func74 (by kernel_rfl) call74 λx=>by kernel_rfl
noncomputable def zO:aO:=⟨[tS,tS],[tB],λx=>pJ ids x.1 x.2.1⟩
theorem Eh:bZ prog 83 zO:=fo [(45,pR)] ⟨tQ,trivial⟩ (mA [] [(7,([(4,tB)],[]))] [] [(3,([(6,tI)],[0,1,5]))] [(0,[]),(1,[])] [(4,tB)] []) func83 (by kernel_rfl) call83 λx=>by kernel_rfl
noncomputable def Kv:aO:=⟨[tS,tS,tS],[tB],λx=>BC ids x.1 x.2.1 x.2.2.1⟩
theorem SN:bZ prog 75 Kv:=fo [(45,pR),(83,zO)] ⟨tQ,Eh,trivial⟩ (mA [(10,([[0,1,2,3,4,5,6,7,8,9,10,11,12,13,14,15,16,17,18,19,20,21,22,23,24,25,26,27,28,29,30,31,32,33,34,35,36,37,38,39,40,41,42,43,44,45,46,47,48,49,50,51,52]],[]))] [(6,([(8,tB)],[0,1,2,7,9])),(10,([(8,tB)],[0,1,2,7,10]))] [] [(4,([(8,tB),(9,tI)],[0,1,2,7])),(8,([(8,tB),(10,tI)],[0,1,2,7])),(12,([(11,tI)],[0,1,2,7,8,10]))] [(0,[(8,tB)]),(1,[(8,tB)]),(2,[(8,tB)]),(3,[(8,tB)]),(4,[]),(5,[])] [(6,tB)] []) func75 (by kernel_rfl) call75 λx=>by kernel_rfl
noncomputable def AT:aO:=⟨[(.agg [.sl,bI,bI,bI])],[tB],λx=>qU ids x.1⟩
theorem Fk:bZ prog 112 AT:=fo [] trivial (mA [] [(8,([(41,tB)],[1,3,4]))] [] [(2,([(3,tI)],[1])),(5,([(4,tI)],[1,3]))] [(0,[]),(1,[]),(2,[]),(3,[])] [(2,tB)] []) func112 (by kernel_rfl) call112 λx=>by kernel_rfl
noncomputable def E1:aO:=⟨[tP,tI],[tI],λx=>qV ids x.1 x.2.1⟩
theorem M9:bZ prog 76 E1:=fo [(106,mR),(112,AT)] ⟨qI,Fk,trivial⟩ (mA [(13,([[0,1,2,3,4,5,6,7,8,9,10,11,12,13]],[(4,9)])),(15,([[0,1,2,3,4,5,6,7,8,9,10,11,12,13,14]],[]))] [] [(17,([],[]))] [] [] [(4,tI)] []) func76 (by kernel_rfl) call76 λx=>by kernel_rfl
noncomputable def tO:aO:=⟨[tP],[],λx=>mL ids x.1⟩
theorem zU:bZ prog 113 tO:=fo [(71,EY),(109,vN)] ⟨KN,BW,trivial⟩ (mA [(0,([[0,1,2,3,4,5,6,7,8,9,10,11,12,13,14,15,16,17]],[])),(8,([[0,1,2,3,4,5,6,7,8,9,10]],[])),(9,([[0,1,2,3,4,5,6,7,8,9,10]],[]))] [] [] [(2,([(4,tI)],[0,2])),(5,([(5,tI)],[0,2,4]))] [(0,[]),(1,[]),(2,[]),(3,[])] [] []) func113 (by kernel_rfl) call113 λx=>by kernel_rfl
noncomputable def D5:aO:=⟨[tP],[tI,tI],λx=>pL ids x.1⟩
theorem K8:bZ prog 77 D5:=fo [(113,tO)] ⟨zU,trivial⟩ (m0 [(2,tI),(3,tI)] []) func77 (by kernel_rfl) call77 λx=>by kernel_rfl
noncomputable def EZ:aO:=⟨[tS],[tS],λx=>vF ids x.1⟩
theorem M7:bZ prog 114 EZ:=fo [] trivial (mA [(9,([[0,1,2,3,4,5,6,7,8,9,10,11,12,13,14,15,16,17,18,19,20]],[])),(10,([[0,1,2,3,4,5,6,7,8,9,10,11,12,13,14,15,16,17,18,19,20,21,22,23,24,25]],[(7,21)]))] [] [] [(3,([(3,tS),(4,tI)],[0])),(7,([(5,tI),(6,tI)],[0,3,4]))] [(0,[(3,tS)]),(1,[(3,tS)]),(2,[(5,tI)]),(3,[(5,tI)])] [(2,tS)] []) func114 (by kernel_rfl) call114 λx=>by kernel_rfl
noncomputable def Eb:aO:=⟨[tP],[tI,tI],λx=>pN ids x.1⟩
theorem Lc:bZ prog 78 Eb:=fo [(113,tO),(114,EZ),(111,qG)] ⟨zU,M7,vW,trivial⟩ (mA [] [] [] [(10,([(6,tS),(7,tI)],[0,5])),(16,([(8,tI)],[0,5]))] [(0,[(6,tS)]),(1,[(6,tS)]),(2,[]),(3,[])] [(2,tI),(3,tI)] []) func78 (by kernel_rfl) call78 λx=>by kernel_rfl
noncomputable def D9:aO:=⟨[tP],[tI,tI],λx=>pM ids x.1⟩
theorem La:bZ prog 79 D9:=fo [(113,tO),(111,qG)] ⟨zU,vW,trivial⟩ (mA [(7,([[0,1,2,3,4,5,6,7,8,9,10]],[(4,6)]))] [] [] [(10,([(5,tI)],[0,4]))] [(0,[]),(1,[])] [(2,tI),(3,tI)] []) func79 (by kernel_rfl) call79 λx=>by kernel_rfl
noncomputable def GD:aO:=⟨[tI],[tB],λx=>xY ids x.1⟩
theorem Oy:bZ prog 115 GD:=fo [] trivial (mA [] [(1,([(2,tB)],[]))] [] [] [] [(2,tB)] []) func115 (by kernel_rfl) call115 λx=>by kernel_rfl
noncomputable def AU:aO:=⟨[tP,tI,tI],[tI],λx=>lN ids x.1 x.2.1 x.2.2.1⟩
theorem Hb:bZ prog 80 AU:=fo [(115,GD),(106,mR)] ⟨Oy,qI,trivial⟩ (mA [] [(13,([(45,tB)],[0,1,2,9,10,11,12]))] [(11,([(9,tS),(10,tB)],[0,1,2,11])),(16,([(9,tS),(10,tB)],[0,1,2,11,12])),(20,([(9,tS)],[0]))] [(10,([(9,tS),(10,tB),(11,tI)],[0,1,2]))] [(0,[(9,tS),(10,tB)]),(1,[(9,tS),(10,tB)])] [(6,tI)] []) func80 (by kernel_rfl) call80 λx=>by kernel_rfl
noncomputable def CG:aO:=⟨[tP,tS],[tI],λx=>rO ids x.1 x.2.1⟩
theorem JL:bZ prog 82 CG:=fo [(106,mR),(108,BR)] ⟨qI,Fl,trivial⟩ (mA [] [] [] [(2,([(5,tI)],[0,1]))] [(0,[]),(1,[])] [(4,tI)] []) func82 (by kernel_rfl) call82 λx=>by kernel_rfl
noncomputable def H5:aO:=⟨[tP],[],λx=>uP ids x.1⟩
theorem Qg:bZ prog 84 H5:=fo [] trivial (m0 [] []) func84 (by kernel_rfl) call84 λx=>by kernel_rfl
noncomputable def xC:aO:=⟨[tP],[tI],λx=>nW ids x.1⟩
theorem CO:bZ prog 117 xC:=fo [] trivial (mA [(3,([[0,1,2,3,4,5,6,7,8,9,10,11,12,13]],[]))] [] [] [] [] [(2,tI)] []) func117 (by kernel_rfl) call117 λx=>by kernel_rfl
noncomputable def Ea:aO:=⟨[tP],[],λx=>tJ ids x.1⟩
theorem Lb:bZ prog 85 Ea:=fo [(117,xC)] ⟨CO,trivial⟩ (m0 [] []) func85 (by kernel_rfl) call85 λx=>by kernel_rfl
noncomputable def ET:aO:=⟨[tP,(.agg [bI,bI,bI,bI, .sl, .sl])],[tB],λx=>iK ids x.1 x.2.1⟩
theorem MY:bZ prog 56 ET:=fo [(25,H0),(15,Dp),(72,CE),(73,Kw),(26,Gx),(74,BS),(75,Kv),(41,Mx),(76,E1),(28,Km),(77,D5),(14,Kp),(78,Eb),(20,Ko),(79,D9),(21,EG),(80,AU),(81,zQ),(24,H6),(82,CG),(83,zO),(84,H5),(85,Ea)] ⟨Qc,Ha,JJ,SO,Om,II,SN,Ur,M9,SC,K8,SF,Lc,SE,La,MP,Hb,Ej,Qh,JL,Eh,Qg,Lb,trivial⟩ (mA [(3,([[0,1,2,3,4,5,8,9,10,11,12,13,6,7,14,15,16]],[(11,6),(11,7),(13,6),(13,7)])),(5,([[0,1,2,3,4,5,6,7,8,9,10,11]],[])),(7,([[0,1,2,3,4,5,6,7,8,9,10]],[])),(8,([[0,1,2,3,4,5,6,7]],[])),(12,([[0,1,2,3,4,5,8,9,10,11,12,13,6,7,14,15,16]],[(11,6),(11,7),(13,6),(13,7)])),(26,([[0,1,2,3,4,5,6,7,10,11,12,13,14,15,16,17,8,9,18,19,20]],[(13,8),(13,9),(15,8),(15,9),(17,8),(17,9)])),(39,([[0,1,2,3,4,5,6,7,8]],[])),(40,([[0,1,2,3,4,5,6,7]],[]))] [(10,([(4,tB)],[])),(16,([(4,tB)],[])),(20,([(4,tB)],[])),(24,([(4,tB)],[])),(46,([(4,tB)],[]))] [(34,([],[0,3,22,23,24])),(38,([(23,tS)],[0,3,22])),(50,([],[]))] [(33,([(24,tI)],[0,3,22,23])),(43,([(28,tI)],[23,25,26,27]))] [(0,[]),(1,[]),(2,[]),(3,[]),(4,[])] [(4,tB)] []) func56 (by kernel_rfl) call56 λx=>by kernel_rfl
noncomputable def Ii:aO:=⟨[tP,tP],[tB],λx=>uY ids x.1 x.2.1⟩
theorem Qr:bZ prog 86 Ii:=fo [(23,AR),(36,H7),(45,pR),(37,Kr)] ⟨Dx,Qi,tQ,SH,trivial⟩ (mA [(4,([[0,2,1,3,4,5,6,8,9,10,11,12,13,14,7,15,16,17,18,19,21,22,23,24,25,26,27,20,28,29,30]],[(11,7),(14,7),(24,20),(27,20)]))] [(4,([(4,tB)],[]))] [] [] [] [(4,tB)] []) func86 (by kernel_rfl) call86 λx=>by kernel_rfl
noncomputable def Kn:aO:=⟨[tP,tI],[tI,tI],λx=>yK ids x.1 x.2.1⟩
theorem SD:bZ prog 87 Kn:=fo [] trivial (m0 [(4,tI),(5,tI)] []) func87 (by kernel_rfl) call87 λx=>by kernel_rfl
noncomputable def D7:aO:=⟨[tP,tI],[tI,tI],λx=>tH ids x.1 x.2.1⟩
theorem K9:bZ prog 88 D7:=fo [] trivial (mA [] [] [] [(2,([(6,tI)],[0,1]))] [(0,[]),(1,[])] [(4,tI),(5,tI)] []) func88 (by kernel_rfl) call88 λx=>by kernel_rfl
noncomputable def Ij:aO:=⟨[tP],[tB],λx=>Db ids x.1⟩
theorem Qs:bZ prog 89 Ij:=fo [(39,H4)] ⟨Qf,trivial⟩ (mA [(7,([[0,1,2,3,4,5,6,7,8,9,10,11,12,13,14,15,16,17,18,19,20,21,22,23,24,25,26,27,28,29,30,31,32,33,34,35]],[]))] [(7,([(62,tB)],[0,3,4]))] [] [(5,([(4,tI)],[0,3]))] [(0,[]),(1,[])] [(2,tB)] []) func89 (by kernel_rfl) call89 λx=>by kernel_rfl
noncomputable def BT:aO:=⟨[tP],[tI,tI],λx=>qD ids x.1⟩
theorem IJ:bZ prog 90 BT:=fo [] trivial (mA [(1,([[0,1,2,3,4,5,6,7,8,9,10,11,12,13,14,15,16]],[]))] [] [] [] [] [(2,tI),(3,tI)] []) func90 (by kernel_rfl) call90 λx=>by kernel_rfl
noncomputable def CF:aO:=⟨[tP],[tB],λx=>rM ids x.1⟩
theorem JK:bZ prog 91 CF:=fo [(112,AT),(117,xC)] ⟨Fk,CO,trivial⟩ (mA [(5,([[0,2,3,4,5,1,6,7]],[(5,1)]))] [] [(5,([],[0]))] [] [] [(2,tB)] []) func91 (by kernel_rfl) call91 λx=>by kernel_rfl
noncomputable def Ik:aO:=⟨[tP,(.agg [bI,bI,bI,bI, .sl, .sl])],[tB],λx=>Ao ids x.1 x.2.1⟩
theorem Qt:bZ prog 57 Ik:=fo [(18,EH),(86,Ii),(87,Kn),(88,D7),(15,Dp),(89,Ij),(38,EI),(45,pR),(12,H2),(90,BT),(17,H3),(91,CF),(40,Gy)] ⟨KH,Qr,SD,K9,Ha,Qs,MQ,tQ,Qd,IJ,Qe,JK,On,trivial⟩ (mA [(3,([[0,1,2,3,5,6,7,8,4,9,10]],[(8,4)])),(5,([[0,1,2,3,4,5,6,7,8,9]],[])),(7,([[0,1,2,3,4,5,6,7,8,9,10,11]],[])),(8,([[0,1,2,3,4,5,6,7,8,9,10,11]],[])),(13,([[0,1,2,3,5,6,7,8,9,10,11,4,12,13]],[(8,4),(11,4)])),(19,([[0,1,2,3,5,6,7,8,4,9,10,11]],[(8,4)])),(21,([[0,1,2,3,5,6,7,8,9,10,11,4,12,13]],[(8,4),(11,4)]))] [(9,([(4,tB)],[])),(17,([(4,tB)],[]))] [] [] [(0,[])] [(4,tB)] []) func57 (by kernel_rfl) call57 λx=>by kernel_rfl
noncomputable def Dq:aO:=⟨[tP,tS,tI,tI],[tB],λx=>vA ids x.1 x.2.1 x.2.2.1 x.2.2.2.1⟩
theorem IG:bZ prog 34 Dq:=fo [(56,ET),(57,Ik)] ⟨MY,Qt,trivial⟩ (mA [] [(3,([(18,tB)],[0,1,2,3,9,10])),(6,([(25,tB)],[0,1,2,3,9,10,11])),(8,([(37,tB)],[0,1,2,3,9,10,11]))] [(4,([(9,tB)],[0,1,2,3,10]))] [(3,([(9,tB),(10,tI)],[0,1,2,3]))] [(0,[(9,tB)]),(1,[(9,tB)]),(2,[(9,tB)])] [(8,tB)] []) func34 (by kernel_rfl) call34 λx=>by kernel_rfl
noncomputable def Ig:aO:=⟨[],[tB],λx=>Am ids⟩
theorem Qo:bZ prog 32 Ig:=fo [(33,Cb),(34,Dq)] ⟨GK,IG,trivial⟩ (mA [] [(3,([(17,tB)],[2]))] [] [] [] [(0,tB)] []) func32 (by kernel_rfl) call32 λx=>by kernel_rfl
noncomputable def Ih:aO:=⟨[(.agg [bI,bI,bI, .sl]),tS,tI,tI],[tB],λx=>uX ids x.1 x.2.1 x.2.2.1 x.2.2.2.1⟩
theorem Qq:bZ prog 30 Ih:=fo [(31,Ku),(32,Ig),(33,Cb),(34,Dq)] ⟨SM,Qo,GK,IG,trivial⟩ (mA [] [(5,([(29,tB)],[1,2,3,10])),(7,([(8,tB)],[]))] [] [] [] [(8,tB)] []) func30 (by kernel_rfl) call30 λx=>by kernel_rfl
noncomputable def ES:aO:=⟨[(.agg [bI,bI,bI, .sl]),tS],[tB],λx=>yO ids x.1 x.2.1⟩
theorem Fj:bZ prog 7 ES:=fo [(30,Ih)] ⟨Qq,trivial⟩ (m0 [(4,tB)] []) func7 (by kernel_rfl) call7 λx=>by kernel_rfl
noncomputable def My:aO:=⟨[tI,tI,tP],[],λx=>Eu ids x.1 x.2.1 x.2.2.1⟩
theorem MR:bZ prog 60 My:=fo [] trivial (m0 [] []) func60 (by kernel_rfl) call60 λx=>by kernel_rfl
noncomputable def Oc:aO:=⟨[tI,tI,tP],[],λx=>B7 ids x.1 x.2.1 x.2.2.1⟩
theorem Oq:bZ prog 61 Oc:=fo [] trivial (m0 [] []) func61 (by kernel_rfl) call61 λx=>by kernel_rfl
end
end
end Go.Proofs.YtncolficnfcdcaaGreat
