
/- Steps. -/
import Derived.Test.YtncolficnfcdcaaGreatSwLhistoryZ2m
set_option linter.unusedVariables false
set_option linter.unusedSimpArgs false
set_option maxRecDepth 100000
set_option maxHeartbeats 4000000
namespace Go.Proofs.YtncolficnfcdcaaGreat
open Go Go.Sw Tryz
section
noncomputable section
noncomputable def M9:aO:=⟨[tI,tI],[tS],λx=>Dx ids x.1 x.2.1⟩
theorem U8:cB prog 155 M9:=fo [(161,DL),(163,K4)] ⟨I7,Tx,trivial⟩ (mA [(10,([[0,1,2,3,4,5,6,7,8,9,10,11,12,13]],[]))] [] [] [] [(0,[])] [(4,tS)] []) func155 (by kernel_rfl) call155 λx=>by kernel_rfl
noncomputable def Fk:aO:=⟨[tI,tI],[tI],λx=>zG ids x.1 x.2.1⟩
theorem Li:cB prog 141 Fk:=fo [(154,Fj),(155,M9)] ⟨Lh,U8,trivial⟩ (m0 [(4,tI)] []) func141 (by kernel_rfl) call141 λx=>by kernel_rfl
noncomputable def EA:aO:=⟨[tP],[tI],λx=>uA ids x.1⟩
theorem LH:cB prog 142 EA:=fo [(141,Fk)] ⟨Li,trivial⟩ (mA [(5,([[0,1,2,3,4,5,6,7,8,9,10,11,12,13,14]],[]))] [] [] [(3,([(3,tI),(4,tI)],[0]))] [(0,[(3,tI)]),(1,[(3,tI)])] [(2,tI)] []) func142 (by kernel_rfl) call142 λx=>by kernel_rfl
noncomputable def wD:aO:=⟨[tP,tS],[tI],λx=>kT ids x.1 x.2.1⟩
theorem Cd:cB prog 109 wD:=fo [(140,Bi),(141,Fk),(142,EA)] ⟨Hy,Li,LH,trivial⟩ (mA [(11,([[0,1,2,3,4,5,6,7,8,9,10,11,12,13,14,15]],[])),(14,([[0,1,2,3,4,5,6,7,8,9,10]],[])),(24,([[0,1,2,3,4,5,6,7,8,9,10,11,12,13,14,15,16,17]],[(4,13)])),(29,([[0,1,2,3,4,5,6,7,8,9,10,11,12,13,14,15,16]],[(4,12)])),(30,([[0,1,2,3,4,5,6,7,8,9,10,11,12,13,14,15,16]],[(4,12)])),(31,([[0,2,3,4,5,1,6]],[(5,1)]))] [(20,([(88,tB)],[0,1,9,10,11,12])),(28,([(143,tB)],[0,1,9,10,11,12]))] [(19,([(10,tI),(11,tI)],[0,1,9,12]))] [(6,([(6,tI),(7,tI)],[0,1])),(9,([(6,tI),(8,tI)],[0,1,7])),(18,([(10,tI),(11,tI),(12,tI)],[0,1,9])),(20,([(10,tI),(11,tI)],[0,1,9,12])),(22,([(13,tI)],[0,1,9,10,12]))] [(0,[]),(1,[(6,tI)]),(2,[(6,tI)]),(3,[(6,tI)]),(4,[]),(5,[(10,tI),(11,tI)]),(6,[(10,tI),(11,tI)]),(7,[(10,tI),(11,tI)]),(8,[]),(9,[])] [(4,tI)] []) func109 (by kernel_rfl) call109 λx=>by kernel_rfl
noncomputable def G3:aO:=⟨[tS],[tS],λx=>yP ids x.1⟩
theorem O9:cB prog 110 G3:=fo [(108,B8)] ⟨FI,trivial⟩ (mA [(5,([[0,1,2,3,4,5,6,7,8,9,10,11,12,13,14,15,16,17,18,19,20]],[(5,16),(10,16)]))] [] [] [(3,([(3,tS),(4,tI)],[0]))] [(0,[(3,tS)]),(1,[(3,tS)])] [(2,tS)] []) func110 (by kernel_rfl) call110 λx=>by kernel_rfl
noncomputable def IP:aO:=⟨[tI,tS],[tI,tB],λx=>vX ids x.1 x.2.1⟩
theorem Q4:cB prog 143 IP:=fo [] trivial (mA [] [] [(4,([(0,tI),(6,tB)],[1,7])),(13,([(9,tI)],[1,6,7,8]))] [(3,([(0,tI),(6,tB),(7,tI)],[1]))] [(0,[(0,tI),(6,tB)]),(1,[(0,tI),(6,tB)])] [(4,tI),(5,tB)] []) func143 (by kernel_rfl) call143 λx=>by kernel_rfl
noncomputable def qP:aO:=⟨[tP,tS],[],λx=>kS ids x.1 x.2.1⟩
theorem wK:cB prog 111 qP:=fo [(143,IP)] ⟨Q4,trivial⟩ (mA [] [] [(7,([],[0,1,7])),(12,([(8,tI)],[0,1,7]))] [(1,([(4,tI)],[0,1])),(6,([(7,tI)],[0,1]))] [(0,[]),(1,[]),(2,[]),(3,[])] [] []) func111 (by kernel_rfl) call111 λx=>by kernel_rfl
noncomputable def B9:aO:=⟨[tP,tS],[tI],λx=>jB ids x.1 x.2.1⟩
theorem I8:cB prog 74 B9:=fo [(109,wD),(110,G3),(111,qP)] ⟨Cd,O9,wK,trivial⟩ (mA [(6,([[0,1,2,3,4,5,6,7,8,9,10,11,12,13]],[(5,7),(5,8)]))] [] [] [] [] [(4,tI)] []) func74 (by kernel_rfl) call74 λx=>by kernel_rfl
noncomputable def Af:aO:=⟨[tS,tS],[tB],λx=>pQ ids x.1 x.2.1⟩
theorem EG:cB prog 83 Af:=fo [(45,pZ)] ⟨uF,trivial⟩ (mA [] [(7,([(4,tB)],[]))] [] [(3,([(6,tI)],[0,1,5]))] [(0,[]),(1,[])] [(4,tB)] []) func83 (by kernel_rfl) call83 λx=>by kernel_rfl
noncomputable def K1:aO:=⟨[tS,tS,tS],[tB],λx=>BS ids x.1 x.2.1 x.2.2.1⟩
theorem Tu:cB prog 75 K1:=fo [(45,pZ),(83,Af)] ⟨uF,EG,trivial⟩ (mA [(10,([[0,1,2,3,4,5,6,7,8,9,10,11,12,13,14,15,16,17,18,19,20,21,22,23,24,25,26,27,28,29,30,31,32,33,34,35,36,37,38,39,40,41,42,43,44,45,46,47,48,49,50,51,52]],[]))] [(6,([(8,tB)],[0,1,2,7,9])),(10,([(8,tB)],[0,1,2,7,10]))] [] [(4,([(8,tB),(9,tI)],[0,1,2,7])),(8,([(8,tB),(10,tI)],[0,1,2,7])),(12,([(11,tI)],[0,1,2,7,8,10]))] [(0,[(8,tB)]),(1,[(8,tB)]),(2,[(8,tB)]),(3,[(8,tB)]),(4,[]),(5,[])] [(6,tB)] []) func75 (by kernel_rfl) call75 λx=>by kernel_rfl
noncomputable def Bg:aO:=⟨[(.agg [.sl,bI,bI,bI])],[tB],λx=>rF ids x.1⟩
theorem FH:cB prog 112 Bg:=fo [] trivial (mA [] [(8,([(41,tB)],[1,3,4]))] [] [(2,([(3,tI)],[1])),(5,([(4,tI)],[1,3]))] [(0,[]),(1,[]),(2,[]),(3,[])] [(2,tB)] []) func112 (by kernel_rfl) call112 λx=>by kernel_rfl
noncomputable def Fp:aO:=⟨[tP,tI],[tI],λx=>rG ids x.1 x.2.1⟩
theorem NH:cB prog 76 Fp:=fo [(106,nE),(112,Bg)] ⟨qR,FH,trivial⟩ (mA [(13,([[0,1,2,3,4,5,6,7,8,9,10,11,12,13]],[(4,9)])),(15,([[0,1,2,3,4,5,6,7,8,9,10,11,12,13,14]],[]))] [] [(17,([],[]))] [] [] [(4,tI)] []) func76 (by kernel_rfl) call76 λx=>by kernel_rfl
noncomputable def uE:aO:=⟨[tP],[],λx=>mZ ids x.1⟩
theorem Aj:cB prog 113 uE:=fo [(71,Fm),(109,wD)] ⟨Lj,Cd,trivial⟩ (mA [(0,([[0,1,2,3,4,5,6,7,8,9,10,11,12,13,14,15,16,17]],[])),(8,([[0,1,2,3,4,5,6,7,8,9,10]],[])),(9,([[0,1,2,3,4,5,6,7,8,9,10]],[]))] [] [] [(2,([(4,tI)],[0,2])),(5,([(5,tI)],[0,2,4]))] [(0,[]),(1,[]),(2,[]),(3,[])] [] []) func113 (by kernel_rfl) call113 λx=>by kernel_rfl
noncomputable def Eu:aO:=⟨[tP],[tI,tI],λx=>pT ids x.1⟩
theorem LB:cB prog 77 Eu:=fo [(113,uE)] ⟨Aj,trivial⟩ (m0 [(2,tI),(3,tI)] []) func77 (by kernel_rfl) call77 λx=>by kernel_rfl
noncomputable def Fo:aO:=⟨[tS],[tS],λx=>vW ids x.1⟩
theorem NG:cB prog 114 Fo:=fo [] trivial (mA [(9,([[0,1,2,3,4,5,6,7,8,9,10,11,12,13,14,15,16,17,18,19,20]],[])),(10,([[0,1,2,3,4,5,6,7,8,9,10,11,12,13,14,15,16,17,18,19,20,21,22,23,24,25]],[(7,21)]))] [] [] [(3,([(3,tS),(4,tI)],[0])),(7,([(5,tI),(6,tI)],[0,3,4]))] [(0,[(3,tS)]),(1,[(3,tS)]),(2,[(5,tI)]),(3,[(5,tI)])] [(2,tS)] []) func114 (by kernel_rfl) call114 λx=>by kernel_rfl
noncomputable def Ez:aO:=⟨[tP],[tI,tI],λx=>pV ids x.1⟩
theorem LG:cB prog 78 Ez:=fo [(113,uE),(114,Fo),(111,qP)] ⟨Aj,NG,wK,trivial⟩ (mA [] [] [] [(10,([(6,tS),(7,tI)],[0,5])),(16,([(8,tI)],[0,5]))] [(0,[(6,tS)]),(1,[(6,tS)]),(2,[]),(3,[])] [(2,tI),(3,tI)] []) func78 (by kernel_rfl) call78 λx=>by kernel_rfl
noncomputable def Ew:aO:=⟨[tP],[tI,tI],λx=>pU ids x.1⟩
theorem LD:cB prog 79 Ew:=fo [(113,uE),(111,qP)] ⟨Aj,wK,trivial⟩ (mA [(7,([[0,1,2,3,4,5,6,7,8,9,10]],[(4,6)]))] [] [] [(10,([(5,tI)],[0,4]))] [(0,[]),(1,[])] [(2,tI),(3,tI)] []) func79 (by kernel_rfl) call79 λx=>by kernel_rfl
noncomputable def G2:aO:=⟨[tI],[tB],λx=>yO ids x.1⟩
theorem O8:cB prog 115 G2:=fo [] trivial (mA [] [(1,([(2,tB)],[]))] [] [] [] [(2,tB)] []) func115 (by kernel_rfl) call115 λx=>by kernel_rfl
noncomputable def Bh:aO:=⟨[tP,tI,tI],[tI],λx=>mD ids x.1 x.2.1 x.2.2.1⟩
theorem Hx:cB prog 80 Bh:=fo [(115,G2),(106,nE)] ⟨O8,qR,trivial⟩ (mA [] [(13,([(45,tB)],[0,1,2,9,10,11,12]))] [(11,([(9,tS),(10,tB)],[0,1,2,11])),(16,([(9,tS),(10,tB)],[0,1,2,11,12])),(20,([(9,tS)],[0]))] [(10,([(9,tS),(10,tB),(11,tI)],[0,1,2]))] [(0,[(9,tS),(10,tB)]),(1,[(9,tS),(10,tB)])] [(6,tI)] []) func80 (by kernel_rfl) call80 λx=>by kernel_rfl
noncomputable def CZ:aO:=⟨[tP,tS],[tI],λx=>sC ids x.1 x.2.1⟩
theorem Kg:cB prog 82 CZ:=fo [(106,nE),(108,B8)] ⟨qR,FI,trivial⟩ (mA [] [] [] [(2,([(5,tI)],[0,1]))] [(0,[]),(1,[])] [(4,tI)] []) func82 (by kernel_rfl) call82 λx=>by kernel_rfl
noncomputable def Iy:aO:=⟨[tP],[],λx=>vA ids x.1⟩
theorem QO:cB prog 84 Iy:=fo [] trivial (m0 [] []) func84 (by kernel_rfl) call84 λx=>by kernel_rfl
noncomputable def xQ:aO:=⟨[tP],[tI],λx=>oG ids x.1⟩
theorem C9:cB prog 117 xQ:=fo [] trivial (mA [(3,([[0,1,2,3,4,5,6,7,8,9,10,11,12,13]],[]))] [] [] [] [] [(2,tI)] []) func117 (by kernel_rfl) call117 λx=>by kernel_rfl
noncomputable def Ey:aO:=⟨[tP],[],λx=>tZ ids x.1⟩
theorem LF:cB prog 85 Ey:=fo [(117,xQ)] ⟨C9,trivial⟩ (m0 [] []) func85 (by kernel_rfl) call85 λx=>by kernel_rfl
noncomputable def Fh:aO:=⟨[tP,(.agg [bI,bI,bI,bI, .sl, .sl])],[tB],λx=>jA ids x.1 x.2.1⟩
theorem NB:cB prog 56 Fh:=fo [(25,Iu),(15,DJ),(72,CX),(73,K2),(26,GV),(74,B9),(75,K1),(41,M0),(76,Fp),(28,KR),(77,Eu),(14,KU),(78,Ez),(20,KT),(79,Ew),(21,E5),(80,Bh),(81,Ag),(24,Iz),(82,CZ),(83,Af),(84,Iy),(85,Ey)] ⟨QK,Hw,Ke,Tv,OZ,I8,Tu,U7,NH,Th,LB,Tk,LG,Tj,LD,Ns,Hx,EH,QP,Kg,EG,QO,LF,trivial⟩ (mA [(3,([[0,1,2,3,4,5,8,9,10,11,12,13,6,7,14,15,16]],[(11,6),(11,7),(13,6),(13,7)])),(5,([[0,1,2,3,4,5,6,7,8,9,10,11]],[])),(7,([[0,1,2,3,4,5,6,7,8,9,10]],[])),(8,([[0,1,2,3,4,5,6,7]],[])),(12,([[0,1,2,3,4,5,8,9,10,11,12,13,6,7,14,15,16]],[(11,6),(11,7),(13,6),(13,7)])),(26,([[0,1,2,3,4,5,6,7,10,11,12,13,14,15,16,17,8,9,18,19,20]],[(13,8),(13,9),(15,8),(15,9),(17,8),(17,9)])),(39,([[0,1,2,3,4,5,6,7,8]],[])),(40,([[0,1,2,3,4,5,6,7]],[]))] [(10,([(4,tB)],[])),(16,([(4,tB)],[])),(20,([(4,tB)],[])),(24,([(4,tB)],[])),(46,([(4,tB)],[]))] [(34,([],[0,3,22,23,24])),(38,([(23,tS)],[0,3,22])),(50,([],[]))] [(33,([(24,tI)],[0,3,22,23])),(43,([(28,tI)],[23,25,26,27]))] [(0,[]),(1,[]),(2,[]),(3,[]),(4,[])] [(4,tB)] []) func56 (by kernel_rfl) call56 λx=>by kernel_rfl
noncomputable def II:aO:=⟨[tP,tP],[tB],λx=>vL ids x.1 x.2.1⟩
theorem QY:cB prog 86 II:=fo [(23,Be),(36,IA),(45,pZ),(37,KW)] ⟨DR,QQ,uF,Tm,trivial⟩ (mA [(4,([[0,2,1,3,4,5,6,8,9,10,11,12,13,14,7,15,16,17,18,19,21,22,23,24,25,26,27,20,28,29,30]],[(11,7),(14,7),(24,20),(27,20)]))] [(4,([(4,tB)],[]))] [] [] [] [(4,tB)] []) func86 (by kernel_rfl) call86 λx=>by kernel_rfl
noncomputable def KS:aO:=⟨[tP,tI],[tI,tI],λx=>zB ids x.1 x.2.1⟩
theorem Ti:cB prog 87 KS:=fo [] trivial (m0 [(4,tI),(5,tI)] []) func87 (by kernel_rfl) call87 λx=>by kernel_rfl
noncomputable def Ev:aO:=⟨[tP,tI],[tI,tI],λx=>tY ids x.1 x.2.1⟩
theorem LC:cB prog 88 Ev:=fo [] trivial (mA [] [] [] [(2,([(6,tI)],[0,1]))] [(0,[]),(1,[])] [(4,tI),(5,tI)] []) func88 (by kernel_rfl) call88 λx=>by kernel_rfl
noncomputable def IJ:aO:=⟨[tP],[tB],λx=>vO ids x.1⟩
theorem QZ:cB prog 89 IJ:=fo [(39,Ix)] ⟨QN,trivial⟩ (mA [(7,([[0,1,2,3,4,5,6,7,8,9,10,11,12,13,14,15,16,17,18,19,20,21,22,23,24,25,26,27,28,29,30,31,32,33,34,35]],[]))] [(7,([(62,tB)],[0,3,4]))] [] [(5,([(4,tI)],[0,3]))] [(0,[]),(1,[])] [(2,tB)] []) func89 (by kernel_rfl) call89 λx=>by kernel_rfl
noncomputable def Ca:aO:=⟨[tP],[tI,tI],λx=>qM ids x.1⟩
theorem I9:cB prog 90 Ca:=fo [] trivial (mA [(1,([[0,1,2,3,4,5,6,7,8,9,10,11,12,13,14,15,16]],[]))] [] [] [] [] [(2,tI),(3,tI)] []) func90 (by kernel_rfl) call90 λx=>by kernel_rfl
noncomputable def CY:aO:=⟨[tP],[tB],λx=>rZ ids x.1⟩
theorem Kf:cB prog 91 CY:=fo [(112,Bg),(117,xQ)] ⟨FH,C9,trivial⟩ (mA [(5,([[0,2,3,4,5,1,6,7]],[(5,1)]))] [] [(5,([],[0]))] [] [] [(2,tB)] []) func91 (by kernel_rfl) call91 λx=>by kernel_rfl
noncomputable def IK:aO:=⟨[tP,(.agg [bI,bI,bI,bI, .sl, .sl])],[tB],λx=>AG ids x.1 x.2.1⟩
theorem Q0:cB prog 57 IK:=fo [(18,E6),(86,II),(87,KS),(88,Ev),(15,DJ),(89,IJ),(38,E7),(45,pZ),(12,Iv),(90,Ca),(17,Iw),(91,CY),(40,GW)] ⟨Lc,QY,Ti,LC,Hw,QZ,Nt,uF,QL,I9,QM,Kf,O0,trivial⟩ (mA [(3,([[0,1,2,3,5,6,7,8,4,9,10]],[(8,4)])),(5,([[0,1,2,3,4,5,6,7,8,9]],[])),(7,([[0,1,2,3,4,5,6,7,8,9,10,11]],[])),(8,([[0,1,2,3,4,5,6,7,8,9,10,11]],[])),(13,([[0,1,2,3,5,6,7,8,9,10,11,4,12,13]],[(8,4),(11,4)])),(19,([[0,1,2,3,5,6,7,8,4,9,10,11]],[(8,4)])),(21,([[0,1,2,3,5,6,7,8,9,10,11,4,12,13]],[(8,4),(11,4)]))] [(9,([(4,tB)],[])),(17,([(4,tB)],[]))] [] [] [(0,[])] [(4,tB)] []) func57 (by kernel_rfl) call57 λx=>by kernel_rfl
noncomputable def DK:aO:=⟨[tP,tS,tI,tI],[tB],λx=>vQ ids x.1 x.2.1 x.2.2.1 x.2.2.2.1⟩
theorem I6:cB prog 34 DK:=fo [(56,Fh),(57,IK)] ⟨NB,Q0,trivial⟩ (mA [] [(3,([(18,tB)],[0,1,2,3,9,10])),(6,([(25,tB)],[0,1,2,3,9,10,11])),(8,([(37,tB)],[0,1,2,3,9,10,11]))] [(4,([(9,tB)],[0,1,2,3,10]))] [(3,([(9,tB),(10,tI)],[0,1,2,3]))] [(0,[(9,tB)]),(1,[(9,tB)]),(2,[(9,tB)])] [(8,tB)] []) func34 (by kernel_rfl) call34 λx=>by kernel_rfl
noncomputable def IG:aO:=⟨[],[tB],λx=>AF ids⟩
theorem QW:cB prog 32 IG:=fo [(33,Cs),(34,DK)] ⟨G8,I6,trivial⟩ (mA [] [(3,([(17,tB)],[2]))] [] [] [] [(0,tB)] []) func32 (by kernel_rfl) call32 λx=>by kernel_rfl
noncomputable def IH:aO:=⟨[(.agg [bI,bI,bI, .sl]),tS,tI,tI],[tB],λx=>vK ids x.1 x.2.1 x.2.2.1 x.2.2.2.1⟩
theorem QX:cB prog 30 IH:=fo [(31,KZ),(32,IG),(33,Cs),(34,DK)] ⟨Tt,QW,G8,I6,trivial⟩ (mA [] [(5,([(29,tB)],[1,2,3,10])),(7,([(8,tB)],[]))] [] [] [] [(8,tB)] []) func30 (by kernel_rfl) call30 λx=>by kernel_rfl
noncomputable def GJ:aO:=⟨[(.agg [bI,bI,bI, .sl]),tS],[tB],λx=>Au ids x.1 x.2.1⟩
theorem GL:cB prog 6 GJ:=fo [(30,IH)] ⟨QX,trivial⟩ (m0 [(4,tB)] []) func6 (by kernel_rfl) call6 λx=>by kernel_rfl
noncomputable def M7:aO:=⟨[tI,tI,tP],[],λx=>ES ids x.1 x.2.1 x.2.2.1⟩
theorem Nu:cB prog 60 M7:=fo [] trivial (m0 [] []) func60 (by kernel_rfl) call60 λx=>by kernel_rfl
noncomputable def OQ:aO:=⟨[tI,tI,tP],[],λx=>Co ids x.1 x.2.1 x.2.2.1⟩
theorem O2:cB prog 61 OQ:=fo [] trivial (m0 [] []) func61 (by kernel_rfl) call61 λx=>by kernel_rfl
end
end
end Go.Proofs.YtncolficnfcdcaaGreat
