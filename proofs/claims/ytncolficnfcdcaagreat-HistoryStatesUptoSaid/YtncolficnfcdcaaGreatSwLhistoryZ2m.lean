
/- Steps. -/
import Derived.Test.YtncolficnfcdcaaGreatSwLhistoryZ1m
set_option linter.unusedVariables false
set_option linter.unusedSimpArgs false
set_option maxRecDepth 100000
set_option maxHeartbeats 4000000
namespace Go.Proofs.YtncolficnfcdcaaGreat
open Go Go.Sw Tryz
section
noncomputable section
noncomputable def gP:aO:=⟨[tS,tI,tI],[tS],λx=>dS ids x.1 x.2.1 x.2.2.1⟩
theorem mT:bZ prog 64 gP:=fo [] trivial (mA [(5,([[0,1,2,3,4,5,6,7]],[]))] [] [] [] [] [(6,tS)] []) func64 (by kernel_rfl) call64 λx=>by kernel_rfl
noncomputable def Mx:aO:=⟨[tP,tI],[tI],λx=>tR ids x.1 x.2.1⟩
theorem Ur:bZ prog 41 Mx:=fo [(49,sW),(54,BJ),(52,EJ),(64,gP)] ⟨yG,KI,KJ,mT,trivial⟩ (mA [(10,([[0,1,2,3,5,6,7,8,9,4,10,11,12,13,14,15]],[(9,4)])),(14,([[0,1,2,3,4,5,6,7,8,9]],[]))] [] [(16,([],[]))] [] [] [(4,tI)] []) func41 (by kernel_rfl) call41 λx=>by kernel_rfl
noncomputable def BK:aO:=⟨[tP,tP],[tI],λx=>uA ids x.1 x.2.1⟩
theorem Fg:bZ prog 42 BK:=fo [] trivial (mA [] [(1,([(14,tB)],[0,1]))] [] [] [] [(4,tI)] []) func42 (by kernel_rfl) call42 λx=>by kernel_rfl
noncomputable def BN:aO:=⟨[tS],[tS],λx=>qC ids x.1⟩
theorem IC:bZ prog 44 BN:=fo [] trivial (mA [] [] [] [(4,([(4,tI),(12,tI)],[3,10,11]))] [(0,[]),(1,[(4,tI)])] [(2,tS)] []) func44 (by kernel_rfl) call44 λx=>by kernel_rfl
noncomputable def Kp:aO:=⟨[tP],[tI,tI],λx=>mO ids x.1⟩
theorem SF:bZ prog 14 Kp:=fo [(42,BK),(44,BN),(43,yD)] ⟨Fg,IC,Cd,trivial⟩ (mA [(7,([[0,1,2,3,4,5,6,7,8,9,10,11,12,13,14,15,16,17,18,19,20,21]],[(5,14),(5,15),(12,14)])),(8,([[0,1,2,3,4,5,6,7,8]],[]))] [] [] [(10,([(6,tI)],[0,5]))] [(0,[]),(1,[])] [(2,tI),(3,tI)] []) func14 (by kernel_rfl) call14 λx=>by kernel_rfl
noncomputable def pR:aO:=⟨[tS,tS],[tB],λx=>iU ids x.1 x.2.1⟩
theorem tQ:bZ prog 45 pR:=fo [] trivial (mA [(6,([[0,1,2,3,4,5,6,7,8]],[]))] [] [] [(4,([(5,tI)],[0,1]))] [(0,[]),(1,[])] [(4,tB)] []) func45 (by kernel_rfl) call45 λx=>by kernel_rfl
noncomputable def Ko:aO:=⟨[tP],[tI,tI],λx=>mN ids x.1⟩
theorem SE:bZ prog 20 Ko:=fo [(42,BK),(43,yD)] ⟨Fg,Cd,trivial⟩ (mA [(7,([[0,1,2,3,4,5,6,7,8,9,10,11,12,13,14,15,16,17,18,19,20,21]],[(5,14),(5,15),(12,14)])),(8,([[0,1,2,3,4,5,6,7,8]],[]))] [] [] [(10,([(62,tI)],[0,5,60,61]))] [(0,[]),(1,[])] [(2,tI),(3,tI)] []) func20 (by kernel_rfl) call20 λx=>by kernel_rfl
noncomputable def CD:aO:=⟨[tI],[tB],λx=>rL ids x.1⟩
theorem JI:bZ prog 48 CD:=fo [] trivial (mA [] [(1,([(2,tB)],[]))] [] [] [] [(2,tB)] []) func48 (by kernel_rfl) call48 λx=>by kernel_rfl
noncomputable def EG:aO:=⟨[tP,tI,tI],[tI],λx=>qP ids x.1 x.2.1 x.2.2.1⟩
theorem MP:bZ prog 21 EG:=fo [(48,CD),(49,sW)] ⟨JI,yG,trivial⟩ (m0 [(6,tI)] []) func21 (by kernel_rfl) call21 λx=>by kernel_rfl
noncomputable def H6:aO:=⟨[tP,tS],[tI],λx=>uQ ids x.1 x.2.1⟩
theorem Qh:bZ prog 24 H6:=fo [(49,sW),(51,jP)] ⟨yG,nC,trivial⟩ (mA [] [] [] [(2,([(9,tI)],[0,1,7,8]))] [(0,[]),(1,[])] [(4,tI)] []) func24 (by kernel_rfl) call24 λx=>by kernel_rfl
noncomputable def Km:aO:=⟨[tP],[tI,tI],λx=>qO ids x.1⟩
theorem SC:bZ prog 28 Km:=fo [(54,BJ),(42,BK)] ⟨KI,Fg,trivial⟩ (mA [(4,([[0,1,2,3,4,5,6,7,8,9,10,11,12]],[])),(5,([[0,1,2,3,4,5,6,7,8,9,10,11,12,13,14,15,16,17,18,19,20,21]],[]))] [] [] [] [] [(2,tI),(3,tI)] []) func28 (by kernel_rfl) call28 λx=>by kernel_rfl
noncomputable def Ku:aO:=⟨[tI,tS],[tB],λx=>BB ids x.1 x.2.1⟩
theorem SM:bZ prog 31 Ku:=fo [] trivial (mA [] [(7,([(21,tB)],[1,5,6,7,8,9,10])),(23,([(4,tB)],[]))] [(8,([(5,tI),(6,tI),(7,tI),(8,tI),(9,tI)],[1,10]))] [(7,([(5,tI),(6,tI),(7,tI),(8,tI),(9,tI),(10,tI)],[1])),(15,([(5,tI),(6,tI),(11,tI)],[1,7,8,9,10]))] [(0,[(5,tI),(6,tI),(7,tI),(8,tI),(9,tI)]),(1,[(5,tI),(6,tI),(7,tI),(8,tI),(9,tI)]),(2,[(5,tI),(6,tI),(8,tI),(9,tI)]),(3,[(5,tI),(6,tI)]),(4,[(5,tI),(6,tI)])] [(4,tB)] []) func31 (by kernel_rfl) call31 λx=>by kernel_rfl
noncomputable def Im:aO:=⟨[tI],[tB],λx=>Aq ids x.1⟩
theorem Qv:bZ prog 138 Im:=fo [] trivial (mA [] [(1,([(2,tB)],[]))] [] [] [] [(2,tB)] []) func138 (by kernel_rfl) call138 λx=>by kernel_rfl
noncomputable def Io:aO:=⟨[tS,tI,tI],[tI],λx=>Ar ids x.1 x.2.1 x.2.2.1⟩
theorem Qw:bZ prog 159 Io:=fo [] trivial (mA [(2,([[0,1,2,3,4,5,6,7,8,9]],[]))] [] [] [(4,([(8,tI),(9,tI)],[0,1,2]))] [(0,[(8,tI)]),(1,[(8,tI)])] [(6,tI)] []) func159 (by kernel_rfl) call159 λx=>by kernel_rfl
noncomputable def Cc:aO:=⟨[tI],[tB],λx=>sP ids x.1⟩
theorem GL:bZ prog 160 Cc:=fo [] trivial (mA [] [(1,([(2,tB)],[]))] [] [] [] [(2,tB)] []) func160 (by kernel_rfl) call160 λx=>by kernel_rfl
noncomputable def Ds:aO:=⟨[tI],[tS],λx=>vD ids x.1⟩
theorem IH:bZ prog 161 Ds:=fo [] trivial (mA [] [] [] [] [(0,[])] [(2,tS)] []) func161 (by kernel_rfl) call161 λx=>by kernel_rfl
noncomputable def GB:aO:=⟨[tS,tI,tS],[tB],λx=>sQ ids x.1 x.2.1 x.2.2.1⟩
theorem Ow:bZ prog 162 GB:=fo [] trivial (mA [(6,([[0,1,2,3,4,5,6,7,8,9,10]],[]))] [] [] [(4,([(7,tI)],[0,1,2]))] [(0,[]),(1,[])] [(6,tB)] []) func162 (by kernel_rfl) call162 λx=>by kernel_rfl
noncomputable def EX:aO:=⟨[tS,tI],[tI,tI],λx=>vE ids x.1 x.2.1⟩
theorem M4:bZ prog 152 EX:=fo [(159,Io),(160,Cc),(161,Ds),(162,GB)] ⟨Qw,GL,IH,Ow,trivial⟩ (mA [] [(2,([(20,tB)],[0,1,6])),(9,([(43,tB)],[0,1,6,7]))] [(3,([],[0,1,6]))] [(2,([(6,tI)],[0,1]))] [(0,[]),(1,[])] [(4,tI),(5,tI)] []) func152 (by kernel_rfl) call152 λx=>by kernel_rfl
noncomputable def GC:aO:=⟨[tI,tS,tI],[tI],λx=>sR ids x.1 x.2.1 x.2.2.1⟩
theorem Ox:bZ prog 153 GC:=fo [] trivial (mA [(4,([[0,1,2,3,4,5,6,7,8,9,10,11,12,13]],[])),(5,([[0,1,2,3,4,5,6,7,8,9,10,11,12,13]],[]))] [] [] [] [] [(6,tI)] []) func153 (by kernel_rfl) call153 λx=>by kernel_rfl
noncomputable def OT:aO:=⟨[tI,tS,tI],[tI,tI],λx=>FP ids x.1 x.2.1 x.2.2.1⟩
theorem WU:bZ prog 139 OT:=fo [(152,EX),(153,GC)] ⟨M4,Ox,trivial⟩ (mA [] [(9,([(54,tB)],[8,9]))] [] [] [] [(6,tI),(7,tI)] []) func139 (by kernel_rfl) call139 λx=>by kernel_rfl
noncomputable def Kx:aO:=⟨[tI,tS,tI],[tI,tI],λx=>BF ids x.1 x.2.1 x.2.2.1⟩
theorem SP:bZ prog 105 Kx:=fo [(138,Im),(139,OT)] ⟨Qv,WU,trivial⟩ (mA [] [(2,([(22,tB)],[0,1,2]))] [] [] [] [(6,tI),(7,tI)] []) func105 (by kernel_rfl) call105 λx=>by kernel_rfl
noncomputable def EY:aO:=⟨[tI,tS,tI],[tP,tI],λx=>yR ids x.1 x.2.1 x.2.2.1⟩
theorem KN:bZ prog 71 EY:=fo [(105,Kx)] ⟨SP,trivial⟩ (mA [] [(1,([(17,tB)],[0,1,2])),(3,([(23,tB)],[0,1,2]))] [] [(9,([(9,tI)],[0,1,8]))] [(0,[]),(1,[(9,tI)])] [(6,tP),(7,tI)] []) func71 (by kernel_rfl) call71 λx=>by kernel_rfl
noncomputable def Kz:aO:=⟨[tI,tS,tI,tI],[tP,tI],λx=>BG ids x.1 x.2.1 x.2.2.1 x.2.2.2.1⟩
theorem SR:bZ prog 55 Kz:=fo [(71,EY)] ⟨KN,trivial⟩ (mA [(10,([[0,1,2,3,4,5,6,7,8,9,10,11,12,13]],[(4,9)]))] [(1,([(19,tB)],[0,1,2,3]))] [] [(8,([(13,tI)],[1,12]))] [(0,[]),(1,[])] [(8,tP),(9,tI)] []) func55 (by kernel_rfl) call55 λx=>by kernel_rfl
noncomputable def Cb:aO:=⟨[(.agg [bI,bI,bI, .sl])],[tP,tB],λx=>sO ids x.1⟩
theorem GK:bZ prog 33 Cb:=fo [(35,EP),(55,Kz),(15,Dp),(18,EH)] ⟨MW,SR,Ha,KH,trivial⟩ (mA [(12,([[0,1,2,3,4,5,6,7,8,9,10,11,12,13,14]],[])),(14,([[0,2,1,3,4,5,6,7,8,9,10,11,12,13,14,15,16,17,18,19,20]],[]))] [(14,([(90,tB)],[4,5,8,10])),(21,([(111,tB)],[5,8,10]))] [] [(4,([(5,tS),(6,tI)],[1,4])),(9,([(7,tI)],[1,4,5])),(17,([(12,tI)],[5,8,10])),(24,([(13,tI)],[5,8,10]))] [(0,[(5,tS)]),(1,[(5,tS)]),(2,[]),(3,[]),(4,[]),(5,[]),(6,[]),(7,[])] [(2,tP),(3,tB)] []) func33 (by kernel_rfl) call33 λx=>by kernel_rfl
noncomputable def mR:aO:=⟨[tP,tI],[tB],λx=>iM ids x.1 x.2.1⟩
theorem qI:bZ prog 106 mR:=fo [] trivial (mA [] [(1,([(4,tB)],[]))] [] [] [] [(4,tB)] []) func106 (by kernel_rfl) call106 λx=>by kernel_rfl
noncomputable def Iq:aO:=⟨[tS],[tS],λx=>As ids x.1⟩
theorem Qy:bZ prog 107 Iq:=fo [] trivial (mA [] [] [] [(3,([(3,tS),(4,tI)],[0]))] [(0,[(3,tS)]),(1,[(3,tS)])] [(2,tS)] []) func107 (by kernel_rfl) call107 λx=>by kernel_rfl
noncomputable def BR:aO:=⟨[tS],[tS],λx=>yS ids x.1⟩
theorem Fl:bZ prog 108 BR:=fo [] trivial (mA [] [] [] [(3,([(3,tS),(4,tI)],[0]))] [(0,[(3,tS)]),(1,[(3,tS)])] [(2,tS)] []) func108 (by kernel_rfl) call108 λx=>by kernel_rfl
noncomputable def CE:aO:=⟨[tP,tI],[tI],λx=>nV ids x.1 x.2.1⟩
theorem JJ:bZ prog 72 CE:=fo [(106,mR),(107,Iq),(108,BR)] ⟨qI,Qy,Fl,trivial⟩ (m0 [(4,tI)] []) func72 (by kernel_rfl) call72 λx=>by kernel_rfl
noncomputable def DZ:aO:=⟨[tS],[tS],λx=>zK ids x.1⟩
theorem K6:bZ prog 116 DZ:=fo [] trivial (mA [] [] [] [(3,([(3,tS),(4,tI)],[0]))] [(0,[(3,tS)]),(1,[(3,tS)])] [(2,tS)] []) func116 (by kernel_rfl) call116 λx=>by kernel_rfl
noncomputable def zQ:aO:=⟨[tS],[tS],λx=>pK ids x.1⟩
theorem Ej:bZ prog 81 zQ:=fo [(116,DZ)] ⟨K6,trivial⟩ (mA [] [] [] [(3,([(3,tS),(4,tI)],[0])),(8,([(5,tI)],[3]))] [(0,[(3,tS)]),(1,[(3,tS)]),(2,[]),(3,[])] [(2,tS)] []) func81 (by kernel_rfl) call81 λx=>by kernel_rfl
noncomputable def Kw:aO:=⟨[tS,tS],[tS,tS],λx=>BD ids x.1 x.2.1⟩
theorem SO:bZ prog 73 Kw:=fo [(81,zQ)] ⟨Ej,trivial⟩ (mA [(8,([[0,1,2,3,4,5,6,7,8,9,10,11,12,13,14,15,16,17,18,19,20,21,22]],[]))] [] [] [(4,([(6,tS),(7,tS),(8,tI)],[1])),(10,([(6,tS),(10,tI)],[1,7])),(15,([(11,tI)],[6,7]))] [(0,[(6,tS),(7,tS)]),(1,[(6,tS),(7,tS)]),(2,[(6,tS)]),(3,[(6,tS)]),(4,[]),(5,[])] [(4,tS),(5,tS)] []) func73 (by kernel_rfl) call73 λx=>by kernel_rfl
noncomputable def EV:aO:=⟨[tI,tI],[tB],λx=>yP ids x.1 x.2.1⟩
theorem KL:bZ prog 154 EV:=fo [(160,Cc)] ⟨GL,trivial⟩ (mA [] [(3,([(4,tB)],[])),(6,([(4,tB)],[])),(8,([(4,tB)],[]))] [(9,([],[]))] [] [(0,[])] [(4,tB)] []) func154 (by kernel_rfl) call154 λx=>by kernel_rfl
noncomputable def AV:aO:=⟨[tP,tS],[tI],λx=>oZ ids x.1 x.2.1⟩
theorem Hc:bZ prog 140 AV:=fo [(154,EV)] ⟨KL,trivial⟩ (mA [(8,([[0,1,2,3,4,5,6,7,8,9,10,11,12,13,14,15,16,17,18,19,20]],[])),(17,([[0,1,2,3,4,5,6,7,8,9,10,11,12,13]],[]))] [(8,([(43,tB)],[0,1,6,7]))] [] [(5,([(5,tI),(6,tI)],[0,1])),(12,([(8,tI)],[0,1])),(15,([(9,tI)],[0,1,8]))] [(0,[]),(1,[(5,tI)]),(2,[]),(3,[]),(4,[]),(5,[])] [(4,tI)] []) func140 (by kernel_rfl) call140 λx=>by kernel_rfl
noncomputable def Ky:aO:=⟨[tI,tI],[tS],λx=>uB ids x.1 x.2.1⟩
theorem SQ:bZ prog 163 Ky:=fo [] trivial (m0 [(4,tS)] []) func163 (by kernel_rfl) call163 λx=>by kernel_rfl
end
end
end Go.Proofs.YtncolficnfcdcaaGreat
