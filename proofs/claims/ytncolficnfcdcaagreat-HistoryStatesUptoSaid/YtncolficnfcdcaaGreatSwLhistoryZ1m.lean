
/- Steps. -/
import Derived.Test.YtncolficnfcdcaaGreatSwLhistoryZ0m
set_option linter.unusedVariables false
set_option linter.unusedSimpArgs false
set_option maxRecDepth 100000
set_option maxHeartbeats 4000000
namespace Go.Proofs.YtncolficnfcdcaaGreat
open Go Go.Sw Tryz
section
noncomputable section
noncomputable def jU:aO:=⟨[tS,tI,tI,tI,tP,(.one .any)],[tI],λx=>jT ids x.1 x.2.1 x.2.2.1 x.2.2.2.1 x.2.2.2.2.1 x.2.2.2.2.2.1⟩
theorem oW:bZ prog 149 jU:=fo [(157,oV)] ⟨yZ,trivial⟩ (m0 [(12,tI)] [5,18,27,36]) func149 (by kernel_rfl) call149 λx=>by kernel_rfl
noncomputable def kC:aO:=⟨[tS,tI,tP,(.one .any)],[tI],λx=>fB ids x.1 x.2.1 x.2.2.1 x.2.2.2.1⟩
theorem rV:bZ prog 148 kC:=fo [(149,jU)] ⟨oW,trivial⟩ (m0 [(8,tI)] [3,16]) func148 (by kernel_rfl) call148 λx=>by kernel_rfl
noncomputable def lQ:aO:=⟨[tS,tI,tI,(.one .any)],[tI,tI],λx=>lO ids x.1 x.2.1 x.2.2.1 x.2.2.2.1⟩
theorem tV:bZ prog 127 lQ:=fo [(148,kC),(149,jU)] ⟨rV,oW,trivial⟩ (mA [] [] [(11,([(12,tI),(13,tI),(14,tI)],[0,3,11])),(12,([(13,tI)],[11]))] [] [(0,[(8,tI),(9,tI)])] [(8,tI),(9,tI)] [3,39,43,47,53]) func127 (by kernel_rfl) call127 λx=>by kernel_rfl
noncomputable def lH:aO:=⟨[tS,tI,tI,(.one .any)],[],λx=>lF ids x.1 x.2.1 x.2.2.1 x.2.2.2.1⟩
theorem tC:bZ prog 128 lH:=fo [] trivial (mA [(3,([[0,1,2,3,4,5,6,7,8,9,10,11,12,13,14,15]],[]))] [] [] [(2,([(8,tI),(9,tI)],[0]))] [(0,[]),(1,[(8,tI),(9,tI)])] [] [3]) func128 (by kernel_rfl) call128 λx=>by kernel_rfl
noncomputable def iH:aO:=⟨[tS,tI,tI,(.one .any)],[tB],λx=>iG ids x.1 x.2.1 x.2.2.1 x.2.2.2.1⟩
theorem oS:bZ prog 129 iH:=fo [] trivial (mA [(5,([[0,1,2,3,4,5,6,7,8,9,10,11,12,13,14,15,16,17]],[])),(11,([[0,1,2,3,4,5,6,7,8,9,10,11,12,13,14,15,16,17]],[])),(16,([[0,1,2,3,4,5,6,7,8,9,10,11,12]],[])),(17,([[0,1,2,3,4,5,6,7,8,9,10,11,12,13,14,15,16,17]],[])),(22,([[0,1,2,3,4,5,6,7,8,9,10,11,12]],[])),(23,([[0,1,2,3,4,5,6,7,8,9,10,11,12,13,14,15,16,17]],[]))] [(5,([(36,tB)],[0,1,2,3,9,10]))] [(4,([(9,tI)],[0,1,2,3,10])),(18,([],[0,1,2,3,9,10]))] [(3,([(9,tI),(10,tI)],[0,1,2,3])),(5,([(9,tI)],[0,1,2,3,10])),(14,([(11,tI)],[0,1,2,3,9,10])),(20,([(12,tI)],[0,1,2,3,9,10]))] [(0,[]),(1,[(9,tI)]),(2,[(9,tI)]),(3,[(9,tI)]),(4,[]),(5,[]),(6,[]),(7,[])] [(8,tB)] [3,23,72,112]) func129 (by kernel_rfl) call129 λx=>by kernel_rfl
noncomputable def kD:aO:=⟨[tS,tI,tI,tI,(.one .any)],[tI],λx=>kA ids x.1 x.2.1 x.2.2.1 x.2.2.2.1 x.2.2.2.2.1⟩
theorem rW:bZ prog 130 kD:=fo [] trivial (mA [(1,([[0,1,2,3,4,5,6,7,8,9,10,11,12,13,14,15]],[])),(3,([[0,1,2,3,4,5,6,7,8,9,10,11,12,13,14,15,16]],[])),(5,([[0,1,2,3,4,5,6,7,8,9,10,11,12,13,14,15]],[])),(8,([[0,1,2,3,4,5,6,7,8,9,10,11,12,13,14,15]],[]))] [(3,([(47,tB)],[0,1,4,11,12])),(5,([(65,tB)],[0,1,4,11,12]))] [] [(3,([(11,tI)],[0,1,4,12])),(5,([(12,tI)],[0,1,4,11])),(1000003,([(11,tI),(12,tI)],[0,1,4]))] [(0,[(11,tI)]),(1,[(11,tI),(12,tI)]),(2,[(11,tI)]),(3,[(11,tI)]),(4,[(12,tI)]),(5,[(12,tI)])] [(10,tI)] [4,35,54]) func130 (by kernel_rfl) call130 λx=>by kernel_rfl
noncomputable def mS:aO:=⟨[tS,tI,tI,tI,(.one .any)],[tI,tB],λx=>mP ids x.1 x.2.1 x.2.2.1 x.2.2.2.1 x.2.2.2.2.1⟩
theorem vX:bZ prog 131 mS:=fo [] trivial (mA [(1,([[0,1,2,3,4,5,6,7,8,9,10,11,12,13,14,15]],[])),(3,([[0,1,2,3,4,5,6,7,8,9,10,11,12,13,14,15]],[])),(5,([[0,1,2,3,4,5,6,7,8,9,10,11,12,13,14,15,16]],[])),(8,([[0,1,2,3,4,5,6,7,8,9,10,11,12,13,14,15]],[])),(10,([[0,1,2,3,4,5,6,7,8,9,10,11,12,13,14,15]],[])),(13,([[0,1,2,3,4,5,6,7,8,9,10,11,12,13,14,15]],[])),(15,([[0,1,2,3,4,5,6,7,8,9,10,11,12,13,14,15,16]],[])),(18,([[0,1,2,3,4,5,6,7,8,9,10,11,12,13,14,15]],[])),(21,([[0,1,2,3,4,5,6,7,8,9,10,11,12,13,14,15]],[]))] [(3,([(47,tB)],[0,1,4,12,13])),(5,([(66,tB)],[0,1,4,12,13])),(13,([(120,tB)],[0,1,4,12,13])),(15,([(139,tB)],[0,1,4,12,13]))] [] [(3,([(12,tI)],[0,1,4,13])),(5,([(13,tI)],[0,1,4,12])),(13,([(12,tI)],[0,1,4,13])),(15,([(13,tI)],[0,1,4,12])),(1000013,([(12,tI),(13,tI)],[0,1,4]))] [(0,[(12,tI)]),(1,[(12,tI)]),(2,[(13,tI)]),(3,[(13,tI)]),(4,[(13,tI)]),(5,[(12,tI),(13,tI)]),(6,[(12,tI)]),(7,[(12,tI)]),(8,[(13,tI)]),(9,[(13,tI)])] [(10,tI),(11,tB)] [4,36,54,109,127]) func131 (by kernel_rfl) call131 λx=>by kernel_rfl
noncomputable def oD:aO:=⟨[tS,tI,tI,tI,(.one .any)],[],λx=>nY ids x.1 x.2.1 x.2.2.1 x.2.2.2.1 x.2.2.2.2.1⟩
theorem xJ:bZ prog 96 oD:=
 Sr (tys:=[tS,tI,tI,tI,(.one .any)]) (res:=[]) (R:=λa=>λx=>fG a ids x.1 x.2.1 x.2.2.1 x.2.2.2.1 x.2.2.2.2.1) (λ_=>rfl) (λ_ _=>Tryz.call96 _ _) λa b=>
 fo [(124,kS),(125,nL),(126,kR),(127,lQ),(128,lH),(129,iH),(130,kD),(131,mS),(96,(⟨[tS,tI,tI,tI,(.one .any)],[],λx=>fG a ids x.1 x.2.1 x.2.2.1 x.2.2.2.1 x.2.2.2.2.1⟩:aO))] ⟨sI,wI,sH,tV,tC,oS,rW,vX,b,trivial⟩ (mA [(17,([[0,1,2,3,4,5,6,7,8,9,10,11,12,13,14,15,16]],[]))] [(15,([(75,tB)],[0,1,2,3,4,10,11,12,13])),(17,([(97,tB)],[0,1,2,3,4,10,11,12,13]))] [(10,([(3,tI)],[0,1,2,4,10,11,12])),(15,([(13,tI),(14,tI)],[0,1,2,3,4,10,11,12])),(17,([],[0,1,2,3,4,10,11,12,13]))] [(2,([(1,tI),(2,tI),(3,tI),(10,tB),(11,tB)],[0,4]))] [(0,[]),(1,[(1,tI),(2,tI),(3,tI),(10,tB),(11,tB)])] [] [4,29,36,43,51,60,79,84,102,110,133,145]) func96 (by kernel_rfl) call96 λx=>by kernel_rfl
noncomputable def mG:aO:=⟨[tS,(.one .any)],[],λx=>mD ids x.1 x.2.1⟩
theorem uL:bZ prog 62 mG:=fo [(97,zR),(96,oD)] ⟨Ek,xJ,trivial⟩ (m0 [] [1,12]) func62 (by kernel_rfl) call62 λx=>by kernel_rfl
noncomputable def H4:aO:=⟨[tP],[tS],λx=>HG ids x.1⟩
theorem Qf:bZ prog 39 H4:=fo [(62,mG)] ⟨uL,trivial⟩ (mA [] [] [] [(3,([(3,tS)],[16]))] [(0,[(3,tS)]),(1,[(3,tS)])] [(2,tS)] []) func39 (by kernel_rfl) call39 λx=>by kernel_rfl
noncomputable def H2:aO:=⟨[tP],[tI,tI],λx=>uN ids x.1⟩
theorem Qd:bZ prog 12 H2:=fo [] trivial (mA [(1,([[0,1,2,3,4,5,6,7,8,9,10,11]],[]))] [] [] [] [] [(2,tI),(3,tI)] []) func12 (by kernel_rfl) call12 λx=>by kernel_rfl
noncomputable def H3:aO:=⟨[tP],[tB],λx=>uO ids x.1⟩
theorem Qe:bZ prog 17 H3:=fo [] trivial (mA [(1,([[0,1,2,3,4,5,6,7,8,9,10,11,12,13,14,15,16,17,18,19,20,21,22,23,24,25]],[]))] [(1,([(2,tB)],[]))] [] [] [] [(2,tB)] []) func17 (by kernel_rfl) call17 λx=>by kernel_rfl
noncomputable def Gy:aO:=⟨[tP],[tB],λx=>sN ids x.1⟩
theorem On:bZ prog 40 Gy:=fo [] trivial (m0 [(2,tB)] []) func40 (by kernel_rfl) call40 λx=>by kernel_rfl
noncomputable def sW:aO:=⟨[tP,tI],[tB],λx=>mZ ids x.1 x.2.1⟩
theorem yG:bZ prog 49 sW:=fo [(23,AR)] ⟨Dx,trivial⟩ (mA [] [(1,([(4,tB)],[]))] [] [] [] [(4,tB)] []) func49 (by kernel_rfl) call49 λx=>by kernel_rfl
noncomputable def EJ:aO:=⟨[tP],[tP],λx=>yM ids x.1⟩
theorem KJ:bZ prog 52 EJ:=fo [] trivial (m0 [(2,tP)] []) func52 (by kernel_rfl) call52 λx=>by kernel_rfl
noncomputable def H0:aO:=⟨[tP,tI],[tI],λx=>oX ids x.1 x.2.1⟩
theorem Qc:bZ prog 25 H0:=fo [(49,sW),(51,jP),(52,EJ)] ⟨yG,nC,KJ,trivial⟩ (mA [(6,([[0,1,2,3,4,5,6,8,9,10,11,12,7,13,14,15,16,17,18,19,20,21,22,23,24]],[(12,7)]))] [] [] [(8,([],[0,5,51]))] [(0,[]),(1,[])] [(4,tI)] []) func25 (by kernel_rfl) call25 λx=>by kernel_rfl
noncomputable def Kq:aO:=⟨[tP],[tI],λx=>Bv ids x.1⟩
theorem SG:bZ prog 46 Kq:=fo [(50,zN)] ⟨Eg,trivial⟩ (m0 [(2,tI)] []) func46 (by kernel_rfl) call46 λx=>by kernel_rfl
noncomputable def Ib:aO:=⟨[tI,tI],[tI],λx=>Ak ids x.1 x.2.1⟩
theorem Ql:bZ prog 98 Ib:=fo [(118,Dn)] ⟨G9,trivial⟩ (m0 [(4,tI)] [5,7,8,10]) func98 (by kernel_rfl) call98 λx=>by kernel_rfl
noncomputable def AS:aO:=⟨[(.agg [.ptr]),tI],[(.agg b7),tB],λx=>uT ids x.1 x.2.1⟩
theorem Fi:bZ prog 100 AS:=fo [(68,gO)] ⟨iP,trivial⟩ (mA [] [(2,([(16,tB)],[1,4,6]))] [] [(2,([(1,tI),(6,tP)],[4]))] [(0,[]),(1,[(1,tI),(6,tP)]),(2,[(1,tI),(6,tP)])] [(4,tP),(5,tB)] []) func100 (by kernel_rfl) call100 λx=>by kernel_rfl
noncomputable def G4:aO:=⟨[(.agg b7),tI,tI],[(.agg b7),(.agg b7)],λx=>dO ids x.1 x.2.1 x.2.2.1⟩
theorem MZ:bZ prog 101 G4:=fo [(92,vL),(93,tN)] ⟨Aw,zT,trivial⟩ (mA [(9,([[0,1,2,3,4,5,6,7,9,10,11,12,13,14,8,15,16,17]],[(11,8)]))] [(2,([(20,tB)],[1,2,3,6,7,8]))] [(9,([(11,tI)],[1,3,6,7,8]))] [(2,([(2,tI),(8,tI)],[1,3,6,7]))] [(0,[(8,tI)]),(1,[(8,tI)])] [(6,tP),(7,tP)] []) func101 (by kernel_rfl) call101 λx=>by kernel_rfl
noncomputable def H8:aO:=⟨[tP,tI],[(.agg b5)],λx=>uR ids x.1 x.2.1⟩
theorem Qj:bZ prog 99 H8:=fo [(95,BL),(123,wZ),(100,AS),(101,G4),(119,xD)] ⟨Fh,CN,Fi,MZ,A3,trivial⟩ (mA [(5,([[0,1,2,3,4,5,6,7,8,9,10,11,12,13],[0,1,2,3,4,5,6,7,8,9,11,10,12,13],[0,1,2,3,4,5,10,6,7,8,9,11,12,13],[0,1,2,3,4,5,10,11,6,7,8,9,12,13],[0,1,2,3,4,5,11,6,7,8,9,10,12,13],[0,1,2,3,4,5,11,10,6,7,8,9,12,13]],[(0,10),(0,11),(4,10),(4,11)]))] [(5,([(10,tP)],[4,7]))] [(7,([],[4,7]))] [] [] [(4,tP)] []) func99 (by kernel_rfl) call99 λx=>by kernel_rfl
noncomputable def GA:aO:=⟨[tP,tS],[tI],λx=>xV ids x.1 x.2.1⟩
theorem Ot:bZ prog 69 GA:=fo [(23,AR),(46,Kq),(98,Ib),(99,H8)] ⟨Dx,SG,Ql,Qj,trivial⟩ (mA [(28,([[0,1,2,3,6,7,8,4,5,9,10,11,12,13]],[(8,4)]))] [(7,([(44,tB)],[0,1,6,8,22,23,24]))] [(29,([(9,tI)],[0,76,77,78]))] [(5,([(5,tI),(24,tI)],[0,1,6,22,23])),(13,([(9,tI),(52,tI)],[0,1,50,51])),(16,([(9,tI),(59,tI)],[0,1,50,51,52,57,58])),(25,([(9,tI),(78,tI)],[0,76,77]))] [(0,[]),(1,[(5,tI)]),(2,[(9,tI)]),(3,[(9,tI)]),(4,[(9,tI)]),(5,[(9,tI)]),(6,[(9,tI)]),(7,[(9,tI)])] [(4,tI)] []) func69 (by kernel_rfl) call69 λx=>by kernel_rfl
noncomputable def EK:aO:=⟨[tP,tP,tP,tP],[],λx=>lL ids x.1 x.2.1 x.2.2.1 x.2.2.2.1⟩
theorem MS:bZ prog 134 EK:=fo [(93,tN)] ⟨zT,trivial⟩ (mA [(2,([[0,1,2,3,4,5,6,7,8,9,10,11,12,13,14,15,16]],[(0,13),(0,14)]))] [] [] [] [] [] []) func134 (by kernel_rfl) call134 λx=>by kernel_rfl
noncomputable def EN:aO:=⟨[tI,tS],[tS,tI,tI],λx=>qS ids x.1 x.2.1⟩
theorem MU:bZ prog 135 EN:=fo [(118,Dn)] ⟨G9,trivial⟩ (mA [] [] [] [(6,([(8,tS),(17,tI)],[7,15,16]))] [(0,[(8,tS)]),(1,[(8,tS)])] [(4,tS),(5,tI),(6,tI)] [7,12,13,22,27]) func135 (by kernel_rfl) call135 λx=>by kernel_rfl
noncomputable def Ia:aO:=⟨[tP,tS],[tS],λx=>Aj ids x.1 x.2.1⟩
theorem Qk:bZ prog 102 Ia:=fo [(134,EK),(135,EN)] ⟨MS,MU,trivial⟩ (mA [(12,([[0,1,2,3,4,5,6,7,8,9]],[(0,6)]))] [(8,([(11,tB)],[2,5,7,8,10,21,22,23])),(9,([(42,tB)],[2,5,7,8,10,11,21,22,23]))] [(11,([],[2,5,7,8,10,11,21,22,23])),(16,([],[2,5,7,8,21,22,23]))] [(6,([(23,tI)],[2,5,7,8,21,22]))] [(0,[]),(1,[])] [(4,tS)] []) func102 (by kernel_rfl) call102 λx=>by kernel_rfl
noncomputable def xE:aO:=⟨[tP,(.agg b7),tP],[tP],λx=>rP ids x.1 x.2.1 x.2.2.1⟩
theorem CQ:bZ prog 158 xE:=fo [(156,rS),(144,vQ)] ⟨xI,A4,trivial⟩ (mA [(2,([[0,1,2,3,5,6,7,8,4,9,10]],[(8,4)])),(3,([[0,1,2,3,4,5,6,7,8,9,10,11,12,13,14,15,16]],[(3,14),(7,14)])),(5,([[0,1,2,3,4,5,6,7,8,9,10,11,13,14,15,16,17,18,19,20,21,22,12,23,24,25]],[(16,12),(16,23),(20,12),(21,12)])),(7,([[0,1,2,3,5,6,7,8,4,9,10]],[(8,4)])),(8,([[0,1,2,3,4,5,7,8,9,10,11,12,13,14,6,15,16]],[(10,6),(14,6)])),(10,([[0,1,2,3,4,5,7,8,9,10,11,12,13,14,15,16,17,18,19,20,21,22,6,23,24,25]],[(10,6),(10,23),(14,6),(18,6),(22,6)]))] [] [] [] [(0,[])] [(6,tP)] []) func158 (by kernel_rfl) call158 λx=>by kernel_rfl
noncomputable def xF:aO:=⟨[tP,(.agg b7),tP],[tP],λx=>lJ ids x.1 x.2.1 x.2.2.1⟩
theorem CR:bZ prog 150 xF:=
 Sr (tys:=[tP,(.agg b7),tP]) (res:=[tP]) (R:=λa=>λx=>hS a ids x.1 x.2.1 x.2.2.1) (λ_=>rfl) (λ_ _=>Tryz.call150 _ _) λa b=>
 fo [(156,rS),(150,(⟨[tP,(.agg b7),tP],[tP],λx=>hS a ids x.1 x.2.1 x.2.2.1⟩:aO)),(158,xE),(144,vQ)] ⟨xI,b,CQ,A4,trivial⟩ (mA [(2,([[0,1,2,3,4,5,6,7,8,9,10,11,12,13,14,15,16]],[(3,14),(7,14)])),(4,([[0,1,2,3,4,5,7,8,9,10,11,12,13,14,6,15,16]],[(10,6),(14,6)]))] [] [] [] [(0,[])] [(6,tP)] []) func150 (by kernel_rfl) call150 λx=>by kernel_rfl
noncomputable def D4:aO:=⟨[tP,tI],[tP,tP],λx=>tG ids x.1 x.2.1⟩
theorem K7:bZ prog 136 D4:=
 Sr (tys:=[tP,tI]) (res:=[tP,tP]) (R:=λa=>λx=>iV a ids x.1 x.2.1) (λ_=>rfl) (λ_ _=>Tryz.call136 _ _) λa b=>
 fo [(68,gO),(136,(⟨[tP,tI],[tP,tP],λx=>iV a ids x.1 x.2.1⟩:aO)),(150,xF)] ⟨iP,b,CR,trivial⟩ (mA [(6,([[0,1,2,3,4,5,6,7,8,9,10,11,12]],[])),(8,([[0,1,2,3,4,5,6,7,8,10,9,11,12]],[]))] [] [] [] [] [(4,tP),(5,tP)] []) func136 (by kernel_rfl) call136 λx=>by kernel_rfl
noncomputable def BQ:aO:=⟨[tP],[(.agg b7),tP],λx=>uZ ids x.1⟩
theorem IF:bZ prog 151 BQ:=
 Sr (tys:=[tP]) (res:=[(.agg b7),tP]) (R:=λa=>λx=>iN a ids x.1) (λ_=>rfl) (λ_ _=>Tryz.call151 _ _) λa b=>
 fo [(151,(⟨[tP],[(.agg b7),tP],λx=>iN a ids x.1⟩:aO)),(158,xE)] ⟨b,CQ,trivial⟩ (mA [(2,([[0,1,2,3,4,5,6,7,8,9]],[(7,8)])),(4,([[0,1,2,3,4,5,6,7,8,9,10,11,12]],[(0,10)]))] [] [] [] [] [(2,tP),(3,tP)] []) func151 (by kernel_rfl) call151 λx=>by kernel_rfl
noncomputable def CH:aO:=⟨[tP,tP],[tP],λx=>nZ ids x.1 x.2.1⟩
theorem JM:bZ prog 137 CH:=fo [(151,BQ),(150,xF)] ⟨IF,CR,trivial⟩ (m0 [(4,tP)] []) func137 (by kernel_rfl) call137 λx=>by kernel_rfl
noncomputable def Ad:aO:=⟨[(.agg [.ptr]),tI,tI,tS],[(.agg [.ptr]),tI],λx=>nP ids x.1 x.2.1 x.2.2.1 x.2.2.2.1⟩
theorem Gn:bZ prog 103 Ad:=fo [(104,rR),(136,D4),(121,vO),(137,CH)] ⟨xH,K7,BX,JM,trivial⟩ (mA [] [(1,([(26,tB)],[1,2,3,4,8]))] [] [] [] [(8,tP),(9,tI)] []) func103 (by kernel_rfl) call103 λx=>by kernel_rfl
noncomputable def EL:aO:=⟨[tP,tI,tI,tS],[],λx=>uS ids x.1 x.2.1 x.2.2.1 x.2.2.2.1⟩
theorem MT:bZ prog 70 EL:=fo [(95,BL),(100,AS),(101,G4),(102,Ia),(104,rR),(103,Ad)] ⟨Fh,Fi,MZ,Qk,xH,Gn,trivial⟩ (mA [(5,([[0,1,2,3,4,5,6,7,8,9,10,11,12,13],[0,1,2,3,4,5,6,7,8,9,11,10,12,13],[0,1,2,3,4,5,10,6,7,8,9,11,12,13],[0,1,2,3,4,5,10,11,6,7,8,9,12,13],[0,1,2,3,4,5,11,6,7,8,9,10,12,13],[0,1,2,3,4,5,11,10,6,7,8,9,12,13]],[(0,10),(0,11),(4,10),(4,11)])),(10,([[0,1,2,3,4,5,6,7,8,9,10,11,12,13],[0,1,2,3,4,5,6,7,8,9,11,10,12,13],[0,1,2,3,4,5,10,6,7,8,9,11,12,13],[0,1,2,3,4,5,10,11,6,7,8,9,12,13],[0,1,2,3,4,5,11,6,7,8,9,10,12,13],[0,1,2,3,4,5,11,10,6,7,8,9,12,13]],[(0,10),(0,11),(4,10),(4,11)])),(13,([[0,1,2,3,4,5,6,7,8,9,10,11,14,12,13,15,16,17,18,19,20,21]],[(4,12)]))] [(4,([(46,tB)],[0,3,8,9,10,11,12,13])),(5,([(15,tP)],[0,3,8,10,11,12])),(10,([(20,tP)],[0,8,10,12]))] [(7,([(12,tS)],[0,3,8,10,11])),(13,([(12,tS)],[0,8,10]))] [] [] [] []) func70 (by kernel_rfl) call70 λx=>by kernel_rfl
noncomputable def Gz:aO:=⟨[tP,tS],[tI],λx=>xU ids x.1 x.2.1⟩
theorem Oo:bZ prog 53 Gz:=fo [(69,GA),(70,EL)] ⟨Ot,MT,trivial⟩ (mA [] [(8,([(35,tB)],[0,1,6,7]))] [(6,([],[0,1,6]))] [(5,([(6,tI)],[0,1]))] [(0,[]),(1,[])] [(4,tI)] []) func53 (by kernel_rfl) call53 λx=>by kernel_rfl
noncomputable def ER:aO:=⟨[tI,tS],[tI,tB],λx=>qT ids x.1 x.2.1⟩
theorem MX:bZ prog 65 ER:=fo [] trivial (mA [] [] [(4,([(0,tI),(6,tB)],[1,7]))] [(3,([(0,tI),(6,tB),(7,tI)],[1]))] [(0,[(0,tI),(6,tB)]),(1,[(0,tI),(6,tB)]),(2,[(0,tI),(6,tB)])] [(4,tI),(5,tB)] []) func65 (by kernel_rfl) call65 λx=>by kernel_rfl
noncomputable def yD:aO:=⟨[tP,tS],[],λx=>lE ids x.1 x.2.1⟩
theorem Cd:bZ prog 43 yD:=fo [(65,ER)] ⟨MX,trivial⟩ (mA [(3,([[0,1,2,3,4,5,6,7,8,9,10,11]],[(3,7)]))] [] [(11,([(8,tI)],[0,1,6,34,35,36])),(12,([],[0,1,34,35,36]))] [(1,([],[0,1,14])),(5,([(36,tI)],[0,1,34,35]))] [(0,[]),(1,[]),(2,[]),(3,[])] [] []) func43 (by kernel_rfl) call43 λx=>by kernel_rfl
noncomputable def Gx:aO:=⟨[tP,tS],[tI],λx=>jN ids x.1 x.2.1⟩
theorem Om:bZ prog 26 Gx:=fo [(53,Gz),(43,yD)] ⟨Oo,Cd,trivial⟩ (mA [(14,([[0,1,2,3,4,5,6,7,8,9,10,11,12,13,14,15,16,17,18]],[(3,13),(3,14),(7,13),(11,13)]))] [(11,([(54,tB)],[0,6,26,27,28]))] [(13,([],[0,6,26,27,28]))] [(8,([(28,tI)],[0,6,26,27]))] [(0,[]),(1,[])] [(4,tI)] []) func26 (by kernel_rfl) call26 λx=>by kernel_rfl
noncomputable def BJ:aO:=⟨[tP],[],λx=>Et ids x.1⟩
theorem KI:bZ prog 54 BJ:=fo [] trivial (m0 [] []) func54 (by kernel_rfl) call54 λx=>by kernel_rfl
theorem Qz:fw Tryz.prog 54 BJ:=
 kl gp (l:=[]) trivial (An:=(m0 [] [])) Tryz.func54 (c:=Tryz.f54.body.getD .skip) (by kernel_rfl) Tryz.ntmps54 (by kernel_rfl) _ (by kernel_rfl) (λx=>by kernel_rfl) (by kernel_rfl) (by kernel_rfl)
end
end
end Go.Proofs.YtncolficnfcdcaaGreat
