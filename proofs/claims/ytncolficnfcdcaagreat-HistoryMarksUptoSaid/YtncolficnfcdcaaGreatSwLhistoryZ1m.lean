
/- Steps. -/
import Derived.Test.YtncolficnfcdcaaGreatSwLhistoryZ0m
set_option linter.unusedVariables false
set_option linter.unusedSimpArgs false
set_option maxRecDepth 100000
set_option maxHeartbeats 4000000
namespace Go.Proofs.YtncolficnfcdcaaGreat
open Go Go.Sw Tryz
section
noncomputable section
noncomputable def kL:aO:=⟨[tS,tI,tI,tI,tP,(.one .any)],[tI],λx=>fT ids x.1 x.2.1 x.2.2.1 x.2.2.2.1 x.2.2.2.2.1 x.2.2.2.2.2.1⟩
theorem pD:cB prog 149 kL:=fo [(157,pC)] ⟨zO,trivial⟩ (m0 [(12,tI)] [5,18,27,36]) func149 (by kernel_rfl) call149 λx=>by kernel_rfl
noncomputable def kX:aO:=⟨[tS,tI,tP,(.one .any)],[tI],λx=>fG ids x.1 x.2.1 x.2.2.1 x.2.2.2.1⟩
theorem sL:cB prog 148 kX:=fo [(149,kL)] ⟨pD,trivial⟩ (m0 [(8,tI)] [3,16]) func148 (by kernel_rfl) call148 λx=>by kernel_rfl
noncomputable def mG:aO:=⟨[tS,tI,tI,(.one .any)],[tI,tI],λx=>fX ids x.1 x.2.1 x.2.2.1 x.2.2.2.1⟩
theorem uI:cB prog 127 mG:=fo [(148,kX),(149,kL)] ⟨sL,pD,trivial⟩ (mA [] [] [(11,([(12,tI),(13,tI),(14,tI)],[0,3,11])),(12,([(13,tI)],[11]))] [] [(0,[(8,tI),(9,tI)])] [(8,tI),(9,tI)] [3,39,43,47,53]) func127 (by kernel_rfl) call127 λx=>by kernel_rfl
noncomputable def lV:aO:=⟨[tS,tI,tI,(.one .any)],[],λx=>fQ ids x.1 x.2.1 x.2.2.1 x.2.2.2.1⟩
theorem tT:cB prog 128 lV:=fo [] trivial (mA [(3,([[0,1,2,3,4,5,6,7,8,9,10,11,12,13,14,15]],[]))] [] [] [(2,([(8,tI),(9,tI)],[0]))] [(0,[]),(1,[(8,tI),(9,tI)])] [] [3]) func128 (by kernel_rfl) call128 λx=>by kernel_rfl
noncomputable def iX:aO:=⟨[tS,tI,tI,(.one .any)],[tB],λx=>eQ ids x.1 x.2.1 x.2.2.1 x.2.2.2.1⟩
theorem pA:cB prog 129 iX:=fo [] trivial (mA [(5,([[0,1,2,3,4,5,6,7,8,9,10,11,12,13,14,15,16,17]],[])),(11,([[0,1,2,3,4,5,6,7,8,9,10,11,12,13,14,15,16,17]],[])),(16,([[0,1,2,3,4,5,6,7,8,9,10,11,12]],[])),(17,([[0,1,2,3,4,5,6,7,8,9,10,11,12,13,14,15,16,17]],[])),(22,([[0,1,2,3,4,5,6,7,8,9,10,11,12]],[])),(23,([[0,1,2,3,4,5,6,7,8,9,10,11,12,13,14,15,16,17]],[]))] [(5,([(36,tB)],[0,1,2,3,9,10]))] [(4,([(9,tI)],[0,1,2,3,10])),(18,([],[0,1,2,3,9,10]))] [(3,([(9,tI),(10,tI)],[0,1,2,3])),(5,([(9,tI)],[0,1,2,3,10])),(14,([(11,tI)],[0,1,2,3,9,10])),(20,([(12,tI)],[0,1,2,3,9,10]))] [(0,[]),(1,[(9,tI)]),(2,[(9,tI)]),(3,[(9,tI)]),(4,[]),(5,[]),(6,[]),(7,[])] [(8,tB)] [3,23,72,112]) func129 (by kernel_rfl) call129 λx=>by kernel_rfl
noncomputable def kY:aO:=⟨[tS,tI,tI,tI,(.one .any)],[tI],λx=>kV ids x.1 x.2.1 x.2.2.1 x.2.2.2.1 x.2.2.2.2.1⟩
theorem sM:cB prog 130 kY:=fo [] trivial (mA [(1,([[0,1,2,3,4,5,6,7,8,9,10,11,12,13,14,15]],[])),(3,([[0,1,2,3,4,5,6,7,8,9,10,11,12,13,14,15,16]],[])),(5,([[0,1,2,3,4,5,6,7,8,9,10,11,12,13,14,15]],[])),(8,([[0,1,2,3,4,5,6,7,8,9,10,11,12,13,14,15]],[]))] [(3,([(47,tB)],[0,1,4,11,12])),(5,([(65,tB)],[0,1,4,11,12]))] [] [(3,([(11,tI)],[0,1,4,12])),(5,([(12,tI)],[0,1,4,11])),(1000003,([(11,tI),(12,tI)],[0,1,4]))] [(0,[(11,tI)]),(1,[(11,tI),(12,tI)]),(2,[(11,tI)]),(3,[(11,tI)]),(4,[(12,tI)]),(5,[(12,tI)])] [(10,tI)] [4,35,54]) func130 (by kernel_rfl) call130 λx=>by kernel_rfl
noncomputable def nF:aO:=⟨[tS,tI,tI,tI,(.one .any)],[tI,tB],λx=>gK ids x.1 x.2.1 x.2.2.1 x.2.2.2.1 x.2.2.2.2.1⟩
theorem wL:cB prog 131 nF:=fo [] trivial (mA [(1,([[0,1,2,3,4,5,6,7,8,9,10,11,12,13,14,15]],[])),(3,([[0,1,2,3,4,5,6,7,8,9,10,11,12,13,14,15]],[])),(5,([[0,1,2,3,4,5,6,7,8,9,10,11,12,13,14,15,16]],[])),(8,([[0,1,2,3,4,5,6,7,8,9,10,11,12,13,14,15]],[])),(10,([[0,1,2,3,4,5,6,7,8,9,10,11,12,13,14,15]],[])),(13,([[0,1,2,3,4,5,6,7,8,9,10,11,12,13,14,15]],[])),(15,([[0,1,2,3,4,5,6,7,8,9,10,11,12,13,14,15,16]],[])),(18,([[0,1,2,3,4,5,6,7,8,9,10,11,12,13,14,15]],[])),(21,([[0,1,2,3,4,5,6,7,8,9,10,11,12,13,14,15]],[]))] [(3,([(47,tB)],[0,1,4,12,13])),(5,([(66,tB)],[0,1,4,12,13])),(13,([(120,tB)],[0,1,4,12,13])),(15,([(139,tB)],[0,1,4,12,13]))] [] [(3,([(12,tI)],[0,1,4,13])),(5,([(13,tI)],[0,1,4,12])),(13,([(12,tI)],[0,1,4,13])),(15,([(13,tI)],[0,1,4,12])),(1000013,([(12,tI),(13,tI)],[0,1,4]))] [(0,[(12,tI)]),(1,[(12,tI)]),(2,[(13,tI)]),(3,[(13,tI)]),(4,[(13,tI)]),(5,[(12,tI),(13,tI)]),(6,[(12,tI)]),(7,[(12,tI)]),(8,[(13,tI)]),(9,[(13,tI)])] [(10,tI),(11,tB)] [4,36,54,109,127]) func131 (by kernel_rfl) call131 λx=>by kernel_rfl
noncomputable def oK:aO:=⟨[tS,tI,tI,tI,(.one .any)],[],λx=>gU ids x.1 x.2.1 x.2.2.1 x.2.2.2.1 x.2.2.2.2.1⟩
theorem xX:cB prog 96 oK:=
 Ta (tys:=[tS,tI,tI,tI,(.one .any)]) (res:=[]) (R:=λa=>λx=>dZ a ids x.1 x.2.1 x.2.2.1 x.2.2.2.1 x.2.2.2.2.1) (λ_=>rfl) (λ_ _=>Tryz.call96 _ _) λa b=>
 fo [(124,lK),(125,nV),(126,lJ),(127,mG),(128,lV),(129,iX),(130,kY),(131,nF),(96,(⟨[tS,tI,tI,tI,(.one .any)],[],λx=>dZ a ids x.1 x.2.1 x.2.2.1 x.2.2.2.1 x.2.2.2.2.1⟩:aO))] ⟨sW,wW,sV,uI,tT,pA,sM,wL,b,trivial⟩ (mA [(17,([[0,1,2,3,4,5,6,7,8,9,10,11,12,13,14,15,16]],[]))] [(15,([(75,tB)],[0,1,2,3,4,10,11,12,13])),(17,([(97,tB)],[0,1,2,3,4,10,11,12,13]))] [(10,([(3,tI)],[0,1,2,4,10,11,12])),(15,([(13,tI),(14,tI)],[0,1,2,3,4,10,11,12])),(17,([],[0,1,2,3,4,10,11,12,13]))] [(2,([(1,tI),(2,tI),(3,tI),(10,tB),(11,tB)],[0,4]))] [(0,[]),(1,[(1,tI),(2,tI),(3,tI),(10,tB),(11,tB)])] [] [4,29,36,43,51,60,79,84,102,110,133,145]) func96 (by kernel_rfl) call96 λx=>by kernel_rfl
noncomputable def mT:aO:=⟨[tS,(.one .any)],[],λx=>gC ids x.1 x.2.1⟩
theorem uV:cB prog 62 mT:=fo [(97,Ah),(96,oK)] ⟨EI,xX,trivial⟩ (m0 [] [1,12]) func62 (by kernel_rfl) call62 λx=>by kernel_rfl
noncomputable def Ix:aO:=⟨[tP],[tS],λx=>Az ids x.1⟩
theorem QN:cB prog 39 Ix:=fo [(62,mT)] ⟨uV,trivial⟩ (mA [] [] [] [(3,([(3,tS)],[16]))] [(0,[(3,tS)]),(1,[(3,tS)])] [(2,tS)] []) func39 (by kernel_rfl) call39 λx=>by kernel_rfl
noncomputable def Iv:aO:=⟨[tP],[tI,tI],λx=>uX ids x.1⟩
theorem QL:cB prog 12 Iv:=fo [] trivial (mA [(1,([[0,1,2,3,4,5,6,7,8,9,10,11]],[]))] [] [] [] [] [(2,tI),(3,tI)] []) func12 (by kernel_rfl) call12 λx=>by kernel_rfl
noncomputable def Iw:aO:=⟨[tP],[tB],λx=>uY ids x.1⟩
theorem QM:cB prog 17 Iw:=fo [] trivial (mA [(1,([[0,1,2,3,4,5,6,7,8,9,10,11,12,13,14,15,16,17,18,19,20,21,22,23,24,25]],[]))] [(1,([(2,tB)],[]))] [] [] [] [(2,tB)] []) func17 (by kernel_rfl) call17 λx=>by kernel_rfl
noncomputable def GW:aO:=⟨[tP],[tB],λx=>tC ids x.1⟩
theorem O0:cB prog 40 GW:=fo [] trivial (m0 [(2,tB)] []) func40 (by kernel_rfl) call40 λx=>by kernel_rfl
noncomputable def tN:aO:=⟨[tP,tI],[tB],λx=>nK ids x.1 x.2.1⟩
theorem yW:cB prog 49 tN:=fo [(23,Be)] ⟨DR,trivial⟩ (mA [] [(1,([(4,tB)],[]))] [] [] [] [(4,tB)] []) func49 (by kernel_rfl) call49 λx=>by kernel_rfl
noncomputable def E8:aO:=⟨[tP],[tP],λx=>zD ids x.1⟩
theorem Lf:cB prog 52 E8:=fo [] trivial (m0 [(2,tP)] []) func52 (by kernel_rfl) call52 λx=>by kernel_rfl
noncomputable def Iu:aO:=⟨[tP,tI],[tI],λx=>pF ids x.1 x.2.1⟩
theorem QK:cB prog 25 Iu:=fo [(49,tN),(51,kG),(52,E8)] ⟨yW,nN,Lf,trivial⟩ (mA [(6,([[0,1,2,3,4,5,6,8,9,10,11,12,7,13,14,15,16,17,18,19,20,21,22,23,24]],[(12,7)]))] [] [] [(8,([],[0,5,51]))] [(0,[]),(1,[])] [(4,tI)] []) func25 (by kernel_rfl) call25 λx=>by kernel_rfl
noncomputable def KV:aO:=⟨[tP],[tI],λx=>BL ids x.1⟩
theorem Tl:cB prog 46 KV:=fo [(50,Ae)] ⟨EF,trivial⟩ (m0 [(2,tI)] []) func46 (by kernel_rfl) call46 λx=>by kernel_rfl
noncomputable def ID:aO:=⟨[tI,tI],[tI],λx=>AD ids x.1 x.2.1⟩
theorem QT:cB prog 98 ID:=fo [(118,DI)] ⟨Hv,trivial⟩ (m0 [(4,tI)] [5,7,8,10]) func98 (by kernel_rfl) call98 λx=>by kernel_rfl
noncomputable def Bf:aO:=⟨[(.agg [.ptr]),tI],[(.agg b7),tB],λx=>vF ids x.1 x.2.1⟩
theorem FF:cB prog 100 Bf:=fo [(68,iD)] ⟨jE,trivial⟩ (mA [] [(2,([(16,tB)],[1,4,6]))] [] [(2,([(1,tI),(6,tP)],[4]))] [(0,[]),(1,[(1,tI),(6,tP)]),(2,[(1,tI),(6,tP)])] [(4,tP),(5,tB)] []) func100 (by kernel_rfl) call100 λx=>by kernel_rfl
noncomputable def Hq:aO:=⟨[(.agg b7),tI,tI],[(.agg b7),(.agg b7)],λx=>dT ids x.1 x.2.1 x.2.2.1⟩
theorem NC:cB prog 101 Hq:=fo [(92,wB),(93,uD)] ⟨AP,Ai,trivial⟩ (mA [(9,([[0,1,2,3,4,5,6,7,9,10,11,12,13,14,8,15,16,17]],[(11,8)]))] [(2,([(20,tB)],[1,2,3,6,7,8]))] [(9,([(11,tI)],[1,3,6,7,8]))] [(2,([(2,tI),(8,tI)],[1,3,6,7]))] [(0,[(8,tI)]),(1,[(8,tI)])] [(6,tP),(7,tP)] []) func101 (by kernel_rfl) call101 λx=>by kernel_rfl
noncomputable def IB:aO:=⟨[tP,tI],[(.agg b5)],λx=>vD ids x.1 x.2.1⟩
theorem QR:cB prog 99 IB:=fo [(95,B2),(123,xP),(100,Bf),(101,Hq),(119,xR)] ⟨FE,C8,FF,NC,Bo,trivial⟩ (mA [(5,([[0,1,2,3,4,5,6,7,8,9,10,11,12,13],[0,1,2,3,4,5,6,7,8,9,11,10,12,13],[0,1,2,3,4,5,10,6,7,8,9,11,12,13],[0,1,2,3,4,5,10,11,6,7,8,9,12,13],[0,1,2,3,4,5,11,6,7,8,9,10,12,13],[0,1,2,3,4,5,11,10,6,7,8,9,12,13]],[(0,10),(0,11),(4,10),(4,11)]))] [(5,([(10,tP)],[4,7]))] [(7,([],[4,7]))] [] [] [(4,tP)] []) func99 (by kernel_rfl) call99 λx=>by kernel_rfl
noncomputable def GY:aO:=⟨[tP,tS],[tI],λx=>yL ids x.1 x.2.1⟩
theorem O3:cB prog 69 GY:=fo [(23,Be),(46,KV),(98,ID),(99,IB)] ⟨DR,Tl,QT,QR,trivial⟩ (mA [(28,([[0,1,2,3,6,7,8,4,5,9,10,11,12,13]],[(8,4)]))] [(7,([(44,tB)],[0,1,6,8,22,23,24]))] [(29,([(9,tI)],[0,76,77,78]))] [(5,([(5,tI),(24,tI)],[0,1,6,22,23])),(13,([(9,tI),(52,tI)],[0,1,50,51])),(16,([(9,tI),(59,tI)],[0,1,50,51,52,57,58])),(25,([(9,tI),(78,tI)],[0,76,77]))] [(0,[]),(1,[(5,tI)]),(2,[(9,tI)]),(3,[(9,tI)]),(4,[(9,tI)]),(5,[(9,tI)]),(6,[(9,tI)]),(7,[(9,tI)])] [(4,tI)] []) func69 (by kernel_rfl) call69 λx=>by kernel_rfl
noncomputable def E9:aO:=⟨[tP,tP,tP,tP],[],λx=>lZ ids x.1 x.2.1 x.2.2.1 x.2.2.2.1⟩
theorem Nv:cB prog 134 E9:=fo [(93,uD)] ⟨Ai,trivial⟩ (mA [(2,([[0,1,2,3,4,5,6,7,8,9,10,11,12,13,14,15,16]],[(0,13),(0,14)]))] [] [] [] [] [] []) func134 (by kernel_rfl) call134 λx=>by kernel_rfl
noncomputable def Fc:aO:=⟨[tI,tS],[tS,tI,tI],λx=>rC ids x.1 x.2.1⟩
theorem Nx:cB prog 135 Fc:=fo [(118,DI)] ⟨Hv,trivial⟩ (mA [] [] [] [(6,([(8,tS),(17,tI)],[7,15,16]))] [(0,[(8,tS)]),(1,[(8,tS)])] [(4,tS),(5,tI),(6,tI)] [7,12,13,22,27]) func135 (by kernel_rfl) call135 λx=>by kernel_rfl
noncomputable def IC:aO:=⟨[tP,tS],[tS],λx=>AB ids x.1 x.2.1⟩
theorem QS:cB prog 102 IC:=fo [(134,E9),(135,Fc)] ⟨Nv,Nx,trivial⟩ (mA [(12,([[0,1,2,3,4,5,6,7,8,9]],[(0,6)]))] [(8,([(11,tB)],[2,5,7,8,10,21,22,23])),(9,([(42,tB)],[2,5,7,8,10,11,21,22,23]))] [(11,([],[2,5,7,8,10,11,21,22,23])),(16,([],[2,5,7,8,21,22,23]))] [(6,([(23,tI)],[2,5,7,8,21,22]))] [(0,[]),(1,[])] [(4,tS)] []) func102 (by kernel_rfl) call102 λx=>by kernel_rfl
noncomputable def xS:aO:=⟨[tP,(.agg b7),tP],[tP],λx=>sD ids x.1 x.2.1 x.2.2.1⟩
theorem Db:cB prog 158 xS:=fo [(156,sI),(144,wF)] ⟨xW,Bp,trivial⟩ (mA [(2,([[0,1,2,3,5,6,7,8,4,9,10]],[(8,4)])),(3,([[0,1,2,3,4,5,6,7,8,9,10,11,12,13,14,15,16]],[(3,14),(7,14)])),(5,([[0,1,2,3,4,5,6,7,8,9,10,11,13,14,15,16,17,18,19,20,21,22,12,23,24,25]],[(16,12),(16,23),(20,12),(21,12)])),(7,([[0,1,2,3,5,6,7,8,4,9,10]],[(8,4)])),(8,([[0,1,2,3,4,5,7,8,9,10,11,12,13,14,6,15,16]],[(10,6),(14,6)])),(10,([[0,1,2,3,4,5,7,8,9,10,11,12,13,14,15,16,17,18,19,20,21,22,6,23,24,25]],[(10,6),(10,23),(14,6),(18,6),(22,6)]))] [] [] [] [(0,[])] [(6,tP)] []) func158 (by kernel_rfl) call158 λx=>by kernel_rfl
noncomputable def xT:aO:=⟨[tP,(.agg b7),tP],[tP],λx=>lX ids x.1 x.2.1 x.2.2.1⟩
theorem Dc:cB prog 150 xT:=
 Ta (tys:=[tP,(.agg b7),tP]) (res:=[tP]) (R:=λa=>λx=>iR a ids x.1 x.2.1 x.2.2.1) (λ_=>rfl) (λ_ _=>Tryz.call150 _ _) λa b=>
 fo [(156,sI),(150,(⟨[tP,(.agg b7),tP],[tP],λx=>iR a ids x.1 x.2.1 x.2.2.1⟩:aO)),(158,xS),(144,wF)] ⟨xW,b,Db,Bp,trivial⟩ (mA [(2,([[0,1,2,3,4,5,6,7,8,9,10,11,12,13,14,15,16]],[(3,14),(7,14)])),(4,([[0,1,2,3,4,5,7,8,9,10,11,12,13,14,6,15,16]],[(10,6),(14,6)]))] [] [] [] [(0,[])] [(6,tP)] []) func150 (by kernel_rfl) call150 λx=>by kernel_rfl
noncomputable def Et:aO:=⟨[tP,tI],[tP,tP],λx=>tX ids x.1 x.2.1⟩
theorem Lz:cB prog 136 Et:=
 Ta (tys:=[tP,tI]) (res:=[tP,tP]) (R:=λa=>λx=>jK a ids x.1 x.2.1) (λ_=>rfl) (λ_ _=>Tryz.call136 _ _) λa b=>
 fo [(68,iD),(136,(⟨[tP,tI],[tP,tP],λx=>jK a ids x.1 x.2.1⟩:aO)),(150,xT)] ⟨jE,b,Dc,trivial⟩ (mA [(6,([[0,1,2,3,4,5,6,7,8,9,10,11,12]],[])),(8,([[0,1,2,3,4,5,6,7,8,10,9,11,12]],[]))] [] [] [] [] [(4,tP),(5,tP)] []) func136 (by kernel_rfl) call136 λx=>by kernel_rfl
noncomputable def B7:aO:=⟨[tP],[(.agg b7),tP],λx=>vN ids x.1⟩
theorem I5:cB prog 151 B7:=
 Ta (tys:=[tP]) (res:=[(.agg b7),tP]) (R:=λa=>λx=>jD a ids x.1) (λ_=>rfl) (λ_ _=>Tryz.call151 _ _) λa b=>
 fo [(151,(⟨[tP],[(.agg b7),tP],λx=>jD a ids x.1⟩:aO)),(158,xS)] ⟨b,Db,trivial⟩ (mA [(2,([[0,1,2,3,4,5,6,7,8,9]],[(7,8)])),(4,([[0,1,2,3,4,5,6,7,8,9,10,11,12]],[(0,10)]))] [] [] [] [] [(2,tP),(3,tP)] []) func151 (by kernel_rfl) call151 λx=>by kernel_rfl
noncomputable def C1:aO:=⟨[tP,tP],[tP],λx=>oI ids x.1 x.2.1⟩
theorem Kh:cB prog 137 C1:=fo [(151,B7),(150,xT)] ⟨I5,Dc,trivial⟩ (m0 [(4,tP)] []) func137 (by kernel_rfl) call137 λx=>by kernel_rfl
noncomputable def Av:aO:=⟨[(.agg [.ptr]),tI,tI,tS],[(.agg [.ptr]),tI],λx=>nZ ids x.1 x.2.1 x.2.2.1 x.2.2.2.1⟩
theorem GK:cB prog 103 Av:=fo [(104,sH),(136,Et),(121,wE),(137,C1)] ⟨xV,Lz,Ce,Kh,trivial⟩ (mA [] [(1,([(26,tB)],[1,2,3,4,8]))] [] [] [] [(8,tP),(9,tI)] []) func103 (by kernel_rfl) call103 λx=>by kernel_rfl
noncomputable def Fa:aO:=⟨[tP,tI,tI,tS],[],λx=>vE ids x.1 x.2.1 x.2.2.1 x.2.2.2.1⟩
theorem Nw:cB prog 70 Fa:=fo [(95,B2),(100,Bf),(101,Hq),(102,IC),(104,sH),(103,Av)] ⟨FE,FF,NC,QS,xV,GK,trivial⟩ (mA [(5,([[0,1,2,3,4,5,6,7,8,9,10,11,12,13],[0,1,2,3,4,5,6,7,8,9,11,10,12,13],[0,1,2,3,4,5,10,6,7,8,9,11,12,13],[0,1,2,3,4,5,10,11,6,7,8,9,12,13],[0,1,2,3,4,5,11,6,7,8,9,10,12,13],[0,1,2,3,4,5,11,10,6,7,8,9,12,13]],[(0,10),(0,11),(4,10),(4,11)])),(10,([[0,1,2,3,4,5,6,7,8,9,10,11,12,13],[0,1,2,3,4,5,6,7,8,9,11,10,12,13],[0,1,2,3,4,5,10,6,7,8,9,11,12,13],[0,1,2,3,4,5,10,11,6,7,8,9,12,13],[0,1,2,3,4,5,11,6,7,8,9,10,12,13],[0,1,2,3,4,5,11,10,6,7,8,9,12,13]],[(0,10),(0,11),(4,10),(4,11)])),(13,([[0,1,2,3,4,5,6,7,8,9,10,11,14,12,13,15,16,17,18,19,20,21]],[(4,12)]))] [(4,([(46,tB)],[0,3,8,9,10,11,12,13])),(5,([(15,tP)],[0,3,8,10,11,12])),(10,([(20,tP)],[0,8,10,12]))] [(7,([(12,tS)],[0,3,8,10,11])),(13,([(12,tS)],[0,8,10]))] [] [] [] []) func70 (by kernel_rfl) call70 λx=>by kernel_rfl
noncomputable def GX:aO:=⟨[tP,tS],[tI],λx=>yK ids x.1 x.2.1⟩
theorem O1:cB prog 53 GX:=fo [(69,GY),(70,Fa)] ⟨O3,Nw,trivial⟩ (mA [] [(8,([(35,tB)],[0,1,6,7]))] [(6,([],[0,1,6]))] [(5,([(6,tI)],[0,1]))] [(0,[]),(1,[])] [(4,tI)] []) func53 (by kernel_rfl) call53 λx=>by kernel_rfl
noncomputable def Fg:aO:=⟨[tI,tS],[tI,tB],λx=>rD ids x.1 x.2.1⟩
theorem NA:cB prog 65 Fg:=fo [] trivial (mA [] [] [(4,([(0,tI),(6,tB)],[1,7]))] [(3,([(0,tI),(6,tB),(7,tI)],[1]))] [(0,[(0,tI),(6,tB)]),(1,[(0,tI),(6,tB)]),(2,[(0,tI),(6,tB)])] [(4,tI),(5,tB)] []) func65 (by kernel_rfl) call65 λx=>by kernel_rfl
noncomputable def yT:aO:=⟨[tP,tS],[],λx=>lT ids x.1 x.2.1⟩
theorem Cv:cB prog 43 yT:=fo [(65,Fg)] ⟨NA,trivial⟩ (mA [(3,([[0,1,2,3,4,5,6,7,8,9,10,11]],[(3,7)]))] [] [(11,([(8,tI)],[0,1,6,34,35,36])),(12,([],[0,1,34,35,36]))] [(1,([],[0,1,14])),(5,([(36,tI)],[0,1,34,35]))] [(0,[]),(1,[]),(2,[]),(3,[])] [] []) func43 (by kernel_rfl) call43 λx=>by kernel_rfl
noncomputable def GV:aO:=⟨[tP,tS],[tI],λx=>kD ids x.1 x.2.1⟩
theorem OZ:cB prog 26 GV:=fo [(53,GX),(43,yT)] ⟨O1,Cv,trivial⟩ (mA [(14,([[0,1,2,3,4,5,6,7,8,9,10,11,12,13,14,15,16,17,18]],[(3,13),(3,14),(7,13),(11,13)]))] [(11,([(54,tB)],[0,6,26,27,28]))] [(13,([],[0,6,26,27,28]))] [(8,([(28,tI)],[0,6,26,27]))] [(0,[]),(1,[])] [(4,tI)] []) func26 (by kernel_rfl) call26 λx=>by kernel_rfl
noncomputable def B0:aO:=⟨[tP],[],λx=>ER ids x.1⟩
theorem Le:cB prog 54 B0:=fo [] trivial (m0 [] []) func54 (by kernel_rfl) call54 λx=>by kernel_rfl
theorem Q6:j7 Tryz.prog 54 B0:=
 rh kq (l:=[]) trivial (An:=(m0 [] [])) Tryz.func54 (c:=Tryz.f54.body.getD .skip) (by kernel_rfl) Tryz.ntmps54 (by kernel_rfl) _ (by kernel_rfl) (λx=>by kernel_rfl) (by kernel_rfl) (by kernel_rfl)
end
end
end Go.Proofs.YtncolficnfcdcaaGreat
