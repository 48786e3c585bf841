
/- Steps. -/
import Derived.Test.YtncolficnfcdcaaGreatProg
import Derived.KernelRfl
import Derived.Test.YtncolficnfcdcaaGreatSwS11
import Derived.Test.YtncolficnfcdcaaGreatSwFcodec
set_option linter.unusedVariables false
set_option linter.unusedSimpArgs false
set_option maxRecDepth 100000
set_option maxHeartbeats 4000000
namespace Go.Proofs.YtncolficnfcdcaaGreat
open Go Go.Sw Tryz
section
noncomputable section
noncomputable def ids:cG:={AX:=63,yW:=54,vR:=60,sX:=61,iT:=66,lW:=67,BY:=Nj Tryz.prog 205 0,O1:=Nj Tryz.prog 205 3,Ce:=Nj Tryz.prog 205 4,nG:=205,nH:=208,hH:=207,none:=()}
theorem gp:Tryz.prog.follows .mixedOrders=true:=by kernel_rfl
theorem fo{i : FuncId}{fn : Func}(l : List (Nat × aO))(k : V9 Tryz.prog l)(An : TB)(j : Tryz.prog.funcs[i]?=some fn){e : aO}(g : (fn.body.isSome && Lj Tryz.prog An fn.ntmps (fn.body.getD .skip) && Nat.ble e.tys.length fn.ntmps && (!eP (fn.body.getD .skip) || I8 fn.results.toList)) = true)(a : ∀(z : Array Value) (w : World), (callFunc i z).run Tryz.prog w = .ok (.enter i z) w)(heq : ∀x, NM Tryz.prog (R4 l) An fn (Ts.inj e.tys x) = e.prog x) : bZ Tryz.prog i e := by
 simp only[Bool.and_eq_true]at g;obtain⟨⟨⟨b, d⟩, h⟩, f⟩ := g;cases hb : fn.body with
 |none => rw[hb]at b;cases b
 |some c => rw[hb]at d f;exact qy gp k j hb rfl d a e h heq f
noncomputable def Dn:aO:=⟨[tI],[(.one .any)],λx=>wU ids x.1⟩
theorem G9:bZ prog 118 Dn:=fo [] trivial (mA [] [] [] [] [(0,[])] [(2,(.one .any))] []) func118 (by kernel_rfl) call118 λx=>by kernel_rfl
noncomputable def vL:aO:=⟨[tI,tS,tI],[tI,tI],λx=>oY ids x.1 x.2.1 x.2.2.1⟩
theorem Aw:bZ prog 92 vL:=fo [(118,Dn)] ⟨G9,trivial⟩ (mA [(4,([[0,1,2,3,4,5,6,7,8,9,10,11]],[]))] [(2,([(22,tB)],[1,2,8]))] [] [] [] [(6,tI),(7,tI)] [8,10,11,23,29]) func92 (by kernel_rfl) call92 λx=>by kernel_rfl
noncomputable def EU:aO:=⟨[tI,tI],[(.agg b5)],λx=>vC ids x.1 x.2.1⟩
theorem M0:bZ prog 120 EU:=fo [] trivial (mA [] [(2,([(17,tB)],[4,5]))] [(4,([],[4,5]))] [] [] [(4,tP)] []) func120 (by kernel_rfl) call120 λx=>by kernel_rfl
noncomputable def xD:aO:=⟨[(.agg b5),(.agg b5)],[(.agg b5)],λx=>kI ids x.1 x.2.1⟩
theorem A3:bZ prog 119 xD:=fo [] trivial (mA [] [(6,([(39,tB)],[4,5]))] [(8,([],[4,5]))] [] [] [(4,tP)] []) func119 (by kernel_rfl) call119 λx=>by kernel_rfl
noncomputable def tN:aO:=⟨[tI,tS,tI],[(.agg b7)],λx=>kH ids x.1 x.2.1 x.2.2.1⟩
theorem zT:bZ prog 93 tN:=fo [(92,vL),(120,EU),(119,xD)] ⟨Aw,M0,A3,trivial⟩ (mA [(5,([[0,1,2,3,4,5,6,7]],[(1,4)]))] [] [] [(3,([(8,tI)],[0,1,6,7]))] [(0,[]),(1,[(8,tI)])] [(6,tP)] []) func93 (by kernel_rfl) call93 λx=>by kernel_rfl
noncomputable def gO:aO:=⟨[tP],[tI],λx=>fS ids x.1⟩
theorem iP:bZ prog 68 gO:=fo [] trivial (m0 [(2,tI)] []) func68 (by kernel_rfl) call68 λx=>by kernel_rfl
noncomputable def rS:aO:=⟨[tP],[tI],λx=>dU ids x.1⟩
theorem xI:bZ prog 156 rS:=fo [] trivial (m0 [(2,tI)] []) func156 (by kernel_rfl) call156 λx=>by kernel_rfl
noncomputable def vM:aO:=⟨[(.agg b7)],[(.agg b5)],λx=>lM ids x.1⟩
theorem A0:bZ prog 184 vM:=fo [] trivial (m0 [(2,tP)] []) func184 (by kernel_rfl) call184 λx=>by kernel_rfl
noncomputable def vQ:aO:=⟨[tP,(.agg b7),tP],[tP],λx=>eY ids x.1 x.2.1 x.2.2.1⟩
theorem A4:bZ prog 144 vQ:=fo [(68,gO),(156,rS),(184,vM),(119,xD)] ⟨iP,xI,A0,A3,trivial⟩ (mA [(1,([[0,1,2,3,6,9,11,4,5,7,8,10,12,13,14,15,16,17]],[(1,4),(1,7),(1,10),(1,12)])),(4,([[0,1,2,3,4,5,6,7,8,9,10,11,12,13]],[])),(6,([[0,1,2,3,4,5,6,7,8,9,10,11,12,13]],[]))] [] [(5,([],[2,7])),(7,([],[7]))] [] [] [(6,tP)] []) func144 (by kernel_rfl) call144 λx=>by kernel_rfl
noncomputable def vO:aO:=⟨[tS],[tP],λx=>mQ ids x.1⟩
theorem BX:bZ prog 121 vO:=
 Sr (tys:=[tS]) (res:=[tP]) (R:=λa=>λx=>gN a ids x.1) (λ_=>rfl) (λ_ _=>Tryz.call121 _ _) λa b=>
 fo [(121,(⟨[tS],[tP],λx=>gN a ids x.1⟩:aO)),(144,vQ)] ⟨b,A4,trivial⟩ (mA [(4,([[0,1,2,4,5,6,7,8,9,10,11,3,12,13,14]],[(7,3),(7,12)]))] [] [] [] [] [(2,tP)] []) func121 (by kernel_rfl) call121 λx=>by kernel_rfl
noncomputable def E5:aO:=⟨[tS],[(.agg [.ptr])],λx=>vH ids x.1⟩
theorem Nf:bZ prog 94 E5:=fo [(121,vO)] ⟨BX,trivial⟩ (m0 [(2,tP)] []) func94 (by kernel_rfl) call94 λx=>by kernel_rfl
noncomputable def Il:aO:=⟨[tI,tS,tI],[tP,tI],λx=>Ap ids x.1 x.2.1 x.2.2.1⟩
theorem Qu:bZ prog 58 Il:=fo [(92,vL),(93,tN),(94,E5)] ⟨Aw,zT,Nf,trivial⟩ (mA [] [(1,([(16,tB)],[0,1,2])),(3,([(23,tB)],[0,1,2])),(14,([(57,tB)],[0,8,9,10,11,12,13]))] [] [(12,([(10,tS),(11,tI)],[0,8,9])),(14,([(12,tI),(13,tI)],[0,8,9,10,11]))] [(0,[]),(1,[(10,tS)]),(2,[(10,tS),(11,tI)]),(3,[(12,tI)]),(4,[(12,tI)])] [(6,tP),(7,tI)] []) func58 (by kernel_rfl) call58 λx=>by kernel_rfl
noncomputable def EP:aO:=⟨[tI,tS,tI,tI],[tP,tI],λx=>uV ids x.1 x.2.1 x.2.2.1 x.2.2.2.1⟩
theorem MW:bZ prog 35 EP:=fo [(58,Il)] ⟨Qu,trivial⟩ (mA [] [(1,([(17,tB)],[0,1,2,3]))] [] [] [] [(8,tP),(9,tI)] []) func35 (by kernel_rfl) call35 λx=>by kernel_rfl
noncomputable def Dp:aO:=⟨[tI],[tI],λx=>gI ids x.1⟩
theorem Ha:bZ prog 15 Dp:=fo [] trivial (m0 [(2,tI)] []) func15 (by kernel_rfl) call15 λx=>by kernel_rfl
noncomputable def EH:aO:=⟨[tP],[tP],λx=>yL ids x.1⟩
theorem KH:bZ prog 18 EH:=fo [] trivial (m0 [(2,tP)] []) func18 (by kernel_rfl) call18 λx=>by kernel_rfl
noncomputable def zN:aO:=⟨[(.agg [.ptr])],[(.agg b5)],λx=>tF ids x.1⟩
theorem Eg:bZ prog 50 zN:=fo [] trivial (m0 [(2,tP)] []) func50 (by kernel_rfl) call50 λx=>by kernel_rfl
noncomputable def AR:aO:=⟨[tP],[tI],λx=>tT ids x.1⟩
theorem Dx:bZ prog 23 AR:=fo [(50,zN)] ⟨Eg,trivial⟩ (m0 [(2,tI)] []) func23 (by kernel_rfl) call23 λx=>by kernel_rfl
noncomputable def MB:aO:=⟨[(.agg b5),tI],[tI],λx=>wV ids x.1 x.2.1⟩
theorem Ut:bZ prog 183 MB:=fo [] trivial (mA [] [] [] [] [(0,[])] [(4,tI)] []) func183 (by kernel_rfl) call183 λx=>by kernel_rfl
noncomputable def CC:aO:=⟨[(.agg [.ptr]),tI,tI],[tI],λx=>Cr ids x.1 x.2.1 x.2.2.1⟩
theorem JH:bZ prog 122 CC:=fo [(119,xD),(183,MB),(68,gO),(184,vM)] ⟨A3,Ut,iP,A0,trivial⟩ (mA [(9,([[0,1,2,3,4,5,6,7,8,9,10]],[])),(13,([[0,1,2,3,4,5,6,7,8,9]],[(0,7)]))] [] [(10,([],[1,2,7,8,9,10]))] [(6,([(8,tI),(9,tP)],[1,2,7]))] [(0,[(8,tI)]),(1,[(8,tI),(9,tP)])] [(6,tI)] []) func122 (by kernel_rfl) call122 λx=>by kernel_rfl
noncomputable def rR:aO:=⟨[(.agg [.ptr])],[tI],λx=>rI ids x.1⟩
theorem xH:bZ prog 104 rR:=fo [(68,gO)] ⟨iP,trivial⟩ (m0 [(2,tI)] []) func104 (by kernel_rfl) call104 λx=>by kernel_rfl
noncomputable def wZ:aO:=⟨[(.agg [.ptr]),tI],[(.agg b5)],λx=>wT ids x.1 x.2.1⟩
theorem CN:bZ prog 123 wZ:=fo [(104,rR),(68,gO),(119,xD),(184,vM)] ⟨xH,iP,A3,A0,trivial⟩ (mA [(9,([[0,1,2,3,4,5,6,7,8,9,10]],[])),(10,([[0,1,2,3,4,5,6,7,8,9]],[(0,7)]))] [(4,([(19,tB)],[1,4,5,6]))] [(10,([],[1,4,5,6,7]))] [(4,([(1,tI),(6,tP)],[4,5]))] [(0,[]),(1,[(1,tI),(6,tP)])] [(4,tP)] []) func123 (by kernel_rfl) call123 λx=>by kernel_rfl
noncomputable def BL:aO:=⟨[tP,tI],[tI,tI],λx=>qR ids x.1 x.2.1⟩
theorem Fh:bZ prog 95 BL:=fo [(122,CC),(123,wZ)] ⟨JH,CN,trivial⟩ (m0 [(4,tI),(5,tI)] []) func95 (by kernel_rfl) call95 λx=>by kernel_rfl
noncomputable def BM:aO:=⟨[(.agg [.ptr]),tI],[(.one .any)],λx=>qB ids x.1 x.2.1⟩
theorem IA:bZ prog 47 BM:=fo [] trivial (m0 [(4,(.one .any))] []) func47 (by kernel_rfl) call47 λx=>by kernel_rfl
noncomputable def EM:aO:=⟨[tP,tI,tI,(.one .any)],[],λx=>yN ids x.1 x.2.1 x.2.2.1 x.2.2.2.1⟩
noncomputable def PA:TB:={order:=Sw.look [(9,([[0,1,2,3,4,5,6,7,8,9,10,11,12]],[]))],uo:=Sw.look [],join:=Sw.look [(15,([],[4,7,9,10,11,12,14])),(17,([],[4,7,9,10,11,12,14]))],loop:=Sw.look [(8,([(12,tI)],[4,7,9,10,11]))],Ml:=Sw.gn [(0,[]),(1,[]),(2,[]),(3,[(12,tI)])],res:=[],pP:=[3,38,63,66],vw:=Sw.look [(39,([(39,(.agg b7))],[(11,tP)]))]}
theorem KK:bZ prog 59 EM:=fo [(23,AR),(95,BL),(47,BM),(92,vL)] ⟨Dx,Fh,IA,Aw,trivial⟩ PA func59 (by kernel_rfl) call59 λx=>by kernel_rfl
noncomputable def H7:aO:=⟨[tP,tI,tI],[tS],λx=>Ai ids x.1 x.2.1 x.2.2.1⟩
theorem Qi:bZ prog 36 H7:=fo [(59,EM)] ⟨KK,trivial⟩ (m0 [(6,tS)] []) func36 (by kernel_rfl) call36 λx=>by kernel_rfl
noncomputable def Kr:aO:=⟨[tP,tI,tI],[tS],λx=>Bw ids x.1 x.2.1 x.2.2.1⟩
theorem SH:bZ prog 37 Kr:=fo [(59,EM)] ⟨KK,trivial⟩ (m0 [(6,tS)] []) func37 (by kernel_rfl) call37 λx=>by kernel_rfl
noncomputable def jP:aO:=⟨[tS],[tS],λx=>fP ids x.1⟩
theorem nC:bZ prog 51 jP:=fo [] trivial (m0 [(2,tS)] []) func51 (by kernel_rfl) call51 λx=>by kernel_rfl
noncomputable def EI:aO:=⟨[tP],[tS],λx=>qQ ids x.1⟩
theorem MQ:bZ prog 38 EI:=fo [(51,jP)] ⟨nC,trivial⟩ (m0 [(2,tS)] []) func38 (by kernel_rfl) call38 λx=>by kernel_rfl
noncomputable def BO:aO:=⟨[(.one (.int .u32))],[tI],λx=>HI ids x.1⟩
theorem ID:bZ prog 132 BO:=fo [] trivial (mA [] [] [(4,([(0,(.one (.int .u32))),(2,tI)],[])),(7,([(0,(.one (.int .u32))),(2,tI)],[]))] [] [] [(2,tI)] []) func132 (by kernel_rfl) call132 λx=>by kernel_rfl
noncomputable def BP:aO:=⟨[(.one (.int .u64))],[tI],λx=>BE ids x.1⟩
theorem IE:bZ prog 133 BP:=fo [] trivial (mA [] [] [(4,([(0,(.one (.int .u64))),(2,tI)],[])),(7,([(0,(.one (.int .u64))),(2,tI)],[])),(10,([(0,(.one (.int .u64))),(2,tI)],[]))] [] [] [(2,tI)] []) func133 (by kernel_rfl) call133 λx=>by kernel_rfl
noncomputable def zR:aO:=⟨[(.one (.int .u64))],[tI],λx=>zL ids x.1⟩
theorem Ek:bZ prog 97 zR:=fo [(132,BO),(133,BP)] ⟨ID,IE,trivial⟩ (m0 [(2,tI)] []) func97 (by kernel_rfl) call97 λx=>by kernel_rfl
noncomputable def kS:aO:=⟨[tS,tI,tI,(.one .any)],[],λx=>kN ids x.1 x.2.1 x.2.2.1 x.2.2.2.1⟩
theorem sI:bZ prog 124 kS:=fo [] trivial (mA [(4,([[0,1,2,3,4,5,6,7,8,9,10,11,12,13,14,15,16]],[])),(6,([[0,1,2,3,4,5,6,7,8,9,10,11,12,13,14,15,16,17]],[]))] [(4,([(34,tB)],[0,1,2,3,8,9]))] [] [(1,([(8,tI)],[0,1,2,3])),(4,([(9,tI)],[0,1,2,3,8]))] [(0,[]),(1,[]),(2,[]),(3,[])] [] [3,22]) func124 (by kernel_rfl) call124 λx=>by kernel_rfl
noncomputable def nM:aO:=⟨[tS,tI,tI,tI,(.one .any)],[],λx=>iZ ids x.1 x.2.1 x.2.2.1 x.2.2.2.1 x.2.2.2.2.1⟩
theorem wJ:bZ prog 145 nM:=fo [] trivial (mA [(3,([[0,1,2,3,4,5,6,7,8,9,10,11,12,13,14,15,16,17,18,19,20,21]],[])),(5,([[0,1,2,3,4,5,6,7,8,9,10,11,12,13,14,15]],[])),(6,([[0,1,2,3,4,5,6,7,8,9,10,11,12,13,14,15,16,17,18,19,20,21,22,23]],[]))] [(3,([(40,tB)],[0,2,3,4,10,11]))] [(5,([(11,tI)],[0,2,3,4,10]))] [(1,([(10,tI)],[0,2,3,4]))] [(0,[]),(1,[(10,tI)])] [] [4,24,43]) func145 (by kernel_rfl) call145 λx=>by kernel_rfl
noncomputable def nL:aO:=⟨[tS,tI,tI,(.one .any)],[],λx=>nK ids x.1 x.2.1 x.2.2.1 x.2.2.2.1⟩
theorem wI:bZ prog 125 nL:=fo [(145,nM)] ⟨wJ,trivial⟩ (mA [(10,([[0,1,2,3,4,5,6,7,8,9,10,11,12,13,14,15,16,17,18,19]],[]))] [] [] [(4,([(11,tI)],[0,3,8,9,10])),(8,([(12,tI)],[0,3,8,9]))] [(0,[]),(1,[]),(2,[]),(3,[])] [] [3,28,58]) func125 (by kernel_rfl) call125 λx=>by kernel_rfl
noncomputable def uF:aO:=⟨[tI],[(.one (.int .u64))],λx=>uC ids x.1⟩
theorem CP:bZ prog 146 uF:=fo [(97,zR)] ⟨Ek,trivial⟩ (m0 [(2,(.one (.int .u64)))] []) func146 (by kernel_rfl) call146 λx=>by kernel_rfl
noncomputable def Ed:aO:=⟨[tP],[(.one (.int .u64))],λx=>DT ids x.1⟩
theorem Lg:bZ prog 147 Ed:=fo [] trivial (mA [(1,([[0,1,2,3,4,5,6,7,8,9]],[])),(2,([[0,1,2,3,4,5,6,7,8,9]],[])),(3,([[0,1,2,3,4,5,6,7,8,9]],[]))] [] [] [] [] [(2,(.one (.int .u64)))] []) func147 (by kernel_rfl) call147 λx=>by kernel_rfl
noncomputable def kR:aO:=⟨[tS,tI,tI,(.one .any)],[],λx=>kM ids x.1 x.2.1 x.2.2.1 x.2.2.2.1⟩
theorem sH:bZ prog 126 kR:=fo [(146,uF),(147,Ed)] ⟨CP,Lg,trivial⟩ (mA [(10,([[0,1,2,3,4,5,6,7,8,9,10,11,12,13,14,15,16,17,18,19]],[]))] [] [(10,([(12,tI)],[0,1,8,9,10,11]))] [(5,([(11,tI)],[0,1,8,9,10]))] [(0,[]),(1,[])] [] [3]) func126 (by kernel_rfl) call126 λx=>by kernel_rfl
noncomputable def oV:aO:=⟨[tS,tI,tI,tP,(.one .any)],[tI,tI],λx=>gL ids x.1 x.2.1 x.2.2.1 x.2.2.2.1 x.2.2.2.2.1⟩
theorem yZ:bZ prog 157 oV:=fo [] trivial (mA [(1,([[0,1,2,3,4,5,6,7,8,9,10]],[]))] [] [] [] [] [(10,tI),(11,tI)] [4,12]) func157 (by kernel_rfl) call157 λx=>by kernel_rfl
end
end
end Go.Proofs.YtncolficnfcdcaaGreat
