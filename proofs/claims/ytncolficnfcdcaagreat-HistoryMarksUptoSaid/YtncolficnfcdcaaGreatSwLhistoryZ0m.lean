
/- Steps. -/
import Derived.Test.YtncolficnfcdcaaGreatProg
import Derived.KernelRfl
import Derived.Test.YtncolficnfcdcaaGreatSwS11
import Derived.Test.YtncolficnfcdcaaGreatSwFcodec
set_option linter.unusedVariables false
set_option linter.unusedSimpArgs false
set_option maxRecDepth 100000
set_option maxHeartbeats 4000000
namespace Go.Proofs.YtncolficnfcdcaaGreat
open Go Go.Sw Tryz
section
noncomputable section
noncomputable def ids:cH:={wG:=63,zL:=54,wH:=60,tO:=61,jI:=66,mM:=67,Cf:=NP Tryz.prog 205 0,PE:=NP Tryz.prog 205 3,Cw:=NP Tryz.prog 205 4,nR:=205,nT:=208,iN:=207,none:=()}
theorem kq:Tryz.prog.follows .mixedOrders=true:=by kernel_rfl
theorem fo{i : FuncId}{fn : Func}(l : List (Nat × aO))(k : WU Tryz.prog l)(An : Um)(j : Tryz.prog.funcs[i]?=some fn){e : aO}(g : (fn.body.isSome && LM Tryz.prog An fn.ntmps (fn.body.getD .skip) && Nat.ble e.tys.length fn.ntmps && (!eU (fn.body.getD .skip) || Jy fn.results.toList)) = true)(a : ∀(z : Array Value) (w : World), (callFunc i z).run Tryz.prog w = .ok (.enter i z) w)(heq : ∀x, Om Tryz.prog (SQ l) An fn (Ts.inj e.tys x) = e.prog x) : cB Tryz.prog i e := by
 simp only[Bool.and_eq_true]at g;obtain⟨⟨⟨b, d⟩, h⟩, f⟩ := g;cases hb : fn.body with
 |none => rw[hb]at b;cases b
 |some c => rw[hb]at d f;exact wo kq k j hb rfl d a e h heq f
noncomputable def DI:aO:=⟨[tI],[(.one .any)],λx=>xK ids x.1⟩
theorem Hv:cB prog 118 DI:=fo [] trivial (mA [] [] [] [] [(0,[])] [(2,(.one .any))] []) func118 (by kernel_rfl) call118 λx=>by kernel_rfl
noncomputable def wB:aO:=⟨[tI,tS,tI],[tI,tI],λx=>pG ids x.1 x.2.1 x.2.2.1⟩
theorem AP:cB prog 92 wB:=fo [(118,DI)] ⟨Hv,trivial⟩ (mA [(4,([[0,1,2,3,4,5,6,7,8,9,10,11]],[]))] [(2,([(22,tB)],[1,2,8]))] [] [] [] [(6,tI),(7,tI)] [8,10,11,23,29]) func92 (by kernel_rfl) call92 λx=>by kernel_rfl
noncomputable def Fi:aO:=⟨[tI,tI],[(.agg b5)],λx=>vR ids x.1 x.2.1⟩
theorem ND:cB prog 120 Fi:=fo [] trivial (mA [] [(2,([(17,tB)],[4,5]))] [(4,([],[4,5]))] [] [] [(4,tP)] []) func120 (by kernel_rfl) call120 λx=>by kernel_rfl
noncomputable def xR:aO:=⟨[(.agg b5),(.agg b5)],[(.agg b5)],λx=>lD ids x.1 x.2.1⟩
theorem Bo:cB prog 119 xR:=fo [] trivial (mA [] [(6,([(39,tB)],[4,5]))] [(8,([],[4,5]))] [] [] [(4,tP)] []) func119 (by kernel_rfl) call119 λx=>by kernel_rfl
noncomputable def uD:aO:=⟨[tI,tS,tI],[(.agg b7)],λx=>lC ids x.1 x.2.1 x.2.2.1⟩
theorem Ai:cB prog 93 uD:=fo [(92,wB),(120,Fi),(119,xR)] ⟨AP,ND,Bo,trivial⟩ (mA [(5,([[0,1,2,3,4,5,6,7]],[(1,4)]))] [] [] [(3,([(8,tI)],[0,1,6,7]))] [(0,[]),(1,[(8,tI)])] [(6,tP)] []) func93 (by kernel_rfl) call93 λx=>by kernel_rfl
noncomputable def iD:aO:=⟨[tP],[tI],λx=>gJ ids x.1⟩
theorem jE:cB prog 68 iD:=fo [] trivial (m0 [(2,tI)] []) func68 (by kernel_rfl) call68 λx=>by kernel_rfl
noncomputable def sI:aO:=⟨[tP],[tI],λx=>dY ids x.1⟩
theorem xW:cB prog 156 sI:=fo [] trivial (m0 [(2,tI)] []) func156 (by kernel_rfl) call156 λx=>by kernel_rfl
noncomputable def wC:aO:=⟨[(.agg b7)],[(.agg b5)],λx=>mC ids x.1⟩
theorem Bn:cB prog 184 wC:=fo [] trivial (m0 [(2,tP)] []) func184 (by kernel_rfl) call184 λx=>by kernel_rfl
noncomputable def wF:aO:=⟨[tP,(.agg b7),tP],[tP],λx=>fD ids x.1 x.2.1 x.2.2.1⟩
theorem Bp:cB prog 144 wF:=fo [(68,iD),(156,sI),(184,wC),(119,xR)] ⟨jE,xW,Bn,Bo,trivial⟩ (mA [(1,([[0,1,2,3,6,9,11,4,5,7,8,10,12,13,14,15,16,17]],[(1,4),(1,7),(1,10),(1,12)])),(4,([[0,1,2,3,4,5,6,7,8,9,10,11,12,13]],[])),(6,([[0,1,2,3,4,5,6,7,8,9,10,11,12,13]],[]))] [] [(5,([],[2,7])),(7,([],[7]))] [] [] [(6,tP)] []) func144 (by kernel_rfl) call144 λx=>by kernel_rfl
noncomputable def wE:aO:=⟨[tS],[tP],λx=>nD ids x.1⟩
theorem Ce:cB prog 121 wE:=
 Ta (tys:=[tS]) (res:=[tP]) (R:=λa=>λx=>iC a ids x.1) (λ_=>rfl) (λ_ _=>Tryz.call121 _ _) λa b=>
 fo [(121,(⟨[tS],[tP],λx=>iC a ids x.1⟩:aO)),(144,wF)] ⟨b,Bp,trivial⟩ (mA [(4,([[0,1,2,4,5,6,7,8,9,10,11,3,12,13,14]],[(7,3),(7,12)]))] [] [] [] [] [(2,tP)] []) func121 (by kernel_rfl) call121 λx=>by kernel_rfl
noncomputable def Ft:aO:=⟨[tS],[(.agg [.ptr])],λx=>vY ids x.1⟩
theorem NL:cB prog 94 Ft:=fo [(121,wE)] ⟨Ce,trivial⟩ (m0 [(2,tP)] []) func94 (by kernel_rfl) call94 λx=>by kernel_rfl
noncomputable def IL:aO:=⟨[tI,tS,tI],[tP,tI],λx=>AH ids x.1 x.2.1 x.2.2.1⟩
theorem Q1:cB prog 58 IL:=fo [(92,wB),(93,uD),(94,Ft)] ⟨AP,Ai,NL,trivial⟩ (mA [] [(1,([(16,tB)],[0,1,2])),(3,([(23,tB)],[0,1,2])),(14,([(57,tB)],[0,8,9,10,11,12,13]))] [] [(12,([(10,tS),(11,tI)],[0,8,9])),(14,([(12,tI),(13,tI)],[0,8,9,10,11]))] [(0,[]),(1,[(10,tS)]),(2,[(10,tS),(11,tI)]),(3,[(12,tI)]),(4,[(12,tI)])] [(6,tP),(7,tI)] []) func58 (by kernel_rfl) call58 λx=>by kernel_rfl
noncomputable def Ff:aO:=⟨[tI,tS,tI,tI],[tP,tI],λx=>vH ids x.1 x.2.1 x.2.2.1 x.2.2.2.1⟩
theorem Nz:cB prog 35 Ff:=fo [(58,IL)] ⟨Q1,trivial⟩ (mA [] [(1,([(17,tB)],[0,1,2,3]))] [] [] [] [(8,tP),(9,tI)] []) func35 (by kernel_rfl) call35 λx=>by kernel_rfl
noncomputable def DJ:aO:=⟨[tI],[tI],λx=>hQ ids x.1⟩
theorem Hw:cB prog 15 DJ:=fo [] trivial (m0 [(2,tI)] []) func15 (by kernel_rfl) call15 λx=>by kernel_rfl
noncomputable def E6:aO:=⟨[tP],[tP],λx=>zC ids x.1⟩
theorem Lc:cB prog 18 E6:=fo [] trivial (m0 [(2,tP)] []) func18 (by kernel_rfl) call18 λx=>by kernel_rfl
noncomputable def Ae:aO:=⟨[(.agg [.ptr])],[(.agg b5)],λx=>tW ids x.1⟩
theorem EF:cB prog 50 Ae:=fo [] trivial (m0 [(2,tP)] []) func50 (by kernel_rfl) call50 λx=>by kernel_rfl
noncomputable def Be:aO:=⟨[tP],[tI],λx=>uH ids x.1⟩
theorem DR:cB prog 23 Be:=fo [(50,Ae)] ⟨EF,trivial⟩ (m0 [(2,tI)] []) func23 (by kernel_rfl) call23 λx=>by kernel_rfl
noncomputable def Nb:aO:=⟨[(.agg b5),tI],[tI],λx=>xL ids x.1 x.2.1⟩
theorem U9:cB prog 183 Nb:=fo [] trivial (mA [] [] [] [] [(0,[])] [(4,tI)] []) func183 (by kernel_rfl) call183 λx=>by kernel_rfl
noncomputable def CV:aO:=⟨[(.agg [.ptr]),tI,tI],[tI],λx=>CL ids x.1 x.2.1 x.2.2.1⟩
theorem Kc:cB prog 122 CV:=fo [(119,xR),(183,Nb),(68,iD),(184,wC)] ⟨Bo,U9,jE,Bn,trivial⟩ (mA [(9,([[0,1,2,3,4,5,6,7,8,9,10]],[])),(13,([[0,1,2,3,4,5,6,7,8,9]],[(0,7)]))] [] [(10,([],[1,2,7,8,9,10]))] [(6,([(8,tI),(9,tP)],[1,2,7]))] [(0,[(8,tI)]),(1,[(8,tI),(9,tP)])] [(6,tI)] []) func122 (by kernel_rfl) call122 λx=>by kernel_rfl
noncomputable def sH:aO:=⟨[(.agg [.ptr])],[tI],λx=>rW ids x.1⟩
theorem xV:cB prog 104 sH:=fo [(68,iD)] ⟨jE,trivial⟩ (m0 [(2,tI)] []) func104 (by kernel_rfl) call104 λx=>by kernel_rfl
noncomputable def xP:aO:=⟨[(.agg [.ptr]),tI],[(.agg b5)],λx=>xJ ids x.1 x.2.1⟩
theorem C8:cB prog 123 xP:=fo [(104,sH),(68,iD),(119,xR),(184,wC)] ⟨xV,jE,Bo,Bn,trivial⟩ (mA [(9,([[0,1,2,3,4,5,6,7,8,9,10]],[])),(10,([[0,1,2,3,4,5,6,7,8,9]],[(0,7)]))] [(4,([(19,tB)],[1,4,5,6]))] [(10,([],[1,4,5,6,7]))] [(4,([(1,tI),(6,tP)],[4,5]))] [(0,[]),(1,[(1,tI),(6,tP)])] [(4,tP)] []) func123 (by kernel_rfl) call123 λx=>by kernel_rfl
noncomputable def B2:aO:=⟨[tP,tI],[tI,tI],λx=>rB ids x.1 x.2.1⟩
theorem FE:cB prog 95 B2:=fo [(122,CV),(123,xP)] ⟨Kc,C8,trivial⟩ (m0 [(4,tI),(5,tI)] []) func95 (by kernel_rfl) call95 λx=>by kernel_rfl
noncomputable def B3:aO:=⟨[(.agg [.ptr]),tI],[(.one .any)],λx=>qK ids x.1 x.2.1⟩
theorem I0:cB prog 47 B3:=fo [] trivial (m0 [(4,(.one .any))] []) func47 (by kernel_rfl) call47 λx=>by kernel_rfl
noncomputable def Fb:aO:=⟨[tP,tI,tI,(.one .any)],[],λx=>zE ids x.1 x.2.1 x.2.2.1 x.2.2.2.1⟩
noncomputable def Qb:Um:={order:=Sw.look [(9,([[0,1,2,3,4,5,6,7,8,9,10,11,12]],[]))],yh:=Sw.look [],join:=Sw.look [(15,([],[4,7,9,10,11,12,14])),(17,([],[4,7,9,10,11,12,14]))],loop:=Sw.look [(8,([(12,tI)],[4,7,9,10,11]))],MN:=Sw.ko [(0,[]),(1,[]),(2,[]),(3,[(12,tI)])],res:=[],pX:=[3,38,63,66],zg:=Sw.look [(39,([(39,(.agg b7))],[(11,tP)]))]}
theorem Lg:cB prog 59 Fb:=fo [(23,Be),(95,B2),(47,B3),(92,wB)] ⟨DR,FE,I0,AP,trivial⟩ Qb func59 (by kernel_rfl) call59 λx=>by kernel_rfl
noncomputable def IA:aO:=⟨[tP,tI,tI],[tS],λx=>AA ids x.1 x.2.1 x.2.2.1⟩
theorem QQ:cB prog 36 IA:=fo [(59,Fb)] ⟨Lg,trivial⟩ (m0 [(6,tS)] []) func36 (by kernel_rfl) call36 λx=>by kernel_rfl
noncomputable def KW:aO:=⟨[tP,tI,tI],[tS],λx=>BM ids x.1 x.2.1 x.2.2.1⟩
theorem Tm:cB prog 37 KW:=fo [(59,Fb)] ⟨Lg,trivial⟩ (m0 [(6,tS)] []) func37 (by kernel_rfl) call37 λx=>by kernel_rfl
noncomputable def kG:aO:=⟨[tS],[tS],λx=>gG ids x.1⟩
theorem nN:cB prog 51 kG:=fo [] trivial (m0 [(2,tS)] []) func51 (by kernel_rfl) call51 λx=>by kernel_rfl
noncomputable def E7:aO:=⟨[tP],[tS],λx=>rA ids x.1⟩
theorem Nt:cB prog 38 E7:=fo [(51,kG)] ⟨nN,trivial⟩ (m0 [(2,tS)] []) func38 (by kernel_rfl) call38 λx=>by kernel_rfl
noncomputable def B5:aO:=⟨[(.one (.int .u32))],[tI],λx=>H3 ids x.1⟩
theorem I3:cB prog 132 B5:=fo [] trivial (mA [] [] [(4,([(0,(.one (.int .u32))),(2,tI)],[])),(7,([(0,(.one (.int .u32))),(2,tI)],[]))] [] [] [(2,tI)] []) func132 (by kernel_rfl) call132 λx=>by kernel_rfl
noncomputable def B6:aO:=⟨[(.one (.int .u64))],[tI],λx=>vM ids x.1⟩
theorem I4:cB prog 133 B6:=fo [] trivial (mA [] [] [(4,([(0,(.one (.int .u64))),(2,tI)],[])),(7,([(0,(.one (.int .u64))),(2,tI)],[])),(10,([(0,(.one (.int .u64))),(2,tI)],[]))] [] [] [(2,tI)] []) func133 (by kernel_rfl) call133 λx=>by kernel_rfl
noncomputable def Ah:aO:=⟨[(.one (.int .u64))],[tI],λx=>pS ids x.1⟩
theorem EI:cB prog 97 Ah:=fo [(132,B5),(133,B6)] ⟨I3,I4,trivial⟩ (m0 [(2,tI)] []) func97 (by kernel_rfl) call97 λx=>by kernel_rfl
noncomputable def lK:aO:=⟨[tS,tI,tI,(.one .any)],[],λx=>fM ids x.1 x.2.1 x.2.2.1 x.2.2.2.1⟩
theorem sW:cB prog 124 lK:=fo [] trivial (mA [(4,([[0,1,2,3,4,5,6,7,8,9,10,11,12,13,14,15,16]],[])),(6,([[0,1,2,3,4,5,6,7,8,9,10,11,12,13,14,15,16,17]],[]))] [(4,([(34,tB)],[0,1,2,3,8,9]))] [] [(1,([(8,tI)],[0,1,2,3])),(4,([(9,tI)],[0,1,2,3,8]))] [(0,[]),(1,[]),(2,[]),(3,[])] [] [3,22]) func124 (by kernel_rfl) call124 λx=>by kernel_rfl
noncomputable def nW:aO:=⟨[tS,tI,tI,tI,(.one .any)],[],λx=>fJ ids x.1 x.2.1 x.2.2.1 x.2.2.2.1 x.2.2.2.2.1⟩
theorem wX:cB prog 145 nW:=fo [] trivial (mA [(3,([[0,1,2,3,4,5,6,7,8,9,10,11,12,13,14,15,16,17,18,19,20,21]],[])),(5,([[0,1,2,3,4,5,6,7,8,9,10,11,12,13,14,15]],[])),(6,([[0,1,2,3,4,5,6,7,8,9,10,11,12,13,14,15,16,17,18,19,20,21,22,23]],[]))] [(3,([(40,tB)],[0,2,3,4,10,11]))] [(5,([(11,tI)],[0,2,3,4,10]))] [(1,([(10,tI)],[0,2,3,4]))] [(0,[]),(1,[(10,tI)])] [] [4,24,43]) func145 (by kernel_rfl) call145 λx=>by kernel_rfl
noncomputable def nV:aO:=⟨[tS,tI,tI,(.one .any)],[],λx=>gS ids x.1 x.2.1 x.2.2.1 x.2.2.2.1⟩
theorem wW:cB prog 125 nV:=fo [(145,nW)] ⟨wX,trivial⟩ (mA [(10,([[0,1,2,3,4,5,6,7,8,9,10,11,12,13,14,15,16,17,18,19]],[]))] [] [] [(4,([(11,tI)],[0,3,8,9,10])),(8,([(12,tI)],[0,3,8,9]))] [(0,[]),(1,[]),(2,[]),(3,[])] [] [3,28,58]) func125 (by kernel_rfl) call125 λx=>by kernel_rfl
noncomputable def uQ:aO:=⟨[tI],[(.one (.int .u64))],λx=>kU ids x.1⟩
theorem Da:cB prog 146 uQ:=fo [(97,Ah)] ⟨EI,trivial⟩ (m0 [(2,(.one (.int .u64)))] []) func146 (by kernel_rfl) call146 λx=>by kernel_rfl
noncomputable def EB:aO:=⟨[tP],[(.one (.int .u64))],λx=>uC ids x.1⟩
theorem LJ:cB prog 147 EB:=fo [] trivial (mA [(1,([[0,1,2,3,4,5,6,7,8,9]],[])),(2,([[0,1,2,3,4,5,6,7,8,9]],[])),(3,([[0,1,2,3,4,5,6,7,8,9]],[]))] [] [] [] [] [(2,(.one (.int .u64)))] []) func147 (by kernel_rfl) call147 λx=>by kernel_rfl
noncomputable def lJ:aO:=⟨[tS,tI,tI,(.one .any)],[],λx=>fL ids x.1 x.2.1 x.2.2.1 x.2.2.2.1⟩
theorem sV:cB prog 126 lJ:=fo [(146,uQ),(147,EB)] ⟨Da,LJ,trivial⟩ (mA [(10,([[0,1,2,3,4,5,6,7,8,9,10,11,12,13,14,15,16,17,18,19]],[]))] [] [(10,([(12,tI)],[0,1,8,9,10,11]))] [(5,([(11,tI)],[0,1,8,9,10]))] [(0,[]),(1,[])] [] [3]) func126 (by kernel_rfl) call126 λx=>by kernel_rfl
noncomputable def pC:aO:=⟨[tS,tI,tI,tP,(.one .any)],[tI,tI],λx=>fB ids x.1 x.2.1 x.2.2.1 x.2.2.2.1 x.2.2.2.2.1⟩
theorem zO:cB prog 157 pC:=fo [] trivial (mA [(1,([[0,1,2,3,4,5,6,7,8,9,10]],[]))] [] [] [] [] [(10,tI),(11,tI)] [4,12]) func157 (by kernel_rfl) call157 λx=>by kernel_rfl
end
end
end Go.Proofs.YtncolficnfcdcaaGreat
