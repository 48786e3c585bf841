/-
  The tree's programs over any kind of things.
-/
import Derived.Test.YtncolficnfcdcaaGreatSwU5
import Derived.Test.YtncolficnfcdcaaGreatSwFab
import Derived.Test.YtncolficnfcdcaaGreatSwFcodec
import Derived.Test.YtncolficnfcdcaaGreatSwCC
import Derived.Test.YtncolficnfcdcaaGreatSwU4
set_option linter.unusedVariables false
set_option linter.unusedSimpArgs false
set_option maxRecDepth 100000
namespace Go.Sw.Any
structure Inst where
  iB:List B
  sB:List B
  zi:Bs.den iB
  zs:Bs.den sB
  mF:Bs.den iB→Prog
  aF:Bs.den sB→Bs.den sB→Prog
  kF:Bs.den sB→Int→Prog
  f1:FuncId
  f2:FuncId
  okI:Bs.den iB→Prop
  wt:Bs.den iB→Nat
  V:Nat→Bs.den sB→Prop
  meas:Bs.den iB→Bs.den sB
  add:Bs.den sB→Bs.den sB→Bs.den sB
  key:Bs.den sB→Int→Int
  Z:Nat→Prop
abbrev Inst.It (I:Inst):Type:=Bs.den I.iB
abbrev Inst.Su (I:Inst):Type:=Bs.den I.sB
def Inst.ni (I:Inst):Nat:=I.iB.length
def Inst.ns (I:Inst):Nat:=I.sB.length
def G_count (I:Inst) (n:OA):Prog:=
 ifB (noneB n)
 (.ret 0 [vI 0]) <|
 grd (someB n) <|
 grd (someB n) <|
 .load tI (shiftTo n (I.ni+2)) fun (n1:Int)=>
 .ret 0 [vI n1]
def G_tall (I:Inst) (n:OA):Prog:=
 ifB (noneB n)
 (.ret 0 [vI 0]) <|
 grd (someB n) <|
 grd (someB n) <|
 .load tI (shiftTo n (I.ni+3)) fun (n1:Int)=>
 .ret 0 [vI n1]
def G_of (I:Inst) (l:OA) (x:(Bs.den I.iB)) (r:OA):Prog:=
 .alloc (Bs.inj I.iB x) fun (a1:Addr)=>
 .load (Ty.agg I.iB) (some a1) fun (r2:Bs.den I.iB)=>
 .call (G_count I l) [tI] fun (r3:Int×Unit)=>
 .check (some a1) (Bs.inj I.iB r2) <|
 .call (G_count I r) [tI] fun (r4:Int×Unit)=>
 .check (some a1) (Bs.inj I.iB r2) <|
 .call (G_tall I l) [tI] fun (r5:Int×Unit)=>
 .check (some a1) (Bs.inj I.iB r2) <|
 .call (G_tall I r) [tI] fun (r6:Int×Unit)=>
 .check (some a1) (Bs.inj I.iB r2) <|
 .alloc ([vP l,vP r]++(Bs.inj I.iB r2++([vI (addI .i64 (addI .i64 r3.1 1) r4.1),vI (addI .i64 (maxI r5.1 r6.1) 1)]++Bs.inj I.sB I.zs))) fun (a7:Addr)=>
 .load (Ty.agg I.iB) (some a1) fun (r8:Bs.den I.iB)=>
 .call (I.mF r8) [(Ty.agg I.sB)] fun (r9:((Bs.den I.sB)×Unit))=>
 .store (shiftTo (some a7) (I.ni+4)) (Bs.inj I.sB r9.1) <|
 thn 0 [] (ifB (notB (noneB l))
 (grd (someB l) <|
 grd (someB l) <|
 .load (Ty.agg I.sB) (shiftTo l (I.ni+4)) fun (r0:Bs.den I.sB)=>
 .load (Ty.agg I.sB) (shiftTo (some a7) (I.ni+4)) fun (r1:Bs.den I.sB)=>
 .call (I.aF r0 r1) [(Ty.agg I.sB)] fun (r7:((Bs.den I.sB)×Unit))=>
 .store (shiftTo (some a7) (I.ni+4)) (Bs.inj I.sB r7.1) <|
 .ret 0 []) <|
 .ret 0 []) fun (u0:Unit)=>
 thn 0 [] (ifB (notB (noneB r))
 (.load (Ty.agg I.sB) (shiftTo (some a7) (I.ni+4)) fun (r10:Bs.den I.sB)=>
 grd (someB r) <|
 grd (someB r) <|
 .load (Ty.agg I.sB) (shiftTo r (I.ni+4)) fun (r11:Bs.den I.sB)=>
 .call (I.aF r10 r11) [(Ty.agg I.sB)] fun (r12:((Bs.den I.sB)×Unit))=>
 .store (shiftTo (some a7) (I.ni+4)) (Bs.inj I.sB r12.1) <|
 .ret 0 []) <|
 .ret 0 []) fun (u1:Unit)=>
 .ret 0 [vP (some a7)]
def Gr_build (fuelN:Nat) (I:Inst) (items:Sl):Prog:=
 match fuelN with
 | 0=>.fail
 | fuelN+1=>
  ifB (eqI (natI items.len) 0)
  (.ret 0 [vP none]) <|
  grd (notB false) <|
  grd (leB (quoI .i64 (natI items.len) 2) items.cap) <|
  grd (andB (someB items.base) (inB (quoI .i64 (natI items.len) 2) items.len)) <|
  .load (Ty.agg I.iB) (shiftTo items.base (mulN (toN (quoI .i64 (natI items.len) 2)) I.ni)) fun (r1:Bs.den I.iB)=>
  grd (leB (addI .i64 (quoI .i64 (natI items.len) 2) 1) items.len) <|
  .call (Gr_build fuelN I (⟨(cutBase items.base items.cap 0 I.ni),(subN (toN (quoI .i64 (natI items.len) 2)) 0),(subN items.cap 0)⟩)) [tP] fun (r2:OA×Unit)=>
  .check (shiftTo items.base (mulN (toN (quoI .i64 (natI items.len) 2)) I.ni)) (Bs.inj I.iB r1) <|
  .call (Gr_build fuelN I (⟨(cutBase items.base items.cap (toN (addI .i64 (quoI .i64 (natI items.len) 2) 1)) I.ni),(subN items.len (toN (addI .i64 (quoI .i64 (natI items.len) 2) 1))),(subN items.cap (toN (addI .i64 (quoI .i64 (natI items.len) 2) 1)))⟩)) [tP] fun (r3:OA×Unit)=>
  .check (shiftTo items.base (mulN (toN (quoI .i64 (natI items.len) 2)) I.ni)) (Bs.inj I.iB r1) <|
  .call (G_of I r2.1 r1 r3.1) [tP] fun (r4:OA×Unit)=>
  .ret 0 [vP r4.1]
def G_build (I:Inst) (items:Sl):Prog:=.ex fun fuelN=>Gr_build fuelN I items
def G_Of (I:Inst) (items:Sl):Prog:=
 .alloc [vP none] fun (a1:Addr)=>
 .call (G_build I items) [tP] fun (r2:OA×Unit)=>
 .store (some a1) [vP r2.1] <|
 .load (Ty.agg [B.ptr]) (some a1) fun (r3:OA×Unit)=>
 .ret 0 [(Value.agg (#[vP r3.1]))]
def G_Size (I:Inst) (t:(OA×Unit)):Prog:=
 .alloc [vP t.1] fun (a1:Addr)=>
 .load tP (shiftTo (some a1) 0) fun (p2:OA)=>
 .call (G_count I p2) [tI] fun (r3:Int×Unit)=>
 .ret 0 [vI r3.1]
def G_even (I:Inst) (l:OA) (x:(Bs.den I.iB)) (r:OA):Prog:=
 .alloc (Bs.inj I.iB x) fun (a1:Addr)=>
 .call (G_tall I l) [tI] fun (r2:Int×Unit)=>
 .call (G_tall I r) [tI] fun (r3:Int×Unit)=>
 ifB (gtI r2.1 (addI .i64 r3.1 1))
 (fld tP l 0 fun (p4:OA)=>
 fld tP l 1 fun (p5:OA)=>
 .call (G_tall I p4) [tI] fun (r6:Int×Unit)=>
 .check (shiftTo l 1) [vP p5] <|
 .call (G_tall I p5) [tI] fun (r7:Int×Unit)=>
 ifB (geI r6.1 r7.1)
 (fld tP l 0 fun (p8:OA)=>
 fld (Ty.agg I.iB) l 2 fun (r9:Bs.den I.iB)=>
 fld tP l 1 fun (p0:OA)=>
 .load (Ty.agg I.iB) (some a1) fun (r0:Bs.den I.iB)=>
 .call (G_of I p0 r0 r) [tP] fun (r1:OA×Unit)=>
 .check (shiftTo l 2) (Bs.inj I.iB r9) <|
 .check (shiftTo l 0) [vP p8] <|
 .call (G_of I p8 r9 r1.1) [tP] fun (r4:OA×Unit)=>
 .ret 0 [vP r4.1]) <|
 fld tP l 1 fun (p1:OA)=>
 fld tP l 0 fun (p2:OA)=>
 fld (Ty.agg I.iB) l 2 fun (r5:Bs.den I.iB)=>
 fld tP p1 0 fun (p3:OA)=>
 fld (Ty.agg I.iB) p1 2 fun (r8:Bs.den I.iB)=>
 fld tP p1 1 fun (p6:OA)=>
 .load (Ty.agg I.iB) (some a1) fun (r10:Bs.den I.iB)=>
 .call (G_of I p2 r5 p3) [tP] fun (r14:OA×Unit)=>
 .check (some a1) (Bs.inj I.iB r10) <|
 .check (shiftTo p1 1) [vP p6] <|
 .check (shiftTo p1 2) (Bs.inj I.iB r8) <|
 .call (G_of I p6 r10 r) [tP] fun (r15:OA×Unit)=>
 .check (shiftTo p1 2) (Bs.inj I.iB r8) <|
 .call (G_of I r14.1 r8 r15.1) [tP] fun (r17:OA×Unit)=>
 .ret 0 [vP r17.1]) <|
 .call (G_tall I r) [tI] fun (r19:Int×Unit)=>
 .call (G_tall I l) [tI] fun (r26:Int×Unit)=>
 ifB (gtI r19.1 (addI .i64 r26.1 1))
 (fld tP r 1 fun (p7:OA)=>
 fld tP r 0 fun (p9:OA)=>
 .call (G_tall I p7) [tI] fun (r27:Int×Unit)=>
 .check (shiftTo r 0) [vP p9] <|
 .call (G_tall I p9) [tI] fun (r31:Int×Unit)=>
 ifB (geI r27.1 r31.1)
 (.load (Ty.agg I.iB) (some a1) fun (r33:Bs.den I.iB)=>
 fld tP r 0 fun (p11:OA)=>
 fld (Ty.agg I.iB) r 2 fun (r36:Bs.den I.iB)=>
 fld tP r 1 fun (p12:OA)=>
 .call (G_of I l r33 p11) [tP] fun (r38:OA×Unit)=>
 .check (shiftTo r 1) [vP p12] <|
 .check (shiftTo r 2) (Bs.inj I.iB r36) <|
 .call (G_of I r38.1 r36 p12) [tP] fun (r40:OA×Unit)=>
 .ret 0 [vP r40.1]) <|
 fld tP r 0 fun (p13:OA)=>
 .load (Ty.agg I.iB) (some a1) fun (r42:Bs.den I.iB)=>
 fld tP p13 0 fun (p16:OA)=>
 fld (Ty.agg I.iB) p13 2 fun (r48:Bs.den I.iB)=>
 fld tP p13 1 fun (p18:OA)=>
 fld (Ty.agg I.iB) r 2 fun (r49:Bs.den I.iB)=>
 fld tP r 1 fun (p20:OA)=>
 .call (G_of I l r42 p16) [tP] fun (r50:OA×Unit)=>
 .check (shiftTo r 1) [vP p20] <|
 .check (shiftTo r 2) (Bs.inj I.iB r49) <|
 .check (shiftTo p13 1) [vP p18] <|
 .check (shiftTo p13 2) (Bs.inj I.iB r48) <|
 .call (G_of I p18 r49 p20) [tP] fun (r51:OA×Unit)=>
 .check (shiftTo p13 2) (Bs.inj I.iB r48) <|
 .call (G_of I r50.1 r48 r51.1) [tP] fun (r52:OA×Unit)=>
 .ret 0 [vP r52.1]) <|
 .load (Ty.agg I.iB) (some a1) fun (r53:Bs.den I.iB)=>
 .call (G_of I l r53 r) [tP] fun (r54:OA×Unit)=>
 .ret 0 [vP r54.1]
def Gr_join (fuelN:Nat) (I:Inst) (l:OA) (x:(Bs.den I.iB)) (r:OA):Prog:=
 match fuelN with
 | 0=>.fail
 | fuelN+1=>
  .alloc (Bs.inj I.iB x) fun (a1:Addr)=>
  .call (G_tall I l) [tI] fun (r2:Int×Unit)=>
  .call (G_tall I r) [tI] fun (r3:Int×Unit)=>
  ifB (gtI r2.1 (addI .i64 r3.1 1))
  (fld tP l 0 fun (p4:OA)=>
  fld (Ty.agg I.iB) l 2 fun (r5:Bs.den I.iB)=>
  fld tP l 1 fun (p6:OA)=>
  .load (Ty.agg I.iB) (some a1) fun (r7:Bs.den I.iB)=>
  .call (Gr_join fuelN I p6 r7 r) [tP] fun (r8:OA×Unit)=>
  .check (shiftTo l 2) (Bs.inj I.iB r5) <|
  .check (shiftTo l 0) [vP p4] <|
  .call (G_even I p4 r5 r8.1) [tP] fun (r9:OA×Unit)=>
  .ret 0 [vP r9.1]) <|
  .call (G_tall I r) [tI] fun (r0:Int×Unit)=>
  .call (G_tall I l) [tI] fun (r1:Int×Unit)=>
  ifB (gtI r0.1 (addI .i64 r1.1 1))
  (.load (Ty.agg I.iB) (some a1) fun (r4:Bs.den I.iB)=>
  fld tP r 0 fun (p0:OA)=>
  fld (Ty.agg I.iB) r 2 fun (r6:Bs.den I.iB)=>
  fld tP r 1 fun (p1:OA)=>
  .call (Gr_join fuelN I l r4 p0) [tP] fun (r13:OA×Unit)=>
  .check (shiftTo r 1) [vP p1] <|
  .check (shiftTo r 2) (Bs.inj I.iB r6) <|
  .call (G_even I r13.1 r6 p1) [tP] fun (r15:OA×Unit)=>
  .ret 0 [vP r15.1]) <|
  .load (Ty.agg I.iB) (some a1) fun (r20:Bs.den I.iB)=>
  .call (G_of I l r20 r) [tP] fun (r21:OA×Unit)=>
  .ret 0 [vP r21.1]
def G_join (I:Inst) (l:OA) (x:(Bs.den I.iB)) (r:OA):Prog:=.ex fun fuelN=>Gr_join fuelN I l x r
def Gr_cut (fuelN:Nat) (I:Inst) (n:OA) (i:Int):Prog:=
 match fuelN with
 | 0=>.fail
 | fuelN+1=>
  ifB (noneB n)
  (.ret 0 [vP none,vP none]) <|
  fld tP n 0 fun (p1:OA)=>
  .call (G_count I p1) [tI] fun (r2:Int×Unit)=>
  ifB (leI i r2.1)
  (fld tP n 0 fun (p3:OA)=>
  .call (Gr_cut fuelN I p3 i) [tP,tP] fun (r4:OA×OA×Unit)=>
  fld (Ty.agg I.iB) n 2 fun (r5:Bs.den I.iB)=>
  fld tP n 1 fun (p6:OA)=>
  .call (G_join I r4.2.1 r5 p6) [tP] fun (r7:OA×Unit)=>
  .ret 0 [vP r4.1,vP r7.1]) <|
  fld tP n 1 fun (p8:OA)=>
  .call (Gr_cut fuelN I p8 (subI .i64 (subI .i64 i r2.1) 1)) [tP,tP] fun (r9:OA×OA×Unit)=>
  fld tP n 0 fun (p0:OA)=>
  fld (Ty.agg I.iB) n 2 fun (r0:Bs.den I.iB)=>
  .call (G_join I p0 r0 r9.1) [tP] fun (r1:OA×Unit)=>
  .ret 0 [vP r1.1,vP r9.2.1]
def G_cut (I:Inst) (n:OA) (i:Int):Prog:=.ex fun fuelN=>Gr_cut fuelN I n i
def Gr_first (fuelN:Nat) (I:Inst) (n:OA):Prog:=
 match fuelN with
 | 0=>.fail
 | fuelN+1=>
  .alloc (Bs.inj I.iB I.zi) fun (a1:Addr)=>
  fld tP n 0 fun (p2:OA)=>
  ifB (noneB p2)
  (fld (Ty.agg I.iB) n 2 fun (r3:Bs.den I.iB)=>
  fld tP n 1 fun (p4:OA)=>
  .store (some a1) (Bs.inj I.iB r3) <|
  .check (shiftTo n 1) [vP p4] <|
  .load (Ty.agg I.iB) (some a1) fun (r5:Bs.den I.iB)=>
  .ret 0 [(Value.agg (Bs.inj I.iB r5).toArray),vP p4]) <|
  fld tP n 0 fun (p6:OA)=>
  .call (Gr_first fuelN I p6) [(Ty.agg I.iB),tP] fun (r7:((Bs.den I.iB)×OA×Unit))=>
  .alloc (Bs.inj I.iB I.zi) fun (a8:Addr)=>
  .store (some a8) (Bs.inj I.iB r7.1) <|
  .load (Ty.agg I.iB) (some a8) fun (r9:Bs.den I.iB)=>
  fld (Ty.agg I.iB) n 2 fun (r0:Bs.den I.iB)=>
  fld tP n 1 fun (p0:OA)=>
  .call (G_even I r7.2.1 r0 p0) [tP] fun (r1:OA×Unit)=>
  .check (some a8) (Bs.inj I.iB r9) <|
  .store (some a1) (Bs.inj I.iB r9) <|
  .load (Ty.agg I.iB) (some a1) fun (r2:Bs.den I.iB)=>
  .ret 0 [(Value.agg (Bs.inj I.iB r2).toArray),vP r1.1]
def G_first (I:Inst) (n:OA):Prog:=.ex fun fuelN=>Gr_first fuelN I n
def G_both (I:Inst) (l:OA) (r:OA):Prog:=
 ifB (noneB r)
 (.ret 0 [vP l]) <|
 .call (G_first I r) [(Ty.agg I.iB),tP] fun (r1:((Bs.den I.iB)×OA×Unit))=>
 .alloc (Bs.inj I.iB I.zi) fun (a2:Addr)=>
 .store (some a2) (Bs.inj I.iB r1.1) <|
 .load (Ty.agg I.iB) (some a2) fun (r3:Bs.den I.iB)=>
 .call (G_join I l r3 r1.2.1) [tP] fun (r4:OA×Unit)=>
 .ret 0 [vP r4.1]
def G_Replace (I:Inst) (t:(OA×Unit)) (from_:Int) (to:Int) (items:Sl):Prog:=
 .alloc [vP t.1] fun (a1:Addr)=>
 .alloc [vP none] fun (a2:Addr)=>
 thn 0 [tB] (ifB (ltI from_ 0)
 (.ret 0 [vB true]) <|
 ifB (gtI from_ to)
 (.ret 0 [vB true]) <|
 .load (Ty.agg [B.ptr]) (some a1) fun (r0:OA×Unit)=>
 .call (G_Size I (r0.1,())) [tI] fun (r1:Int×Unit)=>
 .ret 0 [vB (gtI to r1.1)]) fun (r2:Bool×Unit)=>
 ifB r2.1
 (.store (some a2) [vP none] <|
 .load (Ty.agg [B.ptr]) (some a2) fun (r3:OA×Unit)=>
 .ret 0 [(Value.agg (#[vP r3.1])),(vI 1)]) <|
 .load tP (shiftTo (some a1) 0) fun (p0:OA)=>
 .call (G_cut I p0 from_) [tP,tP] fun (r4:OA×OA×Unit)=>
 .load tP (shiftTo (some a1) 0) fun (p1:OA)=>
 .call (G_cut I p1 to) [tP,tP] fun (r5:OA×OA×Unit)=>
 .call (G_build I items) [tP] fun (r6:OA×Unit)=>
 .call (G_both I r4.1 r6.1) [tP] fun (r7:OA×Unit)=>
 .call (G_both I r7.1 r5.2.1) [tP] fun (r8:OA×Unit)=>
 .store (some a2) [vP r8.1] <|
 .load (Ty.agg [B.ptr]) (some a2) fun (r9:OA×Unit)=>
 .ret 0 [(Value.agg (#[vP r9.1])),(vI 0)]
def G_Upto (I:Inst) (t:(OA×Unit)) (i:Int):Prog:=
 .alloc [vP t.1] fun (a1:Addr)=>
 .alloc (Bs.inj I.sB I.zs) fun (a2:Addr)=>
 .alloc (Bs.inj I.sB I.zs) fun (a3:Addr)=>
 .load (Ty.agg [B.ptr]) (some a1) fun (r4:OA×Unit)=>
 .call (G_Size I (r4.1,())) [tI] fun (r5:Int×Unit)=>
 .load tP (shiftTo (some a1) 0) fun (p6:OA)=>
 thn 2 [] (.loop [tI,tP] ((minI i r5.1),(p6,())) fun (r0:Int×OA×Unit)=>
 thn 0 [tB] (ifB (notB (noneB r0.2.1))
 (.ret 0 [vB (gtI r0.1 0)]) <|
 .ret 0 [vB false]) fun (r1:Bool×Unit)=>
 ifB r1.1
 (fld tP r0.2.1 0 fun (p0:OA)=>
 .call (G_count I p0) [tI] fun (r2:Int×Unit)=>
 ifB (leI r0.1 r2.1)
 (fld tP r0.2.1 0 fun (p1:OA)=>
 .ret 0 [vI r0.1,vP p1]) <|
 thn 0 [] (fld tP r0.2.1 0 fun (p2:OA)=>
 ifB (notB (noneB p2))
 (.load (Ty.agg I.sB) (some a3) fun (r3:Bs.den I.sB)=>
 fld tP r0.2.1 0 fun (p3:OA)=>
 grd (someB p3) <|
 grd (someB p3) <|
 .load (Ty.agg I.sB) (shiftTo p3 (I.ni+4)) fun (r6:Bs.den I.sB)=>
 .call (I.aF r3 r6) [(Ty.agg I.sB)] fun (r7:((Bs.den I.sB)×Unit))=>
 .store (some a3) (Bs.inj I.sB r7.1) <|
 .ret 0 []) <|
 .ret 0 []) fun (u0:Unit)=>
 .load (Ty.agg I.sB) (some a3) fun (r8:Bs.den I.sB)=>
 fld (Ty.agg I.iB) r0.2.1 2 fun (r9:Bs.den I.iB)=>
 .call (I.mF r9) [(Ty.agg I.sB)] fun (r10:((Bs.den I.sB)×Unit))=>
 .check (some a3) (Bs.inj I.sB r8) <|
 .call (I.aF r8 r10.1) [(Ty.agg I.sB)] fun (r11:((Bs.den I.sB)×Unit))=>
 .store (some a3) (Bs.inj I.sB r11.1) <|
 fld tP r0.2.1 1 fun (p4:OA)=>
 .ret 0 [vI (subI .i64 (subI .i64 r0.1 r2.1) 1),vP p4]) <|
 .ret 2 []) fun (u1:Unit)=>
 .load (Ty.agg I.sB) (some a3) fun (r12:Bs.den I.sB)=>
 .store (some a2) (Bs.inj I.sB r12) <|
 .load (Ty.agg I.sB) (some a2) fun (r13:Bs.den I.sB)=>
 .ret 0 [(Value.agg (Bs.inj I.sB r13).toArray)]
def G_At (I:Inst) (t:(OA×Unit)) (i:Int):Prog:=
 .alloc [vP t.1] fun (a1:Addr)=>
 .alloc (Bs.inj I.iB I.zi) fun (a2:Addr)=>
 .load tP (shiftTo (some a1) 0) fun (p3:OA)=>
 .bind
 (.loop [tI,tP] (i,(p3,())) fun (r0:Int×OA×Unit)=>
 thn 0 [tB] (ifB (notB (noneB r0.2.1))
 (.ret 0 [vB (geI r0.1 0)]) <|
 .ret 0 [vB false]) fun (r1:Bool×Unit)=>
 ifB r1.1
 (fld tP r0.2.1 0 fun (p0:OA)=>
 .call (G_count I p0) [tI] fun (r2:Int×Unit)=>
 ifB (eqI r0.1 r2.1)
 (fld (Ty.agg I.iB) r0.2.1 2 fun (r3:Bs.den I.iB)=>
 .store (some a2) (Bs.inj I.iB r3) <|
 .ret 1 [vP (some a2),vB true]) <|
 ifB (ltI r0.1 r2.1)
 (fld tP r0.2.1 0 fun (p1:OA)=>
 .ret 0 [vI r0.1,vP p1]) <|
 fld tP r0.2.1 1 fun (p2:OA)=>
 .ret 0 [vI (subI .i64 (subI .i64 r0.1 r2.1) 1),vP p2]) <|
 .ret 2 []) fun (k0:Nat)=>
 fun (v0:List Value)=>
 ifB (eqN k0 2)
 (.cast [] v0 fun (u0:Unit)=>
 .alloc (Bs.inj I.iB I.zi) fun (a0:Addr)=>
 .load (Ty.agg I.iB) (some a0) fun (r4:Bs.den I.iB)=>
 .store (some a2) (Bs.inj I.iB r4) <|
 .load (Ty.agg I.iB) (some a2) fun (r5:Bs.den I.iB)=>
 .ret 0 [(Value.agg (Bs.inj I.iB r5).toArray),vB false]) <|
 ifB (eqN k0 1)
 (.cast [tP,tB] v0 fun (r6:OA×Bool×Unit)=>
 .load (Ty.agg I.iB) r6.1 fun (r7:Bs.den I.iB)=>
 .ret 0 [(Value.agg (Bs.inj I.iB r7).toArray),vB r6.2.1]) <|
 .fail
def G_Sum (I:Inst) (t:(OA×Unit)):Prog:=
 .alloc [vP t.1] fun (a1:Addr)=>
 .alloc (Bs.inj I.sB I.zs) fun (a2:Addr)=>
 .load tP (shiftTo (some a1) 0) fun (p3:OA)=>
 ifB (noneB p3)
 (.alloc (Bs.inj I.sB I.zs) fun (a4:Addr)=>
 .load (Ty.agg I.sB) (some a4) fun (r5:Bs.den I.sB)=>
 .store (some a2) (Bs.inj I.sB r5) <|
 .load (Ty.agg I.sB) (some a2) fun (r6:Bs.den I.sB)=>
 .ret 0 [(Value.agg (Bs.inj I.sB r6).toArray)]) <|
 .load tP (shiftTo (some a1) 0) fun (p7:OA)=>
 grd (someB p7) <|
 grd (someB p7) <|
 .load (Ty.agg I.sB) (shiftTo p7 (I.ni+4)) fun (r8:Bs.den I.sB)=>
 .store (some a2) (Bs.inj I.sB r8) <|
 .load (Ty.agg I.sB) (some a2) fun (r9:Bs.den I.sB)=>
 .ret 0 [(Value.agg (Bs.inj I.sB r9).toArray)]
def G_Find (I:Inst) (t:(OA×Unit)) (k:Int) (n:Int):Prog:=
 .alloc [vP t.1] fun (a1:Addr)=>
 ifB (leI n 0)
 (.ret 0 [vI 0]) <|
 .alloc (Bs.inj I.sB I.zs) fun (a2:Addr)=>
 .load tP (shiftTo (some a1) 0) fun (p3:OA)=>
 .bind
 (.loop [tI,tP] ((0:Int),(p3,())) fun (r0:Int×OA×Unit)=>
 ifB (notB (noneB r0.2.1))
 (.load (Ty.agg I.sB) (some a2) fun (r1:Bs.den I.sB)=>
 .alloc (Bs.inj I.sB I.zs) fun (a0:Addr)=>
 .store (some a0) (Bs.inj I.sB r1) <|
 thn 0 [] (fld tP r0.2.1 0 fun (p0:OA)=>
 ifB (notB (noneB p0))
 (.load (Ty.agg I.sB) (some a2) fun (r2:Bs.den I.sB)=>
 fld tP r0.2.1 0 fun (p1:OA)=>
 grd (someB p1) <|
 grd (someB p1) <|
 .load (Ty.agg I.sB) (shiftTo p1 (I.ni+4)) fun (r3:Bs.den I.sB)=>
 .call (I.aF r2 r3) [(Ty.agg I.sB)] fun (r4:((Bs.den I.sB)×Unit))=>
 .store (some a0) (Bs.inj I.sB r4.1) <|
 .ret 0 []) <|
 .ret 0 []) fun (u0:Unit)=>
 .load (Ty.agg I.sB) (some a0) fun (r5:Bs.den I.sB)=>
 .call (I.kF r5 k) [tI] fun (r6:Int×Unit)=>
 ifB (geI r6.1 n)
 (fld tP r0.2.1 0 fun (p2:OA)=>
 .ret 0 [vI r0.1,vP p2]) <|
 fld tP r0.2.1 0 fun (p4:OA)=>
 .call (G_count I p4) [tI] fun (r7:Int×Unit)=>
 .load (Ty.agg I.sB) (some a0) fun (r8:Bs.den I.sB)=>
 fld (Ty.agg I.iB) r0.2.1 2 fun (r9:Bs.den I.iB)=>
 .call (I.mF r9) [(Ty.agg I.sB)] fun (r10:((Bs.den I.sB)×Unit))=>
 .check (some a0) (Bs.inj I.sB r8) <|
 .call (I.aF r8 r10.1) [(Ty.agg I.sB)] fun (r11:((Bs.den I.sB)×Unit))=>
 .store (some a2) (Bs.inj I.sB r11.1) <|
 .load (Ty.agg I.sB) (some a2) fun (r12:Bs.den I.sB)=>
 .call (I.kF r12 k) [tI] fun (r13:Int×Unit)=>
 ifB (geI r13.1 n)
 (.ret 1 [vI (addI .i64 r0.1 (addI .i64 r7.1 1))]) <|
 fld tP r0.2.1 1 fun (p5:OA)=>
 .ret 0 [vI (addI .i64 r0.1 (addI .i64 r7.1 1)),vP p5]) <|
 .ret 2 [vI r0.1]) fun (k0:Nat)=>
 fun (v0:List Value)=>
 ifB (eqN k0 2)
 (.cast [tI] v0 fun (r14:Int×Unit)=>
 .ret 0 [vI (addI .i64 r14.1 1)]) <|
 ifB (eqN k0 1)
 (.cast [tI] v0 fun (r15:Int×Unit)=>
 .ret 0 [vI r15.1]) <|
 .fail
def G_Items1 (I:Inst) (yield:Value) (x1:OA) (x2:OA):Prog:=
 grd (flatB yield) <|
 .alloc [yield] fun (a1:Addr)=>
 .alloc [Value.nilFunc] fun (a2:Addr)=>
 .store (some a2) [(Value.func (Fn.func I.f2) #[] (#[vP (some a2),vP (some a1)]))] <|
 .load (Ty.one B.any) (some a2) fun (c3:Value)=>
 grd (someB x1) <|
 .load tP (shiftTo x1 0) fun (p4:OA)=>
 .load tI x2 fun (n5:Int)=>
 .callv c3 [vP p4,vI (maxI 0 n5)] [tB] fun (r6:Bool×Unit)=>
 .ret 0 []
def G_Walk (I:Inst) (n:OA) (from_:Int) (x2:OA) (x3:OA):Prog:=
 thn 0 [tB] (ifB (noneB n)
 (.ret 0 [vB true]) <|
 grd (someB n) <|
 grd (someB n) <|
 .load tI (shiftTo n (I.ni+2)) fun (n0:Int)=>
 .ret 0 [vB (geI from_ n0)]) fun (r0:Bool×Unit)=>
 ifB r0.1
 (.ret 0 [vB true]) <|
 fld tP n 0 fun (p0:OA)=>
 .call (G_count I p0) [tI] fun (r1:Int×Unit)=>
 thn 0 [tB] (ifB (ltI from_ r1.1)
 (.load (Ty.one B.any) x2 fun (c0:Value)=>
 fld tP n 0 fun (p1:OA)=>
 .callv c0 [vP p1,vI from_] [tB] fun (r2:Bool×Unit)=>
 .ret 0 [vB (notB r2.1)]) <|
 .ret 0 [vB false]) fun (r3:Bool×Unit)=>
 ifB r3.1
 (.ret 0 [vB false]) <|
 thn 0 [tB] (ifB (leI from_ r1.1)
 (.load (Ty.one B.any) x3 fun (c1:Value)=>
 fld (Ty.agg I.iB) n 2 fun (r4:Bs.den I.iB)=>
 .callv c1 [(Value.agg (Bs.inj I.iB r4).toArray)] [tB] fun (r5:Bool×Unit)=>
 .ret 0 [vB (notB r5.1)]) <|
 .ret 0 [vB false]) fun (r6:Bool×Unit)=>
 ifB r6.1
 (.ret 0 [vB false]) <|
 .load (Ty.one B.any) x2 fun (c2:Value)=>
 fld tP n 1 fun (p2:OA)=>
 .callv c2 [vP p2,vI (maxI 0 (subI .i64 (subI .i64 from_ r1.1) 1))] [tB] fun (r7:Bool×Unit)=>
 .ret 0 [vB r7.1]
end Go.Sw.Any

set_option linter.unusedVariables false
set_option linter.unusedSimpArgs false
set_option maxRecDepth 100000
namespace Go.Sw.Any
open Go.Sw.Tree (iv s_putAll s_newP s_getP s_getT s_putP small_ne cells_upd wp_whileG least TR)
variable {P:Program} {I:Inst} {h:Heap} {Q:Nat→List Value→Heap→Prop}
def Fresh (I:Inst) (h:Heap):Prop:=∀ i,h.size≤i→I.Z i
theorem Fresh.ext {h h':Heap} (f:Fresh I h) (e:Ext h h'):Fresh I h':=fun i hi=>f i (Nat.le_trans e.size hi)
structure Inst.Ok (P:Program) (I:Inst):Prop where
 i1:1≤I.ni∧I.ni≤100
 s1:1≤I.ns∧I.ns≤100
 fi:∀ (x:I.It) v,v∈Bs.inj I.iB x→flat v=true
 fs:∀ (x:I.Su) v,v∈Bs.inj I.sB x→flat v=true
 w1:∀ x,1≤I.wt x
 v0:I.V 0 I.zs
 vm:∀ x,I.okI x→I.V (I.wt x) (I.meas x)
 va:∀ n m s o,I.V n s→I.V m o→I.V (n+m) (I.add s o)
 mono:∀ n m s,I.V n s→n≤m→I.V m s
 az:∀ n s,I.V n s→I.add s I.zs=s
 za:∀ n s,I.V n s→I.add I.zs s=s
 assoc:∀ n m k x y z,I.V n x→I.V m y→I.V k z→I.add (I.add x y) z=I.add x (I.add y z)
 key0:∀ k,I.key I.zs k=0
 kmono:∀ n m s o k,I.V n s→I.V m o→I.key s k≤I.key (I.add s o) k
 cm:∀ (h:Heap) x,I.okI x→Gives P (I.mF x) [.agg I.sB] h fun (y:I.Su×Unit) _=>y.1=I.meas x
 ca:∀ (h:Heap) n m s o,I.V n s→I.V m o→n+m≤4398046511104→Gives P (I.aF s o) [.agg I.sB] h fun (y:I.Su×Unit) _=>y.1=I.add s o
 ck:∀ (h:Heap) n s k,I.V n s→n≤4398046511104→Gives P (I.kF s k) [.one (.int .i64)] h fun (y:Int×Unit) _=>y.1=I.key s k
def Inst.sum (I:Inst) (l:List I.It):I.Su:=l.foldl (fun s r=>I.add s (I.meas r)) I.zs
def Inst.W (I:Inst) (l:List I.It):Nat:=(l.map I.wt).sum
def Inst.wf (I:Inst) (l:List I.It):Prop:=∀ r,r∈l→I.okI r
theorem W_append (l m:List I.It):I.W (l++m)=I.W l+I.W m:=by simp [Inst.W]
theorem W_cons (x:I.It) (l:List I.It):I.W (x::l)=I.wt x+I.W l:=by simp [Inst.W]
theorem W_len (O:I.Ok P) (l:List I.It):l.length≤I.W l:=by
 induction l with
 | nil=>exact Nat.le_refl _
 | cons x l ih=>rw [W_cons]; have:=O.w1 x; simp only [List.length_cons]; omega
theorem W_take (l:List I.It) (n:Nat):I.W (l.take n)≤I.W l:=by
 have:=W_append (l.take n) (l.drop n)
 rw [List.take_append_drop] at this; omega
theorem W_drop (l:List I.It) (n:Nat):I.W (l.drop n)≤I.W l:=by
 have:=W_append (l.take n) (l.drop n)
 rw [List.take_append_drop] at this; omega
theorem V.fold (O:I.Ok P) {l:List I.It} (hl:I.wf l):∀ {n:Nat} {s:I.Su},I.V n s→I.V (n+I.W l) (l.foldl (fun s r=>I.add s (I.meas r)) s):=by
 induction l with
 | nil=>intro n s v; exact v
 | cons r l ih=>
  intro n s v
  have:=ih (fun x hx=>hl x (List.mem_cons_of_mem _ hx)) (O.va _ _ _ _ v (O.vm r (hl r (List.mem_cons_self ..))))
  exact O.mono _ _ _ this (by rw [W_cons]; omega)
theorem V.sum (O:I.Ok P) {l:List I.It} (hl:I.wf l):I.V (I.W l) (I.sum l):=O.mono _ _ _ (V.fold O hl O.v0) (by omega)
theorem fold_add (O:I.Ok P) {l:List I.It} (hl:I.wf l):∀ {n m:Nat} {s o:I.Su},I.V n s→I.V m o →
  l.foldl (fun s r=>I.add s (I.meas r)) (I.add s o)=I.add s (l.foldl (fun s r=>I.add s (I.meas r)) o):=by
 induction l with
 | nil=>intros; rfl
 | cons r l ih=>
  intro n m s o v w
  have hr:=O.vm r (hl r (List.mem_cons_self ..))
  simp only [List.foldl_cons]
  rw [O.assoc _ _ _ _ _ _ v w hr]
  exact ih (fun x hx=>hl x (List.mem_cons_of_mem _ hx)) v (O.va _ _ _ _ w hr)
theorem sum_append (O:I.Ok P) {l m:List I.It} (hl:I.wf l) (hm:I.wf m):I.sum (l++m)=I.add (I.sum l) (I.sum m):=by
 unfold Inst.sum
 rw [List.foldl_append]
 have:=fold_add O hm (V.sum O hl) O.v0
 rw [O.az _ _ (V.sum O hl)] at this
 exact this
theorem sum_snoc (l:List I.It) (r:I.It):I.sum (l++[r])=I.add (I.sum l) (I.meas r):=by unfold Inst.sum; rw [List.foldl_append]; rfl
theorem sum_nil:I.sum []=I.zs:=rfl
theorem inj_len:∀ (bs:List B) (x:Bs.den bs),(Bs.inj bs x).length=bs.length:=by
 intro bs
 induction bs with
 | nil=>intro x; rfl
 | cons b bs ih=>intro x; simp [Bs.inj,ih]
theorem s_newO {bs:List B} (x:Bs.den bs) (hs:bs.length≤100) {K:Addr→Prog} (hk:∀ h',Ext h h'→Own h.size 1 h' ⟨some ⟨h.size,0,none⟩,bs.length,bs.length⟩ (Bs.inj bs x)→wp P (K ⟨h.size,0,none⟩) h' Q):wp P (.alloc (Bs.inj bs x) K) h Q:=
 fun elem=>hk _ (Ext.push ..) (own_alloc (by rw [inj_len]; omega) (by decide) (by omega))
theorem s_getO {bs:List B} {n c d:Nat} {a:Addr} {x:Bs.den bs} {K:Bs.den bs→Prog} (ho:Own n 1 h ⟨some a,c,d⟩ (Bs.inj bs x)) (hk:wp P (K x) h Q):wp P (.load (.agg bs) (some a) K) h Q:=⟨a,rfl,x,ho.cells,hk⟩
theorem s_ckO {bs:List B} {n c d:Nat} {a:Addr} {x:Bs.den bs} {K:Prog} (ho:Own n 1 h ⟨some a,c,d⟩ (Bs.inj bs x)) (hk:wp P K h Q):wp P (.check (some a) (Bs.inj bs x) K) h Q:=s_check0 rfl ho.cells hk
theorem s_stoO {bs:List B} {n c d:Nat} {a:Addr} {x:Bs.den bs} (y:Bs.den bs) {K:Prog} (ho:Own n 1 h ⟨some a,c,d⟩ (Bs.inj bs x)) (hf:∀ v,v∈Bs.inj bs y→flat v=true)
  (hk:∀ h',Own n 1 h' ⟨some a,c,d⟩ (Bs.inj bs y)→Upd ⟨some a,c,d⟩ h h'→wp P K h' Q):wp P (.store (some a) (Bs.inj bs y) K) h Q:=s_putAll (Bs.inj bs y) ho (by rw [inj_len,inj_len]) hf hk
theorem s_putO {bs:List B} {z:Bs.den bs} (y:Bs.den bs) (hs:bs.length≤100) (hf:∀ v,v∈Bs.inj bs y→flat v=true) {K:Addr→Prog}
  (hk:∀ h',Ext h h'→Own h.size 1 h' ⟨some ⟨h.size,0,none⟩,bs.length,bs.length⟩ (Bs.inj bs y)→wp P (K ⟨h.size,0,none⟩) h' Q):wp P (.alloc (Bs.inj bs z) fun a=>.store (some a) (Bs.inj bs y) (K a)) h Q:=
 s_newO z hs fun h1 e1 o1=>s_stoO y o1 hf fun h2 o2 u2=>hk h2 (Upd.extN e1 u2 (by intro a ha; cases ha; exact Nat.le_refl _)) o2
theorem s_tellO {bs:List B} {n c d:Nat} {a:Addr} {x:Bs.den bs} (y:Bs.den bs) {R:Nat→List Value→Heap→Prop} {h0:Heap} (ho:Own n 1 h ⟨some a,c,d⟩ (Bs.inj bs x)) (hn:h0.size≤n) (e:Ext h0 h) (hf:∀ v,v∈Bs.inj bs y→flat v=true)
  (hr:∀ h',Ext h0 h'→R 0 [.agg (Bs.inj bs y).toArray] h'):wp P (.store (some a) (Bs.inj bs y) <| .load (.agg bs) (some a) fun r=>.ret 0 [.agg (Bs.inj bs r).toArray]) h R:=
 s_stoO y ho hf fun h1 o1 u1=>s_getO o1 (s_ret (hr h1 (Upd.extN e u1 (by intro b hb; cases hb; have:=(ho.lt rfl).1; exact Nat.le_trans hn this))))
theorem ob_upd {n c d c' d':Nat} {h':Heap} {a b:Addr} {vs:List Value} (o:Own n 1 h ⟨some a,c,d⟩ vs) (u:Upd ⟨some b,c',d'⟩ h h') (hne:b.block≠a.block):Own n 1 h' ⟨some a,c,d⟩ vs:=
 o.keep fun x hx=>u.2.1 _ (o.lt hx).2 fun y hy=>by cases hx; cases hy; exact hne
def cI (I:Inst) (l:List I.It):List Value:=l.flatMap fun r=>Bs.inj I.iB r
theorem cI_len (l:List I.It):(cI I l).length=l.length*I.ni:=by
 unfold cI
 induction l with
 | nil=>simp
 | cons r l ih=>rw [List.flatMap_cons,List.length_append,ih,inj_len,List.length_cons,Nat.add_mul]; unfold Inst.ni; omega
theorem cI_cons (x:I.It) (l:List I.It):cI I (x::l)=Bs.inj I.iB x++cI I l:=by simp [cI]
theorem cI_at (l:List I.It):∀ (j:Nat) (r:I.It),l[j]? = some r→∀ (i:Nat) (v:Value),(Bs.inj I.iB r)[i]? = some v→(cI I l)[j*I.ni+i]? = some v:=by
 induction l with
 | nil=>intro j r h; simp at h
 | cons x l ih=>
  intro j r h i v hv
  have hx:=inj_len I.iB x
  rw [cI_cons]
  cases j with
  | zero=>
   simp at h; subst h
   have:=(List.getElem?_eq_some_iff.1 hv).1
   rw [List.getElem?_append_left (by omega)]
   simpa using hv
  | succ j=>
   have:=ih j r (by simpa using h) i v hv
   have h2:(j+1)*I.ni=j*I.ni+I.ni:=Nat.succ_mul ..
   have h3:(Bs.inj I.iB x).length=I.ni:=hx
   rw [List.getElem?_append_right (by omega),h3,show (j+1)*I.ni+i-I.ni=j*I.ni+i by omega]; exact this
theorem cI_take (l:List I.It) (n:Nat):(cI I l).take (n*I.ni)=cI I (l.take n):=by
 induction l generalizing n with
 | nil=>simp [cI]
 | cons x l ih=>
  cases n with
  | zero=>simp [cI]
  | succ n=>
   have hx:(Bs.inj I.iB x).length=I.ni:=inj_len _ _
   have h2:(n+1)*I.ni=I.ni+n*I.ni:=by rw [Nat.succ_mul]; omega
   rw [cI_cons,List.take_succ_cons,cI_cons,h2,List.take_append,List.take_of_length_le (by omega),hx,Nat.add_sub_cancel_left,ih]
theorem cI_drop (l:List I.It) (n:Nat):(cI I l).drop (n*I.ni)=cI I (l.drop n):=by
 induction l generalizing n with
 | nil=>simp [cI]
 | cons x l ih=>
  cases n with
  | zero=>simp
  | succ n=>
   have hx:(Bs.inj I.iB x).length=I.ni:=inj_len _ _
   have h2:(n+1)*I.ni=I.ni+n*I.ni:=by rw [Nat.succ_mul]; omega
   rw [cI_cons,List.drop_succ_cons,h2,List.drop_append,List.drop_of_length_le (by omega),hx,Nat.add_sub_cancel_left,ih,List.nil_append]
theorem wf_append {l m:List I.It} (a:I.wf l) (b:I.wf m):I.wf (l++m):=fun r hr=>(List.mem_append.1 hr).elim (a r) (b r)
theorem wf_take {l:List I.It} (a:I.wf l) (n:Nat):I.wf (l.take n):=fun r hr=>a r (List.mem_of_mem_take hr)
theorem wf_drop {l:List I.It} (a:I.wf l) (n:Nat):I.wf (l.drop n):=fun r hr=>a r (List.mem_of_mem_drop hr)
structure Its (I:Inst) (h:Heap) (s:Sl) (l:List I.It):Prop where
 rd:Rd I.ni h s (cI I l)
 cap:s.len≤s.cap
 max:s.cap<2 ^ 63
 wf:I.wf l
theorem Its.len (O:I.Ok P) {s:Sl} {l:List I.It} (r:Its I h s l):s.len=l.length:=by
 have:=r.rd.1
 rw [cI_len] at this
 exact Nat.eq_of_mul_eq_mul_right O.i1.1 this
theorem Its.ext {h':Heap} {s:Sl} {l:List I.It} (r:Its I h s l) (e:Ext h h'):Its I h' s l:=⟨e.rd r.rd,r.cap,r.max,r.wf⟩
theorem Its.take (O:I.Ok P) {s:Sl} {l:List I.It} (hr:Its I h s l) {n m:Nat} (hn:n≤l.length) (hm:n≤m) (hm':m<2 ^ 63):Its I h ⟨s.base,n,m⟩ (l.take n):=
 ⟨by have:=Rd.take hr.rd (n:=n) (by rw [hr.len O]; exact hn) m; rw [cI_take] at this; exact this,hm,hm',wf_take hr.wf n⟩
theorem Its.drop (O:I.Ok P) {s:Sl} {l:List I.It} (hr:Its I h s l) {i m:Nat} (hi:i≤l.length) (hm:s.len-i≤m) (hm':m<2 ^ 63):Its I h ⟨cutBase s.base s.cap i I.ni,s.len-i,m⟩ (l.drop i):=
 ⟨by have:=Rd.drop hr.rd (i:=i) (by rw [hr.len O]; exact hi) hr.cap m; rw [cI_drop] at this; exact this,hm,hm',wf_drop hr.wf i⟩
theorem its_cells {s:Sl} {l:List I.It} {j:Nat} {r:I.It} (hr:Its I h s l) (h1:1≤I.ni) (hj:l[j]? = some r):∃ a,s.base=some a∧Cells h (a.add (j*I.ni)) (Bs.inj I.iB r):=by
 have hl:(Bs.inj I.iB r).length=I.ni:=inj_len _ _
 obtain ⟨a,e,c⟩:=hr.rd.2 _ _ (cI_at l j r hj 0 _ (List.getElem?_eq_getElem (by omega)))
 refine ⟨a,e,cells_iff.2 fun i v hi=>?_⟩
 obtain ⟨a',e',c'⟩:=hr.rd.2 _ _ (cI_at l j r hj i v hi)
 rw [e] at e'; cases e'
 rw [add_add]; exact c'
theorem s_atI (O:I.Ok P) {s:Sl} {l:List I.It} {K:I.It→Prog} {j:Int} (hr:Its I h s l) (h0:0≤j) (h1:j<l.length)
  (hk:∀ r,l[j.toNat]? = some r→wp P (K r) h Q):wp P (grd (andB (someB s.base) (inB j s.len)) (.load (.agg I.iB) (shiftTo s.base (mulN (toN j) I.ni)) K)) h Q:=by
 have hj:l[j.toNat]? = some l[j.toNat]:=List.getElem?_eq_getElem (by omega)
 obtain ⟨a,e,c⟩:=its_cells hr O.i1.1 hj
 have:=hr.len O
 exact wp_grd (andB_iff.2 ⟨by simp [someB,e],inB_is.2 ⟨h0,by omega⟩⟩) ⟨a.add (j.toNat*I.ni),by simp [shiftTo,e,mulN,toN],l[j.toNat],c,hk _ hj⟩
theorem s_sameI (O:I.Ok P) {s:Sl} {l:List I.It} {K:Prog} {j:Nat} {r:I.It} (hr:Its I h s l) (hj:l[j]? = some r) (hk:wp P K h Q):wp P (.check (shiftTo s.base (mulN j I.ni)) (Bs.inj I.iB r) K) h Q:=by
 obtain ⟨a,e,c⟩:=its_cells hr O.i1.1 hj
 exact ⟨⟨a.add (j*I.ni),by simp [shiftTo,e,mulN],c⟩,hk⟩
inductive Bt (α:Type) where
 | nil
 | node (l:Bt α) (x:α) (r:Bt α)
def Bt.list {α:Type}:Bt α→List α
 | .nil=>[]
 | .node l x r=>l.list++x::r.list
def Bt.ht {α:Type}:Bt α→Nat
 | .nil=>0
 | .node l _ r=>max l.ht r.ht+1
theorem Bt.ht_le {α:Type}:∀ t:Bt α,t.ht≤t.list.length
 | .nil=>Nat.le_refl _
 | .node l x r=>by have:=l.ht_le; have:=r.ht_le; simp only [Bt.ht,Bt.list,List.length_append,List.length_cons]; omega
theorem node_len {α:Type} (l r:Bt α) (x:α):(Bt.node l x r).list.length=l.list.length+1+r.list.length:=by simp [Bt.list]; omega
def headV (I:Inst) (pl pr:Option Addr) (t:Bt I.It) (x:I.It):List Value:=[.pointer pl, .pointer pr]++(Bs.inj I.iB x++[iv t.list.length,iv t.ht])
theorem headV_len (pl pr:Option Addr) (t:Bt I.It) (x:I.It):(headV I pl pr t x).length=I.ni+4:=by
 simp only [headV,List.length_append,List.length_cons,List.length_nil,inj_len]; unfold Inst.ni; omega
def NdC (I:Inst) (h:Heap) (a:Addr) (pl pr:Option Addr) (l:Bt I.It) (x:I.It) (r:Bt I.It):Prop:=Cells h a (headV I pl pr (.node l x r) x++Bs.inj I.sB (I.sum (Bt.node l x r).list))∧I.Z a.block∧a.off=0∧a.spot=none
def Nd (I:Inst) (h:Heap):Option Addr→Bt I.It→Prop
 | p, .nil=>p=none
 | p, .node l x r=>∃ a pl pr,p=some a∧NdC I h a pl pr l x r∧Nd I h pl l∧Nd I h pr r
theorem NdC.ext {h':Heap} {a:Addr} {pl pr:Option Addr} {l r:Bt I.It} {x:I.It} (c:NdC I h a pl pr l x r) (e:Ext h h'):NdC I h' a pl pr l x r:=⟨e.cells c.1,c.2⟩
theorem Nd.ext {h':Heap} (e:Ext h h'):∀ {t:Bt I.It} {p:Option Addr},Nd I h p t→Nd I h' p t
 | .nil,_,n=>n
 | .node l x r,p,⟨a,pl,pr,e1,c,n1,n2⟩=>⟨a,pl,pr,e1,c.ext e,Nd.ext e n1,Nd.ext e n2⟩
theorem Nd.chg {F:Nat→Prop} {h':Heap} (e:Chg F h h') (hF:∀ i,i<h.size→I.Z i→¬ F i):∀ {t:Bt I.It} {p:Option Addr},Nd I h p t→Nd I h' p t
 | .nil,_,n=>n
 | .node l x r,p,⟨a,pl,pr,e1,c,n1,n2⟩=>⟨a,pl,pr,e1,⟨cells_iff.2 fun j v hj=>by
   have q:=cells_iff.1 c.1 j v hj
   have hlt:=cell_lt q
   have hz:=c.2.1
   rw [add_block] at hlt
   rw [cell_of_block (h:=h) (by rw [add_block]; exact e.2.1 _ hlt (hF _ hlt hz))]; exact q,c.2⟩,Nd.chg e hF n1,Nd.chg e hF n2⟩
theorem wf_left {l r:Bt I.It} {x:I.It} (w:I.wf (Bt.node l x r).list):I.wf l.list:=fun y hy=>w y (by simp [Bt.list,hy])
theorem wf_right {l r:Bt I.It} {x:I.It} (w:I.wf (Bt.node l x r).list):I.wf r.list:=fun y hy=>w y (by simp [Bt.list,hy])
theorem wf_mid {l r:Bt I.It} {x:I.It} (w:I.wf (Bt.node l x r).list):I.okI x:=w x (by simp [Bt.list])
theorem node_W (l r:Bt I.It) (x:I.It):I.W (Bt.node l x r).list=I.W l.list+I.wt x+I.W r.list:=by simp only [Bt.list]; rw [W_append,W_cons]; omega
theorem sum_node (O:I.Ok P) {l r:Bt I.It} {x:I.It} (w:I.wf (Bt.node l x r).list):I.sum (Bt.node l x r).list=I.add (I.add (I.sum l.list) (I.meas x)) (I.sum r.list):=by
 have h1:I.wf [x]:=fun y hy=>by rw [List.mem_singleton.1 hy]; exact wf_mid w
 rw [show (Bt.node l x r).list=(l.list++[x])++r.list by simp [Bt.list],sum_append O (wf_append (wf_left w) h1) (wf_right w),sum_snoc]
theorem cells_mid {a:Addr} {pre mid post:List Value} {j:Nat} (c:Cells h a (pre++(mid++post))) (hj:j=pre.length):Cells h (a.add j) mid:=
 cells_iff.2 fun i v hi=>by
  rw [add_add]
  refine cells_iff.1 c (j+i) v ?_
  rw [List.getElem?_append_right (by omega),show j+i-pre.length=i by omega,List.getElem?_append_left (List.getElem?_eq_some_iff.1 hi).1]; exact hi
theorem NdC.item {a:Addr} {pl pr:Option Addr} {l r:Bt I.It} {x:I.It} (c:NdC I h a pl pr l x r):Cells h (a.add 2) (Bs.inj I.iB x):=by
 replace c:=c.1
 unfold headV at c
 rw [List.append_assoc,List.append_assoc] at c
 exact cells_mid c rfl
theorem NdC.sum {a:Addr} {pl pr:Option Addr} {l r:Bt I.It} {x:I.It} (c:NdC I h a pl pr l x r):Cells h (a.add (I.ni+4)) (Bs.inj I.sB (I.sum (Bt.node l x r).list)):=
 cells_mid (post:=[]) (by rw [List.append_nil]; exact c.1) (headV_len ..).symm
theorem NdC.nums {a:Addr} {pl pr:Option Addr} {l r:Bt I.It} {x:I.It} (c:NdC I h a pl pr l x r):Sw.cell h (a.add (I.ni+2))=some (iv (Bt.node l x r).list.length)∧Sw.cell h (a.add (I.ni+3))=some (iv (Bt.node l x r).ht):=by
 replace c:=c.1
 unfold headV at c
 rw [← List.append_assoc [Value.pointer pl,Value.pointer pr] (Bs.inj I.iB x),List.append_assoc] at c
 have:=cells_mid (j:=I.ni+2) c (by simp only [List.length_append,List.length_cons,List.length_nil,inj_len]; unfold Inst.ni; omega)
 have h0:=cells_iff.1 this 0 _ rfl
 have h1:=cells_iff.1 this 1 _ rfl
 rw [add_zero'] at h0
 rw [add_add] at h1
 exact ⟨h0,h1⟩
theorem NdC.left {a:Addr} {pl pr:Option Addr} {l r:Bt I.It} {x:I.It} (c:NdC I h a pl pr l x r):Sw.cell h (a.add 0)=some (.pointer pl):=cells_iff.1 c.1 0 _ rfl
theorem NdC.right {a:Addr} {pl pr:Option Addr} {l r:Bt I.It} {x:I.It} (c:NdC I h a pl pr l x r):Sw.cell h (a.add 1)=some (.pointer pr):=cells_iff.1 c.1 1 _ rfl
theorem q_left {a:Addr} {pl pr:Option Addr} {l r:Bt I.It} {x:I.It} {K:Option Addr→Prog} (c:NdC I h a pl pr l x r) (hk:wp P (K pl) h Q):wp P (grd (someB (some a)) <| grd (someB (some a)) <| .load (.one .ptr) (shiftTo (some a) 0) K) h Q:=
 wp_grd rfl (wp_grd rfl (wp_load1 (b:=.ptr) (a.add 0) pl rfl c.left hk))
theorem q_right {a:Addr} {pl pr:Option Addr} {l r:Bt I.It} {x:I.It} {K:Option Addr→Prog} (c:NdC I h a pl pr l x r) (hk:wp P (K pr) h Q):wp P (grd (someB (some a)) <| grd (someB (some a)) <| .load (.one .ptr) (shiftTo (some a) 1) K) h Q:=
 wp_grd rfl (wp_grd rfl (wp_load1 (b:=.ptr) (a.add 1) pr rfl c.right hk))
theorem q_item {a:Addr} {pl pr:Option Addr} {l r:Bt I.It} {x:I.It} {K:I.It→Prog} (c:NdC I h a pl pr l x r) (hk:wp P (K x) h Q):wp P (grd (someB (some a)) <| grd (someB (some a)) <| .load (.agg I.iB) (shiftTo (some a) 2) K) h Q:=
 wp_grd rfl (wp_grd rfl ⟨a.add 2,rfl,x,c.item,hk⟩)
theorem q_sum {a:Addr} {pl pr:Option Addr} {l r:Bt I.It} {x:I.It} {K:I.Su→Prog} (c:NdC I h a pl pr l x r) (hk:wp P (K (I.sum (Bt.node l x r).list)) h Q):wp P (grd (someB (some a)) <| grd (someB (some a)) <| .load (.agg I.sB) (shiftTo (some a) (I.ni+4)) K) h Q:=
 wp_grd rfl (wp_grd rfl ⟨a.add (I.ni+4),rfl,_,c.sum,hk⟩)
theorem q_ckL {a:Addr} {pl pr:Option Addr} {l r:Bt I.It} {x:I.It} {K:Prog} (c:NdC I h a pl pr l x r) (hk:wp P K h Q):wp P (.check (shiftTo (some a) 0) [.pointer pl] K) h Q:=
 s_check0 rfl (cells_iff.2 fun i v hi=>by match i,hi with | 0,hi=>simp at hi; subst hi; rw [add_zero']; exact c.left | i+1,hi=>simp at hi) hk
theorem q_ckR {a:Addr} {pl pr:Option Addr} {l r:Bt I.It} {x:I.It} {K:Prog} (c:NdC I h a pl pr l x r) (hk:wp P K h Q):wp P (.check (shiftTo (some a) 1) [.pointer pr] K) h Q:=
 s_check0 rfl (cells_iff.2 fun i v hi=>by match i,hi with | 0,hi=>simp at hi; subst hi; rw [add_zero']; exact c.right | i+1,hi=>simp at hi) hk
theorem q_ckI {a:Addr} {pl pr:Option Addr} {l r:Bt I.It} {x:I.It} {K:Prog} (c:NdC I h a pl pr l x r) (hk:wp P K h Q):wp P (.check (shiftTo (some a) 2) (Bs.inj I.iB x) K) h Q:=
 s_check0 rfl c.item hk
theorem c_count {p:Option Addr} {t:Bt I.It} (ht:Nd I h p t):Gives P (G_count I p) [.one (.int .i64)] h fun (x:Int×Unit) _=>x.1=t.list.length:=by
 unfold G_count Gives
 cases t with
 | nil=>obtain rfl:=ht; exact s_ifT (s_ret ⟨rfl,Ext.refl _,(0,()),rfl,rfl⟩)
 | node l x r=>
  obtain ⟨a,pl,pr,rfl,c,_,_⟩:=ht
  exact s_ifF (wp_grd rfl (wp_grd rfl (wp_load1 (b:=.int .i64) (a.add (I.ni+2)) _ rfl c.nums.1 (s_ret ⟨rfl,Ext.refl _,(((Bt.node l x r).list.length:Nat),()),rfl,rfl⟩))))
theorem c_tall {p:Option Addr} {t:Bt I.It} (ht:Nd I h p t):Gives P (G_tall I p) [.one (.int .i64)] h fun (x:Int×Unit) _=>x.1=t.ht:=by
 unfold G_tall Gives
 cases t with
 | nil=>obtain rfl:=ht; exact s_ifT (s_ret ⟨rfl,Ext.refl _,(0,()),rfl,rfl⟩)
 | node l x r=>
  obtain ⟨a,pl,pr,rfl,c,_,_⟩:=ht
  exact s_ifF (wp_grd rfl (wp_grd rfl (wp_load1 (b:=.int .i64) (a.add (I.ni+3)) _ rfl c.nums.2 (s_ret ⟨rfl,Ext.refl _,(((Bt.node l x r).ht:Nat),()),rfl,rfl⟩))))
theorem s_getEnd {bs:List B} {n m c j:Nat} {a:Addr} {pre:List Value} {x:Bs.den bs} {K:Bs.den bs→Prog} (ho:Own n 1 h ⟨some a,m,c⟩ (pre++Bs.inj bs x)) (hj:j=pre.length) (hk:wp P (K x) h Q):wp P (.load (.agg bs) (shiftTo (some a) j) K) h Q:=
 ⟨a.add j,rfl,x,cells_mid (post:=[]) (by rw [List.append_nil]; exact ho.cells) hj,hk⟩
theorem c_of (O:I.Ok P) {pl pr:Option Addr} {l r:Bt I.It} {x:I.It} (nl:Nd I h pl l) (nr:Nd I h pr r) (hw:I.wf (Bt.node l x r).list) (hroom:I.W (Bt.node l x r).list≤4398046511104) (hfr:Fresh I h:=by repeat (first | assumption | refine Fresh.ext ?_ (by assumption))) :
  Gives P (G_of I pl x pr) [.one .ptr] h fun (y:Option Addr×Unit) h'=>Nd I h' y.1 (.node l x r):=by
 have hx:=wf_mid hw
 have hl:=node_len l r x
 have hlw:=W_len O (Bt.node l x r).list
 have hnw:=node_W l r x
 have hsum:=sum_node O hw
 have vl:=V.sum O (wf_left hw)
 have vr:=V.sum O (wf_right hw)
 have vm:=O.vm x hx
 have g1:=l.ht_le; have g2:=r.ht_le
 unfold G_of Gives
 refine s_newO x O.i1.2 fun h1 e1 o1=>s_getO o1 ?_
 have ck:∀ {h'} {K:Prog} {Q:Nat→List Value→Heap→Prop},Ext h1 h'→wp P K h' Q→wp P (.check (some ⟨h.size,0,none⟩) (Bs.inj I.iB x) K) h' Q:=fun e hk=>s_ckO (o1.ext e) hk
 refine wp_call (c_count (nl.ext e1)) fun y h2 e2 hy=>ck e2 (wp_call (c_count (nr.ext (e1.trans e2))) fun z h3 e3 hz=>ck (e2.trans e3) (wp_call (c_tall (nl.ext ((e1.trans e2).trans e3))) fun y' h4 e4 hy'=>
  ck ((e2.trans e3).trans e4) (wp_call (c_tall (nr.ext (((e1.trans e2).trans e3).trans e4))) fun z' h5 e5 hz'=>ck (((e2.trans e3).trans e4).trans e5) ?_)))
 obtain ⟨(y:Int),w1⟩:=y
 obtain ⟨(z:Int),w2⟩:=z
 obtain ⟨(y':Int),w3⟩:=y'
 obtain ⟨(z':Int),w4⟩:=z'
 dsimp only at hy hz hy' hz' ⊢
 have e15:=((e2.trans e3).trans e4).trans e5
 have hcnt:addI .i64 (addI .i64 y 1) z=(((Bt.node l x r).list.length:Nat):Int):=by
  rw [add_ok (a:=y) (by omega) (by omega),add_ok (by omega) (by omega)]; omega
 have htl:addI .i64 (maxI y' z') 1=(((Bt.node l x r).ht:Nat):Int):=by
  have:maxI y' z'=max y' z':=by unfold maxI; split <;> omega
  rw [this,add_ok (by omega) (by omega)]; simp only [Bt.ht]; omega
 have hlist:([Value.pointer pl,Value.pointer pr]++(Bs.inj I.iB x++([iv ((Bt.node l x r).list.length:Nat),iv ((Bt.node l x r).ht:Nat)]++Bs.inj I.sB I.zs)))=headV I pl pr (.node l x r) x++Bs.inj I.sB I.zs:=by
  simp only [headV,List.append_assoc]
 rw [hcnt,htl,hlist]
 intro elem
 have hhl:=headV_len pl pr (Bt.node l x r) x
 have i1:=O.i1
 have s1:=O.s1
 have nsl:(Bs.inj I.sB I.zs).length=I.ns:=inj_len _ _
 have o6:Own h5.size 1 (h5.push (.cells (headV I pl pr (.node l x r) x++Bs.inj I.sB I.zs).toArray elem)) ⟨some ⟨h5.size,0,none⟩,I.ni+4+I.ns,I.ni+4+I.ns⟩ (headV I pl pr (.node l x r) x++Bs.inj I.sB I.zs):=
  own_alloc (by rw [List.length_append]; omega) (by decide) (by omega)
 have e6:Ext h5 (h5.push (.cells (headV I pl pr (.node l x r) x++Bs.inj I.sB I.zs).toArray elem)):=Ext.push ..
 generalize (h5.push (.cells (headV I pl pr (.node l x r) x++Bs.inj I.sB I.zs).toArray elem))=h6 at o6 e6 ⊢
 have e05:Ext h h5:=e1.trans e15
 refine s_getO (o1.ext (e15.trans e6)) (wp_call (O.cm _ x hx) fun m h7 e7 hm=>?_)
 obtain ⟨m,w5⟩:=m
 dsimp only at hm
 subst hm
 refine s_putEnd (Bs.inj I.sB (I.meas x)) (o6.ext e7) hhl.symm (by rw [inj_len,inj_len]) (O.fs _) fun h8 o8 u8=>?_
 have e58:Ext h5 h8:=Upd.extN (e6.trans e7) u8 (by intro a ha; cases ha; exact Nat.le_refl _)
 have nl8:=nl.ext (e05.trans e58)
 have nr8:=nr.ext (e05.trans e58)
 refine wp_bind (fun t vs h'=>t=0∧vs=[]∧Ext h5 h'∧Own h5.size 1 h' ⟨some ⟨h5.size,0,none⟩,I.ni+4+I.ns,I.ni+4+I.ns⟩ (headV I pl pr (.node l x r) x++Bs.inj I.sB (I.add (I.sum l.list) (I.meas x)))) ?_ ?_
 ·cases l with
  | nil=>
   obtain rfl:=nl8
   refine s_ifF (s_ret ⟨rfl,rfl,e58,?_⟩)
   rw [show I.sum (Bt.nil:Bt I.It).list=I.zs from rfl,O.za _ _ vm]; exact o8
  | node ll lx lr=>
   obtain ⟨a,ql,qr,rfl,c,_,_⟩:=nl8
   refine s_ifT (q_sum c (s_getEnd o8 hhl.symm (wp_call (O.ca _ _ _ _ _ vl vm (by omega)) fun m h9 e9 hm=>?_)))
   obtain ⟨m,w6⟩:=m
   dsimp only at hm
   subst hm
   refine s_putEnd (Bs.inj I.sB (I.add (I.sum (Bt.node ll lx lr).list) (I.meas x))) (o8.ext e9) hhl.symm (by rw [inj_len,inj_len]) (O.fs _) fun h10 o10 u10=>s_ret ⟨rfl,rfl,Upd.extN (e58.trans e9) u10 (by intro a ha; cases ha; exact Nat.le_refl _),o10⟩
 ·rintro t vs h9 ⟨rfl,rfl,e59,o9⟩
  have nr9:=nr.ext (e05.trans e59)
  refine s_tag (s_cast0 ?_)
  refine wp_bind (fun t vs h'=>t=0∧vs=[]∧Ext h5 h'∧Own h5.size 1 h' ⟨some ⟨h5.size,0,none⟩,I.ni+4+I.ns,I.ni+4+I.ns⟩ (headV I pl pr (.node l x r) x++Bs.inj I.sB (I.sum (Bt.node l x r).list))) ?_ ?_
  ·cases r with
   | nil=>
    obtain rfl:=nr9
    refine s_ifF (s_ret ⟨rfl,rfl,e59,?_⟩)
    rw [hsum,show I.sum (Bt.nil:Bt I.It).list=I.zs from rfl,O.az _ _ (O.va _ _ _ _ vl vm)]; exact o9
   | node ll lx lr=>
    obtain ⟨a,ql,qr,rfl,c,_,_⟩:=nr9
    refine s_ifT (s_getEnd o9 hhl.symm (q_sum c (wp_call (O.ca _ _ _ _ _ (O.va _ _ _ _ vl vm) vr (by omega)) fun m h10 e10 hm=>?_)))
    obtain ⟨m,w6⟩:=m
    dsimp only at hm
    rw [← hsum] at hm
    subst hm
    refine s_putEnd (Bs.inj I.sB (I.sum (Bt.node l x (.node ll lx lr)).list)) (o9.ext e10) hhl.symm (by rw [inj_len,inj_len]) (O.fs _) fun h11 o11 u11=>s_ret ⟨rfl,rfl,Upd.extN (e59.trans e10) u11 (by intro a ha; cases ha; exact Nat.le_refl _),o11⟩
  ·rintro t vs h10 ⟨rfl,rfl,e60,o10⟩
   exact s_tag (s_cast0 (s_ret ⟨rfl,e05.trans e60,(some ⟨h5.size,0,none⟩,()),rfl,⟨h5.size,0,none⟩,pl,pr,rfl,⟨o10.cells,hfr _ e05.size,rfl,rfl⟩,nl.ext (e05.trans e60),nr.ext (e05.trans e60)⟩))
theorem Nd.upd {n m c:Nat} {ws:List Value} {b:Addr} {h h':Heap} (u:Upd ⟨some b,m,c⟩ h h') (ho:Own n 1 h ⟨some b,m,c⟩ ws) (hc:c<I.ni+4+I.ns):∀ {t:Bt I.It} {p:Option Addr},Nd I h p t→Nd I h' p t
 | .nil,_,n=>n
 | .node l x r,p,⟨a,pl,pr,e1,hcc,n1,n2⟩=>⟨a,pl,pr,e1,⟨cells_upd u hcc.1 (small_ne ho hcc.1 (by rw [List.length_append,headV_len,inj_len]; exact hc)),hcc.2⟩,Nd.upd u ho hc n1,Nd.upd u ho hc n2⟩
theorem Nd.updK {s:Sl} {h h':Heap} (u:Upd s h h') (hk:∀ b,s.base=some b→∃ k x,Sw.cell h ⟨b.block,0,none⟩=some (.int k x)):∀ {t:Bt I.It} {p:Option Addr},Nd I h p t→Nd I h' p t
 | .nil,_,n=>n
 | .node l x r,p,⟨a,pl,pr,e1,c,n1,n2⟩=>⟨a,pl,pr,e1,⟨cells_iff.2 fun j v hj=>by
   have q:=cells_iff.1 c.1 j v hj
   have hlt:=cell_lt q
   rw [add_block] at hlt
   have hne:∀ b,s.base=some b→b.block≠a.block:=fun b hb e=>by
    obtain ⟨k,z,hz⟩:=hk b hb
    have h0:=c.left
    have ha:a=⟨b.block,0,none⟩:=by
     obtain ⟨ab,ao,sp⟩:=a
     have h1:=c.2.2.1; have h2:=c.2.2.2
     dsimp only at h1 h2 e
     subst h1; subst h2; rw [e]
    rw [add_zero',ha,hz] at h0
    cases h0
   rw [cell_of_block (h:=h) (by rw [add_block]; exact u.2.1 _ hlt hne)]; exact q,c.2⟩,Nd.updK u hk n1,Nd.updK u hk n2⟩
end Go.Sw.Any

set_option linter.unusedVariables false
set_option linter.unusedSimpArgs false
set_option maxRecDepth 100000
namespace Go.Sw.Any
open Go.Sw.Tree (iv s_putAll s_newP s_getP s_getT s_putP small_ne cells_upd wp_whileG least TR minI_eq eqI_self Placed)
variable {P:Program} {I:Inst} {h:Heap} {Q:Nat→List Value→Heap→Prop}
def Bt.Avl {α:Type}:Bt α→Prop
 | .nil=>True
 | .node l _ r=>l.Avl∧r.Avl∧l.ht≤r.ht+1∧r.ht≤l.ht+1
def Bt.Full {α:Type} (t:Bt α):Prop:=t.list.length<2 ^ t.ht∧(2 ^ t.ht≤2*t.list.length∨t.ht=0)∧t.Avl
theorem full_nil:(Bt.nil:Bt I.It).Full:=⟨by simp [Bt.list,Bt.ht], .inr rfl,trivial⟩
theorem full_node {l r:Bt I.It} {x:I.It} (hl:l.Full) (hr:r.Full) (h1:r.list.length≤l.list.length) (h2:l.list.length≤r.list.length+1):(Bt.node l x r).Full:=by
 obtain ⟨a1,a2,a3⟩:=hl
 obtain ⟨b1,b2,b3⟩:=hr
 have hn:=node_len l r x
 have c1:r.ht≤l.ht:=by
  rcases b2 with b2 | b2
  ·have:2 ^ r.ht<2 ^ (l.ht+1):=by rw [Nat.pow_succ]; omega
   have:=(Nat.pow_lt_pow_iff_right (by decide:1<2)).1 this
   omega
  ·omega
 have c2:l.ht≤r.ht+1:=by
  rcases a2 with a2 | a2
  ·have:2 ^ l.ht≤2 ^ (r.ht+1):=by rw [Nat.pow_succ]; omega
   exact (Nat.pow_le_pow_iff_right (by decide:1<2)).1 this
  ·omega
 have hh:(Bt.node l x r).ht=l.ht+1:=by simp only [Bt.ht]; omega
 refine ⟨?_, .inl ?_,a3,b3,c2,by omega⟩
 ·rw [hh,hn,Nat.pow_succ]; omega
 ·rw [hh,hn,Nat.pow_succ]
  rcases a2 with a2 | a2
  ·omega
  ·rw [a2]; omega
def Even (l:Bt I.It) (x:I.It) (r t:Bt I.It):Prop:=t.list=l.list++x::r.list ∧
 (l.Avl→r.Avl→l.ht≤r.ht+2→r.ht≤l.ht+2→t.Avl∧max l.ht r.ht≤t.ht∧t.ht≤max l.ht r.ht+1∧(l.ht≤r.ht+1→r.ht≤l.ht+1→t.ht=max l.ht r.ht+1))
def Join (l:Bt I.It) (x:I.It) (r t:Bt I.It):Prop:=t.list=l.list++x::r.list∧(l.Avl→r.Avl→t.Avl∧max l.ht r.ht≤t.ht∧t.ht≤max l.ht r.ht+1)
theorem even_1 {ll lr r:Bt I.It} {lx x:I.It} (h1:r.ht+1<(Bt.node ll lx lr).ht) (h2:lr.ht≤ll.ht):Even (.node ll lx lr) x r (.node ll lx (.node lr x r)):=by
 refine ⟨by simp [Bt.list],fun ⟨a1,a2,a3,a4⟩ a5 a6 a7=>?_⟩
 simp only [Bt.ht,Bt.Avl] at *
 refine ⟨⟨a1,⟨a2,a5,?_,?_⟩,?_,?_⟩,?_,?_,?_⟩ <;> omega
theorem even_2 {ll m1 m2 r:Bt I.It} {lx x mx:I.It} (h1:r.ht+1<(Bt.node ll lx (.node m1 mx m2)).ht) (h2:ll.ht<(Bt.node m1 mx m2).ht):Even (.node ll lx (.node m1 mx m2)) x r (.node (.node ll lx m1) mx (.node m2 x r)):=by
 refine ⟨by simp [Bt.list],fun ⟨a1,⟨b1,b2,b3,b4⟩,a3,a4⟩ a5 a6 a7=>?_⟩
 simp only [Bt.ht,Bt.Avl] at *
 refine ⟨⟨⟨a1,b1,?_,?_⟩,⟨b2,a5,?_,?_⟩,?_,?_⟩,?_,?_,?_⟩ <;> omega
theorem even_3 {l rl rr:Bt I.It} {rx x:I.It} (h1:l.ht+1<(Bt.node rl rx rr).ht) (h2:rl.ht≤rr.ht):Even l x (.node rl rx rr) (.node (.node l x rl) rx rr):=by
 refine ⟨by simp [Bt.list],fun a5 ⟨a1,a2,a3,a4⟩ a6 a7=>?_⟩
 simp only [Bt.ht,Bt.Avl] at *
 refine ⟨⟨⟨a5,a1,?_,?_⟩,a2,?_,?_⟩,?_,?_,?_⟩ <;> omega
theorem even_4 {l m1 m2 rr:Bt I.It} {rx x mx:I.It} (h1:l.ht+1<(Bt.node (.node m1 mx m2) rx rr).ht) (h2:rr.ht<(Bt.node m1 mx m2).ht):Even l x (.node (.node m1 mx m2) rx rr) (.node (.node l x m1) mx (.node m2 rx rr)):=by
 refine ⟨by simp [Bt.list],fun a5 ⟨⟨b1,b2,b3,b4⟩,a2,a3,a4⟩ a6 a7=>?_⟩
 simp only [Bt.ht,Bt.Avl] at *
 refine ⟨⟨⟨a5,b1,?_,?_⟩,⟨b2,a2,?_,?_⟩,?_,?_⟩,?_,?_,?_⟩ <;> omega
theorem even_5 {l r:Bt I.It} {x:I.It} (h1:l.ht≤r.ht+1) (h2:r.ht≤l.ht+1):Even l x r (.node l x r):=by
 refine ⟨by simp [Bt.list],fun a b _ _=>?_⟩
 simp only [Bt.ht,Bt.Avl] at *
 refine ⟨⟨a,b,?_,?_⟩,?_,?_,?_⟩ <;> first | omega | (intros; first | trivial | omega)
theorem join_1 {ll lr r t1 t:Bt I.It} {lx x:I.It} (h1:r.ht+1<(Bt.node ll lx lr).ht) (j:Join lr x r t1) (e:Even ll lx t1 t):Join (.node ll lx lr) x r t:=by
 refine ⟨by rw [e.1,j.1]; simp [Bt.list],fun ⟨a1,a2,a3,a4⟩ a5=>?_⟩
 obtain ⟨j1,j2,j3⟩:=j.2 a2 a5
 simp only [Bt.ht] at *
 obtain ⟨e1,e2,e3,e4⟩:=e.2 a1 j1 (by omega) (by omega)
 refine ⟨e1,?_,?_⟩ <;> (by_cases hx:ll.ht≤t1.ht+1 <;> by_cases hy:t1.ht≤ll.ht+1 <;> first | (have:=e4 hx hy; omega) | omega)
theorem join_2 {l rl rr t1 t:Bt I.It} {rx x:I.It} (h1:l.ht+1<(Bt.node rl rx rr).ht) (j:Join l x rl t1) (e:Even t1 rx rr t):Join l x (.node rl rx rr) t:=by
 refine ⟨by rw [e.1,j.1]; simp [Bt.list],fun a5 ⟨a1,a2,a3,a4⟩=>?_⟩
 obtain ⟨j1,j2,j3⟩:=j.2 a5 a1
 simp only [Bt.ht] at *
 obtain ⟨e1,e2,e3,e4⟩:=e.2 j1 a2 (by omega) (by omega)
 refine ⟨e1,?_,?_⟩ <;> (by_cases hx:t1.ht≤rr.ht+1 <;> by_cases hy:rr.ht≤t1.ht+1 <;> first | (have:=e4 hx hy; omega) | omega)
theorem join_3 {l r:Bt I.It} {x:I.It} (h1:l.ht≤r.ht+1) (h2:r.ht≤l.ht+1):Join l x r (.node l x r):=by
 refine ⟨by simp [Bt.list],fun a b=>?_⟩
 simp only [Bt.ht,Bt.Avl] at *
 refine ⟨⟨a,b,?_,?_⟩,?_,?_⟩ <;> omega
theorem wf_sub {L M:List I.It} (w:I.wf L) (hm:∀ y,y∈M→y∈L):I.wf M:=fun y hy=>w y (hm y hy)
theorem c_even (O:I.Ok P) {pl pr:Option Addr} {l r:Bt I.It} {x:I.It} (nl:Nd I h pl l) (nr:Nd I h pr r) (hw:I.wf (Bt.node l x r).list) (hroom:I.W (Bt.node l x r).list≤4398046511104) (hfr:Fresh I h:=by repeat (first | assumption | refine Fresh.ext ?_ (by assumption))) :
  Gives P (G_even I pl x pr) [.one .ptr] h fun (y:Option Addr×Unit) h'=>∃ t,Nd I h' y.1 t∧Even l x r t:=by
 have hx:=wf_mid hw
 have hl:=node_len l r x; have hlw:=node_W (I:=I) l r x; have hll:=W_len O (Bt.node l x r).list
 have g1:=l.ht_le; have g2:=r.ht_le
 unfold G_even Gives
 refine s_newO x O.i1.2 fun h1 e1 o1=>?_
 have ld:∀ {h'} {K:I.It→Prog} {Q:Nat→List Value→Heap→Prop},Ext h1 h'→wp P (K x) h' Q→wp P (.load (.agg I.iB) (some ⟨h.size,0,none⟩) K) h' Q:=fun e hk=>s_getO (o1.ext e) hk
 have ck:∀ {h'} {K:Prog} {Q:Nat→List Value→Heap→Prop},Ext h1 h'→wp P K h' Q→wp P (.check (some ⟨h.size,0,none⟩) (Bs.inj I.iB x) K) h' Q:=fun e hk=>s_ckO (o1.ext e) hk
 have nl1:=nl.ext e1
 have nr1:=nr.ext e1
 refine wp_call (c_tall nl1) fun y h2 e2 hy=>wp_call (c_tall (nr1.ext e2)) fun z h3 e3 hz=>?_
 obtain ⟨(y:Int),w1⟩:=y
 obtain ⟨(z:Int),w2⟩:=z
 dsimp only at hy hz ⊢
 subst hy; subst hz
 have e13:=e2.trans e3
 have nl3:=nl1.ext e13
 have nr3:=nr1.ext e13
 rw [add_ok (by omega) (by omega)]
 refine wp_ifB (fun hc=>?_) fun hc=>?_
 ·rw [gtI_iff] at hc
  cases l with
  | nil=>simp only [Bt.ht] at hc; omega
  | node ll lx lr=>
   have hll:=node_len ll lr lx; have hllw:=node_W (I:=I) ll lr lx; have hlll:=W_len O (Bt.node ll lx lr).list
   obtain ⟨a,ql,qr,rfl,c,n1,n2⟩:=nl3
   have c:NdC I h3 a ql qr ll lx lr:=c
   refine q_left c (q_right c (wp_call (c_tall n1) fun y h4 e4 hy=>q_ckR (c.ext e4) (wp_call (c_tall (n2.ext e4)) fun z h5 e5 hz=>?_)))
   obtain ⟨(y:Int),w1⟩:=y
   obtain ⟨(z:Int),w2⟩:=z
   dsimp only at hy hz ⊢
   subst hy; subst hz
   have e35:=e4.trans e5
   have c5:=c.ext e35
   have n15:=n1.ext e35
   have n25:=n2.ext e35
   have nr5:=nr3.ext e35
   have e15:=e13.trans e35
   refine wp_ifB (fun hg=>?_) fun hg=>?_
   ·rw [geI_iff] at hg
    refine q_left c5 (q_item c5 (q_right c5 (ld e15 (wp_call (c_of O (x:=x) n25 nr5 (wf_sub hw (by intro y hy; simp only [Bt.list,List.mem_append,List.mem_cons] at hy ⊢; grind)) (by rw [node_W]; omega)) fun p h6 e6 hp=>?_))))
    obtain ⟨(p:Option Addr),w3⟩:=p
    dsimp only at hp ⊢
    have hev:=even_1 (x:=x) (r:=r) (lx:=lx) (by omega) (show lr.ht≤ll.ht by omega)
    refine q_ckI (c5.ext e6) (q_ckL (c5.ext e6) (wp_call (c_of O (x:=lx) (n15.ext e6) hp (by rw [hev.1]; exact hw) (by rw [hev.1]; exact hroom)) fun p h7 e7 hp=>?_))
    obtain ⟨(p:Option Addr),w4⟩:=p
    exact s_ret ⟨rfl,e1.trans ((e15.trans e6).trans e7),(p,()),rfl,_,hp,hev⟩
   ·rw [geI_not] at hg
    cases lr with
    | nil=>simp only [Bt.ht] at hg; omega
    | node m1 mx m2=>
     have hmm:=node_len m1 m2 mx; have hmmw:=node_W (I:=I) m1 m2 mx; have hmml:=W_len O (Bt.node m1 mx m2).list
     obtain ⟨a',ml,mr,rfl,c',k1,k2⟩:=n25
     have c':NdC I h5 a' ml mr m1 mx m2:=c'
     have hev:=even_2 (x:=x) (r:=r) (lx:=lx) (ll:=ll) (m1:=m1) (mx:=mx) (m2:=m2) (by omega) (by omega)
     refine q_right c5 (q_left c5 (q_item c5 (q_left c' (q_item c' (q_right c' (ld e15 (wp_call (c_of O (x:=lx) n15 k1 (wf_sub hw (by intro y hy; simp only [Bt.list,List.mem_append,List.mem_cons] at hy ⊢; grind)) (by rw [node_W]; omega)) fun p h6 e6 hp=>?_)))))))
     obtain ⟨(p:Option Addr),w3⟩:=p
     dsimp only at hp ⊢
     refine ck (e15.trans e6) (q_ckR (c'.ext e6) (q_ckI (c'.ext e6) (wp_call (c_of O (x:=x) (k2.ext e6) (nr5.ext e6) (wf_sub hw (by intro y hy; simp only [Bt.list,List.mem_append,List.mem_cons] at hy ⊢; grind)) (by rw [node_W]; omega)) fun p' h7 e7 hp'=>?_)))
     obtain ⟨(p':Option Addr),w4⟩:=p'
     dsimp only at hp' ⊢
     refine q_ckI (c'.ext (e6.trans e7)) (wp_call (c_of O (x:=mx) (hp.ext e7) hp' (by rw [hev.1]; exact hw) (by rw [hev.1]; exact hroom)) fun p'' h8 e8 hp''=>?_)
     obtain ⟨(p'':Option Addr),w5⟩:=p''
     exact s_ret ⟨rfl,e1.trans (((e15.trans e6).trans e7).trans e8),(p'',()),rfl,_,hp'',hev⟩
 ·rw [gtI_not] at hc
  refine wp_call (c_tall nr3) fun y h4 e4 hy=>wp_call (c_tall (nl3.ext e4)) fun z h5 e5 hz=>?_
  obtain ⟨(y:Int),w1⟩:=y
  obtain ⟨(z:Int),w2⟩:=z
  dsimp only at hy hz ⊢
  subst hy; subst hz
  have e35:=e4.trans e5
  have nl5:=nl3.ext e35
  have nr5:=nr3.ext e35
  have e15:=e13.trans e35
  rw [add_ok (by omega) (by omega)]
  refine wp_ifB (fun hd=>?_) fun hd=>?_
  ·rw [gtI_iff] at hd
   cases r with
   | nil=>simp only [Bt.ht] at hd; omega
   | node rl rx rr=>
    have hrr:=node_len rl rr rx; have hrrw:=node_W (I:=I) rl rr rx; have hrrl:=W_len O (Bt.node rl rx rr).list
    obtain ⟨a,ql,qr,rfl,c,n1,n2⟩:=nr5
    have c:NdC I h5 a ql qr rl rx rr:=c
    refine q_right c (q_left c (wp_call (c_tall n2) fun y h6 e6 hy=>q_ckL (c.ext e6) (wp_call (c_tall (n1.ext e6)) fun z h7 e7 hz=>?_)))
    obtain ⟨(y:Int),w1⟩:=y
    obtain ⟨(z:Int),w2⟩:=z
    dsimp only at hy hz ⊢
    subst hy; subst hz
    have e57:=e6.trans e7
    have c7:=c.ext e57
    have n17:=n1.ext e57
    have n27:=n2.ext e57
    have nl7:=nl5.ext e57
    have e17:=e15.trans e57
    refine wp_ifB (fun hg=>?_) fun hg=>?_
    ·rw [geI_iff] at hg
     refine ld e17 (q_left c7 (q_item c7 (q_right c7 (wp_call (c_of O (x:=x) nl7 n17 (wf_sub hw (by intro y hy; simp only [Bt.list,List.mem_append,List.mem_cons] at hy ⊢; grind)) (by rw [node_W]; omega)) fun p h8 e8 hp=>?_))))
     obtain ⟨(p:Option Addr),w3⟩:=p
     dsimp only at hp ⊢
     have hev:=even_3 (x:=x) (l:=l) (rx:=rx) (rl:=rl) (rr:=rr) (by omega) (by omega)
     refine q_ckR (c7.ext e8) (q_ckI (c7.ext e8) (wp_call (c_of O (x:=rx) hp (n27.ext e8) (by rw [hev.1]; exact hw) (by rw [hev.1]; exact hroom)) fun p h9 e9 hp=>?_))
     obtain ⟨(p:Option Addr),w4⟩:=p
     exact s_ret ⟨rfl,e1.trans ((e17.trans e8).trans e9),(p,()),rfl,_,hp,hev⟩
    ·rw [geI_not] at hg
     cases rl with
     | nil=>simp only [Bt.ht] at hg; omega
     | node m1 mx m2=>
      have hmm:=node_len m1 m2 mx; have hmmw:=node_W (I:=I) m1 m2 mx; have hmml:=W_len O (Bt.node m1 mx m2).list
      obtain ⟨a',ml,mr,rfl,c',k1,k2⟩:=n17
      have c':NdC I h7 a' ml mr m1 mx m2:=c'
      have hev:=even_4 (x:=x) (l:=l) (rx:=rx) (m1:=m1) (mx:=mx) (m2:=m2) (rr:=rr) (by omega) (by omega)
      refine q_left c7 (ld e17 (q_left c' (q_item c' (q_right c' (q_item c7 (q_right c7 (wp_call (c_of O (x:=x) nl7 k1 (wf_sub hw (by intro y hy; simp only [Bt.list,List.mem_append,List.mem_cons] at hy ⊢; grind)) (by rw [node_W]; omega)) fun p h8 e8 hp=>?_)))))))
      obtain ⟨(p:Option Addr),w3⟩:=p
      dsimp only at hp ⊢
      refine q_ckR (c7.ext e8) (q_ckI (c7.ext e8) (q_ckR (c'.ext e8) (q_ckI (c'.ext e8) (wp_call (c_of O (x:=rx) (k2.ext e8) (n27.ext e8) (wf_sub hw (by intro y hy; simp only [Bt.list,List.mem_append,List.mem_cons] at hy ⊢; grind)) (by rw [node_W]; omega)) fun p' h9 e9 hp'=>?_))))
      obtain ⟨(p':Option Addr),w4⟩:=p'
      dsimp only at hp' ⊢
      refine q_ckI (c'.ext (e8.trans e9)) (wp_call (c_of O (x:=mx) (hp.ext e9) hp' (by rw [hev.1]; exact hw) (by rw [hev.1]; exact hroom)) fun p'' h10 e10 hp''=>?_)
      obtain ⟨(p'':Option Addr),w5⟩:=p''
      exact s_ret ⟨rfl,e1.trans (((e17.trans e8).trans e9).trans e10),(p'',()),rfl,_,hp'',hev⟩
  ·rw [gtI_not] at hd
   refine ld e15 (wp_call (c_of O (x:=x) nl5 nr5 hw hroom) fun p h6 e6 hp=>?_)
   obtain ⟨(p:Option Addr),w3⟩:=p
   exact s_ret ⟨rfl,e1.trans (e15.trans e6),(p,()),rfl,_,hp,even_5 (by omega) (by omega)⟩
theorem c_joinR (O:I.Ok P):∀ (fuel:Nat) {h:Heap} {pl pr:Option Addr} {l r:Bt I.It} {x:I.It},l.list.length+r.list.length<fuel→Nd I h pl l→Nd I h pr r→I.wf (Bt.node l x r).list→I.W (Bt.node l x r).list≤4398046511104→(hfr:Fresh I h:=by repeat (first | assumption | refine Fresh.ext ?_ (by assumption))) →
  Gives P (Gr_join fuel I pl x pr) [.one .ptr] h fun (y:Option Addr×Unit) h'=>∃ t,Nd I h' y.1 t∧Join l x r t:=by
 intro fuel
 induction fuel with
 | zero=>intro h pl pr l r x hf; omega
 | succ fuel ih=>
  intro h pl pr l r x hf nl nr hw hroom hfr
  have hx:=wf_mid hw
  have hl:=node_len l r x; have hlw:=node_W (I:=I) l r x; have hll:=W_len O (Bt.node l x r).list
  have g1:=l.ht_le; have g2:=r.ht_le
  unfold Gr_join Gives
  refine s_newO x O.i1.2 fun h1 e1 o1=>?_
  have ld:∀ {h'} {K:I.It→Prog} {Q:Nat→List Value→Heap→Prop},Ext h1 h'→wp P (K x) h' Q→wp P (.load (.agg I.iB) (some ⟨h.size,0,none⟩) K) h' Q:=fun e hk=>s_getO (o1.ext e) hk
  have nl1:=nl.ext e1
  have nr1:=nr.ext e1
  refine wp_call (c_tall nl1) fun y h2 e2 hy=>wp_call (c_tall (nr1.ext e2)) fun z h3 e3 hz=>?_
  obtain ⟨(y:Int),w1⟩:=y
  obtain ⟨(z:Int),w2⟩:=z
  dsimp only at hy hz ⊢
  subst hy; subst hz
  have e13:=e2.trans e3
  have nl3:=nl1.ext e13
  have nr3:=nr1.ext e13
  rw [add_ok (by omega) (by omega)]
  refine wp_ifB (fun hc=>?_) fun hc=>?_
  ·rw [gtI_iff] at hc
   cases l with
   | nil=>simp only [Bt.ht] at hc; omega
   | node ll lx lr=>
    have hll:=node_len ll lr lx; have hllw:=node_W (I:=I) ll lr lx; have hlll:=W_len O (Bt.node ll lx lr).list
    obtain ⟨a,ql,qr,rfl,c,n1,n2⟩:=nl3
    have c:NdC I h3 a ql qr ll lx lr:=c
    refine q_left c (q_item c (q_right c (ld e13 (wp_call (ih (x:=x) (by omega) n2 nr3 (wf_sub hw (by intro y hy; simp only [Bt.list,List.mem_append,List.mem_cons] at hy ⊢; grind)) (by rw [node_W]; omega)) fun p h4 e4 hp=>?_))))
    obtain ⟨(p:Option Addr),w3⟩:=p
    obtain ⟨t1,np,hj⟩:=hp
    dsimp only at np hj ⊢
    have hlist:(Bt.node ll lx t1).list=(Bt.node (.node ll lx lr) x r).list:=by simp only [Bt.list]; rw [hj.1]; simp
    refine q_ckI (c.ext e4) (q_ckL (c.ext e4) (wp_call (c_even O (x:=lx) (n1.ext e4) np (by rw [hlist]; exact hw) (by rw [hlist]; exact hroom)) fun p h5 e5 hp=>?_))
    obtain ⟨(p:Option Addr),w4⟩:=p
    obtain ⟨t2,np,he⟩:=hp
    exact s_ret ⟨rfl,e1.trans ((e13.trans e4).trans e5),(p,()),rfl,t2,np,join_1 (by omega) hj he⟩
  ·rw [gtI_not] at hc
   refine wp_call (c_tall nr3) fun y h4 e4 hy=>wp_call (c_tall (nl3.ext e4)) fun z h5 e5 hz=>?_
   obtain ⟨(y:Int),w1⟩:=y
   obtain ⟨(z:Int),w2⟩:=z
   dsimp only at hy hz ⊢
   subst hy; subst hz
   have e35:=e4.trans e5
   have nl5:=nl3.ext e35
   have nr5:=nr3.ext e35
   have e15:=e13.trans e35
   rw [add_ok (by omega) (by omega)]
   refine wp_ifB (fun hd=>?_) fun hd=>?_
   ·rw [gtI_iff] at hd
    cases r with
    | nil=>simp only [Bt.ht] at hd; omega
    | node rl rx rr=>
     have hrr:=node_len rl rr rx; have hrrw:=node_W (I:=I) rl rr rx; have hrrl:=W_len O (Bt.node rl rx rr).list
     obtain ⟨a,ql,qr,rfl,c,n1,n2⟩:=nr5
     have c:NdC I h5 a ql qr rl rx rr:=c
     refine ld e15 (q_left c (q_item c (q_right c (wp_call (ih (x:=x) (by omega) nl5 n1 (wf_sub hw (by intro y hy; simp only [Bt.list,List.mem_append,List.mem_cons] at hy ⊢; grind)) (by rw [node_W]; omega)) fun p h6 e6 hp=>?_))))
     obtain ⟨(p:Option Addr),w3⟩:=p
     obtain ⟨t1,np,hj⟩:=hp
     dsimp only at np hj ⊢
     have hlist:(Bt.node t1 rx rr).list=(Bt.node l x (.node rl rx rr)).list:=by simp only [Bt.list]; rw [hj.1]; simp
     refine q_ckR (c.ext e6) (q_ckI (c.ext e6) (wp_call (c_even O (x:=rx) np (n2.ext e6) (by rw [hlist]; exact hw) (by rw [hlist]; exact hroom)) fun p h7 e7 hp=>?_))
     obtain ⟨(p:Option Addr),w4⟩:=p
     obtain ⟨t2,np,he⟩:=hp
     exact s_ret ⟨rfl,e1.trans ((e15.trans e6).trans e7),(p,()),rfl,t2,np,join_2 (by omega) hj he⟩
   ·rw [gtI_not] at hd
    refine ld e15 (wp_call (c_of O (x:=x) nl5 nr5 hw hroom) fun p h6 e6 hp=>?_)
    obtain ⟨(p:Option Addr),w3⟩:=p
    exact s_ret ⟨rfl,e1.trans (e15.trans e6),(p,()),rfl,_,hp,join_3 (by omega) (by omega)⟩
theorem c_join (O:I.Ok P) {pl pr:Option Addr} {l r:Bt I.It} {x:I.It} (nl:Nd I h pl l) (nr:Nd I h pr r) (hw:I.wf (Bt.node l x r).list) (hroom:I.W (Bt.node l x r).list≤4398046511104) (hfr:Fresh I h:=by repeat (first | assumption | refine Fresh.ext ?_ (by assumption))) :
  Gives P (G_join I pl x pr) [.one .ptr] h fun (y:Option Addr×Unit) h'=>∃ t,Nd I h' y.1 t∧Join l x r t:=
 ⟨l.list.length+r.list.length+1,c_joinR O _ (Nat.lt_succ_self _) nl nr hw hroom⟩
theorem c_cutR (O:I.Ok P):∀ (fuel:Nat) {h:Heap} {p:Option Addr} {t:Bt I.It} {i:Int},t.list.length<fuel→Nd I h p t→I.wf t.list→I.W t.list≤4398046511104 → -4398046511104≤i→i≤9223372036854775807→(hfr:Fresh I h:=by repeat (first | assumption | refine Fresh.ext ?_ (by assumption))) →
  Gives P (Gr_cut fuel I p i) [.one .ptr, .one .ptr] h fun (y:Option Addr×Option Addr×Unit) h'=>∃ a b,Nd I h' y.1 a∧Nd I h' y.2.1 b∧a.list=t.list.take i.toNat∧b.list=t.list.drop i.toNat∧(t.Avl→a.Avl∧b.Avl):=by
 intro fuel
 induction fuel with
 | zero=>intro h p t i hf; omega
 | succ fuel ih=>
  intro h p t i hf nt hw hroom hi0 hi1 hfr
  unfold Gr_cut Gives
  cases t with
  | nil=>
   obtain rfl:=nt
   exact s_ifT (s_ret ⟨rfl,Ext.refl _,(none,none,()),rfl, .nil, .nil,rfl,rfl,by simp [Bt.list],by simp [Bt.list],fun _=>⟨trivial,trivial⟩⟩)
  | node l x r=>
   have hl:=node_len l r x; have hlw:=node_W (I:=I) l r x; have hll:=W_len O (Bt.node l x r).list
   obtain ⟨a,ql,qr,rfl,c,n1,n2⟩:=nt
   have c:NdC I h a ql qr l x r:=c
   refine s_ifF (q_left c (wp_call (c_count n1) fun y h1 e1 hy=>?_))
   obtain ⟨(y:Int),w1⟩:=y
   dsimp only at hy ⊢
   subst hy
   have c1:=c.ext e1
   refine wp_ifB (fun hc=>?_) fun hc=>?_
   ·rw [leI_iff] at hc
    refine q_left c1 (wp_call (ih (by omega) (n1.ext e1) (wf_left hw) (by omega) hi0 hi1) fun y h2 e2 hy=>?_)
    obtain ⟨(pa:Option Addr),(pb:Option Addr),w2⟩:=y
    obtain ⟨ta,tb,na,nb,la,lb,hav⟩:=hy
    dsimp only at na nb ⊢
    have hlist:(Bt.node tb x r).list=(Bt.node l x r).list.drop i.toNat:=by
     simp only [Bt.list]; rw [lb,List.drop_append_of_le_length (by omega)]
    refine q_item (c1.ext e2) (q_right (c1.ext e2) (wp_call (c_join O (x:=x) nb (n2.ext (e1.trans e2)) (by rw [hlist]; exact wf_drop hw _) (by rw [hlist]; exact Nat.le_trans (W_drop _ _) hroom)) fun y h3 e3 hy=>?_))
    obtain ⟨(pc:Option Addr),w3⟩:=y
    obtain ⟨t2,nc,hj⟩:=hy
    refine s_ret ⟨rfl,(e1.trans e2).trans e3,(pa,pc,()),rfl,ta,t2,na.ext e3,nc,?_,?_,fun hv=>⟨(hav hv.1).1,(hj.2 (hav hv.1).2 hv.2.1).1⟩⟩
    ·rw [la]; simp only [Bt.list]; rw [List.take_append_of_le_length (by omega)]
    ·rw [hj.1, ← hlist]; rfl
   ·rw [leI_not] at hc
    rw [sub_ok (a:=i) (by omega) (by omega),sub_ok (by omega) (by omega)]
    refine q_right c1 (wp_call (ih (i:=i-l.list.length-1) (by omega) (n2.ext e1) (wf_right hw) (by omega) (by omega) (by omega)) fun y h2 e2 hy=>?_)
    obtain ⟨(pa:Option Addr),(pb:Option Addr),w2⟩:=y
    obtain ⟨ta,tb,na,nb,la,lb,hav⟩:=hy
    dsimp only at na nb ⊢
    obtain ⟨d,hd⟩:∃ d:Nat,i=l.list.length+1+d:=⟨(i-l.list.length-1).toNat,by omega⟩
    have h1':i.toNat=(l.list++[x]).length+d:=by simp; omega
    have h2':(i-l.list.length-1).toNat=d:=by omega
    rw [h2'] at la lb
    have hbt:(Bt.node l x r).list=(l.list++[x])++r.list:=by simp [Bt.list]
    have hlist:(Bt.node l x ta).list=(Bt.node l x r).list.take i.toNat:=by
     rw [hbt,h1',List.take_append,List.take_of_length_le (by omega),Nat.add_sub_cancel_left, ← la]; simp [Bt.list]
    refine q_left (c1.ext e2) (q_item (c1.ext e2) (wp_call (c_join O (x:=x) (n1.ext (e1.trans e2)) na (by rw [hlist]; exact wf_take hw _) (by rw [hlist]; exact Nat.le_trans (W_take _ _) hroom)) fun y h3 e3 hy=>?_))
    obtain ⟨(pc:Option Addr),w3⟩:=y
    obtain ⟨t2,nc,hj⟩:=hy
    refine s_ret ⟨rfl,(e1.trans e2).trans e3,(pc,pb,()),rfl,t2,tb,nc,nb.ext e3,?_,?_,fun hv=>⟨(hj.2 hv.1 (hav hv.2.1).1).1,(hav hv.2.1).2⟩⟩
    ·rw [hj.1, ← hlist]; rfl
    ·rw [lb,hbt,h1',List.drop_append,List.drop_of_length_le (show (l.list++[x]).length≤(l.list++[x]).length+d from Nat.le_add_right ..),Nat.add_sub_cancel_left,List.nil_append]
theorem c_cut (O:I.Ok P) {p:Option Addr} {t:Bt I.It} {i:Int} (nt:Nd I h p t) (hw:I.wf t.list) (hroom:I.W t.list≤4398046511104) (hi:0≤i) (hi1:i≤t.list.length) (hfr:Fresh I h:=by repeat (first | assumption | refine Fresh.ext ?_ (by assumption))) :
  Gives P (G_cut I p i) [.one .ptr, .one .ptr] h fun (y:Option Addr×Option Addr×Unit) h'=>∃ a b,Nd I h' y.1 a∧Nd I h' y.2.1 b∧a.list=t.list.take i.toNat∧b.list=t.list.drop i.toNat∧(t.Avl→a.Avl∧b.Avl):=
 ⟨t.list.length+1,c_cutR O _ (Nat.lt_succ_self _) nt hw hroom (by omega) (by have:=W_len O t.list; omega)⟩
def First (t:Bt I.It) (x:I.It) (t':Bt I.It):Prop:=t.list=x::t'.list∧(t.Avl→t'.Avl∧t'.ht≤t.ht∧t.ht≤t'.ht+1)
theorem c_firstR (O:I.Ok P):∀ (fuel:Nat) {h:Heap} {p:Option Addr} {t:Bt I.It},t.list.length<fuel→Nd I h p t→t ≠ .nil→I.wf t.list→I.W t.list≤4398046511104→(hfr:Fresh I h:=by repeat (first | assumption | refine Fresh.ext ?_ (by assumption))) →
  Gives P (Gr_first fuel I p) [(.agg I.iB), .one .ptr] h fun (y:I.It×Option Addr×Unit) h'=>∃ t',Nd I h' y.2.1 t'∧First t y.1 t':=by
 intro fuel
 induction fuel with
 | zero=>intro h p t hf; omega
 | succ fuel ih=>
  intro h p t hf nt hne hw hroom hfr
  cases t with
  | nil=>exact absurd rfl hne
  | node l x r=>
   have hl:=node_len l r x; have hlw:=node_W (I:=I) l r x; have hll:=W_len O (Bt.node l x r).list
   have hmid:=wf_mid hw
   obtain ⟨a,ql,qr,rfl,c,n1,n2⟩:=nt
   have c:NdC I h a ql qr l x r:=c
   unfold Gr_first Gives
   refine s_newO I.zi O.i1.2 fun h1 e1 o1=>?_
   have i1:=O.i1
   have hni:I.iB.length=I.ni:=rfl
   have c1:=c.ext e1
   refine q_left c1 ?_
   cases l with
   | nil=>
    obtain rfl:=n1
    refine s_ifT (q_item c1 (q_right c1 (s_stoO x o1 (O.fi _) fun h2 o2 u2=>?_)))
    have c2:NdC I h2 a none qr .nil x r:=⟨cells_upd u2 c1.1 (small_ne o1 c1.1 (by rw [List.length_append,headV_len,inj_len]; omega)),c1.2⟩
    have e2:Ext h h2:=Upd.extN e1 u2 (by intro a ha; cases ha; exact Nat.le_refl _)
    exact q_ckR c2 (s_getO o2 (s_ret ⟨rfl,e2,(x,qr,()),rfl,r,n2.ext e2,by simp [Bt.list],fun ⟨_,b,c,d⟩=>by simp only [Bt.ht] at *; exact ⟨b,by omega,by omega⟩⟩))
   | node ll lx lr=>
    have hp:∃ a,ql=some a:=by obtain ⟨a,_,_,h1,_⟩:=n1; exact ⟨a,h1⟩
    obtain ⟨la,rfl⟩:=hp
    refine s_ifF (q_left c1 (wp_call (ih (by omega) (n1.ext e1) (by simp) (wf_left hw) (by omega)) fun y h2 e2 hy=>?_))
    obtain ⟨y1,(pq:Option Addr),w2⟩:=y
    obtain ⟨t1,nq,hfst⟩:=hy
    dsimp only at nq hfst ⊢
    refine s_putO y1 O.i1.2 (O.fi _) fun h3 e3 o3=>s_getO o3 ?_
    have e13:=e2.trans e3
    have c3:=c1.ext e13
    have hlist:(Bt.node (.node ll lx lr) x r).list=y1::(Bt.node t1 x r).list:=by
     rw [show (Bt.node (.node ll lx lr) x r).list=(Bt.node ll lx lr).list++x::r.list from rfl,hfst.1]; simp [Bt.list]
    have hlen:=congrArg I.W hlist
    rw [W_cons] at hlen
    refine q_item c3 (q_right c3 (wp_call (c_even O (x:=x) (nq.ext e3) (n2.ext (e1.trans e13)) (fun z hz=>hw z (by rw [hlist]; exact List.mem_cons_of_mem _ hz)) (by omega)) fun y h4 e4 hy=>?_))
    obtain ⟨(pe:Option Addr),w3⟩:=y
    obtain ⟨t2,ne,hev⟩:=hy
    dsimp only at ne hev ⊢
    have e14:=e13.trans e4
    refine s_ckO (o3.ext e4) (s_stoO y1 (o1.ext e14) (O.fi _) fun h5 o5 u5=>s_getO o5 (s_ret ⟨rfl,Upd.extN (e1.trans e14) u5 (by intro a ha; cases ha; exact Nat.le_refl _),(y1,pe,()),rfl,t2,ne.upd u5 (o1.ext e14) (by omega),?_,?_⟩))
    ·rw [hlist,hev.1]; rfl
    ·intro ⟨a1,a2,a3,a4⟩
     obtain ⟨g1,g2,g3⟩:=hfst.2 a1
     obtain ⟨k1,k2,k3,k4⟩:=hev.2 g1 a2 (by omega) (by omega)
     rw [show (Bt.node (.node ll lx lr) x r).ht=max (Bt.node ll lx lr).ht r.ht+1 from rfl]
     refine ⟨k1,?_,?_⟩ <;> (by_cases hx:t1.ht≤r.ht+1 <;> by_cases hy:r.ht≤t1.ht+1 <;> first | (have:=k4 hx hy; omega) | omega)
theorem c_both (O:I.Ok P) {pl pr:Option Addr} {l r:Bt I.It} (nl:Nd I h pl l) (nr:Nd I h pr r) (hw:I.wf (l.list++r.list)) (hroom:I.W (l.list++r.list)≤4398046511104) (hfr:Fresh I h:=by repeat (first | assumption | refine Fresh.ext ?_ (by assumption))) :
  Gives P (G_both I pl pr) [.one .ptr] h fun (y:Option Addr×Unit) h'=>∃ t,Nd I h' y.1 t∧t.list=l.list++r.list∧(l.Avl→r.Avl→t.Avl):=by
 have hlen:=W_append (I:=I) l.list r.list
 unfold G_both Gives
 cases r with
 | nil=>
  obtain rfl:=nr
  exact s_ifT (s_ret ⟨rfl,Ext.refl _,(pl,()),rfl,l,nl,by simp [Bt.list],fun a _=>a⟩)
 | node rl rx rr=>
  have hp:∃ a,pr=some a:=by obtain ⟨a,_,_,h1,_⟩:=nr; exact ⟨a,h1⟩
  obtain ⟨la,rfl⟩:=hp
  refine s_ifF (wp_call (R:=fun (y:I.It×Option Addr×Unit) h'=>∃ t',Nd I h' y.2.1 t'∧First (.node rl rx rr) y.1 t') ⟨(Bt.node rl rx rr).list.length+1,c_firstR O _ (Nat.lt_succ_self _) nr (by simp) (fun z hz=>hw z (List.mem_append_right _ hz)) (by omega)⟩ fun y h1 e1 hy=>?_)
  obtain ⟨y1,(pq:Option Addr),w2⟩:=y
  obtain ⟨t1,nq,hfst⟩:=hy
  dsimp only at nq hfst ⊢
  have hlist:(Bt.node l y1 t1).list=l.list++(Bt.node rl rx rr).list:=by rw [hfst.1]; rfl
  refine s_putO y1 O.i1.2 (O.fi _) fun h2 e2 o2=>s_getO o2 (wp_call (c_join O (x:=y1) (nl.ext (e1.trans e2)) (nq.ext e2) (by rw [hlist]; exact hw) (by rw [hlist]; exact hroom)) fun y h3 e3 hy=>?_)
  obtain ⟨(pe:Option Addr),w3⟩:=y
  obtain ⟨t2,ne,hj⟩:=hy
  exact s_ret ⟨rfl,(e1.trans e2).trans e3,(pe,()),rfl,t2,ne,by rw [hj.1, ← hlist]; rfl,fun a b=>(hj.2 a (hfst.2 b).1).1⟩
end Go.Sw.Any

set_option linter.unusedVariables false
set_option linter.unusedSimpArgs false
set_option maxRecDepth 100000
namespace Go.Sw.Any
open Go.Sw.Tree (iv s_putAll s_newP s_getP s_getT s_putP small_ne cells_upd wp_whileG least TR minI_eq eqI_self Placed)
variable {P:Program} {I:Inst} {h:Heap} {Q:Nat→List Value→Heap→Prop}
theorem c_buildR (O:I.Ok P):∀ (fuel:Nat) {h:Heap} {items:Sl} {l:List I.It},l.length<fuel→Its I h items l→I.W l≤4398046511104→(hfr:Fresh I h:=by repeat (first | assumption | refine Fresh.ext ?_ (by assumption))) →
  Gives P (Gr_build fuel I items) [.one .ptr] h fun (y:Option Addr×Unit) h'=>∃ t:Bt I.It,Nd I h' y.1 t∧t.list=l∧t.Full:=by
 intro fuel
 induction fuel with
 | zero=>intro h items l hf; omega
 | succ fuel ih=>
  intro h items l hf hr hroom hfr
  have hlen:=hr.len O
  have hlW:=W_len O l
  have hcap:=hr.cap
  have hmax:=hr.max
  unfold Gr_build Gives
  refine wp_ifB (fun hc=>?_) fun hc=>?_
  ·rw [eqI_iff,natI_def,hlen] at hc
   exact s_ret ⟨rfl,Ext.refl _,(none,()),rfl, .nil,rfl,by cases l; rfl; simp at hc; omega,full_nil⟩
  ·rw [eqI_not,natI_def,hlen] at hc
   have hq:quoI .i64 (natI items.len) 2=((l.length / 2:Nat):Int):=by
    rw [natI_def,hlen,quo_ok (by omega) (by omega) (by omega)]; omega
   have hk:l.length / 2<l.length:=by omega
   have hj:l[l.length / 2]? = some l[l.length / 2]:=List.getElem?_eq_getElem hk
   rw [hq,add_ok (by omega) (by omega)]
   have ht:toN ((l.length / 2:Nat):Int)=l.length / 2:=by rw [toN_def]; omega
   have ht1:toN (((l.length / 2:Nat):Int)+1)=l.length / 2+1:=by rw [toN_def]; omega
   rw [ht1,show subN items.cap 0=items.cap from rfl,cutBase_zero,show subN (toN ((l.length / 2:Nat):Int)) 0=l.length / 2 by rw [ht]; rfl]
   refine s_not (s_grd (leB_ok (by omega) (by omega)) (s_atI O hr (by omega) (by omega) fun x hx=>s_grd (leB_ok (by omega) (by omega)) ?_))
   rw [show ((l.length / 2:Nat):Int).toNat=l.length / 2 by omega] at hx
   refine wp_call (ih (l:=l.take (l.length / 2)) (by rw [List.length_take]; omega) (hr.take O (by omega) (by omega) hmax) (Nat.le_trans (W_take _ _) hroom)) fun y h1 e1 hy=>?_
   obtain ⟨(pl:Option Addr),u1⟩:=y
   obtain ⟨tl,n1,l1,fl⟩:=hy
   dsimp only at n1 ⊢
   rw [ht]
   refine s_sameI O (hr.ext e1) hx ?_
   refine wp_call (ih (l:=l.drop (l.length / 2+1)) (by rw [List.length_drop]; omega) ((hr.ext e1).drop O (by omega) (by unfold subN; omega) (by unfold subN; omega)) (Nat.le_trans (W_drop _ _) hroom)) fun y h2 e2 hy=>?_
   obtain ⟨(pr:Option Addr),u2⟩:=y
   obtain ⟨tr,n2,l2,fr⟩:=hy
   dsimp only at n2 ⊢
   refine s_sameI O (hr.ext (e1.trans e2)) hx ?_
   have hlist:(Bt.node tl x tr).list=l:=by
    simp only [Bt.list]
    rw [l1,l2]
    have:=List.getElem?_eq_some_iff.1 hx
    obtain ⟨_,rfl⟩:=this
    rw [← List.drop_eq_getElem_cons hk,List.take_append_drop]
   refine wp_call (c_of O (x:=x) (n1.ext e2) n2 (by rw [hlist]; exact hr.wf) (by rw [hlist]; exact hroom)) fun y h3 e3 hy=>?_
   obtain ⟨(p:Option Addr),u3⟩:=y
   exact s_ret ⟨rfl,(e1.trans e2).trans e3,(p,()),rfl,_,hy,hlist,full_node fl fr (by rw [l1,l2,List.length_take,List.length_drop]; omega) (by rw [l1,l2,List.length_take,List.length_drop]; omega)⟩
theorem c_Of (O:I.Ok P) {items:Sl} {l:List I.It} (hr:Its I h items l) (hroom:I.W l≤4398046511104) (hfr:Fresh I h:=by repeat (first | assumption | refine Fresh.ext ?_ (by assumption))):Gives P (G_Of I items) [.agg [.ptr]] h fun (y:TR×Unit) h'=>∃ t:Bt I.It,Nd I h' y.1.1 t∧t.list=l∧t.Full:=by
 unfold G_Of Gives
 refine s_newP none fun h1 e1 o1=>?_
 refine wp_call (R:=fun (y:Option Addr×Unit) h'=>∃ t:Bt I.It,Nd I h' y.1 t∧t.list=l∧t.Full) ⟨l.length+1,c_buildR O _ (Nat.lt_succ_self _) (hr.ext e1) hroom⟩ fun y h2 e2 hy=>?_
 obtain ⟨(p:Option Addr),u⟩:=y
 obtain ⟨t,n,hl,hfull⟩:=hy
 dsimp only at n ⊢
 refine s_putP p (o1.ext e2) fun h3 o3 u3=>s_getT o3 (s_ret ?_)
 have e:=Upd.extN (e1.trans e2) u3 (by intro a ha; cases ha; exact Nat.le_refl _)
 exact ⟨rfl,e,((p,()),()),rfl,t,n.upd u3 (o1.ext e2) (by omega),hl,hfull⟩
theorem c_Size {p:Option Addr} {t:Bt I.It} (ht:Nd I h p t):Gives P (G_Size I (p,())) [.one (.int .i64)] h fun (x:Int×Unit) _=>x.1=t.list.length:=by
 unfold G_Size Gives
 refine s_newP p fun h1 e1 o1=>s_getP o1 (wp_call (c_count (ht.ext e1)) fun x h2 e2 hx=>?_)
 exact s_ret ⟨rfl,e1.trans e2,(x.1,()),rfl,hx⟩
theorem c_Sum (O:I.Ok P) {p:Option Addr} {t:Bt I.It} (ht:Nd I h p t) (hw:I.wf t.list) (hroom:I.W t.list≤4398046511104):Gives P (G_Sum I (p,())) [(.agg I.sB)] h fun (x:I.Su×Unit) _=>x.1=I.sum t.list:=by
 unfold G_Sum Gives
 refine s_newP p fun h1 e1 o1=>s_newO I.zs O.s1.2 fun h2 e2 o2=>s_getP (o1.ext e2) ?_
 cases t with
 | nil=>
  obtain rfl:=ht
  exact s_ifT (s_newO I.zs O.s1.2 fun h3 e3 o3=>s_getO o3 (s_tellO I.zs (o2.ext e3) e1.size ((e1.trans e2).trans e3) (O.fs _) fun h' e=>⟨rfl,e,(I.zs,()),rfl,rfl⟩))
 | node l x r=>
  obtain ⟨a,ql,qr,rfl,c,_,_⟩:=ht
  exact s_ifF (s_getP (o1.ext e2) (q_sum (c.ext (e1.trans e2)) (s_tellO (I.sum (Bt.node l x r).list) o2 e1.size (e1.trans e2) (O.fs _) fun h' e=>⟨rfl,e,(_,()),rfl,rfl⟩)))
theorem W_two (l:List I.It) {i j:Nat} (h:i≤j):I.W (l.take i)+I.W (l.drop j)≤I.W l:=by
 have h1:=W_append (l.take i) (l.drop i)
 rw [List.take_append_drop] at h1
 have h2:=W_drop (l.drop i) (j-i)
 rw [List.drop_drop,show i+(j-i)=j by omega] at h2
 omega
theorem c_Replace (O:I.Ok P) {p:Option Addr} {t:Bt I.It} {items:Sl} {its:List I.It} {i j:Int} (nt:Nd I h p t) (hr:Its I h items its) (hw:I.wf t.list) (h0:0≤i) (h1:i≤j) (h2:j≤t.list.length) (hroom:I.W t.list+I.W its≤4398046511104) (hfr:Fresh I h:=by repeat (first | assumption | refine Fresh.ext ?_ (by assumption))) :
  Gives P (G_Replace I (p,()) i j items) [.agg [.ptr], .one (.int .i64)] h fun (y:TR×Int×Unit) h'=>y.2.1=0∧∃ t',Nd I h' y.1.1 t'∧t'.list=t.list.take i.toNat++its++t.list.drop j.toNat∧(t.Avl→t'.Avl):=by
 unfold G_Replace Gives
 refine s_newP p fun k1 e1 o1=>s_newP none fun k2 e2 o2=>?_
 have e02:=e1.trans e2
 have o12:=o1.ext e2
 refine bind_bool False ?_ fun b k3 e3 hb=>?_
 ·refine wp_ifB (fun hz=>?_) fun hz=>wp_ifB (fun hy=>?_) fun hy=>s_getT o12 (wp_call (c_Size (nt.ext e02)) fun y k3 e3 hy=>?_)
  ·rw [ltI_iff] at hz; omega
  ·rw [gtI_iff] at hy; omega
  ·obtain ⟨(y:Int),w⟩:=y
   dsimp only at hy ⊢
   refine s_ret ⟨rfl,e3,gtI j y,rfl,Iff.intro (fun hx=>?_) False.elim⟩
   rw [gtI_iff] at hx; omega
 have hbf:b=false:=by cases b; rfl; exact (hb.1 rfl).elim
 subst hbf
 dsimp only
 have o13:=o12.ext e3
 have e03:=e02.trans e3
 have l1:=W_take t.list i.toNat
 have l3:=W_two t.list (i:=i.toNat) (j:=j.toNat) (by omega)
 refine s_ifF (s_getP o13 (wp_call (c_cut O (nt.ext e03) hw (by omega) h0 (by omega)) fun y k4 e4 hy=>s_getP (o13.ext e4) (wp_call (c_cut O (nt.ext (e03.trans e4)) hw (by omega) (by omega) h2) fun z k5 e5 hz=>?_)))
 obtain ⟨(pa:Option Addr),(pb:Option Addr),w1⟩:=y
 obtain ⟨ta,tb,na,nb,la,lb,hav⟩:=hy
 obtain ⟨(pc:Option Addr),(pd:Option Addr),w2⟩:=z
 obtain ⟨tc,td,nc,nd,lc,ld,hav2⟩:=hz
 dsimp only at na nb nc nd ⊢
 have e05:=(e03.trans e4).trans e5
 refine wp_call (R:=fun (y:Option Addr×Unit) h'=>∃ t:Bt I.It,Nd I h' y.1 t∧t.list=its∧t.Full) ⟨its.length+1,c_buildR O _ (Nat.lt_succ_self _) (hr.ext e05) (by omega)⟩ fun y k6 e6 hy=>?_
 obtain ⟨(pm:Option Addr),w3⟩:=y
 obtain ⟨tm,nm,lm,fm⟩:=hy
 dsimp only at nm ⊢
 refine wp_call (c_both O ((na.ext e5).ext e6) nm (by rw [la,lm]; exact wf_append (wf_take hw _) hr.wf) (by rw [la,lm,W_append]; omega)) fun y k7 e7 hy=>?_
 obtain ⟨(pn:Option Addr),w4⟩:=y
 obtain ⟨tn,nn,ln,hav3⟩:=hy
 dsimp only at nn ⊢
 rw [la,lm] at ln
 refine wp_call (c_both O nn ((nd.ext e6).ext e7) (by rw [ln,ld]; exact wf_append (wf_append (wf_take hw _) hr.wf) (wf_drop hw _)) (by rw [ln,ld,W_append,W_append]; omega)) fun y k8 e8 hy=>?_
 obtain ⟨(pz:Option Addr),w5⟩:=y
 obtain ⟨tz,nz,lz,hav4⟩:=hy
 dsimp only at nz ⊢
 have e28:=(((((e3.trans e4).trans e5).trans e6).trans e7).trans e8)
 have o28:=o2.ext e28
 refine s_putP pz o28 fun k9 o9 u9=>s_getT o9 (s_ret ⟨rfl,Upd.extN (e02.trans e28) u9 (by intro a ha; cases ha; exact e1.size),((pz,()),0,()),rfl,rfl,tz,nz.upd u9 o28 (by omega),by rw [lz,ln,ld],fun hv=>hav4 (hav3 (hav hv).1 fm.2.2) (hav2 hv).2⟩)
theorem c_At (O:I.Ok P) {p:Option Addr} {t:Bt I.It} {i:Int} {x:I.It} (nt:Nd I h p t) (hw:I.wf t.list) (hroom:I.W t.list≤4398046511104) (h0:0≤i) (hx:t.list[i.toNat]? = some x) :
  Gives P (G_At I (p,()) i) [(.agg I.iB), .one .bool] h fun (y:I.It×Bool×Unit) h'=>y.1=x∧y.2.1=true:=by
 have hi:=(List.getElem?_eq_some_iff.1 hx).1
 unfold G_At Gives
 refine s_newP p fun h1 e1 o1=>s_newO I.zi O.i1.2 fun h2 e2 o2=>s_getP (o1.ext e2) ?_
 refine wp_whileG (G:=Bt I.It) (fun g (s:Int×Option Addr×Unit) h'=>Ext h h'∧Nd I h' s.2.1 g∧0≤s.1∧s.1<g.list.length∧I.W g.list≤4398046511104∧g.list[s.1.toNat]? = some x∧Own h1.size 1 h' ⟨some ⟨h1.size,0,none⟩,I.iB.length,I.iB.length⟩ (Bs.inj I.iB I.zi)) (fun g=>g.list.length)
  (fun t' vs h'=>t'=1∧vs=[.pointer (some ⟨h1.size,0,none⟩), .bool true]∧Ext h h'∧Own h1.size 1 h' ⟨some ⟨h1.size,0,none⟩,I.iB.length,I.iB.length⟩ (Bs.inj I.iB x))
  t ⟨e1.trans e2,nt.ext (e1.trans e2),h0,by first | omega | (dsimp only; omega),hroom,hx,o2⟩ ?_ ?_
 ·rintro g ⟨(j:Int),(q:Option Addr),u⟩ h3 ⟨e3,nq,hj0,hj1,hg,hgx,oa⟩
  dsimp only at nq hj0 hj1 hgx ⊢
  cases g with
  | nil=>simp [Bt.list] at hj1; omega
  | node l y r=>
   have hl:=node_len l r y; have hlw:=node_W (I:=I) l r y; have hll:=W_len O (Bt.node l y r).list
   obtain ⟨a,ql,qr,rfl,c,n1,n2⟩:=nq
   have c:NdC I h3 a ql qr l y r:=c
   refine bind_bool True (s_ifT (s_ret ⟨rfl,Ext.refl _,geI j 0,rfl,by rw [geI_iff]; exact Iff.intro (fun _=>trivial) (fun _=>hj0)⟩)) fun b h4 e4 hb=>?_
   have hbt:b=true:=hb.2 trivial
   subst hbt
   dsimp only
   have c4:=c.ext e4
   have e04:=e3.trans e4
   refine s_ifT (q_left c4 (wp_call (c_count (n1.ext e4)) fun k h5 e5 hk=>?_))
   obtain ⟨(k:Int),w⟩:=k
   dsimp only at hk ⊢
   subst hk
   have c5:=c4.ext e5
   have oa5:=(oa.ext e4).ext e5
   have e05:=e04.trans e5
   have hbt:(Bt.node l y r).list=l.list++y::r.list:=rfl
   rw [hbt] at hgx
   refine wp_ifB (fun hc=>?_) fun hc=>wp_ifB (fun hd=>?_) fun hd=>?_
   ·rw [eqI_iff] at hc
    have hxy:y=x:=by
     rw [List.getElem?_append_right (by omega),show j.toNat-l.list.length=0 by omega] at hgx
     simpa using hgx
    subst hxy
    exact q_item c5 (s_stoO y oa5 (O.fi _) fun h6 o6 u6=>s_ret ⟨fun h=>absurd h (by decide),fun _=>⟨rfl,rfl,Upd.extN e05 u6 (by intro a ha; cases ha; exact e1.size),o6⟩⟩)
   ·rw [ltI_iff] at hd
    rw [List.getElem?_append_left (by omega)] at hgx
    exact q_left c5 (s_ret ⟨fun _=>⟨l,(j,ql,()),rfl,⟨e05,(n1.ext e4).ext e5,hj0,hd,by omega,hgx,oa5⟩,by first | omega | (dsimp only; omega)⟩,fun h=>absurd rfl h⟩)
   ·rw [eqI_not] at hc
    rw [ltI_not] at hd
    rw [sub_ok (a:=j) (by omega) (by omega),sub_ok (by omega) (by omega)]
    obtain ⟨d,hd'⟩:∃ d:Nat,j=l.list.length+1+d:=⟨(j-l.list.length-1).toNat,by omega⟩
    have h2':(j-l.list.length-1).toNat=d:=by omega
    rw [List.getElem?_append_right (by omega),show j.toNat-l.list.length=d+1 by omega,List.getElem?_cons_succ] at hgx
    exact q_right c5 (s_ret ⟨fun _=>⟨r,(j-l.list.length-1,qr,()),rfl,⟨e05,(n2.ext e4).ext e5,by first | omega | (dsimp only; omega),by first | omega | (dsimp only; omega),by omega,by rw [h2']; exact hgx,oa5⟩,by first | omega | (dsimp only; omega)⟩,fun h=>absurd rfl h⟩)
 ·rintro tg vs h3 ⟨rfl,rfl,e3,oa⟩
  exact s_skip (by decide) (s_tag ⟨(some ⟨h1.size,0,none⟩,true,()),rfl,s_getO oa (s_ret ⟨rfl,e3,(x,true,()),rfl,rfl,rfl⟩)⟩)
theorem c_AtNo (O:I.Ok P) {p:Option Addr} {t:Bt I.It} {i:Int} (nt:Nd I h p t) (hroom:I.W t.list≤4398046511104) (hf:i≤9223372036854775807) (hno:i<0∨(t.list.length:Int)≤i) :
  Gives P (G_At I (p,()) i) [(.agg I.iB), .one .bool] h fun (y:I.It×Bool×Unit) h'=>y.1=I.zi∧y.2.1=false:=by
 unfold G_At Gives
 refine s_newP p fun h1 e1 o1=>s_newO I.zi O.i1.2 fun h2 e2 o2=>s_getP (o1.ext e2) ?_
 refine wp_whileG (G:=Bt I.It) (fun g (s:Int×Option Addr×Unit) h'=>Ext h h'∧Nd I h' s.2.1 g∧(s.1<0∨(g.list.length:Int)≤s.1)∧s.1≤9223372036854775807∧I.W g.list≤4398046511104∧Own h1.size 1 h' ⟨some ⟨h1.size,0,none⟩,I.iB.length,I.iB.length⟩ (Bs.inj I.iB I.zi)) (fun g=>g.list.length)
  (fun t' vs h'=>t'=2∧vs=[]∧Ext h h'∧Own h1.size 1 h' ⟨some ⟨h1.size,0,none⟩,I.iB.length,I.iB.length⟩ (Bs.inj I.iB I.zi))
  t ⟨e1.trans e2,nt.ext (e1.trans e2),hno,hf,hroom,o2⟩ ?_ ?_
 ·rintro g ⟨(j:Int),(q:Option Addr),u⟩ h3 ⟨e3,nq,hj0,hj1,hg,oa⟩
  dsimp only at nq hj0 hj1 ⊢
  cases g with
  | nil=>
   obtain rfl:=nq
   refine bind_bool False (s_ifF (s_ret ⟨rfl,Ext.refl _,false,rfl,Iff.intro (fun x=>by cases x) False.elim⟩)) fun b h4 e4 hb=>?_
   have hbb:b=false:=by cases b; rfl; exact (hb.1 rfl).elim
   subst hbb
   exact s_ifF (s_ret ⟨fun h=>absurd h (by decide),fun _=>⟨rfl,rfl,e3.trans e4,oa.ext e4⟩⟩)
  | node l y r=>
   have hl:=node_len l r y; have hlw:=node_W (I:=I) l r y; have hll:=W_len O (Bt.node l y r).list
   obtain ⟨a,ql,qr,rfl,c,n1,n2⟩:=nq
   have c:NdC I h3 a ql qr l y r:=c
   refine bind_bool (0≤j) (s_ifT (s_ret ⟨rfl,Ext.refl _,geI j 0,rfl,geI_iff⟩)) fun b h4 e4 hb=>?_
   have c4:=c.ext e4
   have e04:=e3.trans e4
   dsimp only
   refine wp_ifB (fun hc=>?_) fun hc=>s_ret ⟨fun h=>absurd h (by decide),fun _=>⟨rfl,rfl,e04,oa.ext e4⟩⟩
   have h0:=hb.1 hc
   refine q_left c4 (wp_call (c_count (n1.ext e4)) fun k h5 e5 hk=>?_)
   obtain ⟨(k:Int),w⟩:=k
   dsimp only at hk ⊢
   subst hk
   have c5:=c4.ext e5
   have oa5:=(oa.ext e4).ext e5
   have e05:=e04.trans e5
   rw [show eqI j (l.list.length:Int)=false from eqI_not.2 (by omega),show ltI j (l.list.length:Int)=false from ltI_not.2 (by omega)]
   rw [sub_ok (a:=j) (by omega) (by omega),sub_ok (by omega) (by omega)]
   exact s_ifF (s_ifF (q_right c5 (s_ret ⟨fun _=>⟨r,(j-l.list.length-1,qr,()),rfl,⟨e05,(n2.ext e4).ext e5,by dsimp only; omega,by dsimp only; omega,by omega,oa5⟩,by omega⟩,fun h=>absurd rfl h⟩)))
 ·rintro tg vs h3 ⟨rfl,rfl,e3,oa⟩
  refine s_tag (s_cast0 (s_newO I.zi O.i1.2 fun h4 e4 oz=>s_getO oz (s_stoO I.zi (oa.ext e4) (O.fi _) fun h5 o5 u5=>s_getO o5 (s_ret ⟨rfl,Upd.extN (e3.trans e4) u5 (by intro a ha; cases ha; exact e1.size),(I.zi,false,()),rfl,rfl,rfl⟩))))
end Go.Sw.Any

set_option linter.unusedVariables false
set_option linter.unusedSimpArgs false
set_option maxRecDepth 100000
namespace Go.Sw.Any
open Go.Sw.Tree (iv s_putAll s_newP s_getP s_getT s_putP small_ne cells_upd wp_whileG least TR minI_eq eqI_self Placed)
variable {P:Program} {I:Inst} {h:Heap} {Q:Nat→List Value→Heap→Prop}
theorem s_left {p:Option Addr} {l r:Bt I.It} {x:I.It} {K:Option Addr→Prog} (ht:Nd I h p (.node l x r)) (hk:∀ q,Nd I h q l→wp P (K q) h Q):wp P (grd (someB p) <| grd (someB p) <| .load (.one .ptr) (shiftTo p 0) K) h Q:=by
 obtain ⟨a,pl,pr,rfl,c,n1,n2⟩:=ht; exact q_left c (hk pl n1)
theorem s_right {p:Option Addr} {l r:Bt I.It} {x:I.It} {K:Option Addr→Prog} (ht:Nd I h p (.node l x r)) (hk:∀ q,Nd I h q r→wp P (K q) h Q):wp P (grd (someB p) <| grd (someB p) <| .load (.one .ptr) (shiftTo p 1) K) h Q:=by
 obtain ⟨a,pl,pr,rfl,c,n1,n2⟩:=ht; exact q_right c (hk pr n2)
theorem s_item {p:Option Addr} {l r:Bt I.It} {x:I.It} {K:I.It→Prog} (ht:Nd I h p (.node l x r)) (hk:wp P (K x) h Q):wp P (grd (someB p) <| grd (someB p) <| .load (.agg I.iB) (shiftTo p 2) K) h Q:=by
 obtain ⟨a,pl,pr,rfl,c,n1,n2⟩:=ht; exact q_item c hk
theorem s_sum {p:Option Addr} {l r:Bt I.It} {x:I.It} {K:I.Su→Prog} (ht:Nd I h p (.node l x r)) (hk:wp P (K (I.sum (Bt.node l x r).list)) h Q):wp P (grd (someB p) <| grd (someB p) <| .load (.agg I.sB) (shiftTo p (I.ni+4)) K) h Q:=by
 obtain ⟨a,pl,pr,rfl,c,n1,n2⟩:=ht; exact q_sum c hk
def Found (I:Inst) (l:List I.It) (k n i:Int):Prop:=
 (i=0∧n≤0)∨(1≤i∧i≤l.length∧n≤I.key (I.sum (l.take i.toNat)) k∧I.key (I.sum (l.take (i.toNat-1))) k<n)∨(i=l.length+1∧I.key (I.sum l) k<n)
theorem c_Find (O:I.Ok P) {p:Option Addr} {t:Bt I.It} {k n:Int} (ht:Nd I h p t) (hw:I.wf t.list) (hroom:I.W t.list<4398046511104) :
  Gives P (G_Find I (p,()) k n) [.one (.int .i64)] h fun (x:Int×Unit) _=>Found I t.list k n x.1:=by
 have hWl:=W_len O t.list
 have hns:I.sB.length=I.ns:=rfl
 unfold G_Find Gives
 refine s_newP p fun h1 e1 o1=>wp_ifB (fun hc=>?_) fun hc=>?_
 ·rw [leI_iff] at hc
  exact s_ret ⟨rfl,e1,(0,()),rfl, .inl ⟨rfl,hc⟩⟩
 rw [leI_not] at hc
 refine s_newO I.zs O.s1.2 fun h2 e2 o2=>s_getP (o1.ext e2) ?_
 refine wp_whileG (G:=Bt I.It×List I.It×List I.It) (fun g (s:Int×Option Addr×Unit) h'=>Ext h1 h'∧Nd I h' s.2.1 g.1∧t.list=g.2.1++g.1.list++g.2.2∧s.1=g.2.1.length∧Own h1.size 1 h' ⟨some ⟨h1.size,0,none⟩,I.sB.length,I.sB.length⟩ (Bs.inj I.sB (I.sum g.2.1))∧I.key (I.sum g.2.1) k<n ∧
   (g.2.2=[]∨n≤I.key (I.sum (g.2.1++g.1.list)) k)) (fun g=>g.1.list.length)
  (fun t' vs h'=>Ext h1 h'∧((t'=2∧∃ x:Int×Unit,vs=Ts.inj [.one (.int .i64)] x∧x.1=t.list.length∧I.key (I.sum t.list) k<n)∨(t'=1∧∃ x:Int×Unit,vs=Ts.inj [.one (.int .i64)] x∧Found I t.list k n x.1)))
  (t,[],[]) ⟨e2,ht.ext (e1.trans e2),by simp,rfl,o2,by rw [show I.sum []=I.zs from rfl,O.key0]; exact hc, .inl rfl⟩ ?_ ?_
 ·rintro ⟨t',pre,post⟩ ⟨(at_:Int),(q:Option Addr),u⟩ h3 ⟨e3,nq,hL,hat,oa,hkey,hpost⟩
  dsimp only at nq hL hat oa hkey hpost ⊢
  have hw0:I.wf (pre++t'.list++post):=hL ▸ hw
  have hwp:I.wf pre:=fun y hy=>hw0 y (by simp [hy])
  have hwt:I.wf t'.list:=fun y hy=>hw0 y (by simp [hy])
  have hlenL:t.list.length=pre.length+t'.list.length+post.length:=by rw [hL]; simp [Nat.add_assoc]
  have hWL:I.W t.list=I.W pre+I.W t'.list+I.W post:=by rw [hL,W_append,W_append]
  have hWlen:=W_len O t.list
  cases t' with
  | nil=>
   obtain rfl:=nq
   refine s_ifF (s_ret ⟨fun h=>absurd h (by decide),fun _=>⟨e3, .inl ⟨rfl,(at_,()),rfl,?_,?_⟩⟩⟩)
   ·rcases hpost with rfl | hpost
    ·rw [hlenL,hat]; simp [Bt.list]
    ·simp only [Bt.list,List.append_nil] at hpost; omega
   ·rcases hpost with rfl | hpost
    ·rw [hL]; simpa [Bt.list] using hkey
    ·simp only [Bt.list,List.append_nil] at hpost; omega
  | node l x r=>
   have hq:∃ a,q=some a:=by obtain ⟨a,_,_,h1,_⟩:=nq; exact ⟨a,h1⟩
   obtain ⟨qa,rfl⟩:=hq
   have hnl:=node_len l r x; have hnlw:=node_W (I:=I) l r x; have hnll:=W_len O (Bt.node l x r).list
   have hx:=wf_mid hwt
   have vp:=V.sum O hwp
   have vl:=V.sum O (wf_left hwt)
   have vm:=O.vm x hx
   have hpl:I.sum (pre++l.list)=I.add (I.sum pre) (I.sum l.list):=sum_append O hwp (wf_left hwt)
   have vpl:=O.va _ _ _ _ vp vl
   refine s_ifT (s_getO oa (s_putO (I.sum pre) O.s1.2 (O.fs _) fun h4 e4 ob=>?_))
   have oa:=oa.ext e4
   have nq:=nq.ext e4
   have e34:=e3.trans e4
   have hb3:=(oa.lt rfl).2
   refine wp_bind (fun t vs h'=>t=0∧vs=[]∧Ext h3 h'∧Own h3.size 1 h' ⟨some ⟨h3.size,0,none⟩,I.sB.length,I.sB.length⟩ (Bs.inj I.sB (I.sum (pre++l.list)))) ?_ ?_
   ·refine s_left nq fun pl nl=>?_
    cases l with
    | nil=>
     obtain rfl:=nl
     exact s_ifF (s_ret ⟨rfl,rfl,e4,by simpa [Bt.list] using ob⟩)
    | node ll lx lr=>
     have hp:∃ a,pl=some a:=by obtain ⟨a,_,_,h1,_⟩:=nl; exact ⟨a,h1⟩
     obtain ⟨la,rfl⟩:=hp
     refine s_ifT (s_getO oa (s_left nq fun pl nl=>s_sum nl (wp_call (O.ca _ _ _ _ _ vp vl (by omega)) fun m h5 e5 hm=>?_)))
     obtain ⟨m,w5⟩:=m
     dsimp only at hm
     rw [← hpl] at hm
     subst hm
     refine s_stoO (I.sum (pre++(Bt.node ll lx lr).list)) (ob.ext e5) (O.fs _) fun h6 o6 u6=>s_ret ⟨rfl,rfl,Upd.extN (e4.trans e5) u6 (by intro a ha; cases ha; exact Nat.le_refl _),o6⟩
   ·rintro tg vs h5 ⟨rfl,rfl,e5,ob⟩
    have oa:=(‹Own h1.size 1 h3 ⟨some ⟨h1.size,0,none⟩,I.sB.length,I.sB.length⟩ (Bs.inj I.sB (I.sum pre))›).ext e5
    have nq:=(‹Nd I h3 (some qa) (.node l x r)›).ext e5
    have e35:=e3.trans e5
    refine s_tag (s_cast0 (s_getO ob (wp_call (O.ck _ _ _ _ (hpl ▸ vpl) (by omega)) fun y h6 e6 hy=>?_)))
    obtain ⟨(y:Int),w6⟩:=y
    dsimp only at hy ⊢
    subst hy
    have nq6:=nq.ext e6
    refine wp_ifB (fun hg=>?_) fun hg=>?_
    ·rw [geI_iff] at hg
     refine s_left nq6 fun pl nl=>s_ret ⟨fun _=>⟨(l,pre,x::r.list++post),(at_,pl,()),rfl,⟨e35.trans e6,nl,by rw [hL]; simp [Bt.list],hat,oa.ext e6,hkey, .inr hg⟩,by dsimp only; omega⟩,fun h=>absurd rfl h⟩
    ·rw [geI_not] at hg
     refine s_left nq6 fun pl nl=>wp_call (c_count nl) fun c h7 e7 hc7=>?_
     obtain ⟨(c:Int),w7⟩:=c
     dsimp only at hc7 ⊢
     subst hc7
     have nq7:=nq6.ext e7
     have ob7:=ob.ext (e6.trans e7)
     have oa7:=oa.ext (e6.trans e7)
     refine s_getO ob7 (s_item nq7 (wp_call (O.cm _ x hx) fun m h8 e8 hm=>?_))
     obtain ⟨m,w8⟩:=m
     dsimp only at hm
     subst hm
     refine s_ckO (ob7.ext e8) (wp_call (O.ca _ _ _ _ _ (hpl ▸ vpl) vm (by omega)) fun m h9 e9 hm=>?_)
     obtain ⟨m,w9⟩:=m
     dsimp only at hm
     rw [← sum_snoc] at hm
     subst hm
     have vq:I.V (I.W pre+I.W l.list+I.wt x) (I.sum (pre++l.list++[x])):=by rw [sum_snoc,hpl]; exact O.va _ _ _ _ vpl vm
     refine s_stoO (I.sum (pre++l.list++[x])) ((oa7.ext e8).ext e9) (O.fs _) fun h10 ob10 u10=>?_
     have e10:Ext h1 h10:=Upd.extN ((((e35.trans e6).trans e7).trans e8).trans e9) u10 (by intro a ha; cases ha; exact Nat.le_refl _)
     have nq10:Nd I h10 (some qa) (.node l x r):=((nq7.ext e8).ext e9).upd u10 ((oa7.ext e8).ext e9) (by omega)
     have oa:=ob10
     refine s_getO oa (wp_call (O.ck _ _ _ _ vq (by omega)) fun y h11 e11 hy=>?_)
     obtain ⟨(y:Int),w11⟩:=y
     dsimp only at hy ⊢
     subst hy
     have hsum3:addI .i64 at_ (addI .i64 ((l.list.length:Nat):Int) 1)=((pre.length+l.list.length+1:Nat):Int):=by
      rw [add_ok (a:=((l.list.length:Nat):Int)) (by omega) (by omega),add_ok (by omega) (by omega)]; omega
     rw [hsum3]
     have hpre:t.list.take (pre.length+l.list.length+1)=pre++l.list++[x]:=by
      rw [show t.list=(pre++l.list++[x])++(r.list++post) by rw [hL]; simp [Bt.list]]
      exact List.take_left' (by simp [Nat.add_assoc])
     have hpre':t.list.take (pre.length+l.list.length)=pre++l.list:=by
      rw [show t.list=(pre++l.list)++(x::r.list++post) by rw [hL]; simp [Bt.list]]
      exact List.take_left' (by simp)
     refine wp_ifB (fun hg2=>?_) fun hg2=>?_
     ·rw [geI_iff] at hg2
      refine s_ret ⟨fun h=>absurd h (by decide),fun _=>⟨e10.trans e11, .inr ⟨rfl,(((pre.length+l.list.length+1:Nat):Int),()),rfl, .inr (.inl ⟨by dsimp only; omega,by dsimp only; omega,?_,?_⟩)⟩⟩⟩
      ·dsimp only; rw [Int.toNat_natCast,hpre]; exact hg2
      ·dsimp only; rw [Int.toNat_natCast,Nat.add_sub_cancel,hpre']; exact hg
     ·rw [geI_not] at hg2
      refine s_right (nq10.ext e11) fun pr nr=>s_ret ⟨fun _=>⟨(r,pre++l.list++[x],post),(((pre.length+l.list.length+1:Nat):Int),pr,()),rfl,⟨e10.trans e11,nr,by rw [hL]; simp [Bt.list],by simp; omega,oa.ext e11,hg2,?_⟩,by dsimp only; omega⟩,fun h=>absurd rfl h⟩
      rcases hpost with hp | hp
      ·exact .inl hp
      ·refine .inr ?_
       dsimp only
       rw [show pre++l.list++[x]++r.list=pre++(Bt.node l x r).list by simp [Bt.list]]; exact hp
 ·rintro tg vs h3 ⟨e3,⟨rfl,x,rfl,hx,hk⟩ | ⟨rfl,x,rfl,hx⟩⟩
  ·obtain ⟨(x:Int),w⟩:=x
   dsimp only at hx
   refine s_tag ⟨(x,()),rfl,?_⟩
   dsimp only
   subst hx
   rw [add_ok (by omega) (by omega)]
   exact s_ret ⟨rfl,e1.trans e3,(_,()),rfl, .inr (.inr ⟨rfl,hk⟩)⟩
  ·obtain ⟨(x:Int),w⟩:=x
   exact s_skip (by decide) (s_tag ⟨(x,()),rfl,s_ret ⟨rfl,e1.trans e3,(x,()),rfl,hx⟩⟩)
theorem c_Upto' (O:I.Ok P) {p:Option Addr} {t:Bt I.It} {i:Int} (ht:Nd I h p t) (hw:I.wf t.list) (hroom:I.W t.list<4398046511104) :
  Gives P (G_Upto I (p,()) i) [(.agg I.sB)] h fun (x:I.Su×Unit) _=>x.1=I.sum (t.list.take i.toNat):=by
 have hWl:=W_len O t.list
 have hns:I.sB.length=I.ns:=rfl
 unfold G_Upto Gives
 refine s_newP p fun h1 e1 o1=>s_newO I.zs O.s1.2 fun h2 e2 o2=>s_newO I.zs O.s1.2 fun h3 e3 o3=>s_getT ((o1.ext e2).ext e3) (wp_call (c_Size (ht.ext ((e1.trans e2).trans e3))) fun y h4 e4 hy=>s_getP (((o1.ext e2).ext e3).ext e4) ?_)
 obtain ⟨(y:Int),w1⟩:=y
 dsimp only at hy ⊢
 subst hy
 have b2:=(o2.lt rfl).2
 have b1:=(o1.lt rfl).2
 dsimp only at b1 b2
 have e04:Ext h h4:=(((e1.trans e2).trans e3).trans e4)
 refine wp_whileG (G:=Bt I.It×List I.It×List I.It) (fun g (s:Int×Option Addr×Unit) h'=>Ext h h'∧Nd I h' s.2.1 g.1∧t.list=g.2.1++g.1.list++g.2.2∧t.list.take i.toNat=g.2.1++g.1.list.take s.1.toNat∧s.1≤g.1.list.length ∧
   Own h1.size 1 h' ⟨some ⟨h1.size,0,none⟩,I.sB.length,I.sB.length⟩ (Bs.inj I.sB I.zs)∧Own h2.size 1 h' ⟨some ⟨h2.size,0,none⟩,I.sB.length,I.sB.length⟩ (Bs.inj I.sB (I.sum g.2.1))) (fun g=>g.1.list.length)
  (fun t' vs h'=>t'=2∧vs=[]∧Ext h h'∧Own h1.size 1 h' ⟨some ⟨h1.size,0,none⟩,I.sB.length,I.sB.length⟩ (Bs.inj I.sB I.zs)∧Own h2.size 1 h' ⟨some ⟨h2.size,0,none⟩,I.sB.length,I.sB.length⟩ (Bs.inj I.sB (I.sum (t.list.take i.toNat))))
  (t,[],[]) ⟨e04,ht.ext e04,by simp,?_,?_,(o2.ext e3).ext e4,o3.ext e4⟩ ?_ ?_
 ·dsimp only
  rw [List.nil_append]
  have:minI i ((t.list.length:Nat):Int)=min i (t.list.length:Int):=minI_eq ..
  rw [this]
  by_cases hi:i≤(t.list.length:Int)
  ·rw [show min i (t.list.length:Int)=i by omega]
  ·rw [show min i (t.list.length:Int)=(t.list.length:Int) by omega,List.take_of_length_le (by omega),Int.toNat_natCast,List.take_length]
 ·dsimp only
  rw [minI_eq]; omega
 ·rintro ⟨t',pre,post⟩ ⟨(j:Int),(q:Option Addr),u⟩ h5 ⟨e5,nq,hL,htake,hj,oz,oa⟩
  dsimp only at nq hL htake hj oz oa ⊢
  have hw0:I.wf (pre++t'.list++post):=hL ▸ hw
  have hwp:I.wf pre:=fun y hy=>hw0 y (by simp [hy])
  have hwt:I.wf t'.list:=fun y hy=>hw0 y (by simp [hy])
  have hlenL:t.list.length=pre.length+t'.list.length+post.length:=by rw [hL]; simp [Nat.add_assoc]
  have hWL:I.W t.list=I.W pre+I.W t'.list+I.W post:=by rw [hL,W_append,W_append]
  have hWlen:=W_len O t.list
  refine bind_bool (t' ≠ .nil∧0<j) ?_ fun b h6 e6 hb=>?_
  ·cases t' with
   | nil=>obtain rfl:=nq; exact s_ifF (s_ret ⟨rfl,Ext.refl _,false,rfl,Iff.intro (fun x=>by cases x) (fun x=>absurd rfl x.1)⟩)
   | node l x r=>
    obtain ⟨a,_,_,rfl,_⟩:=nq
    exact s_ifT (s_ret ⟨rfl,Ext.refl _,gtI j 0,rfl,by rw [gtI_iff]; exact Iff.intro (fun x=>⟨by simp,x⟩) (fun x=>x.2)⟩)
  have e6':=e5.trans e6
  have nq6:=nq.ext e6
  have oz6:=oz.ext e6
  have oa6:=oa.ext e6
  dsimp only
  refine wp_ifB (fun hc=>?_) fun hc=>?_
  ·obtain ⟨hnn,hj0⟩:=hb.1 hc
   cases t' with
   | nil=>exact absurd rfl hnn
   | node l x r=>
    have hnl:=node_len l r x; have hnlw:=node_W (I:=I) l r x; have hnll:=W_len O (Bt.node l x r).list
    have hx:=wf_mid hwt
    have vp:=V.sum O hwp
    have vl:=V.sum O (wf_left hwt)
    have vm:=O.vm x hx
    have hpl:I.sum (pre++l.list)=I.add (I.sum pre) (I.sum l.list):=sum_append O hwp (wf_left hwt)
    have vpl:I.V (I.W pre+I.W l.list) (I.sum (pre++l.list)):=hpl ▸ O.va _ _ _ _ vp vl
    refine s_left nq6 fun pl nl=>wp_call (c_count nl) fun c h7 e7 hc7=>?_
    obtain ⟨(c:Int),w7⟩:=c
    dsimp only at hc7 ⊢
    subst hc7
    have nq7:=nq6.ext e7
    refine wp_ifB (fun hg=>?_) fun hg=>?_
    ·rw [leI_iff] at hg
     refine s_left nq7 fun pl nl=>s_ret ⟨fun _=>⟨(l,pre,x::r.list++post),(j,pl,()),rfl,⟨e6'.trans e7,nl,by rw [hL]; simp [Bt.list],?_,hg,oz6.ext e7,oa6.ext e7⟩,by dsimp only; omega⟩,fun h=>absurd rfl h⟩
     dsimp only
     rw [htake]; simp only [Bt.list]
     rw [List.take_append_of_le_length (by omega)]
    ·rw [leI_not] at hg
     refine wp_bind (fun t vs h'=>t=0∧vs=[]∧Ext h h'∧Nd I h' q (.node l x r)∧Own h1.size 1 h' ⟨some ⟨h1.size,0,none⟩,I.sB.length,I.sB.length⟩ (Bs.inj I.sB I.zs)∧Own h2.size 1 h' ⟨some ⟨h2.size,0,none⟩,I.sB.length,I.sB.length⟩ (Bs.inj I.sB (I.sum (pre++l.list)))) ?_ ?_
     ·refine s_left nq7 fun pl nl=>?_
      cases l with
      | nil=>
       obtain rfl:=nl
       exact s_ifF (s_ret ⟨rfl,rfl,e6'.trans e7,nq7,oz6.ext e7,by simpa [Bt.list] using oa6.ext e7⟩)
      | node ll lx lr=>
       have hp:∃ a,pl=some a:=by obtain ⟨a,_,_,h1,_⟩:=nl; exact ⟨a,h1⟩
       obtain ⟨la,rfl⟩:=hp
       refine s_ifT (s_getO (oa6.ext e7) (s_left nq7 fun pl nl=>s_sum nl (wp_call (O.ca _ _ _ _ _ vp vl (by omega)) fun m h8 e8 hm=>?_)))
       obtain ⟨m,w5⟩:=m
       dsimp only at hm
       rw [← hpl] at hm
       subst hm
       refine s_stoO (I.sum (pre++(Bt.node ll lx lr).list)) ((oa6.ext e7).ext e8) (O.fs _) fun h9 o9 u9=>s_ret ⟨rfl,rfl,Upd.extN ((e6'.trans e7).trans e8) u9 (by intro a ha; cases ha; dsimp only; omega),
        (nq7.ext e8).upd u9 ((oa6.ext e7).ext e8) (by omega),ob_upd ((oz6.ext e7).ext e8) u9 (by dsimp only; omega),o9⟩
     ·rintro tg vs h8 ⟨rfl,rfl,e8,nq8,oz8,oa8⟩
      refine s_tag (s_cast0 (s_getO oa8 (s_item nq8 (wp_call (O.cm _ x hx) fun m h9 e9 hm=>?_))))
      obtain ⟨m,w9⟩:=m
      dsimp only at hm
      subst hm
      refine s_ckO (oa8.ext e9) (wp_call (O.ca _ _ _ _ _ vpl vm (by omega)) fun m h10 e10 hm=>?_)
      obtain ⟨m,w10⟩:=m
      dsimp only at hm
      rw [← sum_snoc] at hm
      subst hm
      have vq:I.V (I.W pre+I.W l.list+I.wt x) (I.sum (pre++l.list++[x])):=by rw [sum_snoc]; exact O.va _ _ _ _ vpl vm
      refine s_stoO (I.sum (pre++l.list++[x])) ((oa8.ext e9).ext e10) (O.fs _) fun h11 o11 u11=>?_
      have nq11:=((nq8.ext e9).ext e10).upd u11 ((oa8.ext e9).ext e10) (by omega)
      have hsub:subI .i64 (subI .i64 j ((l.list.length:Nat):Int)) 1=j-l.list.length-1:=by
       rw [sub_ok (a:=j) (by omega) (by omega),sub_ok (by omega) (by omega)]
      rw [hsub]
      refine s_right nq11 fun pr nr=>s_ret ⟨fun _=>⟨(r,pre++l.list++[x],post),(j-l.list.length-1,pr,()),rfl,⟨Upd.extN ((e8.trans e9).trans e10) u11 (by intro a ha; cases ha; dsimp only; omega),nr,by rw [hL]; simp [Bt.list],?_,by dsimp only; omega,
       ob_upd ((oz8.ext e9).ext e10) u11 (by dsimp only; omega),o11⟩,by dsimp only; omega⟩,fun h=>absurd rfl h⟩
      dsimp only
      rw [htake]
      obtain ⟨d,hd⟩:∃ d:Nat,j=l.list.length+1+d:=⟨(j-l.list.length-1).toNat,by omega⟩
      have h1':j.toNat=(l.list++[x]).length+d:=by simp; omega
      have h2':(j-l.list.length-1).toNat=d:=by omega
      rw [h1',h2',show (Bt.node l x r).list=(l.list++[x])++r.list by simp [Bt.list],List.take_append,List.take_of_length_le (by omega),Nat.add_sub_cancel_left]
      simp
  ·have hno:¬(t' ≠ .nil∧0<j):=fun x=>by rw [hb.2 x] at hc; cases hc
   refine s_ret ⟨fun h=>absurd h (by decide),fun _=>⟨rfl,rfl,e6',oz6,?_⟩⟩
   rw [htake]
   by_cases hn:t' = .nil
   ·subst hn; simpa [Bt.list] using oa6
   ·have hj0:j.toNat=0:=by have:¬ 0<j:=fun x=>hno ⟨hn,x⟩; omega
    rw [hj0,List.take_zero,List.append_nil]; exact oa6
 ·rintro tg vs h5 ⟨rfl,rfl,e5,oz,oa⟩
  exact s_tag (s_cast0 (s_getO oa (s_tellO (I.sum (t.list.take i.toNat)) oz e1.size e5 (O.fs _) fun h' e=>⟨rfl,e,(_,()),rfl,rfl⟩)))
end Go.Sw.Any

set_option linter.unusedVariables false
set_option linter.unusedSimpArgs false
set_option maxRecDepth 100000
namespace Go.Sw.Any
open Go.Sw.Tree (iv s_putAll s_newP s_getP s_getT s_putP small_ne cells_upd wp_whileG least TR minI_eq eqI_self Placed cell_own)
variable {P:Program} {I:Inst} {h:Heap} {Q:Nat→List Value→Heap→Prop}
abbrev ag (I:Inst) (r:I.It):Value:=.agg (Bs.inj I.iB r).toArray
abbrev fItems (I:Inst) (a b:Option Addr):Value:=.func (.func I.f1) #[] #[.pointer a, .pointer b]
abbrev fWalk (I:Inst) (a b:Option Addr):Value:=.func (.func I.f2) #[] #[.pointer a, .pointer b]
structure Clos (P:Program) (I:Inst):Prop where
 it:∀ (y:Value) (a b:Option Addr),Dyn P (fItems I a b) [y] (G_Items1 I y a b)
 wk:∀ (p:Option Addr) (i:Int) (a b:Option Addr),Dyn P (fWalk I a b) [.pointer p,iv i] (G_Walk I p i a b)
theorem Nd.held {h':Heap} (e:Held I.Z h h'):∀ {t:Bt I.It} {p:Option Addr},Nd I h p t→Nd I h' p t
 | .nil,_,n=>n
 | .node l x r,p,⟨a,pl,pr,e1,c,n1,n2⟩=>⟨a,pl,pr,e1,⟨cells_iff.2 fun j v hj=>e.cell (cells_iff.1 c.1 j v hj) (by rw [add_block]; exact c.2.1),c.2⟩,Nd.held e n1,Nd.held e n2⟩
structure St (h0:Heap) (m':Nat) (y:Value) (I:Inst) (h:Heap):Prop where
 held:Held I.Z h0 h
 le:h0.size≤m'
 sz:m'+2≤h.size
 cy:Sw.cell h ⟨m',0,none⟩=some y
 cw:Sw.cell h ⟨m'+1,0,none⟩=some (fWalk I (some ⟨m'+1,0,none⟩) (some ⟨m',0,none⟩))
theorem St.step {h0 h h':Heap} {m':Nat} {y:Value} (s:St h0 m' y I h) (f:Held (fun i=>own m' 2 i∨(I.Z i∧i<h0.size)) h h'):St h0 m' y I h' where
 held:=s.held.step f fun i hi hz=>.inr ⟨hz,hi⟩
 le:=s.le
 sz:=Nat.le_trans s.sz f.1
 cy:=f.cell s.cy (.inl ⟨Nat.le_refl _,by dsimp only; omega⟩)
 cw:=f.cell s.cw (.inl ⟨by dsimp only; omega,by dsimp only; omega⟩)
theorem St.more {h0 h h':Heap} {m':Nat} {y:Value} (s:St h0 m' y I h) (e:Ext h h'):St h0 m' y I h':=s.step (Held.of_ext e)
theorem s_any {a:Addr} {v:Value} {K:Value→Prog} (hc:Sw.cell h a=some v) (hk:wp P (K v) h Q):wp P (.load (.one .any) (some a) K) h Q:=wp_load1 (b:=.any) a v rfl hc hk
theorem c_walk (O:I.Ok P) (D:Clos P I) {h0:Heap} {m':Nat} {y:Value} {L:List I.It} {J:Nat→Heap→Prop} {F:Heap→Prop} (sJ:∀ k a b,J k a→Chg (own m' 2) a b→J k b)
  (hY:∀ k r h1,L[k]? = some r→J k h1→m'+2≤h1.size→Held I.Z h0 h1→DynV P y [ag I r] h1 fun vs h2=>∃ b:Bool,vs=[.bool b]∧Held (fun i=>own m' 2 i∨(I.Z i∧i<h0.size)) h1 h2∧(b=true→J (k+1) h2)∧(b=false→F h2)) :
  ∀ (t:Bt I.It) {p:Option Addr} {i:Int} {k:Nat} {h:Heap},Nd I h0 p t→I.W t.list≤4398046511104→0≤i→i≤9223372036854775807→(∀ (j:Nat) (r:I.It),t.list[j]? = some r→i.toNat≤j→L[k+(j-i.toNat)]? = some r)→St h0 m' y I h→J k h →
  wp P (G_Walk I p i (some ⟨m'+1,0,none⟩) (some ⟨m',0,none⟩)) h fun tag vs h'=>tag=0∧∃ b:Bool,vs=[.bool b]∧St h0 m' y I h'∧(b=true→J (k+(t.list.length-i.toNat)) h')∧(b=false→F h'):=by
 have hJ:∀ k a b,J k a→Ext a b→J k b:=fun k a b j e=>sJ k a b j (Chg.of_ext e)
 intro t
 induction t with
 | nil=>
  intro p i k h nt hroom h0' h1 hL st hj
  obtain rfl:=nt
  unfold G_Walk
  refine bind_bool True (s_ifT (s_ret ⟨rfl,Ext.refl _,true,rfl,Iff.intro (fun _=>trivial) fun _=>rfl⟩)) fun b h2 e2 hb=>?_
  have hbt:b=true:=hb.2 trivial
  subst hbt
  exact s_ifT (s_ret ⟨rfl,true,rfl,st.more e2,fun _=>by simpa [Bt.list] using hJ _ _ _ hj e2,fun h=>by cases h⟩)
 | node l x r ihl ihr=>
  intro p i k h nt hroom h0' h1 hL st hj
  have hl:=node_len l r x; have hlw:=node_W (I:=I) l r x; have hll:=W_len O (Bt.node l x r).list
  have cAt:∀ {h'},St h0 m' y I h'→Nd I h' p (.node l x r):=fun s=>Nd.held s.held nt
  obtain ⟨a,ql,qr,rfl,c,n1,n2⟩:=nt
  have cAt:∀ {h'},St h0 m' y I h'→NdC I h' a ql qr l x r:=fun s=>⟨cells_iff.2 fun j v hj=>s.held.cell (cells_iff.1 c.1 j v hj) (by rw [add_block]; exact c.2.1),c.2⟩
  have hxL:∀ (j:Nat) (v:I.It),l.list[j]? = some v→(Bt.node l x r).list[j]? = some v:=fun j v hv=>by
   show (l.list++x::r.list)[j]? = _
   rw [List.getElem?_append_left (List.getElem?_eq_some_iff.1 hv).1]; exact hv
  have hxM:(Bt.node l x r).list[l.list.length]? = some x:=by
   show (l.list++x::r.list)[_]? = _
   rw [List.getElem?_append_right (Nat.le_refl _)]; simp
  have hxR:∀ (j:Nat) (v:I.It),r.list[j]? = some v→(Bt.node l x r).list[l.list.length+1+j]? = some v:=fun j v hv=>by
   show (l.list++x::r.list)[_]? = _
   rw [List.getElem?_append_right (by omega),show l.list.length+1+j-l.list.length=j+1 by omega,List.getElem?_cons_succ]; exact hv
  unfold G_Walk
  refine bind_bool (((Bt.node l x r).list.length:Int)≤i) ?_ fun b h2 e2 hb=>?_
  ·exact s_ifF (wp_grd rfl (wp_grd rfl (wp_load1 (b:=.int .i64) (a.add (I.ni+2)) _ rfl (cAt st).nums.1 (s_ret ⟨rfl,Ext.refl _,_,rfl,geI_iff⟩))))
  have st2:=st.more e2
  have hj2:=hJ _ _ _ hj e2
  dsimp only
  refine wp_ifB (fun hc=>s_ret ⟨rfl,true,rfl,st2,fun _=>?_,fun h=>by cases h⟩) fun hc=>?_
  ·have:=hb.1 hc
   rw [show (Bt.node l x r).list.length-i.toNat=0 by omega]; exact hj2
  have hlt:i<((Bt.node l x r).list.length:Int):=by
   by_cases hx:((Bt.node l x r).list.length:Int)≤i
   ·rw [hb.2 hx] at hc; cases hc
   ·omega
  refine q_left (cAt st2) (wp_call (c_count (Nd.held st2.held n1)) fun n h3 e3 hn=>?_)
  obtain ⟨(n:Int),w⟩:=n
  dsimp only at hn ⊢
  subst hn
  have st3:=st2.more e3
  have hj3:=hJ _ _ _ hj2 e3
  refine wp_bind (fun tg vs h'=>tg=0∧∃ b:Bool,vs=[.bool b]∧St h0 m' y I h'∧(b=true→F h')∧(b=false→J (k+(l.list.length-i.toNat)) h')) ?_ ?_
  ·refine wp_ifB (fun hd=>?_) fun hd=>?_
   ·rw [ltI_iff] at hd
    refine s_any st3.cw (q_left (cAt st3) (wp_dyn (D.wk _ _ _ _) (wp_mono _ ?_ (ihl (k:=k) n1 (by omega) h0' h1 (fun j v hv hj=>hL j v (hxL j v hv) hj) st3 hj3))))
    rintro tg vs h4 ⟨rfl,b,rfl,st4,t4,f4⟩
    refine ⟨rfl,(b,()),rfl,s_ret ⟨rfl,notB b,rfl,st4,fun hb=>f4 (notB_iff.1 hb),fun hb=>t4 (notB_not.1 hb)⟩⟩
   ·rw [ltI_not] at hd
    refine s_ret ⟨rfl,false,rfl,st3,fun h=>(by cases h),fun _=>?_⟩
    rw [show l.list.length-i.toNat=0 by omega]; exact hj3
  rintro tg vs h4 ⟨rfl,b,rfl,st4,f4,t4⟩
  refine s_tag (s_castB (wp_ifB (fun hc=>s_ret ⟨rfl,false,rfl,st4,fun h=>(by cases h),fun _=>f4 hc⟩) fun hc=>?_))
  have hj4:=t4 hc
  refine wp_bind (fun tg vs h'=>tg=0∧∃ b:Bool,vs=[.bool b]∧St h0 m' y I h'∧(b=true→F h')∧(b=false→J (k+(l.list.length+1-i.toNat)) h')) ?_ ?_
  ·refine wp_ifB (fun hd=>?_) fun hd=>?_
   ·rw [leI_iff] at hd
    refine s_any st4.cy (q_item (cAt st4) (wp_callv ((hY _ x h4 (hL _ x hxM (by omega)) hj4 st4.sz st4.held).mono ?_)))
    rintro vs h5 ⟨b,rfl,fr,t5,f5⟩
    refine ⟨(b,()),rfl,s_ret ⟨rfl,notB b,rfl,st4.step fr,fun hb=>f5 (notB_iff.1 hb),fun hb=>?_⟩⟩
    have:=t5 (notB_not.1 hb)
    rw [show k+(l.list.length+1-i.toNat)=k+(l.list.length-i.toNat)+1 by omega]; exact this
   ·rw [leI_not] at hd
    refine s_ret ⟨rfl,false,rfl,st4,fun h=>(by cases h),fun _=>?_⟩
    rw [show l.list.length+1-i.toNat=l.list.length-i.toNat by omega]; exact hj4
  rintro tg vs h5 ⟨rfl,b,rfl,st5,f5,t5⟩
  refine s_tag (s_castB (wp_ifB (fun hc=>s_ret ⟨rfl,false,rfl,st5,fun h=>(by cases h),fun _=>f5 hc⟩) fun hc=>?_))
  have hj5:=t5 hc
  rw [sub_ok (a:=i) (by omega) (by omega),sub_ok (by omega) (by omega)]
  have hmx:maxI 0 (i-l.list.length-1)=((i.toNat-(l.list.length+1):Nat):Int):=by unfold maxI; split <;> omega
  rw [hmx]
  refine s_any st5.cw (q_right (cAt st5) (wp_dyn (D.wk _ _ _ _) (wp_mono _ ?_ (ihr (k:=k+(l.list.length+1-i.toNat)) n2 (by omega) (by omega) (by omega) (fun j v hv hj=>?_) st5 hj5))))
  ·rintro tg vs h6 ⟨rfl,b,rfl,st6,t6,f6⟩
   refine ⟨rfl,(b,()),rfl,s_ret ⟨rfl,b,rfl,st6,fun hb=>?_,f6⟩⟩
   have:=t6 hb
   rw [Int.toNat_natCast] at this
   rw [show k+((Bt.node l x r).list.length-i.toNat)=k+(l.list.length+1-i.toNat)+(r.list.length-(i.toNat-(l.list.length+1))) by omega]; exact this
  ·rw [Int.toNat_natCast] at hj ⊢
   have:=hL _ v (hxR j v hv) (by omega)
   rw [show k+(l.list.length+1-i.toNat)+(j-(i.toNat-(l.list.length+1)))=k+(l.list.length+1+j-i.toNat) by omega]; exact this
def AL (I:Inst) (L:List I.It) (k:Nat) (hp h1:Heap) (args:List Value):Prop:=∃ r,L[k]? = some r∧args=[ag I r]
theorem iter_items (O:I.Ok P) (D:Clos P I) {h0:Heap} {p:Option Addr} {t:Bt I.It} {a b:Addr} {i:Int} (nt:Nd I h0 p t) (hroom:I.W t.list≤4398046511104) (hi:fitsI .i64 i) (ca:Sw.cell h0 a=some (.pointer p)) (cb:Sw.cell h0 b=some (iv i)) (za:I.Z a.block) (zb:I.Z b.block) :
  IterG P (fItems I (some a) (some b)) (t.list.drop i.toNat).length (AL I (t.list.drop i.toNat)) I.Z 2 h0:=by
 intro h y J F hs hz fy sJ sF hY hj
 rw [fits_i64] at hi
 refine D.it _ _ _ h _ ?_
 unfold G_Items1
 refine wp_grd (by cases y <;> first | rfl | cases fy) fun el1=>?_
 have e1:Ext h (h.push (.cells [y].toArray el1)):=Ext.push ..
 have q1:Own h.size 1 (h.push (.cells [y].toArray el1)) ⟨some ⟨h.size,0,none⟩,1,1⟩ [y]:=own_alloc rfl (by decide) (by decide)
 have z1:(h.push (.cells [y].toArray el1)).size=h.size+1:=by simp
 generalize (h.push (.cells [y].toArray el1))=h1 at e1 q1 z1 ⊢
 intro el2
 have e2:Ext h1 (h1.push (.cells [.nilFunc].toArray el2)):=Ext.push ..
 have q2:Own h1.size 1 (h1.push (.cells [.nilFunc].toArray el2)) ⟨some ⟨h1.size,0,none⟩,1,1⟩ [.nilFunc]:=own_alloc rfl (by decide) (by decide)
 generalize (h1.push (.cells [.nilFunc].toArray el2))=h2 at e2 q2 ⊢
 rw [z1] at q2 ⊢
 refine s_putAll [fWalk I (some ⟨h.size+1,0,none⟩) (some ⟨h.size,0,none⟩)] q2 rfl (by intro v hv; rw [List.mem_singleton.1 hv]; rfl) fun h3 q3 u3=>?_
 have e13:Ext h1 h3:=Upd.extN e2 u3 (fun x hx=>by cases hx; exact Nat.le_of_eq z1)
 have e3:Ext h h3:=e1.trans e13
 have b3:=(q3.lt rfl).2
 dsimp only at b3
 have c3:Sw.cell h3 ⟨h.size+1,0,none⟩=some (fWalk I (some ⟨h.size+1,0,none⟩) (some ⟨h.size,0,none⟩)):=by have:=cells_iff.1 q3.cells 0 _ rfl; rwa [add_zero'] at this
 have cy3:Sw.cell h3 ⟨h.size,0,none⟩=some y:=by have:=cells_iff.1 (q1.ext e13).cells 0 _ rfl; rwa [add_zero'] at this
 have hz3:Held I.Z h0 h3:=hz.step (V:=fun _=>True) (Held.of_ext e3) fun _ _ _=>trivial
 have st:St h0 h.size y I h3:=⟨hz3,hs,b3,cy3,c3⟩
 refine s_any c3 (wp_grd rfl (wp_load1 (b:=.ptr) (a.add 0) p rfl (by rw [add_zero']; exact hz3.cell ca za) (wp_load1 (b:=.int .i64) b i rfl (hz3.cell cb zb) (wp_dyn (D.wk _ _ _ _) ?_))))
 have hmx:maxI 0 i=(i.toNat:Int):=by unfold maxI; split <;> omega
 rw [hmx]
 refine wp_mono _ ?_ (c_walk O D (L:=t.list.drop i.toNat) sJ (fun k r h1 hk hj hs1 hz1=>hY k h1 h1 [ag I r] (List.getElem?_eq_some_iff.1 hk).1 hj (by omega) (Chg.refl _ _) hs1 hz1 ⟨r,hk,rfl⟩) t (k:=0) nt hroom (by omega) (by omega) (fun j r hr hj=>?_) st (sJ _ _ _ hj (Chg.of_ext e3)))
 ·rintro tg vs h4 ⟨rfl,b,rfl,st4,t4,f4⟩
  have s4:=st4.sz
  refine ⟨rfl,(b,()),rfl,s_ret ⟨rfl,rfl,by omega,st4.held,?_⟩⟩
  cases b with
  | true=>left; have:=t4 rfl; rw [Int.toNat_natCast,Nat.zero_add] at this; rw [List.length_drop]; exact this
  | false=>exact .inr (f4 rfl)
 ·rw [Int.toNat_natCast] at hj ⊢
  rw [List.getElem?_drop,Nat.zero_add,show i.toNat+(j-i.toNat)=j by omega]; exact hr
end Go.Sw.Any

set_option linter.unusedVariables false
set_option linter.unusedSimpArgs false
set_option maxRecDepth 100000
namespace Go.Sw.Piece
open Go.Sw.Any
open Go.Sw.Tree (iv s_putAll s_newP s_getP s_getT s_putP eqI_self Placed cell_own)
variable {P:Program} {S:Ids} {h:Heap} {Q:Nat→List Value→Heap→Prop}
abbrev PB:List B:=[.sl, .int .i64, .int .i64, .int .i64, .int .i64, .bool, .bool]
abbrev SB:List B:=[.int .i64, .int .i64, .int .i64, .bool, .bool]
abbrev Part:=Sl×Int×Int×Int×Int×Bool×Bool×Unit
abbrev Sums:=Int×Int×Int×Bool×Bool×Unit
def zS:Sums:=(0,0,0,false,false,())
def zP:Part:=(⟨none,0,0⟩,0,0,0,0,false,false,())
def sumP (p:Part):Sums:=(p.2.2.1,p.2.2.2.1,p.2.2.2.2.1,p.2.2.2.2.2.1,p.2.2.2.2.2.2.1,())
def brk (s o:Sums):Int:=if s.2.2.2.2.1=true∧o.2.2.2.1=true then 1 else 0
def addS (s o:Sums):Sums:=if s.1=0 then o else if o.1=0 then s else (s.1+o.1,s.2.1+o.2.1,s.2.2.1+o.2.2.1-brk s o,s.2.2.2.1,o.2.2.2.2.1,())
def keyS (s:Sums) (k:Int):Int:=if k=0 then s.1 else if k=1 then s.2.2.1 else 0
def VS (n:Nat) (s:Sums):Prop:=0≤s.1∧s.1≤n∧0≤s.2.1∧s.2.1≤4*n∧0≤s.2.2.1∧s.2.2.1≤n∧(s.1=0→s=zS)∧(s.2.2.2.1=true→1≤s.2.2.1)
def wtP (p:Part):Nat:=max 1 p.2.2.1.toNat
theorem flatS (s:Sums):∀ v,v∈Bs.inj SB s→flat v=true:=by
 intro v hv; simp only [SB,Bs.inj,List.mem_cons,List.not_mem_nil,or_false] at hv; rcases hv with rfl | rfl | rfl | rfl | rfl <;> rfl
theorem flatP (s:Part):∀ v,v∈Bs.inj PB s→flat v=true:=by
 intro v hv; simp only [PB,Bs.inj,List.mem_cons,List.not_mem_nil,or_false] at hv; rcases hv with rfl | rfl | rfl | rfl | rfl | rfl | rfl <;> rfl
theorem brk_le (s o:Sums):0≤brk s o∧brk s o≤1∧(brk s o=1→o.2.2.2.1=true):=by
 unfold brk
 split
 ·rename_i hx; exact ⟨by omega,by omega,fun _=>hx.2⟩
 ·exact ⟨by omega,by omega,fun h=>by omega⟩
theorem addS_zero_left (o:Sums):addS zS o=o:=by unfold addS; rw [if_pos (show zS.1=0 from rfl)]
theorem addS_l0 {x o:Sums} (h:x.1=0):addS x o=o:=by unfold addS; rw [if_pos h]
theorem addS_zero_right {n:Nat} {s:Sums} (v:VS n s):addS s zS=s:=by
 unfold addS
 by_cases h0:s.1=0
 ·rw [if_pos h0]; exact (v.2.2.2.2.2.2.1 h0).symm
 ·rw [if_neg h0,if_pos (show zS.1=0 from rfl)]
theorem VS.mono {n m:Nat} {s:Sums} (v:VS n s) (h:n≤m):VS m s:=by
 obtain ⟨a,b,c,d,e,f,g,i⟩:=v
 exact ⟨a,by omega,c,by omega,e,by omega,g,i⟩
theorem VS.add {n m:Nat} {s o:Sums} (v:VS n s) (w:VS m o):VS (n+m) (addS s o):=by
 unfold addS
 by_cases h0:s.1=0
 ·rw [if_pos h0]; exact w.mono (by omega)
 ·rw [if_neg h0]
  by_cases h1:o.1=0
  ·rw [if_pos h1]; exact v.mono (by omega)
  ·rw [if_neg h1]
   obtain ⟨a,b,c,d,e,f,g,i⟩:=v
   obtain ⟨a',b',c',d',e',f',g',i'⟩:=w
   obtain ⟨k1,k2,k3⟩:=brk_le s o
   have hk:brk s o≤o.2.2.1:=by
    by_cases h2:brk s o=1
    ·have:=i' (k3 h2); omega
    ·omega
   refine ⟨by dsimp only; omega,by dsimp only; omega,by dsimp only; omega,by dsimp only; omega,by dsimp only; omega,by dsimp only; omega,fun h=>by dsimp only at h; omega,fun h=>?_⟩
   have:=i h
   dsimp only; omega
theorem addS_assoc {n m k:Nat} {x y z:Sums} (vx:VS n x) (vy:VS m y) (vz:VS k z):addS (addS x y) z=addS x (addS y z):=by
 by_cases hx:x.1=0
 ·rw [addS_l0 hx,addS_l0 hx]
 by_cases hy:y.1=0
 ·have h1:addS x y=x:=by unfold addS; rw [if_neg hx,if_pos hy]
  have h2:addS y z=z:=by unfold addS; rw [if_pos hy]
  rw [h1,h2]
 by_cases hz:z.1=0
 ·have h1:addS y z=y:=by unfold addS; rw [if_neg hy,if_pos hz]
  have h2:∀ w:Sums,w.1≠0→addS w z=w:=fun w hw=>by unfold addS; rw [if_neg hw,if_pos hz]
  rw [h1]
  refine h2 _ ?_
  have:=vx.1; have:=vy.1
  unfold addS; rw [if_neg hx,if_neg hy]; dsimp only; omega
 have e1:addS x y=(x.1+y.1,x.2.1+y.2.1,x.2.2.1+y.2.2.1-brk x y,x.2.2.2.1,y.2.2.2.2.1,()):=by unfold addS; rw [if_neg hx,if_neg hy]
 have e2:addS y z=(y.1+z.1,y.2.1+z.2.1,y.2.2.1+z.2.2.1-brk y z,y.2.2.2.1,z.2.2.2.2.1,()):=by unfold addS; rw [if_neg hy,if_neg hz]
 have:=vx.1; have:=vy.1; have:=vz.1
 rw [e1,e2]
 unfold addS
 dsimp only
 rw [if_neg (by omega),if_neg hz,if_neg hx,if_neg (by omega)]
 have b1:brk (x.1+y.1,x.2.1+y.2.1,x.2.2.1+y.2.2.1-brk x y,x.2.2.2.1,y.2.2.2.2.1,()) z=brk y z:=rfl
 have b2:brk x (y.1+z.1,y.2.1+z.2.1,y.2.2.1+z.2.2.1-brk y z,y.2.2.2.1,z.2.2.2.2.1,())=brk x y:=rfl
 rw [b1,b2]
 congr 1
 ·omega
 ·congr 1
  ·omega
  ·congr 1; omega
theorem keyS_mono {n m:Nat} {s o:Sums} (v:VS n s) (w:VS m o) (k:Int):keyS s k≤keyS (addS s o) k:=by
 obtain ⟨a,b,c,d,e,f,g,i⟩:=v
 obtain ⟨a',b',c',d',e',f',g',i'⟩:=w
 unfold addS
 by_cases h0:s.1=0
 ·rw [if_pos h0,g h0]
  unfold keyS zS
  (repeat' split) <;> first | omega | (dsimp only; omega)
 ·rw [if_neg h0]
  by_cases h1:o.1=0
  ·rw [if_pos h1]; exact Int.le_refl _
  ·rw [if_neg h1]
   obtain ⟨k1,k2,k3⟩:=brk_le s o
   have hk:brk s o≤o.2.2.1:=by
    by_cases h2:brk s o=1
    ·have:=i' (k3 h2); omega
    ·omega
   unfold keyS
   (repeat' split) <;> first | omega | (dsimp only; omega)
theorem c_Measure {x:Part}:Gives P (F_part_Measure S x) [.agg SB] h fun (y:Sums×Unit) _=>y.1=sumP x:=by
 unfold F_part_Measure Gives
 refine s_newO (bs:=PB) x (by decide) fun h1 e1 o1=>s_newO (bs:=SB) zS (by decide) fun h2 e2 o2=>?_
 refine ⟨(⟨h.size,0,none⟩:Addr).add 2,rfl,sumP x,cells_iff.2 fun j v hj=>?_,?_⟩
 ·rw [add_add]
  refine cells_iff.1 (o1.ext e2).cells _ _ ?_
  match j,hj with
  | 0,hj=>exact hj
  | 1,hj=>exact hj
  | 2,hj=>exact hj
  | 3,hj=>exact hj
  | 4,hj=>exact hj
  | j+5,hj=>simp [Ty.cells,Bs.inj] at hj
 ·exact s_tellO (bs:=SB) (sumP x) o2 e1.size (e1.trans e2) (flatS _) fun h' e=>⟨rfl,e,(sumP x,()),rfl,rfl⟩
theorem c_Key {n:Nat} {s:Sums} {k:Int}:Gives P (F_sums_Key S s k) [.one (.int .i64)] h fun (y:Int×Unit) _=>y.1=keyS s k:=by
 unfold F_sums_Key Gives keyS
 refine s_newO (bs:=SB) s (by decide) fun h1 e1 o1=>wp_ifB (fun hc=>?_) fun hc=>wp_ifB (fun hd=>?_) fun hd=>?_
 ·rw [eqI_iff] at hc; rw [if_pos hc]
  exact wp_load1 (b:=.int .i64) _ s.1 rfl (cells_iff.1 o1.cells 0 _ rfl) (s_ret ⟨rfl,e1,(s.1,()),rfl,rfl⟩)
 ·rw [eqI_not] at hc; rw [eqI_iff] at hd; rw [if_neg hc,if_pos hd]
  exact wp_load1 (b:=.int .i64) _ s.2.2.1 rfl (cells_iff.1 o1.cells 2 _ rfl) (s_ret ⟨rfl,e1,(s.2.2.1,()),rfl,rfl⟩)
 ·rw [eqI_not] at hc hd; rw [if_neg hc,if_neg hd]
  exact s_ret ⟨rfl,e1,(0,()),rfl,rfl⟩
theorem c_Add {n m:Nat} {s o:Sums} (v:VS n s) (w:VS m o) (hn:n+m≤4398046511104):Gives P (F_sums_Add S s o) [.agg SB] h fun (y:Sums×Unit) _=>y.1=addS s o:=by
 obtain ⟨a,b,c,d,e,f,g,i⟩:=id v
 obtain ⟨a',b',c',d',e',f',g',i'⟩:=id w
 unfold F_sums_Add Gives
 refine s_newO (bs:=SB) s (by decide) fun h1 e1 o1=>s_newO (bs:=SB) o (by decide) fun h2 e2 o2=>s_newO (bs:=SB) zS (by decide) fun h3 e3 o3=>?_
 have e23:=e2.trans e3
 have l1:∀ {h'} {b:B} {j:Nat} {x:b.den} {K:b.den→Prog} {Q:Nat→List Value→Heap→Prop},Ext h3 h'→(Bs.inj SB s)[j]? = some (b.inj x)→wp P (K x) h' Q→wp P (.load (.one b) (shiftTo (some ⟨h.size,0,none⟩) j) K) h' Q:=fun e hj hk=>wp_load1 _ _ rfl (cells_iff.1 (o1.ext (e23.trans e)).cells _ _ hj) hk
 have l2:∀ {h'} {b:B} {j:Nat} {x:b.den} {K:b.den→Prog} {Q:Nat→List Value→Heap→Prop},Ext h3 h'→(Bs.inj SB o)[j]? = some (b.inj x)→wp P (K x) h' Q→wp P (.load (.one b) (shiftTo (some ⟨h1.size,0,none⟩) j) K) h' Q:=fun e hj hk=>wp_load1 _ _ rfl (cells_iff.1 (o2.ext (e3.trans e)).cells _ _ hj) hk
 refine l1 (b:=.int .i64) (x:=s.1) (Ext.refl _) rfl (wp_ifB (fun hc=>?_) fun hc=>?_)
 ·rw [eqI_iff] at hc
  refine s_getO (bs:=SB) (o2.ext e3) (s_tellO (bs:=SB) o o3 (Nat.le_trans e1.size e2.size) (e1.trans e23) (flatS _) fun h' e=>⟨rfl,e,(o,()),rfl,?_⟩)
  unfold addS; rw [if_pos hc]
 rw [eqI_not] at hc
 refine l2 (b:=.int .i64) (x:=o.1) (Ext.refl _) rfl (wp_ifB (fun hd=>?_) fun hd=>?_)
 ·rw [eqI_iff] at hd
  refine s_getO (bs:=SB) (o1.ext e23) (s_tellO (bs:=SB) s o3 (Nat.le_trans e1.size e2.size) (e1.trans e23) (flatS _) fun h' e=>⟨rfl,e,(s,()),rfl,?_⟩)
  unfold addS; rw [if_neg hc,if_pos hd]
 rw [eqI_not] at hd
 refine l1 (b:=.int .i64) (x:=s.1) (Ext.refl _) rfl (l2 (b:=.int .i64) (x:=o.1) (Ext.refl _) rfl (l1 (b:=.int .i64) (x:=s.2.1) (Ext.refl _) rfl (l2 (b:=.int .i64) (x:=o.2.1) (Ext.refl _) rfl
  (l1 (b:=.int .i64) (x:=s.2.2.1) (Ext.refl _) rfl (l2 (b:=.int .i64) (x:=o.2.2.1) (Ext.refl _) rfl (l1 (b:=.bool) (x:=s.2.2.2.1) (Ext.refl _) rfl (l2 (b:=.bool) (x:=o.2.2.2.2.1) (Ext.refl _) rfl ?_)))))))
 rw [add_ok (a:=s.1) (by omega) (by omega),add_ok (a:=s.2.1) (by omega) (by omega),add_ok (a:=s.2.2.1) (by omega) (by omega)]
 refine s_putO (bs:=SB) (z:=zS) (s.1+o.1,s.2.1+o.2.1,s.2.2.1+o.2.2.1,s.2.2.2.1,o.2.2.2.2.1,()) (by decide) (flatS _) fun h4 e4 o4=>?_
 have hadd:addS s o=(s.1+o.1,s.2.1+o.2.1,s.2.2.1+o.2.2.1-brk s o,s.2.2.2.1,o.2.2.2.2.1,()):=by unfold addS; rw [if_neg hc,if_neg hd]
 refine wp_bind (fun t vs h'=>t=0∧vs=[]∧Ext h3 h'∧Own h3.size 1 h' ⟨some ⟨h3.size,0,none⟩,5,5⟩ (Bs.inj SB (addS s o))) ?_ ?_
 ·refine bind_bool (s.2.2.2.2.1=true∧o.2.2.2.1=true) ?_ fun bb h5 e5 hb=>wp_ifB (fun hx=>?_) fun hx=>?_
  ·refine l1 (b:=.bool) (x:=s.2.2.2.2.1) e4 rfl (wp_ifB (fun hx=>?_) fun hx=>s_ret ⟨rfl,Ext.refl _,false,rfl,Iff.intro (fun h=>by cases h) fun h=>by rw [h.1] at hx; cases hx⟩)
   exact l2 (b:=.bool) (x:=o.2.2.2.1) e4 rfl (s_ret ⟨rfl,Ext.refl _,_,rfl,fun h=>⟨hx,h⟩,fun h=>h.2⟩)
  ·have hbr:brk s o=1:=by unfold brk; rw [if_pos (hb.1 hx)]
   refine wp_load1 (b:=.int .i64) _ (s.2.2.1+o.2.2.1) rfl (cells_iff.1 (o4.ext e5).cells 2 _ rfl) ?_
   rw [sub_ok (by omega) (by omega)]
   refine s_setC' (vs:=Bs.inj SB (s.1+o.1,s.2.1+o.2.1,s.2.2.1+o.2.2.1,s.2.2.2.1,o.2.2.2.2.1,())) (iv (s.2.2.1+o.2.2.1-1)) (o4.ext e5) (by simp [Bs.inj]) rfl fun h6 o6 u6=>s_ret ⟨rfl,rfl,?_,?_⟩
   ·exact Upd.extN (e4.trans e5) u6 (by intro x hx; cases hx; exact Nat.le_refl _)
   ·rw [hadd,hbr]; exact o6
  ·refine s_ret ⟨rfl,rfl,e4.trans e5,?_⟩
   have hbr:brk s o=0:=by unfold brk; rw [if_neg fun k=>by rw [hb.2 k] at hx; cases hx]
   rw [hadd,hbr,Int.sub_zero]; exact o4.ext e5
 ·rintro t vs h5 ⟨rfl,rfl,e5,o5⟩
  exact s_tag (s_cast0 (s_getO (bs:=SB) o5 (s_tellO (bs:=SB) (addS s o) (o3.ext e5) (Nat.le_trans e1.size e2.size) ((e1.trans e23).trans e5) (flatS _) fun h' e=>⟨rfl,e,(addS s o,()),rfl,rfl⟩)))
theorem VS.zero:VS 0 zS:=⟨by decide,by decide,by decide,by decide,by decide,by decide,fun _=>rfl,fun h=>by cases h⟩
def part (S:Ids) (Z:Nat→Prop):Inst where
 iB:=PB
 sB:=SB
 zi:=zP
 zs:=zS
 mF:=F_part_Measure S
 aF:=F_sums_Add S
 kF:=F_sums_Key S
 f1:=S.f_Tree_part_Items_1
 f2:=S.f_Tree_part_Items_1_1
 okI:=fun p=>VS (wtP p) (sumP p)
 wt:=wtP
 V:=VS
 meas:=sumP
 add:=addS
 key:=keyS
 Z:=Z
theorem part_ok (S:Ids) (Z:Nat→Prop):(part S Z).Ok P where
 i1:=(by decide:1≤7∧7≤100)
 s1:=(by decide:1≤5∧5≤100)
 fi:=flatP
 fs:=flatS
 w1:=fun x=>by show 1≤wtP x; unfold wtP; omega
 v0:=VS.zero
 vm:=fun x h=>h
 va:=fun n m s o v w=>v.add w
 mono:=fun n m s v h=>v.mono h
 az:=fun n s v=>addS_zero_right v
 za:=fun n s v=>addS_zero_left s
 assoc:=fun n m k x y z a b c=>addS_assoc a b c
 key0:=fun k=>by show keyS zS k=0; unfold keyS zS; (repeat' split) <;> rfl
 kmono:=fun n m s o k v w=>keyS_mono v w k
 cm:=fun h x _=>c_Measure (S:=S)
 ca:=fun h n m s o v w hn=>c_Add (S:=S) v w hn
 ck:=fun h n s k v _=>c_Key (S:=S) (n:=n)
variable {Z:Nat→Prop}
theorem g_build (S:Ids) (Z:Nat→Prop):∀ n,R_tree_build_part n S=Gr_build n (part S Z)
 | 0=>rfl
 | n+1=>by
  funext items
  show R_tree_build_part (n+1) S items=_
  unfold R_tree_build_part
  rw [g_build S Z n]
  rfl
theorem g_join (S:Ids) (Z:Nat→Prop):∀ n,R_tree_join_part n S=Gr_join n (part S Z)
 | 0=>rfl
 | n+1=>by
  funext l x r
  show R_tree_join_part (n+1) S l x r=_
  unfold R_tree_join_part
  rw [g_join S Z n]
  rfl
theorem g_joinF (S:Ids) (Z:Nat→Prop):F_tree_join_part S=G_join (part S Z):=by
 funext l x r
 unfold F_tree_join_part G_join
 simp only [g_join S Z]
theorem g_cut (S:Ids) (Z:Nat→Prop):∀ n,R_node_part_cut n S=Gr_cut n (part S Z)
 | 0=>rfl
 | n+1=>by
  funext p i
  show R_node_part_cut (n+1) S p i=_
  unfold R_node_part_cut
  rw [g_cut S Z n,g_joinF S Z]
  rfl
theorem g_first (S:Ids) (Z:Nat→Prop):∀ n,R_node_part_first n S=Gr_first n (part S Z)
 | 0=>rfl
 | n+1=>by
  funext p
  show R_node_part_first (n+1) S p=_
  unfold R_node_part_first
  rw [g_first S Z n]
  rfl
theorem g_both (S:Ids) (Z:Nat→Prop):F_tree_both_part S=G_both (part S Z):=by
 funext l r
 unfold F_tree_both_part G_both F_node_part_first G_first
 rw [g_joinF S Z]
 simp only [g_first S Z]
 rfl
theorem g_Of (S:Ids) (Z:Nat→Prop) (s:Sl):F_tree_Of_part S s=G_Of (part S Z) s:=by
 unfold F_tree_Of_part G_Of F_tree_build_part G_build
 simp only [g_build S Z]
theorem g_Replace (S:Ids) (Z:Nat→Prop) (t:Option Addr×Unit) (i j:Int) (s:Sl):F_Tree_part_Replace S t i j s=G_Replace (part S Z) t i j s:=by
 unfold F_Tree_part_Replace G_Replace F_tree_build_part G_build F_node_part_cut G_cut
 rw [g_both S Z]
 simp only [g_build S Z,g_cut S Z]
 rfl
end Go.Sw.Piece

set_option linter.unusedVariables false
set_option linter.unusedSimpArgs false
set_option maxRecDepth 100000
namespace Go.Sw.Piece
open Go.Sw.Codec
def toksN (enc:Int):Nat→List Int→List (Int×Int)
 | 0,_=>[]
 | n+1,l=>if l.length=0 then [] else firstF enc l::toksN enc n (l.drop (firstF enc l).2.toNat)
def toks (enc:Int) (l:List Int):List (Int×Int):=toksN enc l.length l
theorem toksN_enough {enc:Int}:∀ (n m:Nat) (l:List Int),isBytes l→l.length≤n→l.length≤m→toksN enc n l=toksN enc m l:=by
 intro n
 induction n with
 | zero=>
  intro m l hb hn hm
  cases m with
  | zero=>rfl
  | succ m=>simp only [toksN]; rw [if_pos (by omega)]
 | succ n ih=>
  intro m l hb hn hm
  cases m with
  | zero=>simp only [toksN]; rw [if_pos (by omega)]
  | succ m=>
   simp only [toksN]
   by_cases hz:l.length=0
   ·rw [if_pos hz,if_pos hz]
   ·rw [if_neg hz,if_neg hz]
    have:=firstF_size (enc:=enc) (l:=l) (by omega) hb
    rw [ih m _ (hb.drop _) (by rw [List.length_drop]; omega) (by rw [List.length_drop]; omega)]
theorem toks_nil {enc:Int} {l:List Int} (h:l.length=0):toks enc l=[]:=by unfold toks; rw [h]; rfl
theorem toks_cons {enc:Int} {l:List Int} (hb:isBytes l) (h:0<l.length):toks enc l=firstF enc l::toks enc (l.drop (firstF enc l).2.toNat):=by
 have:=firstF_size (enc:=enc) h hb
 unfold toks
 rw [toksN_enough l.length (l.length-1+1) l hb (by omega) (by omega)]
 simp only [toksN]
 rw [if_neg (by omega),toksN_enough (l.length-1) (l.drop (firstF enc l).2.toNat).length _ (hb.drop _) (by rw [List.length_drop]; omega) (by omega)]
theorem byAtoms {enc:Int} {M:List Int→Prop} (h0:∀ l,l.length=0→M l) (h1:∀ l,isBytes l→0<l.length→M (l.drop (firstF enc l).2.toNat)→M l):∀ l,isBytes l→M l:=by
 have:∀ (n:Nat) (l:List Int),l.length=n→isBytes l→M l:=by
  intro n
  induction n using Nat.strongRecOn with
  | ind n ih=>
   intro l hn hb
   by_cases hz:l.length=0
   ·exact h0 l hz
   ·have hs:=firstF_size (enc:=enc) (l:=l) (by omega) hb
    exact h1 l hb (by omega) (ih _ (by rw [List.length_drop]; omega) _ rfl (hb.drop _))
 exact fun l hb=>this _ l rfl hb
def offs (ts:List (Int×Int)):Nat:=(ts.map fun t=>t.2.toNat).sum
theorem offs_nil:offs []=0:=rfl
theorem offs_cons (t:Int×Int) (ts:List (Int×Int)):offs (t::ts)=t.2.toNat+offs ts:=by simp [offs]
theorem offs_append (a b:List (Int×Int)):offs (a++b)=offs a+offs b:=by simp [offs]
theorem toks_offs {enc:Int} {l:List Int} (hb:isBytes l):offs (toks enc l)=l.length:=by
 refine byAtoms (enc:=enc) (M:=fun l=>offs (toks enc l)=l.length) (fun l hz=>?_) (fun l hb hl ih=>?_) l hb
 ·rw [toks_nil hz,hz]; rfl
 ·have hs:=firstF_size (enc:=enc) hl hb
  rw [toks_cons hb hl,offs_cons,ih,List.length_drop]; omega
theorem toks_size {enc:Int} {l:List Int} (hb:isBytes l):∀ t,t∈toks enc l→1≤t.2∧t.2≤4:=by
 refine byAtoms (enc:=enc) (M:=fun l=>∀ t,t∈toks enc l→1≤t.2∧t.2≤4) (fun l hz t ht=>?_) (fun l hb hl ih t ht=>?_) l hb
 ·rw [toks_nil hz] at ht; cases ht
 ·have hs:=firstF_size (enc:=enc) hl hb
  rw [toks_cons hb hl] at ht
  rcases List.mem_cons.1 ht with rfl | ht
  ·exact ⟨hs.1,hs.2.1⟩
  ·exact ih t ht
theorem toks_fits {enc:Int} {l:List Int} (hb:isBytes l):∀ t,t∈toks enc l→fitsI .i64 t.1:=by
 refine byAtoms (enc:=enc) (M:=fun l=>∀ t,t∈toks enc l→fitsI .i64 t.1) (fun l hz t ht=>?_) (fun l hb hl ih t ht=>?_) l hb
 ·rw [toks_nil hz] at ht; cases ht
 ·rw [toks_cons hb hl] at ht
  rcases List.mem_cons.1 ht with rfl | ht
  ·exact firstF_fits hb
  ·exact ih t ht
theorem toks_len {enc:Int} {l:List Int} (hb:isBytes l):(toks enc l).length≤l.length∧(0<l.length→0<(toks enc l).length)∧l.length≤4*(toks enc l).length:=by
 refine byAtoms (enc:=enc) (M:=fun l=>(toks enc l).length≤l.length∧(0<l.length→0<(toks enc l).length)∧l.length≤4*(toks enc l).length) (fun l hz=>?_) (fun l hb hl ih=>?_) l hb
 ·rw [toks_nil hz]; simp [hz]
 ·have hs:=firstF_size (enc:=enc) hl hb
  have:=ih.1
  have h3:=ih.2.2
  rw [List.length_drop] at this h3
  rw [toks_cons hb hl]
  simp only [List.length_cons]
  exact ⟨by omega,fun _=>by omega,by omega⟩
theorem toks_at {enc:Int} {l:List Int} (hb:isBytes l):∀ n,n≤(toks enc l).length→Bnd enc l (offs ((toks enc l).take n))∧toks enc (l.drop (offs ((toks enc l).take n)))=(toks enc l).drop n:=by
 intro n
 induction n with
 | zero=>intro _; rw [List.take_zero,offs_nil,List.drop_zero,List.drop_zero]; exact ⟨.zero,rfl⟩
 | succ n ih=>
  intro hn
  obtain ⟨h1,h2⟩:=ih (by omega)
  have hd:(toks enc l).drop n=(toks enc l)[n]::(toks enc l).drop (n+1):=List.drop_eq_getElem_cons (by omega)
  generalize hk:offs ((toks enc l).take n)=k at h1 h2
  have hkl:0<(l.drop k).length:=by
   by_cases hz:(l.drop k).length=0
   ·rw [toks_nil hz,hd] at h2; cases h2
   ·omega
  have h3:=toks_cons (enc:=enc) (hb.drop k) hkl
  rw [h2,hd,List.cons.injEq] at h3
  have ht:(toks enc l).take (n+1)=(toks enc l).take n++[(toks enc l)[n]]:=by rw [List.take_add_one,List.getElem?_eq_getElem (by omega)]; rfl
  rw [ht,offs_append,offs_cons,offs_nil,Nat.add_zero,hk,h3.1]
  rw [List.length_drop] at hkl
  exact ⟨h1.step (by omega),by rw [← List.drop_drop, ← h3.2]⟩
theorem toks_take {enc:Int} {l:List Int} (hb:isBytes l):∀ n,n≤(toks enc l).length→toks enc (l.take (offs ((toks enc l).take n)))=(toks enc l).take n:=by
 refine byAtoms (enc:=enc) (M:=fun l=>∀ n,n≤(toks enc l).length→toks enc (l.take (offs ((toks enc l).take n)))=(toks enc l).take n) (fun l hz n hn=>?_) (fun l hb hl ih n hn=>?_) l hb
 ·rw [toks_nil hz]; simp [offs]; exact toks_nil rfl
 ·cases n with
  | zero=>simp [offs]; exact toks_nil rfl
  | succ n=>
   have hm:=(toks_at hb (n+1) hn).1
   have hs:=firstF_size (enc:=enc) hl hb
   have e:=toks_cons (enc:=enc) hb hl
   rw [e] at hm hn ⊢
   rw [List.take_succ_cons,offs_cons] at hm ⊢
   rw [List.length_cons] at hn
   have hml:=hm.le hb
   generalize hmm:offs ((toks enc (l.drop (firstF enc l).2.toNat)).take n)=m' at hm hml ⊢
   have e2:=first_in_take hb hm .zero (by omega)
   rw [List.drop_zero,List.drop_zero] at e2
   rw [toks_cons (hb.take _) (by rw [List.length_take]; omega),e2,List.drop_take,Nat.add_sub_cancel_left, ← hmm,ih n (by omega)]
def oneS (t:Int×Int):Sums:=(1,t.2,if t.1=10∨t.1=13 then 1 else 0,decide (t.1=10),decide (t.1=13),())
def sumT (ts:List (Int×Int)):Sums:=ts.foldl (fun s t=>addS s (oneS t)) zS
theorem VS.one {t:Int×Int} (h:1≤t.2∧t.2≤4):VS 1 (oneS t):=by
 unfold oneS
 refine ⟨by dsimp only; omega,by dsimp only; omega,by dsimp only; omega,by dsimp only; omega,?_,?_,(fun h=>by cases h),fun h=>?_⟩
 ·dsimp only; split <;> omega
 ·dsimp only; split <;> omega
 ·dsimp only at h ⊢
  rw [decide_eq_true_eq] at h
  rw [if_pos (.inl h)]; omega
def okT (ts:List (Int×Int)):Prop:=∀ t,t∈ts→1≤t.2∧t.2≤4
theorem okT.take {a:List (Int×Int)} (h:okT a) (n:Nat):okT (a.take n):=fun t ht=>h t (List.mem_of_mem_take ht)
theorem okT.drop {a:List (Int×Int)} (h:okT a) (n:Nat):okT (a.drop n):=fun t ht=>h t (List.mem_of_mem_drop ht)
theorem foldT {ts:List (Int×Int)} (h:okT ts):∀ {n:Nat} {s:Sums},VS n s→VS (n+ts.length) (ts.foldl (fun s t=>addS s (oneS t)) s):=by
 induction ts with
 | nil=>intro n s v; exact v
 | cons t ts ih=>
  intro n s v
  have:=ih (fun x hx=>h x (List.mem_cons_of_mem _ hx)) (v.add (VS.one (h t (List.mem_cons_self ..))))
  exact this.mono (by simp only [List.length_cons]; omega)
theorem VS.sumT {ts:List (Int×Int)} (h:okT ts):VS ts.length (sumT ts):=(foldT h VS.zero).mono (by omega)
theorem foldT_add {ts:List (Int×Int)} (h:okT ts):∀ {n m:Nat} {s o:Sums},VS n s→VS m o→ts.foldl (fun s t=>addS s (oneS t)) (addS s o)=addS s (ts.foldl (fun s t=>addS s (oneS t)) o):=by
 induction ts with
 | nil=>intros; rfl
 | cons t ts ih=>
  intro n m s o v w
  have ht:=VS.one (h t (List.mem_cons_self ..))
  simp only [List.foldl_cons]
  rw [addS_assoc v w ht]
  exact ih (fun x hx=>h x (List.mem_cons_of_mem _ hx)) v (w.add ht)
theorem sumT_append {a b:List (Int×Int)} (ha:okT a) (hb:okT b):sumT (a++b)=addS (sumT a) (sumT b):=by
 unfold Piece.sumT
 rw [List.foldl_append]
 have:=foldT_add hb (VS.sumT ha) VS.zero
 rw [addS_zero_right (VS.sumT ha)] at this
 exact this
theorem sumT_snoc (a:List (Int×Int)) (t:Int×Int):sumT (a++[t])=addS (sumT a) (oneS t):=by unfold sumT; rw [List.foldl_append]; rfl
theorem fold_is {ts:List (Int×Int)} (h:okT ts):∀ {n:Nat} {s:Sums},VS n s→(ts.foldl (fun s t=>addS s (oneS t)) s).1=s.1+ts.length∧(ts.foldl (fun s t=>addS s (oneS t)) s).2.1=s.2.1+offs ts:=by
 induction ts with
 | nil=>intro n s v; simp [offs]
 | cons t ts ih=>
  intro n s v
  have ht:=h t (List.mem_cons_self ..)
  have h1:=ih (fun x hx=>h x (List.mem_cons_of_mem _ hx)) (v.add (VS.one ht))
  have h2:(addS s (oneS t)).1=s.1+1∧(addS s (oneS t)).2.1=s.2.1+t.2:=by
   unfold addS
   by_cases h0:s.1=0
   ·rw [if_pos h0]
    have hz:=v.2.2.2.2.2.2.1 h0
    rw [hz]; exact ⟨rfl,by show t.2=(0:Int)+t.2; omega⟩
   ·rw [if_neg h0,if_neg (show (oneS t).1≠0 by show (1:Int)≠0; decide)]; exact ⟨rfl,rfl⟩
  rw [List.foldl_cons,h1.1,h1.2,h2.1,h2.2,offs_cons,List.length_cons]
  omega
theorem sumT_is {ts:List (Int×Int)} (h:okT ts):(sumT ts).1=ts.length∧(sumT ts).2.1=offs ts:=by
 have h1:=fold_is h VS.zero
 have e:zS.1=0∧zS.2.1=0:=⟨rfl,rfl⟩
 rw [e.1,e.2] at h1
 unfold sumT
 omega
end Go.Sw.Piece

set_option linter.unusedVariables false
set_option linter.unusedSimpArgs false
set_option maxRecDepth 100000
namespace Go.Sw.Piece
open Go.Sw.Any Go.Sw.Codec
open Go.Sw.Tree (iv s_putAll s_newP s_getP s_getT s_putP eqI_self Placed cell_own wp_whileG)
variable {P:Program} {S:Ids} {h:Heap} {Q:Nat→List Value→Heap→Prop}
theorem eqI_dec (a b:Int):eqI a b=decide (a=b):=by
 by_cases h:a=b
 ·rw [eqI_iff.2 h,decide_eq_true h]
 ·rw [eqI_not.2 h,decide_eq_false h]
theorem c_single {atom size:Int}:Gives P (F_piece_single S atom size) [.agg SB] h fun (y:Sums×Unit) _=>y.1=oneS (atom,size):=by
 unfold F_piece_single Gives
 refine s_newO (bs:=SB) zS (by decide) fun h1 e1 o1=>?_
 rw [eqI_dec,eqI_dec]
 refine s_putO (bs:=SB) (z:=zS) (1,size,0,decide (atom=10),decide (atom=13),()) (by decide) (flatS _) fun h2 e2 o2=>?_
 refine wp_bind (fun t vs h'=>t=0∧vs=[]∧Ext h1 h'∧Own h1.size 1 h' ⟨some ⟨h1.size,0,none⟩,5,5⟩ (Bs.inj SB (oneS (atom,size)))) ?_ ?_
 ·refine bind_bool (atom=10∨atom=13) ?_ fun bb h5 e5 hb=>wp_ifB (fun hx=>?_) fun hx=>?_
  ·refine wp_load1 (b:=.bool) _ (decide (atom=10)) rfl (cells_iff.1 o2.cells 3 _ rfl) (wp_ifB (fun hx=>s_ret ⟨rfl,Ext.refl _,true,rfl,Iff.intro (fun _=>.inl (of_decide_eq_true hx)) fun _=>rfl⟩) fun hx=>?_)
   have hx':=of_decide_eq_false hx
   exact wp_load1 (b:=.bool) _ (decide (atom=13)) rfl (cells_iff.1 o2.cells 4 _ rfl) (s_ret ⟨rfl,Ext.refl _,_,rfl,fun h=>.inr (of_decide_eq_true h),fun h=>decide_eq_true (h.resolve_left hx')⟩)
  ·refine s_setC' (vs:=Bs.inj SB (1,size,0,decide (atom=10),decide (atom=13),())) (iv 1) (o2.ext e5) (by simp [Bs.inj]) rfl fun h6 o6 u6=>s_ret ⟨rfl,rfl,Upd.extN (e2.trans e5) u6 (by intro x hx; cases hx; exact Nat.le_refl _),?_⟩
   have:oneS (atom,size)=(1,size,1,decide (atom=10),decide (atom=13),()):=by unfold oneS; dsimp only; rw [if_pos (hb.1 hx)]
   rw [this]; exact o6
  ·refine s_ret ⟨rfl,rfl,e2.trans e5,?_⟩
   have:oneS (atom,size)=(1,size,0,decide (atom=10),decide (atom=13),()):=by unfold oneS; dsimp only; rw [if_neg fun k=>by rw [hb.2 k] at hx; cases hx]
   rw [this]; exact o2.ext e5
 ·rintro t vs h5 ⟨rfl,rfl,e5,o5⟩
  exact s_tag (s_cast0 (s_getO (bs:=SB) o5 (s_tellO (bs:=SB) (oneS (atom,size)) (o1.ext e5) (Nat.le_refl _) (e1.trans e5) (flatS _) fun h' e=>⟨rfl,e,(oneS (atom,size),()),rfl,rfl⟩)))
def mkS (b:Sl) (tag:Int) (s:Sums):Part:=(b,tag,s.1,s.2.1,s.2.2.1,s.2.2.2.1,s.2.2.2.2.1,())
def mkP (b:Sl) (tag:Int) (ts:List (Int×Int)):Part:=mkS b tag (sumT ts)
theorem okT_toks {enc:Int} {l:List Int} (hb:isBytes l):okT (toks enc l):=toks_size hb
theorem c_newPart (M:Meth0 P S) {enc:Int} (he:known enc) {b:Sl} {l:List Int} {tag:Int} (hb:Lst .u8 h b l) (hl:l.length≤1099511627776) :
  Gives P (F_piece_newPart S enc b tag) [.agg PB] h fun (y:Part×Unit) _=>y.1=mkP b tag (toks enc l):=by
 have hby:isBytes l:=hb.wf
 have hlb:=hb.len
 have okt:=okT_toks (enc:=enc) hby
 unfold F_piece_newPart Gives
 refine s_newO (bs:=PB) zP (by decide) fun h1 e1 o1=>s_putO (bs:=PB) (z:=zP) (mkS b tag zS) (by decide) (flatP _) fun h2 e2 o2=>?_
 refine wp_whileG (G:=Nat) (fun n (r:Int×Unit) h'=>n≤(toks enc l).length∧r.1=offs ((toks enc l).take n)∧Ext h1 h'∧Own h1.size 1 h' ⟨some ⟨h1.size,0,none⟩,7,7⟩ ([.slice b.base b.len b.cap,iv tag]++Bs.inj SB (sumT ((toks enc l).take n)))) (fun n=>(toks enc l).length-n)
  (fun t vs h'=>t=2∧vs=[]∧Ext h1 h'∧Own h1.size 1 h' ⟨some ⟨h1.size,0,none⟩,7,7⟩ (Bs.inj PB (mkP b tag (toks enc l)))) 0 ⟨Nat.zero_le _,rfl,e2,o2⟩ ?_ ?_
 ·rintro n ⟨(r:Int),u⟩ h3 ⟨hn,hr,e3,o3⟩
  dsimp only at hr ⊢
  subst hr
  obtain ⟨hbn,htk⟩:=toks_at (enc:=enc) hby n hn
  have hle:=hbn.le hby
  generalize hk:offs ((toks enc l).take n)=k at hbn htk hle ⊢
  refine wp_ifB (fun hc=>?_) fun hc=>?_
  ·rw [ltI_iff,natI_def,hlb] at hc
   have hkl:k<l.length:=by omega
   have htc:=toks_cons (enc:=enc) (hby.drop k) (by rw [List.length_drop]; omega)
   rw [htk] at htc
   have hlt:n<(toks enc l).length:=by
    by_cases hx:n<(toks enc l).length
    ·exact hx
    ·rw [List.drop_of_length_le (by omega)] at htc; cases htc
   rw [List.drop_eq_getElem_cons hlt,List.cons.injEq] at htc
   have hsz:=okt _ (List.getElem_mem hlt)
   have htake:(toks enc l).take (n+1)=(toks enc l).take n++[(toks enc l)[n]]:=by rw [List.take_add_one,List.getElem?_eq_getElem hlt]; rfl
   refine wp_call (c_Next M (hb.ext (e1.trans e3))) fun ⟨(a:Int),(sz:Int),_⟩ h4 e4 hx=>?_
   have hx:(a,sz)=firstF enc (l.drop k):=by
    rcases hx with ⟨hno,_,_⟩ | ⟨_,_,_,hx⟩
    ·rcases hno with h | h | h
     ·exact absurd he h
     ·omega
     ·omega
    ·rw [Int.toNat_natCast] at hx; exact hx
   rw [← htc.1] at hx
   dsimp only
   refine s_getEnd (o3.ext e4) rfl (wp_call c_single fun ⟨(o:Sums),_⟩ h5 e5 hy=>?_)
   have hy:o=oneS (a,sz):=hy
   subst hy
   dsimp only
   have o5:=(o3.ext e4).ext e5
   refine s_check0 (a:=(⟨h1.size,0,none⟩:Addr).add 2) rfl (cells_mid (post:=[]) (by rw [List.append_nil]; exact o5.cells) rfl) ?_
   rw [hx]
   have v1:=VS.sumT (okt.take n)
   have v2:=VS.one hsz
   have hlen:=toks_len (enc:=enc) hby
   refine wp_call (c_Add v1 v2 (by rw [List.length_take]; omega)) fun ⟨(o:Sums),_⟩ h6 e6 hy=>?_
   have hy:o=_:=hy
   subst hy
   dsimp only
   refine s_putEnd (Bs.inj SB (addS (sumT ((toks enc l).take n)) (oneS ((toks enc l)[n])))) (o5.ext e6) rfl rfl (flatS _) fun h7 o7 u7=>?_
   have hsz2:sz=(toks enc l)[n].2:=congrArg Prod.snd hx
   rw [add_ok (by omega) (by omega)]
   refine s_ret ⟨fun _=>⟨n+1,((k:Int)+sz,()),rfl,⟨by omega,?_,Upd.extN (((e3.trans e4).trans e5).trans e6) u7 (by intro x hx; cases hx; exact Nat.le_refl _),?_⟩,by omega⟩,fun h=>absurd rfl h⟩
   ·dsimp only
    rw [htake,offs_append,offs_cons,offs_nil,hk]; omega
   ·rw [htake,sumT_snoc]; exact o7
  ·rw [ltI_not,natI_def,hlb] at hc
   have hkl:k=l.length:=by omega
   have hnn:(toks enc l).take n=toks enc l:=by
    have:(toks enc l).drop n=[]:=by rw [← htk]; exact toks_nil (by rw [List.length_drop]; omega)
    have h2:=List.take_append_drop n (toks enc l)
    rw [this,List.append_nil] at h2; exact h2
   rw [hnn] at o3
   exact s_ret ⟨fun h=>absurd h (by decide),fun _=>⟨rfl,rfl,e3,o3⟩⟩
 ·rintro t vs h3 ⟨rfl,rfl,e3,o3⟩
  exact s_tag (s_cast0 (s_getO (bs:=PB) o3 (s_tellO (bs:=PB) (mkP b tag (toks enc l)) (o1.ext e3) (Nat.le_refl _) (e1.trans e3) (flatP _) fun h' e=>⟨rfl,e,(_,()),rfl,rfl⟩)))
def tagF (tag:Int) (k:Nat):Int:=if 0≤tag then tag+k else tag
def headP (enc:Int) (p:Part) (l:List Int) (n:Nat):Part:=mkP ⟨p.1.base,offs ((toks enc l).take n),offs ((toks enc l).take n)⟩ p.2.1 ((toks enc l).take n)
def tailP (enc:Int) (p:Part) (l:List Int) (n:Nat):Part:=
 mkP ⟨cutBase p.1.base p.1.cap (offs ((toks enc l).take n)) 1,p.1.len-offs ((toks enc l).take n),p.1.cap-offs ((toks enc l).take n)⟩ (tagF p.2.1 (offs ((toks enc l).take n))) ((toks enc l).drop n)
theorem c_cut (M:Meth0 P S) {enc:Int} (he:known enc) {p:Part} {l:List Int} {n:Int} (hb:Lst .u8 h p.1 l) (hl:l.length≤1099511627776) (h0:0≤n) (hn:n≤(toks enc l).length) (ht : -1≤p.2.1∧p.2.1≤1099511627776) :
  Gives P (F_part_cut S p enc n) [.agg PB, .agg PB] h fun (y:Part×Part×Unit) _=>y.1=headP enc p l n.toNat∧y.2.1=tailP enc p l n.toNat:=by
 have hby:isBytes l:=hb.wf
 have hlb:=hb.len
 have hcap:=hb.cap
 have hmax:=hb.max
 have okt:=okT_toks (enc:=enc) hby
 have hlen:=toks_len (enc:=enc) hby
 unfold F_part_cut Gives
 refine s_newO (bs:=PB) p (by decide) fun h1 e1 o1=>s_newO (bs:=PB) zP (by decide) fun h2 e2 o2=>s_newO (bs:=PB) zP (by decide) fun h3 e3 o3=>?_
 have e13:=e1.trans (e2.trans e3)
 have o1':=o1.ext (e2.trans e3)
 have ldb:∀ {h'} {K:Sl→Prog} {Q:Nat→List Value→Heap→Prop},Ext h3 h'→wp P (K p.1) h' Q→wp P (.load (.one .sl) (shiftTo (some ⟨h.size,0,none⟩) 0) K) h' Q:=fun e hk=>wp_load1 (b:=.sl) _ p.1 rfl (cells_iff.1 (o1'.ext e).cells 0 _ rfl) hk
 have ldt:∀ {h'} {K:Int→Prog} {Q:Nat→List Value→Heap→Prop},Ext h3 h'→wp P (K p.2.1) h' Q→wp P (.load (.one (.int .i64)) (shiftTo (some ⟨h.size,0,none⟩) 1) K) h' Q:=fun e hk=>wp_load1 (b:=.int .i64) _ p.2.1 rfl (cells_iff.1 (o1'.ext e).cells 1 _ rfl) hk
 have hkn:=(toks_at (enc:=enc) hby n.toNat (by omega)).1.le hby
 refine wp_whileG (G:=Nat) (fun m (r:Int×Int×Unit) h'=>m≤n.toNat∧r.1=n-m∧r.2.1=offs ((toks enc l).take m)∧Ext h3 h') (fun m=>n.toNat-m)
  (fun t vs h'=>t=2∧vs=[iv (offs ((toks enc l).take n.toNat))]∧Ext h3 h') 0 ⟨Nat.zero_le _,by dsimp only; omega,rfl,Ext.refl _⟩ ?_ ?_
 ·rintro m ⟨(r:Int),(at_:Int),u⟩ h4 ⟨hm,hr,hat,e4⟩
  dsimp only at hr hat ⊢
  subst hr; subst hat
  obtain ⟨hbn,htk⟩:=toks_at (enc:=enc) hby m (by omega)
  have hle:=hbn.le hby
  generalize hk:offs ((toks enc l).take m)=k at hbn htk hle ⊢
  refine bind_bool (m<n.toNat) ?_ fun bb h5 e5 hb5=>wp_ifB (fun hx=>?_) fun hx=>?_
  ·refine wp_ifB (fun hc=>ldb e4 (s_ret ⟨rfl,Ext.refl _,_,rfl,?_⟩)) fun hc=>s_ret ⟨rfl,Ext.refl _,false,rfl,?_⟩
   ·rw [gtI_iff] at hc
    rw [ltI_iff,natI_def,hlb]
    refine ⟨fun _=>by omega,fun _=>?_⟩
    have hlt:m<(toks enc l).length:=by omega
    by_cases hx:(k:Int)<l.length
    ·exact hx
    ·have:(toks enc l).drop m=[]:=by rw [← htk]; exact toks_nil (by rw [List.length_drop]; omega)
     rw [List.drop_eq_nil_iff] at this; omega
   ·rw [gtI_not] at hc
    exact Iff.intro (fun h=>by cases h) fun h=>by omega
  ·have hmn:=hb5.1 hx
   have hlt:m<(toks enc l).length:=by omega
   have htake:(toks enc l).take (m+1)=(toks enc l).take m++[(toks enc l)[m]]:=by rw [List.take_add_one,List.getElem?_eq_getElem hlt]; rfl
   have hkl:k<l.length:=by
    by_cases hx:k<l.length
    ·exact hx
    ·have:(toks enc l).drop m=[]:=by rw [← htk]; exact toks_nil (by rw [List.length_drop]; omega)
     rw [List.drop_eq_nil_iff] at this; omega
   have htc:=toks_cons (enc:=enc) (hby.drop k) (by rw [List.length_drop]; omega)
   rw [htk,List.drop_eq_getElem_cons hlt,List.cons.injEq] at htc
   have hsz:=okt _ (List.getElem_mem hlt)
   refine ldb (e4.trans e5) (wp_call (c_Next M (hb.ext (e13.trans (e4.trans e5)))) fun ⟨(a:Int),(sz:Int),_⟩ h6 e6 hx=>?_)
   have hx:(a,sz)=firstF enc (l.drop k):=by
    rcases hx with ⟨hno,_,_⟩ | ⟨_,_,_,hx⟩
    ·rcases hno with h | h | h
     ·exact absurd he h
     ·omega
     ·omega
    ·rw [Int.toNat_natCast] at hx; exact hx
   rw [← htc.1] at hx
   have hsz2:sz=(toks enc l)[m].2:=congrArg Prod.snd hx
   dsimp only
   rw [add_ok (by omega) (by omega),sub_ok (by omega) (by omega)]
   refine s_ret ⟨fun _=>⟨m+1,(n-m-1,(k:Int)+sz,()),rfl,⟨by omega,by dsimp only; omega,?_,(e4.trans e5).trans e6⟩,by omega⟩,fun h=>absurd rfl h⟩
   dsimp only
   rw [htake,offs_append,offs_cons,offs_nil,hk]; omega
  ·have:¬ m<n.toNat:=fun h=>by rw [hb5.2 h] at hx; cases hx
   have:m=n.toNat:=by omega
   subst this
   exact s_ret ⟨fun h=>absurd h (by decide),fun _=>⟨rfl,by rw [hk],e4.trans e5⟩⟩
 ·rintro t vs h4 ⟨rfl,rfl,e4⟩
  unfold headP tailP
  have hta:=toks_take (enc:=enc) hby n.toNat (by omega)
  have htd:=(toks_at (enc:=enc) hby n.toNat (by omega)).2
  generalize hk:offs ((toks enc l).take n.toNat)=k at hkn hta htd ⊢
  refine s_tag (s_castI (ldt e4 ?_))
  refine bind_val (tys:=[.one (.int .i64)]) (fun (x:Int×Unit) _=>x.1=tagF p.2.1 k) ?_ fun ⟨(tg:Int),_⟩ h5 e5 hx=>?_
  ·unfold tagF
   refine wp_ifB (fun hc=>?_) fun hc=>?_
   ·rw [geI_iff] at hc
    rw [add_ok (by omega) (by omega),if_pos hc]
    exact s_ret ⟨rfl,Ext.refl _,(_,()),rfl,rfl⟩
   ·rw [geI_not] at hc
    rw [if_neg (by omega)]
    exact s_ret ⟨rfl,Ext.refl _,(_,()),rfl,rfl⟩
  have hx:tg=_:=hx
  subst hx
  dsimp only
  have e35:=e4.trans e5
  have htoN:toN (k:Int)=k:=by rw [toN_def]; omega
  refine ldb e35 (s_grd (andB_iff.2 ⟨leB_ok (by omega) (by omega),leB_ok (by omega) (by omega)⟩) (ldt e35 (ldb e35 (s_grd (leB_ok (by omega) (by omega)) ?_))))
  rw [htoN,show subN k 0=k from rfl,cutBase_zero]
  have hb5:=hb.ext (e13.trans e35)
  refine wp_call (c_newPart M he (tag:=p.2.1) (hb5.take (n:=k) (m:=k) hkn (Nat.le_refl _) (by omega)) (by rw [List.length_take]; omega)) fun ⟨(y1:Part),_⟩ h6 e6 hy1=>?_
  have hy1:y1=_:=hy1
  subst hy1
  dsimp only
  refine s_ckC (q:=⟨h.size,0,none⟩) (j:=0) (cells_iff.1 (o1'.ext (e35.trans e6)).cells 0 _ rfl) ?_
  refine wp_call (c_newPart M he (tag:=tagF p.2.1 k) ((hb5.ext e6).tail (i:=k) hkn) (by rw [List.length_drop]; omega)) fun ⟨(y2:Part),_⟩ h7 e7 hy2=>?_
  have hy2:y2=_:=hy2
  subst hy2
  dsimp only
  have e37:=(e35.trans e6).trans e7
  rw [hta,htd]
  refine s_stoO (bs:=PB) (mkP ⟨p.1.base,k,k⟩ p.2.1 ((toks enc l).take n.toNat)) ((o2.ext e3).ext e37) (flatP _) fun h8 o8 u8=>?_
  have b1:=(o1.lt rfl).2
  have b2:=(o2.lt rfl).2
  dsimp only at b1 b2
  have o3':=ob_upd (o3.ext e37) u8 (by dsimp only; omega)
  refine s_stoO (bs:=PB) (mkP ⟨cutBase p.1.base p.1.cap k 1,p.1.len-k,p.1.cap-k⟩ (tagF p.2.1 k) ((toks enc l).drop n.toNat)) o3' (flatP _) fun h9 o9 u9=>?_
  have o8':=ob_upd o8 u9 (by dsimp only; omega)
  refine s_getO (bs:=PB) o8' (s_getO (bs:=PB) o9 (s_ret ⟨rfl,?_,(_,_,()),rfl,rfl,rfl⟩))
  exact Upd.extN (Upd.extN (e13.trans e37) u8 (by intro x hx; cases hx; dsimp only; have:=e1.size; omega)) u9 (by intro x hx; cases hx; dsimp only; have:=e1.size; have:=e2.size; omega)
end Go.Sw.Piece

set_option linter.unusedVariables false
set_option linter.unusedSimpArgs false
set_option maxRecDepth 100000
namespace Go.Sw.Piece
open Go.Sw.Any Go.Sw.Codec
open Go.Sw.Tree (iv s_putAll s_newP s_getP s_getT s_putP eqI_self Placed cell_own wp_whileG minI_eq)
variable {P:Program} {S:Ids} {h:Heap} {Q:Nat→List Value→Heap→Prop}
abbrev i64v (x:Int):Value:=.int .i64 x
abbrev slv (s:Sl):Value:=.slice s.base s.len s.cap
def elsF (tag:Int):Nat→List (Int×Int)→List (Int×Int)
 | _,[]=>[]
 | o,t::ts=>(t.1,if tag<0 then -1 else tag+o)::elsF tag (o+t.2.toNat) ts
theorem elsF_len (tag:Int):∀ (ts:List (Int×Int)) (o:Nat),(elsF tag o ts).length=ts.length
 | [],_=>rfl
 | t::ts,o=>by simp only [elsF,List.length_cons,elsF_len tag ts]
theorem elsF_take (tag:Int):∀ (ts:List (Int×Int)) (o n:Nat),(elsF tag o ts).take n=elsF tag o (ts.take n)
 | [],o,n=>by simp [elsF]
 | t::ts,o,0=>by simp [elsF]
 | t::ts,o,n+1=>by simp only [elsF,List.take_succ_cons,elsF_take tag ts]
theorem elsF_drop (tag:Int):∀ (ts:List (Int×Int)) (o n:Nat),(elsF tag o ts).drop n=elsF tag (o+offs (ts.take n)) (ts.drop n)
 | [],o,n=>by simp [elsF]
 | t::ts,o,0=>by simp [offs]
 | t::ts,o,n+1=>by simp only [elsF,List.drop_succ_cons,List.take_succ_cons,elsF_drop tag ts,offs_cons,Nat.add_assoc]
theorem elsF_tag {tag:Int} (k:Nat):∀ (ts:List (Int×Int)) (o:Nat),elsF (tagF tag k) o ts=elsF tag (o+k) ts
 | [],o=>rfl
 | t::ts,o=>by
  simp only [elsF,elsF_tag k ts]
  rw [show o+t.2.toNat+k=o+k+t.2.toNat by omega]
  congr 1
  unfold tagF
  by_cases h:0≤tag
  ·rw [if_pos h,if_neg (by omega),if_neg (by omega)]; congr 1; omega
  ·rw [if_neg h,if_pos (by omega),if_pos (by omega)]
abbrev Pc:=Part×List Int
def elsP (enc:Int) (q:Pc):List (Int×Int):=elsF q.1.2.1 0 (toks enc q.2)
def els (enc:Int) (ps:List Pc):List (Int×Int):=ps.flatMap (elsP enc)
def toksL (enc:Int) (ps:List Pc):List (Int×Int):=ps.flatMap fun q=>toks enc q.2
def bytesL (ps:List Pc):List Int:=ps.flatMap fun q=>q.2
theorem els_len (enc:Int) (ps:List Pc):(els enc ps).length=(toksL enc ps).length:=by
 induction ps with
 | nil=>rfl
 | cons q ps ih=>
  unfold els toksL at ih ⊢
  rw [List.flatMap_cons,List.flatMap_cons,List.length_append,List.length_append,ih]; unfold elsP; rw [elsF_len]
structure St where
 root:Option Addr
 t:Bt Part
 ps:List Pc
structure TX where
 p:Addr
 enc:Int
 limit:Int
 cur:St
 kept:List St
 ad:Sl
 A:List Int
 Z:Nat→Prop
structure PcR (h:Heap) (T:TX) (q:Pc):Prop where
 lst:Lst .u8 h q.1.1 q.2
 ne:0<q.2.length
 is:q.1=mkP q.1.1 q.1.2.1 (toks T.enc q.2)
 tag : -1≤q.1.2.1∧q.1.2.1+q.2.length≤65536
 len:q.2.length≤65536
 blk:∀ a,q.1.1.base=some a→T.Z a.block∧a.block≠T.p.block∧∀ b,T.ad.base=some b→a.block=b.block→a.spot=none∧a.off+q.2.length≤T.A.length
structure StR (S:Ids) (h:Heap) (T:TX) (s:St):Prop where
 nd:Nd (part S T.Z) h s.root s.t
 ls:s.t.list=s.ps.map (·.1)
 pcs:∀ q,q∈s.ps→PcR h T q
 small:(bytesL s.ps).length≤1099511627776
structure TextR (S:Ids) (n:Nat) (h:Heap) (T:TX):Prop where
 enc:known T.enc
 lim:0≤T.limit∧T.limit≤65536
 ob:Own n 1 h ⟨some T.p,4,4⟩ [i64v T.enc,i64v T.limit, .pointer T.cur.root,slv T.ad]
 ad:OwnL n .u8 h T.ad T.A
 adp:∀ b,T.ad.base=some b→b.block≠T.p.block
 adk:∀ b,T.ad.base=some b→0<T.A.length
 cur:StR S h T T.cur
 kept:∀ s,s∈T.kept→StR S h T s
 zp:T.Z T.p.block
 za:∀ b,T.ad.base=some b→T.Z b.block
 lo:∀ i,T.Z i→n≤i∧i<h.size
theorem PcR.chg {F:Nat→Prop} {h':Heap} {T:TX} {q:Pc} (r:PcR h T q) (c:Chg F h h') (hF:∀ i,T.Z i→¬ F i):PcR h' T q:=
 ⟨c.lst r.lst fun a ha=>hF _ (r.blk a ha).1,r.ne,r.is,r.tag,r.len,r.blk⟩
theorem StR.chg {F:Nat→Prop} {h':Heap} {T:TX} {s:St} (r:StR S h T s) (c:Chg F h h') (hF:∀ i,T.Z i→¬ F i):StR S h' T s:=
 ⟨r.nd.chg c fun i _ hz=>hF i hz,r.ls,fun q hq=>(r.pcs q hq).chg c hF,r.small⟩
theorem TextR.chg {F:Nat→Prop} {n:Nat} {h':Heap} {T:TX} (r:TextR S n h T) (c:Chg F h h') (hF:∀ i,T.Z i→¬ F i):TextR S n h' T where
 enc:=r.enc
 lim:=r.lim
 ob:=c.own r.ob fun x hx=>by cases hx; exact hF _ r.zp
 ad:=c.ownL r.ad fun x hx=>hF _ (r.za x hx)
 adp:=r.adp
 adk:=r.adk
 cur:=r.cur.chg c hF
 kept:=fun s hs=>(r.kept s hs).chg c hF
 zp:=r.zp
 za:=r.za
 lo:=fun i hi=>⟨(r.lo i hi).1,Nat.lt_of_lt_of_le (r.lo i hi).2 c.1⟩
theorem TextR.ext {n:Nat} {h':Heap} {T:TX} (r:TextR S n h T) (e:Ext h h'):TextR S n h' T:=r.chg (Chg.of_ext (F:=fun _=>False) e) fun _ _ x=>x
theorem TextR.c0 {n:Nat} {T:TX} (r:TextR S n h T):Sw.cell h (T.p.add 0)=some (i64v T.enc):=cells_iff.1 r.ob.cells 0 _ rfl
theorem TextR.c1 {n:Nat} {T:TX} (r:TextR S n h T):Sw.cell h (T.p.add 1)=some (i64v T.limit):=cells_iff.1 r.ob.cells 1 _ rfl
theorem TextR.c2 {n:Nat} {T:TX} (r:TextR S n h T):Sw.cell h (T.p.add 2)=some (.pointer T.cur.root):=cells_iff.1 r.ob.cells 2 _ rfl
theorem TextR.c3 {n:Nat} {T:TX} (r:TextR S n h T):Sw.cell h (T.p.add 3)=some (slv T.ad):=cells_iff.1 r.ob.cells 3 _ rfl
theorem PcR.bytes {T:TX} {q:Pc} (r:PcR h T q):isBytes q.2:=r.lst.wf
theorem PcR.sum {T:TX} {q:Pc} (r:PcR h T q):sumP q.1=sumT (toks T.enc q.2):=by rw [r.is]; rfl
theorem PcR.wt {T:TX} {q:Pc} (r:PcR h T q):wtP q.1=(toks T.enc q.2).length∧VS (wtP q.1) (sumP q.1):=by
 have h1:=sumT_is (okT_toks (enc:=T.enc) r.bytes)
 have h2:=(toks_len (enc:=T.enc) r.bytes).2.1 r.ne
 have h3:q.1.2.2.1=(sumT (toks T.enc q.2)).1:=congrArg Prod.fst r.sum
 have h4:wtP q.1=(toks T.enc q.2).length:=by unfold wtP; rw [h3,h1.1]; omega
 exact ⟨h4,by rw [h4,r.sum]; exact VS.sumT (okT_toks r.bytes)⟩
theorem StR.wf {T:TX} {s:St} (r:StR S h T s):(part S T.Z).wf s.t.list:=by
 intro x hx
 rw [r.ls] at hx
 obtain ⟨q,hq,rfl⟩:=List.mem_map.1 hx
 exact (r.pcs q hq).wt.2
theorem okT_toksL {enc:Int} {ps:List Pc} (hb:∀ q,q∈ps→isBytes q.2):okT (toksL enc ps):=by
 intro t ht
 obtain ⟨q,hq,ht⟩:=List.mem_flatMap.1 ht
 exact okT_toks (hb q hq) t ht
def sumPs (l:List Part):Sums:=l.foldl (fun s r=>addS s (sumP r)) zS
theorem sum_ps {T:TX}:∀ {ps:List Pc},(∀ q,q∈ps→PcR h T q)→sumPs (ps.map (·.1))=sumT (toksL T.enc ps):=by
 intro ps
 have gen:∀ (qs pre:List Pc),(∀ q,q∈pre++qs→PcR h T q)→(qs.map (·.1)).foldl (fun s r=>addS s (sumP r)) (sumT (toksL T.enc pre))=sumT (toksL T.enc (pre++qs)):=by
  intro qs
  induction qs with
  | nil=>intro pre hq; simp
  | cons q qs ih=>
   intro pre hq
   have h1:=hq q (by simp)
   have hb:∀ q,q∈pre→isBytes q.2:=fun q hq'=>(hq q (by simp [hq'])).bytes
   have e:addS (sumT (toksL T.enc pre)) (sumP q.1)=sumT (toksL T.enc (pre++[q])):=by
    have:toksL T.enc (pre++[q])=toksL T.enc pre++toks T.enc q.2:=by simp [toksL]
    rw [this,sumT_append (okT_toksL hb) (okT_toks h1.bytes),h1.sum]
   rw [List.map_cons,List.foldl_cons,e,ih (pre++[q]) (by simpa using hq)]
   simp
 intro hq
 exact gen ps [] (by simpa using hq)
theorem W_ps {T:TX}:∀ {ps:List Pc},(∀ q,q∈ps→PcR h T q)→((ps.map (·.1)).map wtP).sum=(toksL T.enc ps).length:=by
 intro ps
 induction ps with
 | nil=>intro _; rfl
 | cons q ps ih=>
  intro hq
  rw [List.map_cons,List.map_cons,List.sum_cons,ih (fun x hx=>hq x (List.mem_cons_of_mem _ hx)),(hq q (List.mem_cons_self ..)).wt.1]
  simp [toksL]
theorem toksL_le {enc:Int}:∀ {ps:List Pc},(∀ q,q∈ps→isBytes q.2)→(toksL enc ps).length≤(bytesL ps).length∧offs (toksL enc ps)=(bytesL ps).length:=by
 intro ps
 induction ps with
 | nil=>intro _; exact ⟨Nat.le_refl _,rfl⟩
 | cons q ps ih=>
  intro hq
  have h1:=toks_len (enc:=enc) (hq q (List.mem_cons_self ..))
  have h2:=toks_offs (enc:=enc) (hq q (List.mem_cons_self ..))
  have h3:=ih fun x hx=>hq x (List.mem_cons_of_mem _ hx)
  unfold toksL bytesL at h3 ⊢
  rw [List.flatMap_cons,List.flatMap_cons,List.length_append,List.length_append,offs_append]
  omega
theorem StR.bytes {T:TX} {s:St} (r:StR S h T s):∀ q,q∈s.ps→isBytes q.2:=fun q hq=>(r.pcs q hq).bytes
theorem StR.W {T:TX} {s:St} (r:StR S h T s):(part S T.Z).W s.t.list=(toksL T.enc s.ps).length:=by
 show (List.map wtP s.t.list).sum=_
 rw [r.ls,W_ps r.pcs]
theorem StR.sum {T:TX} {s:St} (r:StR S h T s):(part S T.Z).sum s.t.list=sumT (toksL T.enc s.ps):=by
 show sumPs s.t.list=_
 rw [r.ls,sum_ps r.pcs]
theorem StR.few {T:TX} {s:St} (r:StR S h T s) (hl:T.limit≤65536):(toksL T.enc s.ps).length≤1099511627776∧(part S T.Z).W s.t.list≤1099511627776:=by
 have h1:=r.small
 have h2:=(toksL_le (enc:=T.enc) r.bytes).1
 rw [r.W]; omega
theorem StR.room {T:TX} {s:St} (r:StR S h T s) (hl:T.limit≤65536):(part S T.Z).W s.t.list<4398046511104:=Nat.lt_of_le_of_lt (r.few hl).2 (by decide)
abbrev TR:=Option Addr×Unit
theorem s_root {n:Nat} {T:TX} {K:TR→Prog} (r:TextR S n h T) (hk:wp P (K (T.cur.root,())) h Q):wp P (grd (someB (some T.p)) <| grd (someB (some T.p)) <| .load (.agg [.ptr]) (shiftTo (some T.p) 2) K) h Q:=
 wp_grd rfl (wp_grd rfl ⟨T.p.add 2,rfl,(T.cur.root,()),cells_iff.2 fun j v hj=>by
  match j,hj with
  | 0,hj=>simp [Ty.cells,Bs.inj] at hj; subst hj; rw [add_zero']; exact r.c2
  | j+1,hj=>simp [Ty.cells,Bs.inj] at hj,hk⟩)
theorem s_enc {n:Nat} {T:TX} {K:Int→Prog} (r:TextR S n h T) (hk:wp P (K T.enc) h Q):wp P (grd (someB (some T.p)) <| grd (someB (some T.p)) <| .load (.one (.int .i64)) (shiftTo (some T.p) 0) K) h Q:=
 wp_grd rfl (wp_grd rfl (wp_load1 (b:=.int .i64) _ T.enc rfl r.c0 hk))
theorem c_TSum {n:Nat} {T:TX} (r:TextR S n h T):Gives P (F_Tree_part_Sum S (T.cur.root,())) [.agg SB] h fun (x:Sums×Unit) _=>x.1=sumT (toksL T.enc T.cur.ps):=by
 have hf:=r.cur.few r.lim.2
 have:=c_Sum (part_ok S T.Z (P:=P)) r.cur.nd r.cur.wf (Nat.le_of_lt (r.cur.room r.lim.2))
 exact Gives.mono this fun x h' e hx=>hx.trans r.cur.sum
theorem c_Len {n:Nat} {T:TX} (r:TextR S n h T):Gives P (F_Text_Len S (some T.p)) [.one (.int .i64)] h fun (x:Int×Unit) _=>x.1=(els T.enc T.cur.ps).length:=by
 unfold F_Text_Len Gives
 refine s_root r (wp_call (c_TSum r) fun x h1 e1 hx=>s_ret ⟨rfl,e1,(_,()),rfl,?_⟩)
 have hx:x.1=_:=hx
 show x.1.1=_
 rw [hx,(sumT_is (okT_toksL r.cur.bytes)).1,els_len]
theorem c_Size {n:Nat} {T:TX} (r:TextR S n h T):Gives P (F_Text_Size S (some T.p)) [.one (.int .i64)] h fun (x:Int×Unit) _=>x.1=(bytesL T.cur.ps).length:=by
 unfold F_Text_Size Gives
 refine s_root r (wp_call (c_TSum r) fun x h1 e1 hx=>s_ret ⟨rfl,e1,(_,()),rfl,?_⟩)
 have hx:x.1=_:=hx
 show x.1.2.1=_
 rw [hx,(sumT_is (okT_toksL r.cur.bytes)).2,(toksL_le r.cur.bytes).2]
def FindR (enc:Int) (ps:List Pc) (at_:Int) (i n:Nat):Prop:=
 i≤ps.length∧(at_:Int)=(toksL enc (ps.take i)).length+n∧(at_=0→i=0∧n=0)∧(0<at_→∃ q,ps[i]? = some q∧0<n∧n≤(toks enc q.2).length)
theorem toksL_take_le {enc:Int} (ps:List Pc) (i:Nat):(toksL enc (ps.take i)).length≤(toksL enc ps).length:=by
 have:toksL enc ps=toksL enc (ps.take i)++toksL enc (ps.drop i):=by unfold toksL; rw [← List.flatMap_append,List.take_append_drop]
 rw [this,List.length_append]; omega
theorem toksL_succ {enc:Int} {ps:List Pc} {i:Nat} {q:Pc} (hq:ps[i]? = some q):toksL enc (ps.take (i+1))=toksL enc (ps.take i)++toks enc q.2:=by
 rw [List.take_add_one,hq]; simp [toksL]
theorem key_ps {T:TX} {ps:List Pc} (hq:∀ q,q∈ps→PcR h T q) (i:Nat):keyS (sumPs ((ps.map (·.1)).take i)) 0=(toksL T.enc (ps.take i)).length:=by
 have h1:(ps.map (·.1)).take i=(ps.take i).map (·.1):=List.map_take.symm
 have hq':∀ q,q∈ps.take i→PcR h T q:=fun q h=>hq q (List.mem_of_mem_take h)
 rw [h1,sum_ps hq']
 unfold keyS
 rw [if_pos rfl,(sumT_is (okT_toksL fun q h=>(hq' q h).bytes)).1]
theorem c_find {n:Nat} {T:TX} {at_:Int} (r:TextR S n h T) (h0:0≤at_) (h1:at_≤(toksL T.enc T.cur.ps).length) :
  Gives P (F_Text_find S (some T.p) at_) [.one (.int .i64), .one (.int .i64)] h fun (x:Int×Int×Unit) _=>∃ i n:Nat,x.1=i∧x.2.1=n∧FindR T.enc T.cur.ps at_ i n:=by
 unfold F_Text_find Gives
 have hf:=r.cur.few r.lim.2
 refine wp_ifB (fun hc=>?_) fun hc=>?_
 ·rw [leI_iff] at hc
  have:at_=0:=by omega
  subst this
  exact s_ret ⟨rfl,Ext.refl _,(0,0,()),rfl,0,0,rfl,rfl,Nat.zero_le _,rfl,fun _=>⟨rfl,rfl⟩,fun h=>absurd h (by decide)⟩
 rw [leI_not] at hc
 refine s_root r ?_
 refine wp_call (R:=fun (x:Int×Unit) _=>Any.Found (part S T.Z) T.cur.t.list 0 at_ x.1) (c_Find (part_ok S T.Z (P:=P)) r.cur.nd r.cur.wf (r.cur.room r.lim.2)) fun ⟨(f:Int),_⟩ h2 e2 hx=>?_
 have hx:(f=0∧at_≤0)∨(1≤f∧f≤T.cur.t.list.length∧at_≤keyS (sumPs (T.cur.t.list.take f.toNat)) 0∧keyS (sumPs (T.cur.t.list.take (f.toNat-1))) 0<at_)∨(f=T.cur.t.list.length+1∧keyS (sumPs T.cur.t.list) 0<at_):=hx
 dsimp only
 have r2:=r.ext e2
 have hlen:T.cur.t.list.length=T.cur.ps.length:=by rw [r.cur.ls,List.length_map]
 have hps:T.cur.ps.length≤1099511627776:=by have h1:=W_len (part_ok S T.Z (P:=P)) T.cur.t.list; have h2:=Nat.le_trans h1 hf.2; rw [← hlen]; exact h2
 rw [r.cur.ls] at hx
 simp only [key_ps r.cur.pcs] at hx
 rw [List.length_map] at hx
 have hsum:keyS (sumPs (T.cur.ps.map (·.1))) 0=(toksL T.enc T.cur.ps).length:=by
  have:=key_ps r.cur.pcs T.cur.ps.length
  rwa [List.take_of_length_le (by simp),List.take_of_length_le (Nat.le_refl _)] at this
 rw [hsum] at hx
 obtain ⟨g1,g2,g3,g4⟩:1≤f∧f≤T.cur.ps.length∧at_≤(toksL T.enc (T.cur.ps.take f.toNat)).length∧((toksL T.enc (T.cur.ps.take (f.toNat-1))).length:Int)<at_:=by
  rcases hx with ⟨_,hx⟩ | hx | ⟨_,hx⟩
  ·omega
  ·exact hx
  ·omega
 refine s_root r2 ?_
 rw [sub_ok (by omega) (by omega)]
 refine wp_call (R:=fun (x:Sums×Unit) _=>x.1=sumPs (T.cur.t.list.take (f-1).toNat)) (c_Upto' (part_ok S T.Z (P:=P)) r2.cur.nd r2.cur.wf (r2.cur.room r2.lim.2)) fun ⟨(s:Sums),_⟩ h3 e3 hs=>?_
 have hs:s=_:=hs
 dsimp only
 have hi:(f-1).toNat=f.toNat-1:=by omega
 have hs1:s.1=(toksL T.enc (T.cur.ps.take (f.toNat-1))).length:=by
  have:=key_ps r.cur.pcs (f.toNat-1)
  rw [hs,hi,r.cur.ls, ← this]
  rfl
 obtain ⟨q,hq⟩:∃ q,T.cur.ps[f.toNat-1]? = some q:=⟨T.cur.ps[f.toNat-1]'(by omega),List.getElem?_eq_getElem (by omega)⟩
 have hsc:=toksL_succ (enc:=T.enc) hq
 rw [show f.toNat-1+1=f.toNat by omega] at hsc
 rw [hsc,List.length_append] at g3
 rw [hs1,sub_ok (by omega) (by omega)]
 refine s_ret ⟨rfl,e2.trans e3,(_,_,()),rfl,f.toNat-1,(at_-(toksL T.enc (T.cur.ps.take (f.toNat-1))).length).toNat,?_,?_,by omega,by omega,fun h=>by omega,fun _=>⟨q,hq,by omega,by omega⟩⟩
 ·show f-1=_; omega
 ·show at_-_=_; omega
end Go.Sw.Piece

set_option linter.unusedVariables false
set_option linter.unusedSimpArgs false
set_option maxRecDepth 100000
namespace Go.Sw.Piece
open Go.Sw.Any Go.Sw.Codec
open Go.Sw.Tree (iv s_putAll s_newP s_getP s_getT s_putP eqI_self Placed cell_own wp_whileG minI_eq)
variable {P:Program} {S:Ids} {h:Heap} {Q:Nat→List Value→Heap→Prop}
def cutB (S:Ids) (t:Option Addr) (a:Addr) (m:Int) (fin:Addr→Addr→Prog):Prog:=
 .both (.load (.agg PB) (some a) fun (r:Part)=>grd (someB t) <| grd (someB t) <| .load (.one (.int .i64)) (shiftTo t 0) fun (n:Int)=>
  .call (F_part_cut S r n m) [.agg PB, .agg PB] fun (c:Part×Part×Unit)=>
  .alloc (Bs.inj PB zP) fun A=>.check (shiftTo t 0) [i64v n] <| .check (some a) (Bs.inj PB r) <|
  .alloc (Bs.inj PB zP) fun B=>.check (shiftTo t 0) [i64v n] <| .check (some a) (Bs.inj PB r) <|
  .store (some A) (Bs.inj PB c.1) <| .store (some B) (Bs.inj PB c.2.1) <| fin A B) <|
 .both (.load (.agg PB) (some a) fun (r:Part)=>grd (someB t) <| grd (someB t) <| .load (.one (.int .i64)) (shiftTo t 0) fun (n:Int)=>
  .call (F_part_cut S r n m) [.agg PB, .agg PB] fun (c:Part×Part×Unit)=>
  .alloc (Bs.inj PB zP) fun A=>.check (shiftTo t 0) [i64v n] <| .check (some a) (Bs.inj PB r) <|
  .alloc (Bs.inj PB zP) fun B=>.check (shiftTo t 0) [i64v n] <| .check (some a) (Bs.inj PB r) <|
  .store (some B) (Bs.inj PB c.1) <| .store (some A) (Bs.inj PB c.2.1) <| fin B A) <|
 .both (.load (.agg PB) (some a) fun (r:Part)=>grd (someB t) <| grd (someB t) <| .load (.one (.int .i64)) (shiftTo t 0) fun (n:Int)=>
  .alloc (Bs.inj PB zP) fun A=>.check (shiftTo t 0) [i64v n] <| .check (some a) (Bs.inj PB r) <|
  .call (F_part_cut S r n m) [.agg PB, .agg PB] fun (c:Part×Part×Unit)=>
  .alloc (Bs.inj PB zP) fun B=>.check (shiftTo t 0) [i64v n] <| .check (some a) (Bs.inj PB r) <|
  .store (some A) (Bs.inj PB c.1) <| .store (some B) (Bs.inj PB c.2.1) <| fin A B) <|
 .both (.load (.agg PB) (some a) fun (r:Part)=>grd (someB t) <| grd (someB t) <| .load (.one (.int .i64)) (shiftTo t 0) fun (n:Int)=>
  .alloc (Bs.inj PB zP) fun A=>.check (shiftTo t 0) [i64v n] <| .check (some a) (Bs.inj PB r) <|
  .alloc (Bs.inj PB zP) fun B=>.check (shiftTo t 0) [i64v n] <| .check (some a) (Bs.inj PB r) <|
  .call (F_part_cut S r n m) [.agg PB, .agg PB] fun (c:Part×Part×Unit)=>
  .store (some A) (Bs.inj PB c.1) <| .store (some B) (Bs.inj PB c.2.1) <| fin A B) <|
 .both (.load (.agg PB) (some a) fun (r:Part)=>grd (someB t) <| grd (someB t) <| .load (.one (.int .i64)) (shiftTo t 0) fun (n:Int)=>
  .alloc (Bs.inj PB zP) fun A=>.check (shiftTo t 0) [i64v n] <| .check (some a) (Bs.inj PB r) <|
  .call (F_part_cut S r n m) [.agg PB, .agg PB] fun (c:Part×Part×Unit)=>
  .alloc (Bs.inj PB zP) fun B=>.check (shiftTo t 0) [i64v n] <| .check (some a) (Bs.inj PB r) <|
  .store (some B) (Bs.inj PB c.1) <| .store (some A) (Bs.inj PB c.2.1) <| fin B A) <|
 (.load (.agg PB) (some a) fun (r:Part)=>grd (someB t) <| grd (someB t) <| .load (.one (.int .i64)) (shiftTo t 0) fun (n:Int)=>
  .alloc (Bs.inj PB zP) fun A=>.check (shiftTo t 0) [i64v n] <| .check (some a) (Bs.inj PB r) <|
  .alloc (Bs.inj PB zP) fun B=>.check (shiftTo t 0) [i64v n] <| .check (some a) (Bs.inj PB r) <|
  .call (F_part_cut S r n m) [.agg PB, .agg PB] fun (c:Part×Part×Unit)=>
  .store (some B) (Bs.inj PB c.1) <| .store (some A) (Bs.inj PB c.2.1) <| fin B A)
abbrev OwnP (n:Nat) (h:Heap) (a:Addr) (x:Part):Prop:=Own n 1 h ⟨some a,7,7⟩ (Bs.inj PB x)
theorem c_cutB (M:Meth0 P S) {n0 n1:Nat} {T:TX} {a:Addr} {x:Part} {bs:List Int} {m:Int} {fin:Addr→Addr→Prog} (r:TextR S n0 h T) (q:PcR h T (x,bs)) (o:OwnP n1 h a x) (h0:0≤m) (hm:m≤(toks T.enc bs).length)
  (hk:∀ h' A B,Ext h h'→OwnP h.size h' A (headP T.enc x bs m.toNat)→OwnP h.size h' B (tailP T.enc x bs m.toNat)→wp P (fin A B) h' Q):wp P (cutB S (some T.p) a m fin) h Q:=by
 have al:∀ {h':Heap} {K:Addr→Prog},Ext h h'→(∀ h'',Ext h' h''→OwnP h'.size h'' ⟨h'.size,0,none⟩ zP→wp P (K ⟨h'.size,0,none⟩) h'' Q) →
   wp P (.alloc (Bs.inj PB zP) fun A=>.check (shiftTo (some T.p) 0) [i64v T.enc] <| .check (some a) (Bs.inj PB x) <| K A) h' Q:=fun {h' K} e hk=>
  s_newO (bs:=PB) zP (by decide) fun h2 e2 o2=>s_ckC (r.ext (e.trans e2)).c0 (s_ckO (bs:=PB) (o.ext (e.trans e2)) (hk h2 e2 o2))
 have fs:∀ {h':Heap} {A B:Addr} {mA mB:Nat},Ext h h'→h.size≤mA→h.size≤mB→A.block≠B.block→OwnP mA h' A zP→OwnP mB h' B zP →
   wp P (.store (some A) (Bs.inj PB (headP T.enc x bs m.toNat)) <| .store (some B) (Bs.inj PB (tailP T.enc x bs m.toNat)) <| fin A B) h' Q:=fun {h' A B mA mB} e hA hB hne oA oB=>
  s_stoO (bs:=PB) _ oA (flatP _) fun h1 o1 u1=>s_stoO (bs:=PB) _ (ob_upd oB u1 hne) (flatP _) fun h2 o2 u2=>
   hk h2 A B (Upd.extN (Upd.extN e u1 (by intro z hz; cases hz; have:=(oA.lt rfl).1; exact Nat.le_trans hA this)) u2 (by intro z hz; cases hz; have:=(oB.lt rfl).1; exact Nat.le_trans hB this)) ((ob_upd o1 u2 hne.symm).mono hA) (o2.mono hB)
 have ct:∀ {h':Heap} {K:Part×Part×Unit→Prog},Ext h h'→(∀ h'',Ext h' h''→wp P (K (headP T.enc x bs m.toNat,tailP T.enc x bs m.toNat,())) h'' Q)→wp P (.call (F_part_cut S x T.enc m) [.agg PB, .agg PB] K) h' Q:=fun {h' K} e hk=>
  wp_call (c_cut M r.enc (q.lst.ext e) (show bs.length≤_ from Nat.le_trans q.len (by decide)) h0 hm (by have:=q.tag; dsimp only at this ⊢; omega)) fun ⟨(y1:Part),(y2:Part),_⟩ h2 e2 ⟨hy1,hy2⟩=>by
   have hy1:y1=_:=hy1
   have hy2:y2=_:=hy2
   subst hy1; subst hy2
   exact hk h2 e2
 have st:∀ {K:Part→Int→Prog},wp P (K x T.enc) h Q→wp P (.load (.agg PB) (some a) fun (r:Part)=>grd (someB (some T.p)) <| grd (someB (some T.p)) <| .load (.one (.int .i64)) (shiftTo (some T.p) 0) fun (n:Int)=>K r n) h Q:=fun hk=>s_getO (bs:=PB) o (s_enc r hk)
 have E0:=Ext.refl h
 unfold cutB
 refine ⟨?_,?_,?_,?_,?_,?_⟩
 ·exact st (ct E0 fun h1 e1=>al e1 fun h2 e2 o2=>al (e1.trans e2) fun h3 e3 o3=>fs ((e1.trans e2).trans e3) (by have:=e1.size; omega) (by have:=e1.size; have:=e2.size; omega) (by have:=(o2.lt rfl).2; dsimp only at this ⊢; omega) (o2.ext e3) o3)
 ·exact st (ct E0 fun h1 e1=>al e1 fun h2 e2 o2=>al (e1.trans e2) fun h3 e3 o3=>fs ((e1.trans e2).trans e3) (by have:=e1.size; have:=e2.size; omega) (by have:=e1.size; omega) (by have:=(o2.lt rfl).2; dsimp only at this ⊢; omega) o3 (o2.ext e3))
 ·exact st (al E0 fun h1 e1 o1=>ct e1 fun h2 e2=>al (e1.trans e2) fun h3 e3 o3=>fs ((e1.trans e2).trans e3) (by omega) (by have:=e1.size; have:=e2.size; omega) (by have:h.size<h1.size:=(o1.lt rfl).2; have:=e2.size; show h.size≠h2.size; omega) (o1.ext (e2.trans e3)) o3)
 ·exact st (al E0 fun h1 e1 o1=>al e1 fun h2 e2 o2=>ct (e1.trans e2) fun h3 e3=>fs ((e1.trans e2).trans e3) (by omega) (by have:=e1.size; omega) (by have:=(o1.lt rfl).2; dsimp only at this ⊢; omega) (o1.ext (e2.trans e3)) (o2.ext e3))
 ·exact st (al E0 fun h1 e1 o1=>ct e1 fun h2 e2=>al (e1.trans e2) fun h3 e3 o3=>fs ((e1.trans e2).trans e3) (by have:=e1.size; have:=e2.size; omega) (by omega) (by have:h.size<h1.size:=(o1.lt rfl).2; have:=e2.size; show h2.size≠h.size; omega) o3 (o1.ext (e2.trans e3)))
 ·exact st (al E0 fun h1 e1 o1=>al e1 fun h2 e2 o2=>ct (e1.trans e2) fun h3 e3=>fs ((e1.trans e2).trans e3) (by have:=e1.size; omega) (by omega) (by have:=(o1.lt rfl).2; dsimp only at this ⊢; omega) (o2.ext e3) (o1.ext (e2.trans e3)))
theorem find_take {enc:Int} {ps:List Pc} {at_:Int} {i n:Nat} (f:FindR enc ps at_ i n) (h0:0≤at_):(ps[i]? = none∧n=0∧ps=[]∧(toksL enc ps).take at_.toNat=toksL enc (ps.take i)) ∨
  ∃ q,ps[i]? = some q∧n≤(toks enc q.2).length∧(toksL enc ps).take at_.toNat=toksL enc (ps.take i)++(toks enc q.2).take n:=by
 obtain ⟨f1,f2,f3,f4⟩:=f
 have hsplit:∀ q,ps[i]? = some q→n≤(toks enc q.2).length→(toksL enc ps).take at_.toNat=toksL enc (ps.take i)++(toks enc q.2).take n:=fun q hq hn=>by
  have h1:toksL enc ps=toksL enc (ps.take i)++(toks enc q.2++toksL enc (ps.drop (i+1))):=by
   have h2:=toksL_succ (enc:=enc) hq
   rw [← List.append_assoc, ← h2]
   unfold toksL; rw [← List.flatMap_append,List.take_append_drop]
  have h3:at_.toNat=(toksL enc (ps.take i)).length+n:=by omega
  rw [h3,h1,List.take_append,List.take_of_length_le (by omega),Nat.add_sub_cancel_left,List.take_append_of_le_length hn]
 by_cases h:0<at_
 ·obtain ⟨q,hq,n0,n1⟩:=f4 h
  exact .inr ⟨q,hq,n1,hsplit q hq n1⟩
 ·obtain ⟨rfl,rfl⟩:=f3 (by omega)
  cases ps with
  | nil=>exact .inl ⟨rfl,rfl,rfl,by simp [toksL]⟩
  | cons q ps=>exact .inr ⟨q,rfl,Nat.zero_le _,hsplit q rfl (Nat.zero_le _)⟩
theorem c_ahead (M:Meth0 P S) {n:Nat} {T:TX} {at_:Int} (r:TextR S n h T) (h0:0≤at_) (h1:at_≤(toksL T.enc T.cur.ps).length) :
  Gives P (F_Text_ahead S (some T.p) at_) [.agg SB] h fun (x:Sums×Unit) _=>x.1=sumT ((toksL T.enc T.cur.ps).take at_.toNat):=by
 unfold F_Text_ahead Gives
 have hf:=r.cur.few r.lim.2
 have O:=part_ok S T.Z (P:=P)
 refine s_newO (bs:=SB) zS (by decide) fun ha ea oa=>?_
 have ra:=r.ext ea
 refine wp_call (c_find ra h0 h1) fun ⟨(i':Int),(m':Int),_⟩ h2 e2 ⟨i,m,hi,hm,f⟩=>?_
 have hi:i'=i:=hi
 have hm:m'=m:=hm
 subst hi; subst hm
 dsimp only
 have r2:=ra.ext e2
 have hps:T.cur.ps.length≤1099511627776:=by
  have hlen:T.cur.t.list.length=T.cur.ps.length:=by rw [r.cur.ls,List.length_map]
  have h1:=W_len O T.cur.t.list; have h2:=Nat.le_trans h1 hf.2; rw [← hlen]; exact h2
 have hil:=f.1
 refine s_root r2 (wp_call (R:=fun (x:Sums×Unit) _=>x.1=sumPs (T.cur.t.list.take ((i:Int)).toNat)) (c_Upto' O r2.cur.nd r2.cur.wf (r2.cur.room r2.lim.2)) fun ⟨(s:Sums),_⟩ h3 e3 hs=>?_)
 have hs:s=sumT (toksL T.enc (T.cur.ps.take i)):=by
  have hs:s=_:=hs
  rw [hs,Int.toNat_natCast,r.cur.ls, ← List.map_take,sum_ps fun q hq=>r.cur.pcs q (List.mem_of_mem_take hq)]
 subst hs
 dsimp only
 refine s_putO (bs:=SB) (z:=zS) (sumT (toksL T.enc (T.cur.ps.take i))) (by decide) (flatS _) fun h4 e4 o4=>?_
 have r4:=(r2.ext e3).ext e4
 have hbT:∀ q,q∈T.cur.ps→isBytes q.2:=r.cur.bytes
 refine wp_bind (fun t vs h'=>t=0∧vs=[]∧Ext h3 h'∧Own h3.size 1 h' ⟨some ⟨h3.size,0,none⟩,5,5⟩ (Bs.inj SB (sumT ((toksL T.enc T.cur.ps).take at_.toNat)))) ?_ ?_
 ·rcases find_take f h0 with ⟨hq,rfl,hnil,htk⟩ | ⟨q,hq,hn,htk⟩
  ·refine s_root r4 (wp_call (R:=fun (y:Part×Bool×Unit) _=>y.1=zP∧y.2.1=false) (c_AtNo O r4.cur.nd (Nat.le_of_lt (r4.cur.room r4.lim.2)) (by omega) (.inr ?_)) fun ⟨(y:Part),(ok:Bool),_⟩ h5 e5 ⟨hy,hok⟩=>?_)
   ·have:T.cur.t.list=[]:=by rw [r.cur.ls,hnil]; rfl
    show ((List.length T.cur.t.list:Nat):Int)≤_
    rw [this]; simp
   ·have hok:ok=false:=hok
    subst hok
    dsimp only
    refine s_newO (bs:=PB) zP (by decide) fun h6 e6 o6=>s_stoO (bs:=PB) y o6 (flatP _) fun h7 o7 u7=>s_ifF (s_ret ⟨rfl,rfl,?_,?_⟩)
    ·exact Upd.extN ((e4.trans e5).trans e6) u7 (by intro x hx; cases hx; have:=e4.size; have:=e5.size; dsimp only; omega)
    ·rw [htk]
     exact ob_upd ((o4.ext e5).ext e6) u7 (by have:h3.size<h4.size:=(o4.lt rfl).2; have:=e5.size; show h5.size≠h3.size; omega)
  ·have hx:T.cur.t.list[((i:Int)).toNat]? = some q.1:=by rw [Int.toNat_natCast,r.cur.ls,List.getElem?_map,hq]; rfl
   refine s_root r4 (wp_call (R:=fun (y:Part×Bool×Unit) _=>y.1=q.1∧y.2.1=true) (c_At O r4.cur.nd r4.cur.wf (Nat.le_of_lt (r4.cur.room r4.lim.2)) (by omega) hx) fun ⟨(y:Part),(ok:Bool),_⟩ h5 e5 ⟨hy,hok⟩=>?_)
   have hok:ok=true:=hok
   have hy:y=q.1:=hy
   subst hok; subst hy
   dsimp only
   refine s_newO (bs:=PB) zP (by decide) fun h6 e6 o6=>s_stoO (bs:=PB) q.1 o6 (flatP _) fun h7 o7 u7=>s_ifT ?_
   have e57:Ext h4 h7:=Upd.extN (e5.trans e6) u7 (by intro x hx; cases hx; have:=e5.size; dsimp only; omega)
   have r7:=r4.ext e57
   have hqm:=List.mem_of_getElem? hq
   have pc:=r7.cur.pcs q hqm
   refine wp_bind (fun t vs h'=>t=0∧Ext h7 h'∧∃ A:Addr,vs=[.pointer (some A)]∧OwnP h7.size h' A (headP T.enc q.1 q.2 m)) ?_ ?_
   ·refine c_cutB M (fin:=fun A B=>.ret 0 [.pointer (some A)]) r7 (x:=q.1) (bs:=q.2) pc o7 (by omega) (by omega) fun h8 A B e8 oA oB=>s_ret ⟨rfl,e8,A,rfl,?_⟩
    rw [Int.toNat_natCast] at oA; exact oA
   ·rintro t vs h8 ⟨rfl,e8,A,rfl,oA⟩
    refine s_tag (wp_cast (tys:=[.one .ptr]) (some A,()) rfl ?_)
    dsimp only
    have o48:=(o4.ext e57).ext e8
    refine s_getO (bs:=SB) o48 (wp_grd rfl ?_)
    refine ⟨A.add 2,rfl,sumT ((toks T.enc q.2).take m),cells_iff.2 fun j v hj=>?_,?_⟩
    ·rw [add_add]
     refine cells_iff.1 oA.cells _ _ ?_
     match j,hj with
     | 0,hj=>exact hj
     | 1,hj=>exact hj
     | 2,hj=>exact hj
     | 3,hj=>exact hj
     | 4,hj=>exact hj
     | j+5,hj=>simp [Ty.cells,Bs.inj] at hj
    ·have v1:=VS.sumT (okT_toksL (enc:=T.enc) (ps:=T.cur.ps.take i) fun q hq=>hbT q (List.mem_of_mem_take hq))
     have v2:=VS.sumT ((okT_toks (enc:=T.enc) (hbT q hqm)).take m)
     have hl1:=toksL_take_le (enc:=T.enc) T.cur.ps i
     have hl2:=toks_len (enc:=T.enc) (hbT q hqm)
     have:=pc.len
     refine wp_call (c_Add v1 v2 (by rw [List.length_take]; omega)) fun ⟨(o:Sums),_⟩ h9 e9 ho=>?_
     have ho:o=_:=ho
     subst ho
     dsimp only
     refine s_stoO (bs:=SB) _ (o48.ext e9) (flatS _) fun h10 o10 u10=>s_ret ⟨rfl,rfl,Upd.extN (((e4.trans e57).trans e8).trans e9) u10 (by intro x hx; cases hx; exact Nat.le_refl _),?_⟩
     rw [htk,sumT_append (okT_toksL fun q hq=>hbT q (List.mem_of_mem_take hq)) ((okT_toks (hbT q hqm)).take m)]
     exact o10
 ·rintro t vs h5 ⟨rfl,rfl,e5,o5⟩
  have e25:=(e2.trans e3).trans e5
  exact s_tag (s_cast0 (s_getO (bs:=SB) o5 (s_tellO (bs:=SB) _ (oa.ext e25) (Nat.le_refl _) (ea.trans e25) (flatS _) fun h' e=>⟨rfl,e,(_,()),rfl,rfl⟩)))
end Go.Sw.Piece

set_option linter.unusedVariables false
set_option linter.unusedSimpArgs false
set_option maxRecDepth 100000
namespace Go.Sw.Piece
open Go.Sw.Any Go.Sw.Codec
open Go.Sw.Tree (iv s_putAll s_newP s_getP s_getT s_putP eqI_self Placed cell_own wp_whileG minI_eq)
variable {P:Program} {S:Ids} {h:Heap} {Q:Nat→List Value→Heap→Prop}
abbrev EdSh:Sh:=.str (.pair (.int .i64) (.pair (.int .i64) (.pair (.list (.int .i64)) .unit)))
abbrev EdD:=Int×Int×(Sl×List Int)×Unit
abbrev Eds:=Sl×List EdD
def putsOf (es:List EdD):List Int:=es.flatMap fun e=>e.2.2.1.2
theorem s_edit {x:Eds} {e:EdD} {j:Nat} {K:Addr→Prog} (ho:(Sh.list EdSh).ok h x) (hj:x.2[j]? = some e)
  (hk:∀ a h',Ext h h'→h.size≤a.block→Own h.size 1 h' ⟨some a,3,3⟩ [i64v e.1,i64v e.2.1,slv e.2.2.1.1]→wp P (K a) h' Q) :
  wp P (grd (andB (someB x.1.base) (inB (j:Int) x.1.len)) <| .load (.agg [.int .i64, .int .i64, .sl]) (shiftTo x.1.base (mulN (toN (j:Int)) 3)) fun (r:Int×Int×Sl×Unit)=>
   .alloc [i64v 0,i64v 0, .slice none 0 0] fun a=>.store (some a) [i64v r.1,i64v r.2.1,slv r.2.2.1] (K a)) h Q:=by
 refine s_atSh (e:=EdSh) (x:=x) ho (by omega) (by simpa using hj) rfl (z:=(e.1,e.2.1,e.2.2.1.1,())) rfl ?_
 dsimp only
 refine fun elem=>?_
 have e1:Ext h (h.push (.cells [i64v 0,i64v 0, .slice none 0 0].toArray elem)):=Ext.push ..
 have o1:Own h.size 1 (h.push (.cells [i64v 0,i64v 0, .slice none 0 0].toArray elem)) ⟨some ⟨h.size,0,none⟩,3,3⟩ [i64v 0,i64v 0, .slice none 0 0]:=own_alloc rfl (by decide) (by decide)
 generalize h.push (.cells [i64v 0,i64v 0, .slice none 0 0].toArray elem)=h1 at e1 o1 ⊢
 exact s_putV [i64v e.1,i64v e.2.1,slv e.2.2.1.1] o1 rfl (by intro v hv; simp only [List.mem_cons,List.not_mem_nil,or_false] at hv; rcases hv with rfl | rfl | rfl <;> rfl) fun h2 o2 u2 z2=>
  hk _ h2 (Upd.extN e1 u2 (by intro x hx; cases hx; exact Nat.le_refl _)) (Nat.le_refl _) o2
def Plc (len:Int):Int→List EdD→Prop
 | _,[]=>True
 | at_,e::es=>at_≤e.1∧e.1≤e.2.1∧e.2.1≤len∧Plc len e.2.1 es
def lastTo:Int→List EdD→Int
 | at_,[]=>at_
 | _,e::es=>lastTo e.2.1 es
theorem Plc.append {len:Int}:∀ {xs:List EdD} {at_:Int} {ys:List EdD},Plc len at_ (xs++ys)↔Plc len at_ xs∧Plc len (lastTo at_ xs) ys
 | [],at_,ys=>by simp [Plc,lastTo]
 | x::xs,at_,ys=>by
  simp only [List.cons_append,Plc,lastTo,Plc.append (xs:=xs)]
  exact ⟨fun ⟨a,b,c,d,e⟩=>⟨⟨a,b,c,d⟩,e⟩,fun ⟨⟨a,b,c,d⟩,e⟩=>⟨a,b,c,d,e⟩⟩
theorem lastTo_snoc:∀ {xs:List EdD} {at_:Int} {e:EdD},lastTo at_ (xs++[e])=e.2.1
 | [],_,_=>rfl
 | x::xs,at_,e=>lastTo_snoc (xs:=xs)
theorem Plc.at {len:Int} {es:List EdD} {at_:Int} (h:Plc len at_ es) {i:Nat} {e:EdD} (hi:es[i]? = some e):lastTo at_ (es.take i)≤e.1∧e.1≤e.2.1∧e.2.1≤len:=by
 have h2:es=es.take i++(e::es.drop (i+1)):=by
  have hlt:=(List.getElem?_eq_some_iff.1 hi).1
  have:=(List.getElem?_eq_some_iff.1 hi).2
  rw [← this, ← List.drop_eq_getElem_cons hlt,List.take_append_drop]
 rw [h2,Plc.append] at h
 exact ⟨h.2.1,h.2.2.1,h.2.2.2.1⟩
theorem lastTo_lo {len:Int}:∀ {es:List EdD} {at_:Int},Plc len at_ es→at_≤lastTo at_ es
 | [],_,_=>Int.le_refl _
 | e::es,at_,⟨a,b,_,d⟩=>by have:=lastTo_lo d; simp only [lastTo]; omega
theorem Plc.take {len:Int} {es:List EdD} {at_:Int} (h:Plc len at_ es) (i:Nat):Plc len at_ (es.take i):=by
 have h2:=List.take_append_drop i es
 rw [← h2,Plc.append] at h
 exact h.1
def sizeL (enc:Int) (l:List Int):Int:=(l.map (sizeF enc)).sum
theorem sizeL_append (enc:Int) (l m:List Int):sizeL enc (l++m)=sizeL enc l+sizeL enc m:=by simp [sizeL]
theorem sizeL_le (enc:Int) (l:List Int):0≤sizeL enc l∧sizeL enc l≤4*l.length:=by
 induction l with
 | nil=>simp [sizeL]
 | cons a l ih=>
  have h1:=sizeF_pos enc a; have h2:=sizeF_le enc a
  have:sizeL enc (a::l)=sizeF enc a+sizeL enc l:=by simp [sizeL]
  rw [this,List.length_cons]; omega
def goneE (ts:List (Int×Int)) (es:List EdD):Int:=(es.map fun e=>(offs (ts.take e.2.1.toNat):Int)-offs (ts.take e.1.toNat)).sum
def fitsE (enc:Int) (l:List Int):Prop:=∀ a,a∈l→0<sizeF enc a
inductive RefR (enc limit:Int) (ts:List (Int×Int)) (es:List EdD):Int→Prop where
 | many:70000<es.length→RefR enc limit ts es 3
 | place:es.length≤70000→¬ Plc ts.length 0 es→RefR enc limit ts es 2
 | fit:es.length≤70000→Plc ts.length 0 es→¬ fitsE enc (putsOf es)→RefR enc limit ts es 11
 | full:es.length≤70000→Plc ts.length 0 es→fitsE enc (putsOf es)→limit<offs ts+sizeL enc (putsOf es)-goneE ts es→RefR enc limit ts es 50
 | ok:es.length≤70000→Plc ts.length 0 es→fitsE enc (putsOf es)→offs ts+sizeL enc (putsOf es)-goneE ts es≤limit→RefR enc limit ts es 0
theorem putsOf_succ {es:List EdD} {i:Nat} {e:EdD} (hi:es[i]? = some e):putsOf (es.take (i+1))=putsOf (es.take i)++e.2.2.1.2:=by
 rw [List.take_add_one,hi]; simp [putsOf]
theorem putsOf_le (es:List EdD) (i:Nat):(putsOf (es.take i)).length≤(putsOf es).length:=by
 have:putsOf es=putsOf (es.take i)++putsOf (es.drop i):=by unfold putsOf; rw [← List.flatMap_append,List.take_append_drop]
 rw [this,List.length_append]; omega
theorem goneE_succ {ts:List (Int×Int)} {es:List EdD} {i:Nat} {e:EdD} (hi:es[i]? = some e):goneE ts (es.take (i+1))=goneE ts (es.take i)+((offs (ts.take e.2.1.toNat):Int)-offs (ts.take e.1.toNat)):=by
 rw [List.take_add_one,hi]; simp [goneE]
theorem offs_take_le (ts:List (Int×Int)) (n:Nat):offs (ts.take n)≤offs ts:=by
 have:=offs_append (ts.take n) (ts.drop n)
 rw [List.take_append_drop] at this; omega
theorem goneE_le {ts:List (Int×Int)} (es:List EdD) : -(offs ts:Int)*es.length≤goneE ts es∧goneE ts es≤offs ts*es.length:=by
 induction es with
 | nil=>simp [goneE]
 | cons e es ih=>
  have h1:=offs_take_le ts e.2.1.toNat
  have h2:=offs_take_le ts e.1.toNat
  have:goneE ts (e::es)=((offs (ts.take e.2.1.toNat):Int)-offs (ts.take e.1.toNat))+goneE ts es:=by simp [goneE]
  rw [this,List.length_cons]
  have e1 : -(offs ts:Int)*((es.length+1:Nat):Int) = -(offs ts:Int)*es.length + -(offs ts:Int):=by push_cast; rw [Int.mul_add,Int.mul_one]
  have e2:(offs ts:Int)*((es.length+1:Nat):Int)=(offs ts:Int)*es.length+(offs ts:Int):=by push_cast; rw [Int.mul_add,Int.mul_one]
  rw [e1,e2]
  omega
theorem c_refuse (M:Meth0 P S) {n:Nat} {T:TX} {x:Eds} (r:TextR S n h T) (ho:(Sh.list EdSh).ok h x) (htot:(putsOf x.2).length≤1099511627776) (hsm:(bytesL T.cur.ps).length≤T.limit) :
  Gives P (F_Text_refuse S (some T.p) x.1) [.one (.int .i64)] h fun (y:Int×Unit) _=>RefR T.enc T.limit (toksL T.enc T.cur.ps) x.2 y.1:=by
 have hxl:=ho.len
 have hcap:=ho.2.1
 have hmax:=ho.2.2.1
 have hf:=r.cur.few r.lim.2
 have hlim:=r.lim
 have hoffs:=(toksL_le (enc:=T.enc) r.cur.bytes).2
 unfold F_Text_refuse Gives
 refine wp_ifB (fun hc=>s_ret ⟨rfl,Ext.refl _,(3,()),rfl, .many ?_⟩) fun hc=>?_
 ·rw [gtI_iff,natI_def,hxl] at hc; omega
 rw [gtI_not,natI_def,hxl] at hc
 have hfew:x.2.length≤70000:=by omega
 refine wp_call (c_Len r) fun ⟨(L:Int),_⟩ h1 e1 hL=>?_
 have hL:L=(toksL T.enc T.cur.ps).length:=by have hL:L=_:=hL; rw [hL,els_len]
 subst hL
 dsimp only
 generalize hts:toksL T.enc T.cur.ps=ts at *
 refine wp_while (fun (s:Int×Int×Unit) h'=>Ext h h'∧∃ i:Nat,s.2.1=i∧i≤x.2.length∧Plc ts.length 0 (x.2.take i)∧s.1=lastTo 0 (x.2.take i)) (fun s _=>((x.2.length:Int)-s.2.1).toNat)
  (fun t vs h'=>Ext h h'∧((t=2∧vs=[]∧Plc ts.length 0 x.2)∨(t=1∧vs=[i64v 2]∧¬ Plc ts.length 0 x.2))) ⟨e1,0,rfl,Nat.zero_le _,trivial,rfl⟩ ?_ ?_
 ·rintro ⟨(at_:Int),i',u⟩ h2 ⟨e2,i,hi,hil,hp,ha⟩
  dsimp only at hi ha ⊢
  subst hi; subst ha
  refine wp_ifB (fun hc=>?_) fun hc=>?_
  ·rw [ltI_iff,natI_def,hxl] at hc
   obtain ⟨e,hie⟩:∃ e,x.2[i]? = some e:=⟨x.2[i]'(by omega),List.getElem?_eq_getElem (by omega)⟩
   refine s_edit (ho.ext e2) hie fun a h3 e3 _ o3=>?_
   have l0:∀ {K:Int→Prog} {Q:Nat→List Value→Heap→Prop} {h'},Ext h3 h'→wp P (K e.1) h' Q→wp P (.load (.one (.int .i64)) (shiftTo (some a) 0) K) h' Q:=fun q hk=>wp_load1 (b:=.int .i64) _ e.1 rfl (cells_iff.1 (o3.ext q).cells 0 _ rfl) hk
   have l1:∀ {K:Int→Prog} {Q:Nat→List Value→Heap→Prop} {h'},Ext h3 h'→wp P (K e.2.1) h' Q→wp P (.load (.one (.int .i64)) (shiftTo (some a) 1) K) h' Q:=fun q hk=>wp_load1 (b:=.int .i64) _ e.2.1 rfl (cells_iff.1 (o3.ext q).cells 1 _ rfl) hk
   have htk:x.2.take (i+1)=x.2.take i++[e]:=by rw [List.take_add_one,hie]; rfl
   refine bind_bool (¬ (lastTo 0 (x.2.take i)≤e.1∧e.1≤e.2.1∧e.2.1≤ts.length)) ?_ fun bb h4 e4 hb=>wp_ifB (fun hc=>?_) fun hc=>?_
   ·refine l0 (Ext.refl _) (wp_ifB (fun hc=>s_ret ⟨rfl,Ext.refl _,true,rfl,?_⟩) fun hc=>l1 (Ext.refl _) (l0 (Ext.refl _) (wp_ifB (fun hd=>s_ret ⟨rfl,Ext.refl _,true,rfl,?_⟩) fun hd=>l1 (Ext.refl _) (s_ret ⟨rfl,Ext.refl _,_,rfl,?_⟩))))
    ·rw [ltI_iff] at hc; exact Iff.intro (fun _=>by omega) fun _=>rfl
    ·rw [ltI_iff] at hd; exact Iff.intro (fun _=>by omega) fun _=>rfl
    ·rw [ltI_not] at hc hd; rw [gtI_iff]; omega
   ·refine s_ret ⟨fun h=>absurd h (by decide),fun _=>⟨(e2.trans e3).trans e4, .inr ⟨rfl,rfl,fun hpl=>hb.1 hc (hpl.at hie)⟩⟩⟩
   ·have hok:lastTo 0 (x.2.take i)≤e.1∧e.1≤e.2.1∧e.2.1≤ts.length:=by
     by_cases hx:lastTo 0 (x.2.take i)≤e.1∧e.1≤e.2.1∧e.2.1≤ts.length
     ·exact hx
     ·rw [hb.2 hx] at hc; cases hc
    refine l1 e4 ?_
    rw [add_ok (a:=(i:Int)) (by omega) (by omega)]
    refine s_ret ⟨fun _=>⟨(e.2.1,(i:Int)+1,()),rfl,⟨(e2.trans e3).trans e4,i+1,rfl,by omega,?_,?_⟩,by dsimp only; omega⟩,fun h=>absurd rfl h⟩
    ·rw [htk,Plc.append]; exact ⟨hp,hok.1,hok.2.1,hok.2.2,trivial⟩
    ·rw [htk,lastTo_snoc]
  ·rw [ltI_not,natI_def,hxl] at hc
   rw [List.take_of_length_le (by omega)] at hp
   exact s_ret ⟨fun h=>absurd h (by decide),fun _=>⟨e2, .inl ⟨rfl,rfl,hp⟩⟩⟩
 rintro t vs h2 ⟨e2,⟨rfl,rfl,hpl⟩ | ⟨rfl,rfl,hno⟩⟩
 ·refine s_tag (s_cast0 (wp_call (c_Size (r.ext e2)) fun ⟨(sz:Int),_⟩ h3 e3 hsz=>?_))
  have hsz:sz=(bytesL T.cur.ps).length:=hsz
  rw [← hoffs] at hsz hsm
  subst hsz
  dsimp only
  have e03:=e2.trans e3
  refine wp_while (fun (s:Int×Int×Unit) h'=>Ext h h'∧∃ i:Nat,s.2.1=i∧i≤x.2.length∧fitsE T.enc (putsOf (x.2.take i))∧s.1=offs ts+sizeL T.enc (putsOf (x.2.take i))) (fun s _=>((x.2.length:Int)-s.2.1).toNat)
   (fun t vs h'=>Ext h h'∧((t=4∧vs=[i64v (offs ts+sizeL T.enc (putsOf x.2))]∧fitsE T.enc (putsOf x.2))∨(t=1∧vs=[i64v 11]∧¬ fitsE T.enc (putsOf x.2)))) ⟨e03,0,rfl,Nat.zero_le _,(fun a ha=>by simp [putsOf] at ha),by simp [putsOf,sizeL]⟩ ?_ ?_
  ·rintro ⟨(bs:Int),i',u⟩ h4 ⟨e4,i,hi,hil,hp,ha⟩
   dsimp only at hi ha ⊢
   subst hi; subst ha
   refine wp_ifB (fun hc=>?_) fun hc=>?_
   ·rw [ltI_iff,natI_def,hxl] at hc
    obtain ⟨e,hie⟩:∃ e,x.2[i]? = some e:=⟨x.2[i]'(by omega),List.getElem?_eq_getElem (by omega)⟩
    refine s_edit (ho.ext e4) hie fun a h5 e5 _ o5=>?_
    have hlst:Lst .i64 h e.2.2.1.1 e.2.2.1.2:=Sh.lst (ho.el hie).2.2.1
    have hll:=hlst.len
    have e05:=e4.trans e5
    have hsucc:=putsOf_succ hie
    have hle1:=putsOf_le x.2 (i+1)
    rw [hsucc,List.length_append] at hle1
    have hall:∀ a,a∈e.2.2.1.2→a∈putsOf x.2:=fun a ha=>by
     unfold putsOf; exact List.mem_flatMap.2 ⟨e,List.mem_of_getElem? hie,ha⟩
    refine wp_load1 (b:=.sl) _ e.2.2.1.1 rfl (cells_iff.1 o5.cells 2 _ rfl) ?_
    refine wp_while (fun (s:Int×Int×Unit) h'=>Ext h h'∧∃ j:Nat,s.2.1=j∧j≤e.2.2.1.2.length∧fitsE T.enc (e.2.2.1.2.take j)∧s.1=offs ts+sizeL T.enc (putsOf (x.2.take i))+sizeL T.enc (e.2.2.1.2.take j)) (fun s _=>((e.2.2.1.2.length:Int)-s.2.1).toNat)
     (fun t vs h'=>Ext h h'∧((t=6∧vs=[i64v (offs ts+sizeL T.enc (putsOf (x.2.take i))+sizeL T.enc e.2.2.1.2)]∧fitsE T.enc e.2.2.1.2)∨(t=1∧vs=[i64v 11]∧¬ fitsE T.enc e.2.2.1.2))) ⟨e05,0,rfl,Nat.zero_le _,(fun a ha=>by simp at ha),by simp [sizeL]⟩ ?_ ?_
    ·rintro ⟨(bs:Int),j',u⟩ h6 ⟨e6,j,hj,hjl,hq,hb⟩
     dsimp only at hj hb ⊢
     subst hj; subst hb
     have hsz1:=sizeL_le T.enc (putsOf (x.2.take i))
     have hsz2:=sizeL_le T.enc (e.2.2.1.2.take j)
     rw [List.length_take] at hsz2
     refine wp_ifB (fun hd=>?_) fun hd=>?_
     ·rw [ltI_iff,natI_def,hll] at hd
      have hjlt:j<e.2.2.1.2.length:=by omega
      refine s_at (hlst.ext e6) (by omega) (by omega) fun hfit=>s_enc (r.ext e6) ?_
      rw [show ((j:Int)).toNat=j by omega]
      have hge:e.2.2.1.2.getD j 0=e.2.2.1.2[j]:=by rw [List.getD_eq_getElem?_getD,List.getElem?_eq_getElem hjlt]; rfl
      rw [hge]
      refine wp_call (Codec.c_Size M.sizes T.enc (e.2.2.1.2[j])) fun ⟨(sz:Int),_⟩ h7 e7 hs=>?_
      have hs:sz=sizeF T.enc (e.2.2.1.2[j]):=hs
      subst hs
      have hpos:=sizeF_pos T.enc (e.2.2.1.2[j]); have hle4:=sizeF_le T.enc (e.2.2.1.2[j])
      dsimp only
      refine wp_ifB (fun hz=>?_) fun hz=>?_
      ·rw [eqI_iff] at hz
       refine s_ret ⟨fun h=>absurd h (by decide),fun _=>⟨e6.trans e7, .inr ⟨rfl,rfl,fun hfe=>?_⟩⟩⟩
       have:=hfe _ (List.getElem_mem hjlt); omega
      ·rw [eqI_not] at hz
       have htk:e.2.2.1.2.take (j+1)=e.2.2.1.2.take j++[e.2.2.1.2[j]]:=by rw [List.take_add_one,List.getElem?_eq_getElem hjlt]; rfl
       have hone:sizeL T.enc [e.2.2.1.2[j]]=sizeF T.enc (e.2.2.1.2[j]):=by simp [sizeL]
       rw [add_ok (a:=(j:Int)) (by omega) (by omega),add_ok (by omega) (by omega)]
       refine s_ret ⟨fun _=>⟨(_,(j:Int)+1,()),rfl,⟨e6.trans e7,j+1,rfl,by omega,?_,?_⟩,by dsimp only; omega⟩,fun h=>absurd rfl h⟩
       ·rw [htk]
        intro a ha
        rcases List.mem_append.1 ha with ha | ha
        ·exact hq a ha
        ·rw [List.mem_singleton.1 ha]; omega
       ·dsimp only; rw [htk,sizeL_append,hone]; omega
     ·rw [ltI_not,natI_def,hll] at hd
      have htj:e.2.2.1.2.take j=e.2.2.1.2:=List.take_of_length_le (by omega)
      rw [htj] at hq ⊢
      exact s_ret ⟨fun h=>absurd h (by decide),fun _=>⟨e6, .inl ⟨rfl,rfl,hq⟩⟩⟩
    ·rintro t vs h6 ⟨e6,⟨rfl,rfl,hq⟩ | ⟨rfl,rfl,hq⟩⟩
     ·refine s_tag (s_castI ?_)
      rw [add_ok (a:=(i:Int)) (by omega) (by omega)]
      refine s_ret ⟨fun _=>⟨(_,(i:Int)+1,()),rfl,⟨e6,i+1,rfl,by omega,?_,?_⟩,by dsimp only; omega⟩,fun h=>absurd rfl h⟩
      ·rw [hsucc]
       intro a ha
       exact (List.mem_append.1 ha).elim (hp a) (hq a)
      ·dsimp only; rw [hsucc,sizeL_append]; omega
     ·refine s_skip (by decide) (s_tag (s_castI (s_ret ⟨fun h=>absurd h (by decide),fun _=>⟨e6, .inr ⟨rfl,rfl,fun hfe=>hq fun a ha=>hfe a (hall a ha)⟩⟩⟩)))
   ·rw [ltI_not,natI_def,hxl] at hc
    rw [List.take_of_length_le (by omega)] at hp ⊢
    exact s_ret ⟨fun h=>absurd h (by decide),fun _=>⟨e4, .inl ⟨rfl,rfl,hp⟩⟩⟩
  ·rintro t vs h4 ⟨e4,⟨rfl,rfl,hfe⟩ | ⟨rfl,rfl,hnf⟩⟩
   ·refine s_tag (s_castI ?_)
    have hszP:=sizeL_le T.enc (putsOf x.2)
    refine wp_while (fun (s:Int×Int×Unit) h'=>Ext h h'∧∃ i:Nat,s.2.1=i∧i≤x.2.length∧s.1=offs ts+sizeL T.enc (putsOf x.2)-goneE ts (x.2.take i)) (fun s _=>((x.2.length:Int)-s.2.1).toNat)
     (fun t vs h'=>Ext h h'∧t=8∧vs=[i64v (offs ts+sizeL T.enc (putsOf x.2)-goneE ts x.2)]) ⟨e4,0,rfl,Nat.zero_le _,by simp [goneE]⟩ ?_ ?_
    ·rintro ⟨(bs:Int),i',u⟩ h5 ⟨e5,i,hi,hil,ha⟩
     dsimp only at hi ha ⊢
     subst hi; subst ha
     refine wp_ifB (fun hc=>?_) fun hc=>?_
     ·rw [ltI_iff,natI_def,hxl] at hc
      obtain ⟨e,hie⟩:∃ e,x.2[i]? = some e:=⟨x.2[i]'(by omega),List.getElem?_eq_getElem (by omega)⟩
      have hpe:=hpl.at hie
      have hlo:=lastTo_lo (hpl.take i)
      have hg:=goneE_le (ts:=ts) (x.2.take i)
      have hgm:(offs ts:Int)*((x.2.take i).length:Nat)≤65536*70000:=Int.mul_le_mul (by omega) (by rw [List.length_take]; omega) (by omega) (by decide)
      have hgm2 : -(offs ts:Int)*((x.2.take i).length:Nat) = -((offs ts:Int)*((x.2.take i).length:Nat)):=Int.neg_mul ..
      rw [hgm2] at hg
      have hgs:=goneE_succ (ts:=ts) hie
      refine bind_val (tys:=[.one (.int .i64)]) (fun (y:Int×Unit) _=>y.1=offs ts+sizeL T.enc (putsOf x.2)-goneE ts (x.2.take (i+1))) ?_ fun ⟨(y:Int),_⟩ h6 e6 hy=>?_
      ·refine s_edit (ho.ext e5) hie fun a h6 e6 _ o6=>?_
       have l0:∀ {K:Int→Prog} {Q:Nat→List Value→Heap→Prop} {h'},Ext h6 h'→wp P (K e.1) h' Q→wp P (.load (.one (.int .i64)) (shiftTo (some a) 0) K) h' Q:=fun q hk=>wp_load1 (b:=.int .i64) _ e.1 rfl (cells_iff.1 (o6.ext q).cells 0 _ rfl) hk
       have l1:∀ {K:Int→Prog} {Q:Nat→List Value→Heap→Prop} {h'},Ext h6 h'→wp P (K e.2.1) h' Q→wp P (.load (.one (.int .i64)) (shiftTo (some a) 1) K) h' Q:=fun q hk=>wp_load1 (b:=.int .i64) _ e.2.1 rfl (cells_iff.1 (o6.ext q).cells 1 _ rfl) hk
       have E:=Ext.refl h6
       have r6:=r.ext (e5.trans e6)
       refine l1 E (l0 E (wp_ifB (fun hd=>?_) fun hd=>?_))
       ·rw [gtI_iff] at hd
        refine l1 E (l0 E (wp_call (c_ahead M r6 (at_:=e.2.1) (by omega) (by rw [hts]; omega)) fun ⟨(s1:Sums),_⟩ h7 e7 hs1=>s_ckC (q:=a) (j:=0) (cells_iff.1 (o6.ext e7).cells 0 _ rfl) (wp_call (c_ahead M (r6.ext e7) (at_:=e.1) (by omega) (by rw [hts]; omega)) fun ⟨(s2:Sums),_⟩ h8 e8 hs2=>?_)))
        have hs1:s1=_:=hs1
        have hs2:s2=_:=hs2
        rw [hts] at hs1 hs2
        have okt:okT ts:=by rw [← hts]; exact okT_toksL r.cur.bytes
        have b1:s1.2.1=offs (ts.take e.2.1.toNat):=by rw [hs1]; exact (sumT_is (okt.take _)).2
        have b2:s2.2.1=offs (ts.take e.1.toNat):=by rw [hs2]; exact (sumT_is (okt.take _)).2
        have k1:=offs_take_le ts e.2.1.toNat
        have k2:=offs_take_le ts e.1.toNat
        dsimp only
        rw [b1,b2,sub_ok (a:=((offs (ts.take e.2.1.toNat):Nat):Int)) (by omega) (by omega),sub_ok (by omega) (by omega)]
        exact s_ret ⟨rfl,(e6.trans e7).trans e8,(_,()),rfl,by show _=_; rw [hgs]; omega⟩
       ·rw [gtI_not] at hd
        have hee:e.1=e.2.1:=by omega
        exact s_ret ⟨rfl,e6,(_,()),rfl,by show _=_; rw [hgs,hee]; omega⟩
      ·have hy:y=_:=hy
       subst hy
       dsimp only
       rw [add_ok (a:=(i:Int)) (by omega) (by omega)]
       exact s_ret ⟨fun _=>⟨(_,(i:Int)+1,()),rfl,⟨e5.trans e6,i+1,rfl,by omega,rfl⟩,by dsimp only; omega⟩,fun h=>absurd rfl h⟩
     ·rw [ltI_not,natI_def,hxl] at hc
      rw [List.take_of_length_le (by omega)]
      exact s_ret ⟨fun h=>absurd h (by decide),fun _=>⟨e5,rfl,rfl⟩⟩
    ·rintro t vs h5 ⟨e5,rfl,rfl⟩
     refine s_tag (s_castI (wp_grd rfl (wp_grd rfl (wp_load1 (b:=.int .i64) _ T.limit rfl (r.ext e5).c1 (wp_ifB (fun hc=>?_) fun hc=>?_)))))
     ·rw [gtI_iff] at hc
      exact s_ret ⟨rfl,e5,(50,()),rfl, .full hfew hpl hfe hc⟩
     ·rw [gtI_not] at hc
      exact s_ret ⟨rfl,e5,(0,()),rfl, .ok hfew hpl hfe hc⟩
   ·exact s_skip (by decide) (s_tag (s_castI (s_ret ⟨rfl,e4,(11,()),rfl, .fit hfew hpl hnf⟩)))
 ·exact s_skip (by decide) (s_tag (s_castI (s_ret ⟨rfl,e2,(2,()),rfl, .place hfew hno⟩)))
end Go.Sw.Piece

set_option linter.unusedVariables false
set_option linter.unusedSimpArgs false
set_option maxRecDepth 100000
namespace Go.Sw.Piece
open Go.Sw.Any Go.Sw.Codec
open Go.Sw.Tree (iv s_putAll s_newP s_getP s_getT s_putP eqI_self Placed cell_own wp_whileG minI_eq)
variable {P:Program} {S:Ids} {h:Heap} {Q:Nat→List Value→Heap→Prop}
theorem size_first {enc:Int} (he:known enc) {l:List Int} (hb:isBytes l) (hl:0<l.length):0<sizeF enc (firstF enc l).1∧(firstF enc l).2=sizeF enc (firstF enc l).1∧putF enc (firstF enc l).1=l.take (firstF enc l).2.toNat:=by
 obtain ⟨h1,h2⟩:=first_put he hb hl
 have h3:=putF_len h1
 have h4:=firstF_size (enc:=enc) hl hb
 rw [h2,List.length_take] at h3
 exact ⟨h1,by omega,h2⟩
theorem toks_is {enc:Int} (he:known enc) {l:List Int} (hb:isBytes l):(∀ t,t∈toks enc l→0<sizeF enc t.1∧t.2=sizeF enc t.1)∧(toks enc l).flatMap (fun t=>putF enc t.1)=l:=by
 refine byAtoms (enc:=enc) (M:=fun l=>(∀ t,t∈toks enc l→0<sizeF enc t.1∧t.2=sizeF enc t.1)∧(toks enc l).flatMap (fun t=>putF enc t.1)=l) (fun l hz=>?_) (fun l hb hl ih=>?_) l hb
 ·rw [toks_nil hz]; exact ⟨fun t ht=>(by cases ht),(List.eq_nil_of_length_eq_zero hz).symm⟩
 ·obtain ⟨h1,h2,h3⟩:=size_first he hb hl
  rw [toks_cons hb hl]
  refine ⟨fun t ht=>?_,?_⟩
  ·rcases List.mem_cons.1 ht with rfl | ht
   ·exact ⟨h1,h2⟩
   ·exact ih.1 t ht
  ·rw [List.flatMap_cons,ih.2,h3,List.take_append_drop]
abbrev tk (enc a:Int):Int×Int:=(a,sizeF enc a)
theorem toks_puts {enc:Int} (he:known enc):∀ {l:List Int},(∀ a,a∈l→0<sizeF enc a∧scalarF a)→toks enc (l.flatMap (putF enc))=l.map (tk enc)
 | [],_=>toks_nil rfl
 | a::l,h=>by
  have ha:=h a (List.mem_cons_self ..)
  have hl:=fun x hx=>h x (List.mem_cons_of_mem _ hx)
  have hbl:=bytes_flat (enc:=enc) (l:=l) fun x hx=>(hl x hx).1
  have e:=first_of_put he ha.1 ha.2 hbl
  have hlen:=putF_len ha.1
  rw [List.flatMap_cons,toks_cons (bytes_append (bytes_put ha.1) hbl) (by rw [List.length_append]; omega),e]
  dsimp only
  rw [List.drop_left' (by omega),toks_puts he hl]; rfl
theorem toks_one {enc a:Int} (he:known enc) (hf:0<sizeF enc a) (hn:¬ scalarF a):toks enc (putF enc a)=[tk enc a]:=by
 have hb:=bytes_put hf
 have hlen:=putF_len hf
 have hu:=(fits_iff enc a).1 hf
 have e:firstF enc (putF enc a)=(a,sizeF enc a):=by
  unfold scalarF at hn
  rcases known_cases he with rfl | h23 | h23 | rfl
  ·have ha : -256≤a∧a ≤ -129:=by omega
   have hp:putF 1 a=[-1-a]:=by unfold putF; rw [if_pos (by omega)]
   have hs:sizeF 1 a=1:=by rw [hp] at hlen; exact hlen.symm
   rw [hp] at hb ⊢
   unfold firstF
   rw [if_pos rfl,raw_val hb (by simp) fun m h1 h4 hm hr=>?_,hs]
   ·simp; omega
   ·have hm1:m=1:=by simp at hm; omega
    subst hm1
    have h0:=hb.at 0
    have:=(row_is (x1:=0) (x2:=0) (x3:=0) h0.1 h0.2 1 (by decide)).1 hr
    simp [contF] at this
    omega
  ·subst h23
   by_cases h0:a<0
   ·have hp:putF 2 a=[-1-a]:=by unfold putF; rw [if_pos h0]
    have hs:sizeF 2 a=1:=by rw [hp] at hlen; exact hlen.symm
    rw [hp,hs]; unfold firstF first16; simp; omega
   ·have hp:putF 2 a=[a % 256,a / 256]:=by unfold putF unitB; rw [if_neg h0,if_neg (by decide),if_neg (by decide),if_neg (by omega),if_pos rfl]
    have hs:sizeF 2 a=2:=by rw [hp] at hlen; exact hlen.symm
    rw [hp,hs]; unfold firstF first16 unitF; simp; omega
  ·subst h23
   by_cases h0:a<0
   ·have hp:putF 3 a=[-1-a]:=by unfold putF; rw [if_pos h0]
    have hs:sizeF 3 a=1:=by rw [hp] at hlen; exact hlen.symm
    rw [hp,hs]; unfold firstF first16; simp; omega
   ·have hp:putF 3 a=[a / 256,a % 256]:=by unfold putF unitB; rw [if_neg h0,if_neg (by decide),if_neg (by decide),if_neg (by omega),if_neg (by decide)]
    have hs:sizeF 3 a=2:=by rw [hp] at hlen; exact hlen.symm
    rw [hp,hs]; unfold firstF first16 unitF; simp; omega
  ·omega
 rw [toks_cons hb (by omega),e]
 dsimp only
 rw [List.drop_of_length_le (by omega),toks_nil rfl]
theorem Nd.mono {I:Inst} {Z':Nat→Prop} (hz:∀ i,i<h.size→I.Z i→Z' i):∀ {t:Bt I.It} {p:Option Addr},Nd I h p t→Nd { I with Z:=Z' } h p t
 | .nil,_,n=>n
 | .node l x r,p,⟨a,pl,pr,e1,c,n1,n2⟩=>⟨a,pl,pr,e1,⟨c.1,hz _ (by have:=cell_lt (cells_iff.1 c.1 0 _ rfl); rwa [add_block] at this) c.2.1,c.2.2⟩,Nd.mono hz n1,Nd.mono hz n2⟩
theorem part_mono {Z Z':Nat→Prop} {t:Bt Part} {p:Option Addr} (n:Nd (part S Z) h p t) (hz:∀ i,i<h.size→Z i→Z' i):Nd (part S Z') h p t:=Nd.mono (I:=part S Z) hz n
def Zad (Z:Nat→Prop) (s:Sl) (i:Nat):Prop:=Z i∨∃ b,s.base=some b∧b.block=i
theorem lst_take {k:IntKind} {n:Nat} {h h':Heap} {s r:Sl} {A B:List Int} {x:Sl} {l:List Int} {a b:Addr} (ho:OwnL n k h s A) (ho':OwnL n k h' r (A++B)) (hb:s.base=some b) (hr:r.base=some b) (hx:Lst k h x l) (ha:x.base=some a) (hab:a.block=b.block) (hs:a.spot=none) (hl:a.off+l.length≤A.length):Lst k h' x l:=by
 obtain ⟨_,_,_,o4⟩:=ho.own
 rw [hb] at o4
 obtain ⟨e0,e1,_,cs,elem,e3,e4,e5⟩:=o4
 obtain ⟨_,_,_,o4'⟩:=ho'.own
 rw [hr] at o4'
 obtain ⟨_,_,_,cs',elem',e3',e4',e5'⟩:=o4'
 refine ⟨⟨hx.rd.1,fun i v hi=>?_⟩,hx.cap,hx.max,hx.wf⟩
 obtain ⟨a',ea,c⟩:=hx.rd.2 i v hi
 rw [ha] at ea; cases ea
 refine ⟨a,ha,?_⟩
 have hil:=(List.getElem?_eq_some_iff.1 hi).1
 rw [List.length_map] at hil
 obtain ⟨ab,ao,sp⟩:=a
 dsimp only at hab hs hl
 subst hs; subst hab
 rw [add_mk] at c ⊢
 unfold Sw.cell at c ⊢
 dsimp only at c ⊢
 rw [e3] at c
 rw [e3']
 have h1:=e5 (ao+i) (.int k (A.getD (ao+i) 0)) (by rw [List.getElem?_map,List.getElem?_eq_getElem (by omega)]; simp [List.getD,List.getElem?_eq_getElem (show ao+i<A.length by omega)])
 have h2:=e5' (ao+i) (.int k (A.getD (ao+i) 0)) (by rw [List.getElem?_map,List.getElem?_append_left (by omega),List.getElem?_eq_getElem (by omega)]; simp [List.getD,List.getElem?_eq_getElem (show ao+i<A.length by omega)])
 simp at c ⊢
 rw [h1] at c
 rw [h2]; exact c
theorem text_add {n:Nat} {T:TX} {B:List Int} {r:Sl} {h1 h2:Heap} (t:TextR S n h T) (hn:n≤h.size) (hB:0<B.length) (o1:OwnL n .u8 h1 r (T.A++B)) (u1:Upd T.ad h h1) (b1:∀ a,r.base=some a→T.ad.base=some a∨h.size≤a.block) (c1:r.base=T.ad.base∨Ext h h1)
  (o2:Own n 1 h2 ⟨some T.p,4,4⟩ [i64v T.enc,i64v T.limit, .pointer T.cur.root,slv r]) (u2:Upd ⟨some T.p,4,4⟩ h1 h2):TextR S n h2 { T with ad:=r,A:=T.A++B,Z:=Zad T.Z r }∧∀ q,PcR h T q→PcR h2 { T with ad:=r,A:=T.A++B,Z:=Zad T.Z r } q:=by
 have hp:T.p.block<h.size:=(t.lo _ t.zp).2
 have rne:∀ b,r.base=some b→b.block≠T.p.block:=fun b hb=>by
  rcases b1 b hb with hx | hx
  ·exact t.adp b hx
  ·omega
 have pc:∀ {q},PcR h T q→PcR h2 { T with ad:=r,A:=T.A++B,Z:=Zad T.Z r } q:=fun {q} pq=>by
  have hblk:∀ a,q.1.1.base=some a→a.block<h.size:=fun a ha=>(t.lo _ (pq.blk a ha).1).2
  have l1:Lst .u8 h1 q.1.1 q.2:=by
   rcases c1 with hc | hc
   ·cases ha:q.1.1.base with
    | none=>exact pq.lst.blocks fun a hx=>by rw [ha] at hx; cases hx
    | some a=>
     cases hb:T.ad.base with
     | none=>exact pq.lst.blocks fun a hx hl=>u1.2.1 _ hl fun b hbb=>by rw [hb] at hbb; cases hbb
     | some b=>
      by_cases hab:a.block=b.block
      ·obtain ⟨_,_,k3⟩:=pq.blk a ha
       obtain ⟨k4,k5⟩:=k3 b hb hab
       exact lst_take t.ad o1 hb (hc.trans hb) pq.lst ha hab k4 k5
      ·exact pq.lst.blocks fun a' hx hl=>u1.2.1 _ hl fun b' hbb=>by rw [ha] at hx; cases hx; rw [hb] at hbb; cases hbb; exact fun e=>hab e.symm
   ·exact pq.lst.ext hc
  refine ⟨l1.blocks fun a ha hl=>u2.2.1 _ hl fun b hb=>by cases hb; exact fun e=>(pq.blk a ha).2.1 e.symm,pq.ne,pq.is,pq.tag,pq.len,fun a ha=>⟨.inl (pq.blk a ha).1,(pq.blk a ha).2.1,fun b hb hab=>?_⟩⟩
  rcases b1 b hb with hx | hx
  ·obtain ⟨k4,k5⟩:=(pq.blk a ha).2.2 b hx hab
   refine ⟨k4,?_⟩
   show _≤(T.A++B).length
   rw [List.length_append]; omega
  ·have:=hblk a ha; omega
 have nd:∀ {s},StR S h T s→Nd (part S (Zad T.Z r)) h2 s.root s.t:=fun {s} hs=>by
  have n1:Nd (part S T.Z) h1 s.root s.t:=hs.nd.updK u1 fun b hb=>by
   have hA:=t.adk b hb
   have hl:Lst .u8 h T.ad T.A:=t.ad.lst
   obtain ⟨b',e,c⟩:=hl.rd.at (i:=0) hA
   rw [hb] at e; cases e
   obtain ⟨_,_,_,o4⟩:=t.ad.own
   rw [hb] at o4
   obtain ⟨bb,bo,bsp⟩:=b
   have e0:=o4.1; have e1:=o4.2.1
   dsimp only at e0 e1
   subst e0; subst e1
   rw [add_zero'] at c
   exact ⟨_,_,c⟩
  have n2:Nd (part S T.Z) h2 s.root s.t:=n1.updK u2 fun b hb=>by
   cases hb
   obtain ⟨_,_,_,o4⟩:=t.ob
   have c:=cells_iff.1 (t.ob.cells) 0 _ rfl
   have c1:Sw.cell h1 (T.p.add 0)=some (i64v T.enc):=by
    rw [cell_of_block (h:=h) (by rw [add_block]; exact u1.2.1 _ hp fun b hb=>t.adp b hb)]; exact c
   rw [add_zero'] at c1
   obtain ⟨e0,e1,_⟩:=o4
   have hpe:(⟨T.p.block,0,none⟩:Addr)=T.p:=by
    show (⟨T.p.block,0,none⟩:Addr)=⟨T.p.block,T.p.off,T.p.spot⟩
    rw [e0,e1]
   rw [hpe]
   exact ⟨_,_,c1⟩
  exact part_mono n2 fun i _ hi=>.inl hi
 have st:∀ {s},StR S h T s→StR S h2 { T with ad:=r,A:=T.A++B,Z:=Zad T.Z r } s:=fun {s} hs=>⟨nd hs,hs.ls,fun q hq=>pc (hs.pcs q hq),hs.small⟩
 refine ⟨⟨t.enc,t.lim,o2,?_,rne,fun b hb=>by show 0<(T.A++B).length; rw [List.length_append]; omega,st t.cur,fun s hs=>st (t.kept s hs), .inl t.zp,fun b hb=>.inr ⟨b,hb,rfl⟩,fun i hi=>?_⟩,fun q hq=>pc hq⟩
 ·exact o1.upd u2 fun a b ha hb=>by cases hb; exact fun e=>rne a ha e.symm
 ·rcases hi with hi | ⟨b,hb,rfl⟩
  ·have:=t.lo i hi; have:=u1.1; have:=u2.1; omega
  ·have:=(o1.own.lt hb); have:=u2.1; omega
end Go.Sw.Piece

set_option linter.unusedVariables false
set_option linter.unusedSimpArgs false
set_option maxRecDepth 100000
namespace Go.Sw.Piece
open Go.Sw.Any Go.Sw.Codec
open Go.Sw.Tree (iv s_putAll s_newP s_getP s_getT s_putP eqI_self Placed cell_own wp_whileG minI_eq)
variable {P:Program} {S:Ids} {h:Heap} {Q:Nat→List Value→Heap→Prop}
def cP (l:List Part):List Value:=l.flatMap fun r=>Bs.inj PB r
theorem cP_append (l m:List Part):cP (l++m)=cP l++cP m:=by simp [cP]
theorem cP_one (x:Part):cP [x]=Bs.inj PB x:=by simp [cP]
theorem cP_len (l:List Part):(cP l).length=l.length*7:=by
 induction l with
 | nil=>rfl
 | cons x l ih=>unfold cP at ih ⊢; rw [List.flatMap_cons,List.length_append,ih,inj_len,List.length_cons]; simp; omega
theorem cP_flat (l:List Part):∀ v,v∈cP l→flat v=true:=fun v hv=>by
 obtain ⟨x,_,hx⟩:=List.mem_flatMap.1 hv
 exact flatP x v hx
abbrev OwnPs (n:Nat) (h:Heap) (s:Sl) (l:List Part):Prop:=Own n 7 h s (cP l)
theorem OwnPs.len {n:Nat} {s:Sl} {l:List Part} (o:OwnPs n h s l):s.len=l.length:=by
 have:=o.1
 rw [cP_len] at this; omega
structure FG where
 ad:Sl
 A:List Int
 Z:Nat→Prop
 qs:List Pc
 ps:Sl
 seg:List Int
def TX.at_ (T:TX) (g:FG):TX:={ T with ad:=g.ad,A:=g.A,Z:=g.Z }
structure FrI (S:Ids) (n:Nat) (T:TX) (m:Nat) (a1 a2 a5 a6:Addr) (done:List Int) (h:Heap) (g:FG):Prop where
 t:TextR S n h (T.at_ g)
 o1:Own m 1 h ⟨some a1,1,1⟩ [.pointer (some T.p)]
 o2:Own m 1 h ⟨some a2,1,1⟩ [slv g.ps]
 o5:Own m 1 h ⟨some a5,1,1⟩ [i64v (g.A.length-(g.seg.flatMap (putF T.enc)).length:Nat)]
 o6:Own m 1 h ⟨some a6,1,1⟩ [i64v g.seg.length]
 op:OwnPs m h g.ps (g.qs.map (·.1))
 dj:a1.block≠a2.block∧a1.block≠a5.block∧a1.block≠a6.block∧a2.block≠a5.block∧a2.block≠a6.block∧a5.block≠a6.block
 pd:∀ b,g.ps.base=some b→b.block≠a1.block∧b.block≠a2.block∧b.block≠a5.block∧b.block≠a6.block∧¬ g.Z b.block
 zd:¬ g.Z a1.block∧¬ g.Z a2.block∧¬ g.Z a5.block∧¬ g.Z a6.block
 zn:∀ i,g.Z i→T.Z i∨m≤i
 pcs:∀ q,q∈g.qs→PcR h (T.at_ g) q∧q.1.2.1 = -1
 all:g.A=T.A++done.flatMap (putF T.enc)
 put:bytesL g.qs++g.seg.flatMap (putF T.enc)=done.flatMap (putF T.enc)
 tks:toksL T.enc g.qs++g.seg.map (tk T.enc)=done.map (tk T.enc)
 fits:∀ a,a∈done→0<sizeF T.enc a
 few:g.seg.length≤128
theorem FrI.seg_le {n m:Nat} {T:TX} {a1 a2 a5 a6:Addr} {done:List Int} {g:FG} (f:FrI S n T m a1 a2 a5 a6 done h g):(g.seg.flatMap (putF T.enc)).length≤g.A.length:=by
 rw [f.all,List.length_append, ← f.put,List.length_append]; omega
theorem FrI.drop {n m:Nat} {T:TX} {a1 a2 a5 a6:Addr} {done:List Int} {g:FG} (f:FrI S n T m a1 a2 a5 a6 done h g):g.A.drop (g.A.length-(g.seg.flatMap (putF T.enc)).length)=g.seg.flatMap (putF T.enc):=by
 have h1:g.A=(T.A++bytesL g.qs)++g.seg.flatMap (putF T.enc):=by rw [f.all, ← f.put,List.append_assoc]
 have h2:g.A.length-(g.seg.flatMap (putF T.enc)).length=(T.A++bytesL g.qs).length:=by
  have:=congrArg List.length h1
  rw [List.length_append (bs:=g.seg.flatMap _)] at this; omega
 rw [h2]; conv=>lhs; rw [h1]
 rw [List.drop_left' rfl]
theorem FrI.segfits {n m:Nat} {T:TX} {a1 a2 a5 a6:Addr} {done:List Int} {g:FG} (f:FrI S n T m a1 a2 a5 a6 done h g):∀ a,a∈g.seg→0<sizeF T.enc a:=fun a ha=>by
 have h1:tk T.enc a∈done.map (tk T.enc):=by rw [← f.tks]; exact List.mem_append_right _ (List.mem_map.2 ⟨a,ha,rfl⟩)
 obtain ⟨b,hb,e⟩:=List.mem_map.1 h1
 have:b=a:=congrArg Prod.fst e
 rw [← this]; exact f.fits b hb
theorem FrI.ext {n m:Nat} {T:TX} {a1 a2 a5 a6:Addr} {done:List Int} {g:FG} {h':Heap} (f:FrI S n T m a1 a2 a5 a6 done h g) (e:Ext h h'):FrI S n T m a1 a2 a5 a6 done h' g:=
 { f with t:=f.t.ext e,o1:=f.o1.ext e,o2:=f.o2.ext e,o5:=f.o5.ext e,o6:=f.o6.ext e,op:=f.op.ext e,pcs:=fun q hq=>⟨(f.pcs q hq).1.chg (Chg.of_ext (F:=fun _=>False) e) fun _ _ x=>x,(f.pcs q hq).2⟩ }
theorem put_le {enc:Int} {l:List Int} (hf:∀ a,a∈l→0<sizeF enc a):l.length≤(l.flatMap (putF enc)).length∧(l.flatMap (putF enc)).length≤4*l.length:=by
 induction l with
 | nil=>simp
 | cons a l ih=>
  have h1:=ih fun x hx=>hf x (List.mem_cons_of_mem _ hx)
  have h2:=putF_len (hf a (List.mem_cons_self ..))
  have h3:=sizeF_le enc a
  have h4:=hf a (List.mem_cons_self ..)
  rw [List.flatMap_cons,List.length_append,List.length_cons]; omega
theorem upd_own {n size c d:Nat} {h':Heap} {s:Sl} {b:Addr} {vs:List Value} (o:Own n size h s vs) (u:Upd ⟨some b,c,d⟩ h h') (hne:∀ a,s.base=some a→b.block≠a.block):Own n size h' s vs:=
 o.keep fun x hx=>u.2.1 _ (o.lt hx).2 fun y hy=>by cases hy; exact hne x hx
theorem upd_chg {c d:Nat} {b:Addr} {h':Heap} (u:Upd ⟨some b,c,d⟩ h h'):Chg (fun i=>i=b.block) h h':=Chg.of_upd u fun x hx _=>by cases hx; rfl
theorem c_shut (M:Meth0 P S) {n m:Nat} {T:TX} {a1 a2 a5 a6:Addr} {done:List Int} {g:FG} {K:Unit→Prog} (f:FrI S n T m a1 a2 a5 a6 done h g) (hm:m≤h.size) (hsg:toks T.enc (g.seg.flatMap (putF T.enc))=g.seg.map (tk T.enc))
  (hd:done.length≤1099511627776) (hA:g.A.length≤1099511627776)
  (hk:∀ h' g',Keep m h h'→FrI S n T m a1 a2 a5 a6 done h' g'→g'.seg=[]→g'.Z=g.Z→g'.ad=g.ad→wp P (K ()) h' Q):wp P (.call (F_Text_fresh_1 S (some a1) (some a5) (some a2) (some a6)) [] K) h Q:=by
 have he:known T.enc:=f.t.enc
 have hle:=f.seg_le
 have hlen:g.ad.len=g.A.length:=f.t.ad.len
 have hsl:=put_le f.segfits
 show wp P (F_Text_fresh_1 S (some a1) (some a5) (some a2) (some a6)) h _
 unfold F_Text_fresh_1
 have c1:Sw.cell h (a1.add 0)=some (.pointer (some T.p)):=cells_iff.1 f.o1.cells 0 _ rfl
 have c2:∀ {h'},Ext h h'→Sw.cell h' (a2.add 0)=some (slv g.ps):=fun e=>cells_iff.1 (f.o2.ext e).cells 0 _ rfl
 have c5:Sw.cell h (a5.add 0)=some (i64v (g.A.length-(g.seg.flatMap (putF T.enc)).length:Nat)):=cells_iff.1 f.o5.cells 0 _ rfl
 rw [add_zero'] at c1 c5
 have lp:∀ {K:Option Addr→Prog} {Q:Nat→List Value→Heap→Prop},wp P (K (some T.p)) h Q→wp P (.load (.one .ptr) (some a1) K) h Q:=fun hk=>wp_load1 (b:=.ptr) a1 (some T.p) rfl c1 hk
 have lad:∀ {K:Sl→Prog} {Q:Nat→List Value→Heap→Prop},wp P (K g.ad) h Q→wp P (grd (someB (some T.p)) <| grd (someB (some T.p)) <| .load (.one .sl) (shiftTo (some T.p) 3) K) h Q:=fun hk=>wp_grd rfl (wp_grd rfl (wp_load1 (b:=.sl) (T.p.add 3) g.ad rfl f.t.c3 hk))
 have lfr:∀ {K:Int→Prog} {Q:Nat→List Value→Heap→Prop},wp P (K ((g.A.length-(g.seg.flatMap (putF T.enc)).length:Nat):Int)) h Q→wp P (.load (.one (.int .i64)) (some a5) K) h Q:=fun hk=>wp_load1 (b:=.int .i64) a5 _ rfl c5 hk
 have l2:∀ {K:Sl→Prog} {Q:Nat→List Value→Heap→Prop},wp P (K g.ps) h Q→wp P (.load (.one .sl) (some a2) K) h Q:=fun hk=>wp_load1 (b:=.sl) a2 g.ps rfl (by have:=c2 (Ext.refl h); rwa [add_zero'] at this) hk
 refine lp (lad (lfr (wp_ifB (fun hc=>?_) fun hc=>s_ret ⟨rfl,(),rfl,?_⟩)))
 ·rw [gtI_iff,natI_def,hlen] at hc
  have hne:0<(g.seg.flatMap (putF T.enc)).length:=by omega
  generalize hfr:g.A.length-(g.seg.flatMap (putF T.enc)).length=fr at *
  have hdrop:=f.drop
  rw [hfr] at hdrop
  have hto:toN (natI g.ad.len)=g.A.length:=by rw [natI_def,toN_def,hlen]; omega
  have hfrN:toN ((fr:Nat):Int)=fr:=by rw [toN_def]; omega
  have hcap:g.ad.len≤g.ad.cap:=f.t.ad.lst.cap
  have hmax:g.ad.cap<2 ^ 63:=f.t.ad.lst.max
  refine l2 (lp (wp_grd rfl (wp_grd rfl (wp_load1 (b:=.int .i64) (T.p.add 0) T.enc rfl f.t.c0 (lp (lad (lfr (s_grd (andB_iff.2 ⟨leB_ok (by rw [natI_def]; omega) (by rw [natI_def]; omega),andB_iff.2 ⟨leB_ok (by rw [natI_def]; omega) (by rw [hto,natI_def]; omega),leB_ok (by omega) (by rw [hto]; omega)⟩⟩) ?_))))))))
  rw [hto,hfrN]
  have hl0:Lst .u8 h ⟨g.ad.base,g.A.length,g.A.length⟩ g.A:=by
   have:=(show OwnL n .u8 h g.ad g.A from f.t.ad).lst.take (n:=g.A.length) (m:=g.A.length) (Nat.le_refl _) (Nat.le_refl _) (by omega)
   rw [List.take_of_length_le (Nat.le_refl _)] at this
   exact this
  have hl1:=hl0.tail (i:=fr) (by omega)
  dsimp only at hl1
  rw [hdrop] at hl1
  refine wp_call (c_newPart M he (tag:=Int.negSucc 0) hl1 (by omega)) fun ⟨(y:Part),_⟩ h1 e1 hy=>?_
  have hy:y=_:=hy
  rw [hsg] at hy
  dsimp only
  have ck:∀ {h'} {K:Prog} {Q:Nat→List Value→Heap→Prop},Ext h h'→wp P K h' Q→wp P (.check (some a2) [slv g.ps] K) h' Q:=fun e hk=>s_check0 rfl (cells_iff.2 fun j v hj=>by
   cases j with
   | zero=>simp at hj; subst hj; exact c2 e
   | succ j=>simp at hj) hk
  refine ck e1 (s_newO (bs:=PB) y (by decide) fun h2 e2 o2=>ck (e1.trans e2) ?_)
  have e02:=e1.trans e2
  have f2:=f.ext e02
  have hnew:Rd 7 h2 ⟨some ⟨h1.size,0,none⟩,1,1⟩ (cP [y]):=by
   rw [cP_one]
   exact ⟨by simp [Bs.inj],fun i v hi=>⟨_,rfl,cells_iff.1 o2.cells i v hi⟩⟩
  have hqn:g.qs.length≤done.length:=by
   have h1:=congrArg List.length f.tks
   rw [List.length_append,List.length_map,List.length_map] at h1
   have:∀ qs:List Pc,(∀ q,q∈qs→PcR h (T.at_ g) q)→qs.length≤(toksL T.enc qs).length:=fun qs=>by
    induction qs with
    | nil=>intro _; exact Nat.le_refl _
    | cons q qs ih=>
     intro hq
     have h3:=ih fun x hx=>hq x (List.mem_cons_of_mem _ hx)
     have h4:=hq q (List.mem_cons_self ..)
     have h5:=(toks_len (enc:=T.enc) h4.bytes).2.1 h4.ne
     unfold toksL at h3 ⊢
     rw [List.flatMap_cons,List.length_append,List.length_cons]; omega
   have:=this g.qs fun q hq=>(f.pcs q hq).1
   omega
  have hpl:=OwnPs.len f2.op
  rw [List.length_map] at hpl
  refine wp_append f2.op (by have:=e02.size; omega) hnew (cP_flat _) rfl (by show (g.ps.len+1)*64≤_; omega) (by show g.ps.len+1<_; omega) fun r h3 a3 b3 u3 d3=>?_
  rw [← cP_append] at a3
  have k3:Keep m h h3:=Keep.trans (e02.keep hm) (Upd.keep f2.op (by have:=e02.size; omega) u3)
  have f2s:=f2.t.lo
  have s3:∀ i,i<h2.size→(∀ b,g.ps.base=some b→b.block≠i)→h3[i]? = h2[i]? := u3.2.1
  have cg3:Chg (fun i=>∃ b,g.ps.base=some b∧b.block=i) h2 h3:=Chg.of_upd u3 fun x hx _=>⟨x,hx,rfl⟩
  have t3:TextR S n h3 (T.at_ g):=f2.t.chg cg3 fun i hi ⟨b,hb,e⟩=>(f2.pd b hb).2.2.2.2 (e ▸ hi)
  have k1:∀ {c:Addr} {vs:List Value},Own m 1 h2 ⟨some c,1,1⟩ vs→(∀ b,g.ps.base=some b→b.block≠c.block)→Own m 1 h3 ⟨some c,1,1⟩ vs:=fun o hne=>cg3.own o fun x hx ⟨b,hb,e⟩=>by cases hx; exact hne b hb e
  have o13:=k1 f2.o1 fun b hb=>(f2.pd b hb).1
  have o23:=k1 f2.o2 fun b hb=>(f2.pd b hb).2.1
  have o53:=k1 f2.o5 fun b hb=>(f2.pd b hb).2.2.1
  have o63:=k1 f2.o6 fun b hb=>(f2.pd b hb).2.2.2.1
  obtain ⟨d1,d2,d4,d5,d6,d7⟩:=f.dj
  have rlo:∀ b,r.base=some b→b.block≠a1.block∧b.block≠a2.block∧b.block≠a5.block∧b.block≠a6.block∧¬ g.Z b.block:=fun b hb=>by
   rcases d3 b hb with hx | hx
   ·exact f2.pd b hx
   ·have q1:=(f2.o1.lt rfl).2; have q2:=(f2.o2.lt rfl).2; have q5:=(f2.o5.lt rfl).2; have q6:=(f2.o6.lt rfl).2
    replace q1:a1.block<h2.size:=q1
    replace q2:a2.block<h2.size:=q2
    replace q5:a5.block<h2.size:=q5
    replace q6:a6.block<h2.size:=q6
    exact ⟨by omega,by omega,by omega,by omega,fun hz=>by have:b.block<h2.size:=(f2s _ hz).2; omega⟩
  refine s_putAll [slv r] o23 rfl (by intro v hv; rw [List.mem_singleton.1 hv]; rfl) fun h4 o24 u4=>s_putAll [i64v (natI g.ad.len)] (upd_own o53 u4 fun a ha=>by cases ha; exact d5) rfl (by intro v hv; rw [List.mem_singleton.1 hv]; rfl) fun h5 o55 u5=>s_putAll [i64v 0] (upd_own (upd_own o63 u4 fun a ha=>by cases ha; exact d6) u5 fun a ha=>by cases ha; exact d7) rfl (by intro v hv; rw [List.mem_singleton.1 hv]; rfl) fun h6 o66 u6=>s_ret ⟨rfl,(),rfl,?_⟩
  have cg46:Chg (fun i=>i=a2.block∨i=a5.block∨i=a6.block) h3 h6:=((upd_chg u4).mono fun i _ e=>.inl e).trans (((upd_chg u5).mono fun i _ e=>.inr (.inl e)).trans ((upd_chg u6).mono fun i _ e=>.inr (.inr e)) fun i _ x=>x) fun i _ x=>x
  have ma:m≤a2.block∧m≤a5.block∧m≤a6.block:=⟨(f.o2.lt rfl).1,(f.o5.lt rfl).1,(f.o6.lt rfl).1⟩
  obtain ⟨z1,z2,z5,z6⟩:=f.zd
  have t6:TextR S n h6 (T.at_ g):=t3.chg cg46 fun i hi e=>by rcases e with rfl | rfl | rfl <;> first | exact z2 hi | exact z5 hi | exact z6 hi
  have cg26:Chg (fun i=>¬ g.Z i) h h6:=((Chg.of_ext (F:=fun i=>¬ g.Z i) e02).trans (cg3.mono fun i _ ⟨b,hb,e⟩ hz=>(f2.pd b hb).2.2.2.2 (e ▸ hz)) fun i _ x=>x).trans (cg46.mono fun i _ e hi=>by rcases e with rfl | rfl | rfl <;> first | exact z2 hi | exact z5 hi | exact z6 hi) fun i _ x=>x
  refine hk h6 { g with qs:=g.qs++[(y,g.seg.flatMap (putF T.enc))],ps:=r,seg:=[] } (Keep.trans k3 (cg46.keep (by have:=k3.1; omega) fun i hi e=>by rcases e with rfl | rfl | rfl <;> omega)) ⟨t6,?_,?_,?_,o66,?_,f.dj,rlo,f.zd,f.zn,?_,f.all,?_,?_,f.fits,by simp⟩ rfl rfl rfl
  ·exact cg46.own o13 fun x hx e=>by cases hx; rcases e with e | e | e <;> first | exact d1 e | exact d2 e | exact d4 e
  ·exact upd_own (upd_own o24 u5 fun a ha=>by cases ha; exact d5.symm) u6 fun a ha=>by cases ha; exact d6.symm
  ·have:natI g.ad.len=((g.A.length-(([]:List Int).flatMap (putF T.enc)).length:Nat):Int):=by rw [natI_def,hlen]; simp
   rw [this] at o55
   exact upd_own o55 u6 fun a ha=>by cases ha; exact d7.symm
  ·rw [List.map_append]
   exact cg46.own a3 fun x hx e=>by rcases e with e | e | e <;> first | exact (rlo x hx).2.1 e | exact (rlo x hx).2.2.1 e | exact (rlo x hx).2.2.2.1 e
  ·intro q hq
   rcases List.mem_append.1 hq with hq | hq
   ·exact ⟨(f.pcs q hq).1.chg cg26 fun i hi hn=>hn hi,(f.pcs q hq).2⟩
   ·rw [List.mem_singleton.1 hq]
    have hbase:∃ b,g.ad.base=some b:=by
     cases hb:g.ad.base with
     | some b=>exact ⟨b,rfl⟩
     | none=>
      obtain ⟨_,hq2,_,hq4⟩:=f.t.ad.own
      have hq4:match g.ad.base with | none=>g.ad.cap=0 | some a=>_:=hq4
      rw [hb] at hq4
      have hq4:g.ad.cap=0:=hq4
      omega
    obtain ⟨b,hb⟩:=hbase
    have hb0:b.off=0∧b.spot=none:=by
     obtain ⟨_,_,_,hq4⟩:=f.t.ad.own
     have hq4:match g.ad.base with | none=>g.ad.cap=0 | some a=>a.off=0∧a.spot=none∧_:=hq4
     rw [hb] at hq4
     exact ⟨hq4.1,hq4.2.1⟩
    have hcut:cutBase g.ad.base g.A.length fr 1=some (b.add fr):=by
     unfold cutBase; rw [if_neg (by omega),hb]; simp
    refine ⟨⟨?_,hne,?_,?_,?_,fun a ha=>?_⟩,by rw [hy]; rfl⟩
    ·rw [hy]
     have:(mkP (⟨cutBase g.ad.base g.A.length fr 1,subN g.A.length fr,subN g.A.length fr⟩) (Int.negSucc 0) (List.map (tk T.enc) g.seg)).1=⟨cutBase g.ad.base g.A.length fr 1,subN g.A.length fr,subN g.A.length fr⟩:=rfl
     show Lst .u8 h6 (mkP _ _ _).1 _
     rw [this]
     refine cg26.lst hl1 fun x hx hn=>hn ?_
     rw [hcut] at hx
     cases hx
     rw [add_block]
     exact f.t.za b hb
    ·show y=mkP y.1 y.2.1 (toks T.enc _)
     rw [hy,hsg]; rfl
    ·rw [hy]; have:=f.few; show (-1:Int)≤Int.negSucc 0∧Int.negSucc 0+((g.seg.flatMap (putF T.enc)).length:Nat)≤65536; omega
    ·have:=f.few
     show (g.seg.flatMap (putF T.enc)).length≤_; omega
    ·have ha:cutBase g.ad.base g.A.length fr 1=some a:=by rw [hy] at ha; exact ha
     rw [hcut] at ha
     cases ha
     refine ⟨by rw [add_block]; exact f.t.za b hb,by rw [add_block]; exact f.t.adp b hb,fun b' hb' _=>?_⟩
     refine ⟨add_spot hb0.2 _,?_⟩
     rw [add_off,hb0.1]
     show 0+fr+(g.seg.flatMap (putF T.enc)).length≤g.A.length
     omega
  ·have:bytesL (g.qs++[(y,g.seg.flatMap (putF T.enc))])=bytesL g.qs++g.seg.flatMap (putF T.enc):=by simp [bytesL]
   rw [this, ← f.put]; simp
  ·have:toksL T.enc (g.qs++[(y,g.seg.flatMap (putF T.enc))])=toksL T.enc g.qs++g.seg.map (tk T.enc):=by rw [← hsg]; simp [toksL]
   rw [this, ← f.tks]; simp
 ·rw [gtI_not,natI_def,hlen] at hc
  have h0:(g.seg.flatMap (putF T.enc)).length=0:=by omega
  have hs:g.seg=[]:=List.eq_nil_of_length_eq_zero (by omega)
  exact hk h g (Keep.refl _ _) f hs rfl rfl
end Go.Sw.Piece

set_option linter.unusedVariables false
set_option linter.unusedSimpArgs false
set_option maxRecDepth 100000
namespace Go.Sw.Piece
open Go.Sw.Any Go.Sw.Codec
open Go.Sw.Tree (iv s_putAll s_newP s_getP s_getT s_putP eqI_self Placed cell_own wp_whileG minI_eq)
variable {P:Program} {S:Ids} {h:Heap} {Q:Nat→List Value→Heap→Prop}
def wfoot (T:TX) (i:Nat):Prop:=i=T.p.block∨∃ b,T.ad.base=some b∧b.block=i
theorem wfoot_Z {n:Nat} {T:TX} (t:TextR S n h T) {i:Nat} (hi:wfoot T i):T.Z i:=by
 rcases hi with rfl | ⟨b,hb,rfl⟩
 ·exact t.zp
 ·exact t.za b hb
structure FrJ (S:Ids) (n:Nat) (T:TX) (h0:Heap) (a1 a2 a5 a6:Addr) (done:List Int) (h:Heap) (g:FG):Prop where
 f:FrI S n T h0.size a1 a2 a5 a6 done h g
 c:Chg (wfoot T) h0 h
 zm:∀ i,T.Z i→g.Z i
 adc:∀ b,g.ad.base=some b→T.ad.base=some b∨h0.size≤b.block
theorem FrJ.ext {n:Nat} {T:TX} {h0 h':Heap} {a1 a2 a5 a6:Addr} {done:List Int} {g:FG} (j:FrJ S n T h0 a1 a2 a5 a6 done h g) (e:Ext h h'):FrJ S n T h0 a1 a2 a5 a6 done h' g:=⟨j.f.ext e,j.c.ext e,j.zm,j.adc⟩
theorem c_more (M:Meth0 P S) {n:Nat} {T:TX} {h0:Heap} {a1 a2 a5 a6:Addr} {done:List Int} {g:FG} {a:Int} {K:Prog} (j:FrJ S n T h0 a1 a2 a5 a6 done h g) (hn:n≤h0.size) (hf:0<sizeF T.enc a) (hfi:fitsI .i64 a) (hA:g.A.length+4≤1099511627780) (hseg:g.seg.length<128)
  (hk:∀ h' g',FrJ S n T h0 a1 a2 a5 a6 (done++[a]) h' g'→g'.seg=g.seg++[a]→g'.A.length≤g.A.length+4→wp P K h' Q) :
  wp P (.load (.one .ptr) (some a1) fun (p819:Option Addr)=>grd (someB p819) <| grd (someB p819) <| .load (.one (.int .i64)) (shiftTo p819 0) fun (n820:Int)=>
   .alloc [i64v a] fun (a821:Addr)=>.call (F_codec_Encode S n820 ⟨some a821,1,1⟩) [.one .sl, .one (.int .i64), .one (.int .i64)] fun (r822:Sl×Int×Int×Unit)=>
   .load (.one .ptr) (some a1) fun (p823:Option Addr)=>.load (.one .ptr) (some a1) fun (p824:Option Addr)=>grd (someB p824) <| grd (someB p824) <| .load (.one .sl) (shiftTo p824 3) fun (l825:Sl)=>
   .append 1 1 [.int .u8 0] l825 r822.1 fun (l826:Sl)=>.check (some a1) [.pointer p823] <| grd (someB p823) <| grd (someB p823) <| .store (shiftTo p823 3) [slv l826] <|
   .load (.one (.int .i64)) (some a6) fun (n827:Int)=>.store (some a6) [i64v (addI .i64 n827 1)] K) h Q:=by
 have f:=j.f
 have he:known T.enc:=f.t.enc
 have hlen:=putF_len hf
 have h4:=sizeF_le T.enc a
 have lp:∀ {h'} {K:Option Addr→Prog} {Q:Nat→List Value→Heap→Prop},Ext h h'→wp P (K (some T.p)) h' Q→wp P (.load (.one .ptr) (some a1) K) h' Q:=fun e hk=>wp_load1 (b:=.ptr) a1 (some T.p) rfl (by have:=cells_iff.1 (f.o1.ext e).cells 0 _ rfl; rwa [add_zero'] at this) hk
 refine lp (Ext.refl h) (wp_grd rfl (wp_grd rfl (wp_load1 (b:=.int .i64) (T.p.add 0) T.enc rfl f.t.c0 ?_)))
 refine s_allocL (k:=.i64) [a] (by intro x hx; rw [List.mem_singleton.1 hx]; exact hfi) (by simp) fun h1 e1 o1=>?_
 refine wp_call (c_Encode M o1.lst (by simp)) fun ⟨(y:Sl),(at_:Int),(er:Int),_⟩ h2 e2 hy=>?_
 obtain ⟨oy,_,_⟩:=EncA.fits he (by intro b hb; rw [List.mem_singleton.1 hb]; exact hf) hy
 have oy:OwnL h1.size .u8 h2 y (putF T.enc a):=by simpa using oy
 dsimp only
 have e02:=e1.trans e2
 have f2:=f.ext e02
 refine lp e02 (lp e02 (wp_grd rfl (wp_grd rfl (wp_load1 (b:=.sl) (T.p.add 3) g.ad rfl f2.t.c3 ?_))))
 have hn2:n≤h2.size:=Nat.le_trans hn (Nat.le_trans j.c.1 e02.size)
 refine s_appendE (show OwnL n .u8 h2 g.ad g.A from f2.t.ad) hn2 oy.lst (by omega) (by omega) fun r h3 k3 o3 u3 b3 c3=>?_
 have lo:=f2.t.lo
 have hz2:∀ c:Addr,¬ g.Z c.block→∀ b,g.ad.base=some b→b.block≠c.block:=fun c hc b hb e=>hc (e ▸ f2.t.za b hb)
 obtain ⟨z1,z2,z5,z6⟩:=f.zd
 obtain ⟨d1,d2,d4,d5,d6,d7⟩:=f.dj
 have cg3:Chg (fun i=>∃ b,g.ad.base=some b∧b.block=i) h2 h3:=Chg.of_upd u3 fun x hx _=>⟨x,hx,rfl⟩
 have k1:∀ {c:Addr} {vs:List Value},Own h0.size 1 h2 ⟨some c,1,1⟩ vs→¬ g.Z c.block→Own h0.size 1 h3 ⟨some c,1,1⟩ vs:=fun o hne=>cg3.own o fun x hx ⟨b,hb,e⟩=>by cases hx; exact hz2 _ hne b hb e
 have o13:=k1 f2.o1 z1
 have o23:=k1 f2.o2 z2
 have o53:=k1 f2.o5 z5
 have o63:=k1 f2.o6 z6
 have hp2:T.p.block<h2.size:=(lo _ f2.t.zp).2
 have op3:Own n 1 h3 ⟨some T.p,4,4⟩ [i64v T.enc,i64v T.limit, .pointer T.cur.root,slv g.ad]:=cg3.own (show Own n 1 h2 ⟨some T.p,4,4⟩ [i64v T.enc,i64v T.limit, .pointer T.cur.root,slv g.ad] from f2.t.ob) fun x hx ⟨b,hb,e⟩=>by cases hx; exact f2.t.adp b hb e
 refine s_check0 rfl (cells_iff.2 fun i v hi=>by
  cases i with
  | zero=>simp at hi; subst hi; exact cells_iff.1 o13.cells 0 _ rfl
  | succ i=>simp at hi) (wp_grd rfl (wp_grd rfl (s_setC' (slv r) op3 (by simp) rfl fun h4 o4 u4=>?_)))
 have o4:Own n 1 h4 ⟨some T.p,4,4⟩ [i64v T.enc,i64v T.limit, .pointer T.cur.root,slv r]:=o4
 obtain ⟨t4,pc4⟩:=text_add f2.t hn2 (by omega) o3 u3 b3 c3 o4 u4
 have zp:∀ c:Addr,¬ g.Z c.block→T.p.block≠c.block:=fun c hc e=>hc (e ▸ f.t.zp)
 have o14:=upd_own o13 u4 fun x hx=>by cases hx; exact zp _ z1
 have o24:=upd_own o23 u4 fun x hx=>by cases hx; exact zp _ z2
 have o54:=upd_own o53 u4 fun x hx=>by cases hx; exact zp _ z5
 have o64:=upd_own o63 u4 fun x hx=>by cases hx; exact zp _ z6
 have hfew:=f.few
 refine wp_load1 (b:=.int .i64) a6 _ rfl (by have:=cells_iff.1 o64.cells 0 _ rfl; rwa [add_zero'] at this) ?_
 rw [add_ok (by omega) (by omega)]
 refine s_putAll [i64v ((g.seg.length:Int)+1)] o64 rfl (by intro v hv; rw [List.mem_singleton.1 hv]; rfl) fun h5 o65 u5=>?_
 have rz:∀ b,r.base=some b→g.Z b.block∨h2.size≤b.block:=fun b hb=>(b3 b hb).imp (fun hx=>f2.t.za b hx) id
 have old:∀ c:Addr,c.block<h2.size→¬ g.Z c.block→¬ Zad g.Z r c.block:=fun c hc hz hx=>by
  rcases hx with hx | ⟨b,hb,e⟩
  ·exact hz hx
  ·rcases rz b hb with hy | hy
   ·exact hz (e ▸ hy)
   ·omega
 have q1:a1.block<h2.size:=(f2.o1.lt rfl).2
 have q2:a2.block<h2.size:=(f2.o2.lt rfl).2
 have q5:a5.block<h2.size:=(f2.o5.lt rfl).2
 have q6:a6.block<h2.size:=(f2.o6.lt rfl).2
 have z6':=old a6 q6 z6
 have cg5:Chg (fun i=>i=a6.block) h4 h5:=upd_chg u5
 let g':FG:={ ad:=r,A:=g.A++putF T.enc a,Z:=Zad g.Z r,qs:=g.qs,ps:=g.ps,seg:=g.seg++[a] }
 have t5:TextR S n h5 (T.at_ g'):=t4.chg cg5 fun i hi e=>z6' (e ▸ hi)
 have hsl:=f.seg_le
 have cg34:Chg (fun i=>i=T.p.block) h3 h4:=upd_chg u4
 refine hk h5 g' ⟨⟨t5,?_,?_,?_,?_,?_,f.dj,fun b hb=>?_,⟨old _ q1 z1,old _ q2 z2,old _ q5 z5,z6'⟩,fun i hi=>?_,fun q hq=>?_,?_,?_,?_,?_,?_⟩,?_,fun i hi=>.inl (j.zm i hi),fun b hb=>?_⟩ rfl (by show (g.A++putF T.enc a).length≤_; rw [List.length_append]; omega)
 ·exact upd_own o14 u5 fun x hx=>by cases hx; exact d4.symm
 ·exact upd_own o24 u5 fun x hx=>by cases hx; exact d6.symm
 ·have:((g'.A.length-(g'.seg.flatMap (putF T.enc)).length:Nat))=g.A.length-(g.seg.flatMap (putF T.enc)).length:=by
   show (g.A++putF T.enc a).length-((g.seg++[a]).flatMap (putF T.enc)).length=_
   rw [List.flatMap_append,List.length_append,List.length_append]; simp; omega
  rw [this]
  exact upd_own o54 u5 fun x hx=>by cases hx; exact d7.symm
 ·have:((g'.seg.length:Nat):Int)=(g.seg.length:Int)+1:=by show (((g.seg++[a]).length:Nat):Int)=_; rw [List.length_append]; simp
  rw [this]; exact o65
 ·have p3:OwnPs h0.size h3 g.ps (g.qs.map (·.1)):=cg3.own f2.op fun x hx ⟨b,hb,e⟩=>(f2.pd x hx).2.2.2.2 (e ▸ f2.t.za b hb)
  have p4:OwnPs h0.size h4 g.ps (g.qs.map (·.1)):=cg34.own p3 fun x hx e=>(f2.pd x hx).2.2.2.2 (e ▸ f2.t.zp)
  exact cg5.own p4 fun x hx e=>(f2.pd x hx).2.2.2.1 e
 ·obtain ⟨w1,w2,w3,w4,w5⟩:=f2.pd b hb
  have hb2:b.block<h2.size:=(f2.op.lt hb).2
  exact ⟨w1,w2,w3,w4,old b hb2 w5⟩
 ·rcases hi with hi | ⟨b,hb,rfl⟩
  ·exact f.zn i hi
  ·rcases rz b hb with hy | hy
   ·exact f.zn _ hy
   ·have:=j.c.1; have:=e02.size; right; omega
 ·have:=pc4 q ((f.pcs q hq).1.chg (Chg.of_ext (F:=fun _=>False) e02) fun _ _ x=>x)
  exact ⟨PcR.chg this cg5 fun i hi e=>z6' (e ▸ hi),(f.pcs q hq).2⟩
 ·show g.A++putF T.enc a=_
  rw [f.all,List.flatMap_append,List.append_assoc]; simp
 ·show bytesL g.qs++(g.seg++[a]).flatMap (putF T.enc)=_
  rw [List.flatMap_append,List.flatMap_append, ← f.put,List.append_assoc]
 ·show toksL T.enc g.qs++(g.seg++[a]).map (tk T.enc)=_
  rw [List.map_append,List.map_append, ← f.tks,List.append_assoc]
 ·intro b hb
  rcases List.mem_append.1 hb with hb | hb
  ·exact f.fits b hb
  ·rw [List.mem_singleton.1 hb]; exact hf
 ·show (g.seg++[a]).length≤128; rw [List.length_append]; simp; omega
 ·have c25:Chg (fun i=>(∃ b,g.ad.base=some b∧b.block=i)∨i=T.p.block∨i=a6.block) h2 h5:=(cg3.mono fun i _ e=>.inl e).trans ((cg34.mono fun i _ e=>.inr (.inl e)).trans (cg5.mono fun i _ e=>.inr (.inr e)) fun i _ x=>x) fun i _ x=>x
  refine (j.c.ext e02).trans c25 fun i hi hx=>?_
  rcases hx with ⟨b,hb,rfl⟩ | rfl | rfl
  ·rcases j.adc b hb with hy | hy
   ·exact .inr ⟨b,hy,rfl⟩
   ·omega
  ·exact .inl rfl
  ·have:h0.size≤a6.block:=(f.o6.lt rfl).1; omega
 ·rcases b3 b hb with hy | hy
  ·exact j.adc b hy
  ·have:=j.c.1; have:=e02.size; right; omega
structure FreshR (S:Ids) (n:Nat) (T:TX) (h0:Heap) (l:List Int) (h:Heap) (g:FG):Prop where
 t:TextR S n h (T.at_ g)
 op:OwnPs h0.size h g.ps (g.qs.map (·.1))
 pd:∀ b,g.ps.base=some b→¬ g.Z b.block
 zn:∀ i,g.Z i→T.Z i∨h0.size≤i
 zm:∀ i,T.Z i→g.Z i
 pcs:∀ q,q∈g.qs→PcR h (T.at_ g) q∧q.1.2.1 = -1
 all:g.A=T.A++l.flatMap (putF T.enc)
 put:bytesL g.qs=l.flatMap (putF T.enc)
 tks:toksL T.enc g.qs=l.map (tk T.enc)
 adc:∀ b,g.ad.base=some b→T.ad.base=some b∨h0.size≤b.block
theorem c_fresh (M:Meth0 P S) {n:Nat} {T:TX} {put:Sl} {l:List Int} (t:TextR S n h T) (hn:n≤h.size) (hp:Lst .i64 h put l) (hf:∀ a,a∈l→0<sizeF T.enc a) (hA:T.A.length+4*l.length≤1099511627776)
  (hz:l≠[]→∀ a,put.base=some a→¬ T.Z a.block) :
  wp P (F_Text_fresh S (some T.p) put) h fun tg vs h'=>tg=0∧Chg (wfoot T) h h'∧∃ g:FG,vs=[slv g.ps]∧FreshR S n T h l h' g:=by
 unfold F_Text_fresh
 have hpl:=hp.len
 refine fun el1=>?_
 have e1:Ext h (h.push (.cells [Value.pointer (some T.p)].toArray el1)):=Ext.push ..
 have o1:Own h.size 1 (h.push (.cells [Value.pointer (some T.p)].toArray el1)) ⟨some ⟨h.size,0,none⟩,1,1⟩ [.pointer (some T.p)]:=own_alloc rfl (by decide) (by decide)
 have y1:(h.push (.cells [Value.pointer (some T.p)].toArray el1)).size=h.size+1:=by simp
 generalize h.push (.cells [Value.pointer (some T.p)].toArray el1)=h1 at e1 o1 y1 ⊢
 refine fun el2=>?_
 have e2:Ext h1 (h1.push (.cells [Value.slice none 0 0].toArray el2)):=Ext.push ..
 have o2:Own h1.size 1 (h1.push (.cells [Value.slice none 0 0].toArray el2)) ⟨some ⟨h1.size,0,none⟩,1,1⟩ [.slice none 0 0]:=own_alloc rfl (by decide) (by decide)
 have y2:(h1.push (.cells [Value.slice none 0 0].toArray el2)).size=h1.size+1:=by simp
 generalize h1.push (.cells [Value.slice none 0 0].toArray el2)=h2 at e2 o2 y2 ⊢
 have t2:=t.ext (e1.trans e2)
 refine wp_load1 (b:=.ptr) ⟨h.size,0,none⟩ (some T.p) rfl (by have:=cells_iff.1 (o1.ext e2).cells 0 _ rfl; rwa [add_zero'] at this) (wp_grd rfl (wp_grd rfl (wp_load1 (b:=.sl) (T.p.add 3) T.ad rfl t2.c3 ?_)))
 have hal:T.ad.len=T.A.length:=t.ad.len
 refine fun el3=>?_
 have e3:Ext h2 (h2.push (.cells [i64v 0].toArray el3)):=Ext.push ..
 have o3:Own h2.size 1 (h2.push (.cells [i64v 0].toArray el3)) ⟨some ⟨h2.size,0,none⟩,1,1⟩ [i64v 0]:=own_alloc rfl (by decide) (by decide)
 have y3:(h2.push (.cells [i64v 0].toArray el3)).size=h2.size+1:=by simp
 generalize h2.push (.cells [i64v 0].toArray el3)=h3 at e3 o3 y3 ⊢
 refine s_putAll [i64v (natI T.ad.len)] o3 rfl (by intro v hv; rw [List.mem_singleton.1 hv]; rfl) fun h4 o4 u4=>?_
 have e24:Ext h2 h4:=Upd.extN e3 u4 (by intro x hx; cases hx; exact Nat.le_refl _)
 have y4:h3.size≤h4.size:=u4.1
 refine fun el5=>?_
 have e5:Ext h4 (h4.push (.cells [i64v 0].toArray el5)):=Ext.push ..
 have o5:Own h4.size 1 (h4.push (.cells [i64v 0].toArray el5)) ⟨some ⟨h4.size,0,none⟩,1,1⟩ [i64v 0]:=own_alloc rfl (by decide) (by decide)
 generalize h4.push (.cells [i64v 0].toArray el5)=h5 at e5 o5 ⊢
 refine s_putAll [i64v 0] o5 rfl (by intro v hv; rw [List.mem_singleton.1 hv]; rfl) fun h6 o6 u6=>?_
 have e46:Ext h4 h6:=Upd.extN e5 u6 (by intro x hx; cases hx; exact Nat.le_refl _)
 have e06:Ext h h6:=((e1.trans e2).trans e24).trans e46
 have e26:Ext h2 h6:=e24.trans e46
 have lo:=t.lo
 have J0:FrJ S n T h ⟨h.size,0,none⟩ ⟨h1.size,0,none⟩ ⟨h2.size,0,none⟩ ⟨h4.size,0,none⟩ [] h6 { ad:=T.ad,A:=T.A,Z:=T.Z,qs:=[],ps:=⟨none,0,0⟩,seg:=[] }:=by
  refine ⟨⟨t.ext e06,o1.ext (e2.trans e26),(o2.ext e26).mono (by omega),?_,o6.mono (by omega),⟨by simp [cP],by simp,(by decide:0<2 ^ 63),rfl⟩,⟨by dsimp only; omega,by dsimp only; omega,by dsimp only; omega,by dsimp only; omega,by dsimp only; omega,by dsimp only; omega⟩,fun b hb=>(by cases hb),⟨fun hz=>by have:h.size<h.size:=(lo _ hz).2; omega,fun hz=>by have:h1.size<h.size:=(lo _ hz).2; omega,fun hz=>by have:h2.size<h.size:=(lo _ hz).2; omega,fun hz=>by have:h4.size<h.size:=(lo _ hz).2; omega⟩,fun i hi=>.inl hi,fun q hq=>(by cases hq),by simp,by simp [bytesL],by simp [toksL],fun a ha=>(by cases ha),by simp⟩,Chg.of_ext e06,fun i hi=>hi,fun b hb=>.inl hb⟩
  have:((T.A.length-(([]:List Int).flatMap (putF T.enc)).length:Nat):Int)=natI T.ad.len:=by rw [natI_def,hal]; simp
  show Own h.size 1 h6 _ [i64v _]
  rw [this]
  exact (o4.mono (by omega)).ext e46
 have hb1:(⟨h.size,0,none⟩:Addr).block=h.size:=rfl
 generalize (⟨h.size,0,none⟩:Addr)=A1 at J0 ⊢
 generalize (⟨h1.size,0,none⟩:Addr)=A2 at J0 ⊢
 generalize (⟨h2.size,0,none⟩:Addr)=A5 at J0 ⊢
 generalize (⟨h4.size,0,none⟩:Addr)=A6 at J0 ⊢
 have hsg:∀ {g:FG} {done:List Int} {h':Heap},FrI S n T h.size A1 A2 A5 A6 done h' g→(∀ a,a∈g.seg→scalarF a)→toks T.enc (g.seg.flatMap (putF T.enc))=g.seg.map (tk T.enc):=fun f hs=>toks_puts t.enc fun a ha=>⟨f.segfits a ha,hs a ha⟩
 have hAle:∀ {g:FG} {j:Nat} {h':Heap},FrI S n T h.size A1 A2 A5 A6 (l.take j) h' g→g.A.length≤1099511627776:=fun {g j h'} f=>by
  have h1:=(put_le (enc:=T.enc) (l:=l.take j) fun a ha=>hf a (List.mem_of_mem_take ha)).2
  rw [f.all,List.length_append]
  rw [List.length_take] at h1; omega
 have hput:∀ {h':Heap},Chg (wfoot T) h h'→Lst .i64 h' put l:=fun c=>c.lst0 hp fun hne x hx hw=>hz hne x hx (wfoot_Z t hw)
 refine wp_while (fun (s:Int×Unit) h'=>∃ (j:Nat) (g:FG),s.1=j∧j≤l.length∧FrJ S n T h A1 A2 A5 A6 (l.take j) h' g∧∀ a,a∈g.seg→scalarF a) (fun s _=>((l.length:Int)-s.1).toNat)
  (fun tg vs h'=>tg=2∧vs=[]∧∃ g,FrJ S n T h A1 A2 A5 A6 l h' g∧∀ a,a∈g.seg→scalarF a) ⟨0,_,rfl,Nat.zero_le _,J0,fun a ha=>(by cases ha)⟩ ?_ ?_
 ·rintro ⟨(i':Int),u⟩ h7 ⟨j,g,hj,hjl,J,hs⟩
  dsimp only at hj ⊢
  subst hj
  refine wp_ifB (fun hc=>?_) fun hc=>?_
  ·rw [ltI_iff,natI_def,hpl] at hc
   have hjlt:j<l.length:=by omega
   have htk:l.take (j+1)=l.take j++[l[j]]:=by rw [List.take_add_one,List.getElem?_eq_getElem hjlt]; rfl
   have hfa:=hf _ (List.getElem_mem hjlt)
   refine wp_bind (fun tg vs h'=>tg=0∧vs=[]∧∃ g,FrJ S n T h A1 A2 A5 A6 (l.take (j+1)) h' g∧∀ a,a∈g.seg→scalarF a) ?_ ?_
   ·refine s_at (hput J.c) (by omega) (by omega) fun hfi=>?_
    rw [show ((j:Int)).toNat=j by omega] at hfi ⊢
    have hge:l.getD j 0=l[j]:=by rw [List.getD_eq_getElem?_getD,List.getElem?_eq_getElem hjlt]; rfl
    rw [hge] at hfi ⊢
    generalize l[j]=a at htk hfa hfi ⊢
    have hu:=(fits_iff T.enc a).1 hfa
    have hpl:(0≤a∧(a<55296∨57343<a))↔scalarF a:=by unfold scalarF; omega
    refine bind_bool (scalarF a) ?_ fun pl h8 e8 hb=>?_
    ·refine wp_ifB (fun hx=>wp_ifB (fun hy=>s_ret ⟨rfl,Ext.refl _,true,rfl,?_⟩) fun hy=>s_ret ⟨rfl,Ext.refl _,_,rfl,?_⟩) fun hx=>s_ret ⟨rfl,Ext.refl _,false,rfl,?_⟩
     ·rw [geI_iff] at hx; rw [ltI_iff] at hy; rw [← hpl]; exact Iff.intro (fun _=>⟨hx, .inl hy⟩) fun _=>rfl
     ·rw [geI_iff] at hx; rw [ltI_not] at hy; rw [gtI_iff, ← hpl]; omega
     ·rw [geI_not] at hx; rw [← hpl]; exact Iff.intro (fun h=>by cases h) fun h=>by omega
    dsimp only
    have J8:=J.ext e8
    have hA8:=hAle J8.f
    refine wp_bind (fun tg vs h'=>tg=0∧vs=[]∧∃ g,FrJ S n T h A1 A2 A5 A6 (l.take j) h' g∧(∀ a,a∈g.seg→scalarF a)∧g.seg.length<128∧(¬ scalarF a→g.seg=[])) ?_ ?_
    ·refine bind_bool (¬ scalarF a∨g.seg.length=128) ?_ fun bb h9 e9 hb9=>wp_ifB (fun hx=>?_) fun hx=>s_ret ⟨rfl,rfl,g,J8.ext e9,hs,?_,?_⟩
     ·refine wp_ifB (fun hx=>s_ret ⟨rfl,Ext.refl _,true,rfl,?_⟩) fun hx=>wp_load1 (b:=.int .i64) A6 _ rfl (by have:=cells_iff.1 J8.f.o6.cells 0 _ rfl; rwa [add_zero'] at this) (s_ret ⟨rfl,Ext.refl _,_,rfl,?_⟩)
      ·rw [notB_iff] at hx
       exact Iff.intro (fun _=>.inl fun k=>by rw [hb.2 k] at hx; cases hx) fun _=>rfl
      ·rw [notB_not] at hx
       have:=hb.1 hx
       rw [eqI_iff]
       exact ⟨fun h=>.inr (by omega),fun h=>by rcases h with h | h; exact absurd this h; omega⟩
     ·have J9:=J8.ext e9
      refine c_shut M J9.f J9.c.1 (hsg J9.f hs) (by rw [List.length_take]; omega) hA8 fun h10 g' k10 f10 hs10 hz10 had=>s_ret ⟨rfl,rfl,g',⟨f10,?_,?_,?_⟩,?_,?_,fun _=>hs10⟩
      ·exact J9.c.trans (G:=fun i=>h.size≤i) ⟨k10.1,fun i hi hn=>k10.2.1 i (by omega),k10.2.2⟩ fun i hi hg=>by omega
      ·rw [hz10]; exact J9.zm
      ·rw [had]; exact J9.adc
      ·rw [hs10]; intro a ha; cases ha
      ·rw [hs10]; simp
     ·have:=J8.f.few
      have:¬ g.seg.length=128:=fun k=>by rw [hb9.2 (.inr k)] at hx; cases hx
      omega
     ·intro k; rw [hb9.2 (.inl k)] at hx; cases hx
    rintro tg vs h9 ⟨rfl,rfl,g9,J9,hs9,hl9,hn9⟩
    refine s_tag (s_cast0 ?_)
    have hA9:=hAle J9.f
    refine c_more M J9 hn hfa hfi (by omega) hl9 fun h10 g10 J10 hseg hA10=>?_
    rw [← htk] at J10
    refine wp_ifB (fun hx=>?_) fun hx=>s_ret ⟨rfl,rfl,g10,J10,?_⟩
    ·rw [notB_iff] at hx
     have hns:¬ scalarF a:=fun k=>by rw [hb.2 k] at hx; cases hx
     have hsg10:toks T.enc (g10.seg.flatMap (putF T.enc))=g10.seg.map (tk T.enc):=by
      rw [hseg,hn9 hns]
      have:=toks_one t.enc hfa hns
      simpa using this
     refine c_shut M J10.f J10.c.1 hsg10 (by rw [List.length_take]; omega) (hAle J10.f) fun h11 g' k11 f11 hs11 hz11 had=>s_ret ⟨rfl,rfl,g',⟨f11,?_,?_,?_⟩,?_⟩
     ·exact J10.c.trans (G:=fun i=>h.size≤i) ⟨k11.1,fun i hi hn=>k11.2.1 i (by omega),k11.2.2⟩ fun i hi hg=>by omega
     ·rw [hz11]; exact J10.zm
     ·rw [had]; exact J10.adc
     ·rw [hs11]; intro a ha; cases ha
    ·rw [notB_not] at hx
     have hsc:=hb.1 hx
     rw [hseg]
     intro b hb
     rcases List.mem_append.1 hb with hb | hb
     ·exact hs9 b hb
     ·rw [List.mem_singleton.1 hb]; exact hsc
   ·rintro tg vs h8 ⟨rfl,rfl,g8,J8,hs8⟩
    refine s_tag (s_cast0 ?_)
    rw [add_ok (by omega) (by omega)]
    exact s_ret ⟨fun _=>⟨((j:Int)+1,()),rfl,⟨j+1,g8,rfl,by omega,J8,hs8⟩,by dsimp only; omega⟩,fun h=>absurd rfl h⟩
  ·rw [ltI_not,natI_def,hpl] at hc
   rw [List.take_of_length_le (by omega)] at J
   exact s_ret ⟨fun h=>absurd h (by decide),fun _=>⟨rfl,rfl,g,J,hs⟩⟩
 ·rintro tg vs h7 ⟨rfl,rfl,g,J,hs⟩
  have hAl:g.A.length≤1099511627776:=hAle (j:=l.length) (by rw [List.take_of_length_le (Nat.le_refl _)]; exact J.f)
  refine s_tag (s_cast0 (c_shut M J.f J.c.1 (hsg J.f hs) (by omega) hAl fun h8 g' k8 f8 hs8 hz8 had=>?_))
  refine wp_load1 (b:=.sl) A2 g'.ps rfl (by have:=cells_iff.1 f8.o2.cells 0 _ rfl; rwa [add_zero'] at this) (s_ret ⟨rfl,?_,g',rfl,⟨f8.t,f8.op,fun b hb=>(f8.pd b hb).2.2.2.2,f8.zn,?_,f8.pcs,f8.all,?_,?_,?_⟩⟩)
  ·exact J.c.trans (G:=fun i=>h.size≤i) ⟨k8.1,fun i hi hn=>k8.2.1 i (by omega),k8.2.2⟩ fun i hi hg=>by omega
  ·rw [hz8]; exact J.zm
  ·have:=f8.put; rw [hs8] at this; simpa using this
  ·have:=f8.tks; rw [hs8] at this; simpa using this
  ·rw [had]; exact J.adc
end Go.Sw.Piece
