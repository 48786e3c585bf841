
/- Steps. -/
import Derived.Test.YtncolficnfcdcaaGreatSwU5
import Derived.Test.YtncolficnfcdcaaGreatSwFab
import Derived.Test.YtncolficnfcdcaaGreatSwFcodec
import Derived.Test.YtncolficnfcdcaaGreatSwCC
import Derived.Test.YtncolficnfcdcaaGreatSwU4
set_option linter.unusedVariables false
set_option linter.unusedSimpArgs false
set_option maxRecDepth 100000
set_option maxHeartbeats 1000000
namespace Go.Sw.Any
section
structure iJ where
  iB:List B
  sB:List B
  zi:Bs.den iB
  zs:Bs.den sB
  mF:Bs.den iB->aK
  aF:Bs.den sB->Bs.den sB->aK
  kF:Bs.den sB->Int->aK
  f1:FuncId
  f2:FuncId
  xi:Bs.den iB->Prop
  wt:Bs.den iB->Nat
  V:Nat->Bs.den sB->Prop
  LK:Bs.den iB->Bs.den sB
  add:Bs.den sB->Bs.den sB->Bs.den sB
  key:Bs.den sB->Int->Int
  Z:Nat->Prop
abbrev iJ.It(I:iJ):Type:=Bs.den I.iB
abbrev iJ.Su(I:iJ):Type:=Bs.den I.sB
def iJ.ni(I:iJ):Nat:=I.iB.length
def iJ.ns(I:iJ):Nat:=I.sB.length
def yR(I:iJ)(n:OA):aK:=
 aR (fO n)
 (.ret 0 [vI 0])<|
 bF (aJ n)<|
 bF (aJ n)<|
 .load tI (aB n (I.ni+2)) λ(n1:Int)=>
 .ret 0 [vI n1]
def sU(I:iJ)(n:OA):aK:=
 aR (fO n)
 (.ret 0 [vI 0])<|
 bF (aJ n)<|
 bF (aJ n)<|
 .load tI (aB n (I.ni+3)) λ(n1:Int)=>
 .ret 0 [vI n1]
def Hh(I:iJ)(l:OA)(x:(Bs.den I.iB))(r:OA):aK:=
 .alloc (Bs.inj I.iB x) λ(a1:Addr)=>
 .load (Ty.agg I.iB) (some a1) λ(r2:Bs.den I.iB)=>
 .call (yR I l) [tI] λ(r3:Int×Unit)=>
 .check (some a1) (Bs.inj I.iB r2)<|
 .call (yR I r) [tI] λ(r4:Int×Unit)=>
 .check (some a1) (Bs.inj I.iB r2)<|
 .call (sU I l) [tI] λ(r5:Int×Unit)=>
 .check (some a1) (Bs.inj I.iB r2)<|
 .call (sU I r) [tI] λ(r6:Int×Unit)=>
 .check (some a1) (Bs.inj I.iB r2)<|
 .alloc ([vP l,vP r]++(Bs.inj I.iB r2++([vI (aT .i64 (aT .i64 r3.1 1) r4.1),vI (aT .i64 (Df r5.1 r6.1) 1)]++Bs.inj I.sB I.zs))) λ(a7:Addr)=>
 .load (Ty.agg I.iB) (some a1) λ(r8:Bs.den I.iB)=>
 .call (I.mF r8) [(Ty.agg I.sB)] λ(r9:((Bs.den I.sB)×Unit))=>
 .store (aB (some a7) (I.ni+4)) (Bs.inj I.sB r9.1)<|
 eE 0 [] (aR (cU (fO l))
 (bF (aJ l)<|
 bF (aJ l)<|
 .load (Ty.agg I.sB) (aB l (I.ni+4)) λ(r0:Bs.den I.sB)=>
 .load (Ty.agg I.sB) (aB (some a7) (I.ni+4)) λ(r1:Bs.den I.sB)=>
 .call (I.aF r0 r1) [(Ty.agg I.sB)] λ(r7:((Bs.den I.sB)×Unit))=>
 .store (aB (some a7) (I.ni+4)) (Bs.inj I.sB r7.1)<|
 .ret 0 [])<|
 .ret 0 []) λ(u0:Unit)=>
 eE 0 [] (aR (cU (fO r))
 (.load (Ty.agg I.sB) (aB (some a7) (I.ni+4)) λ(r10:Bs.den I.sB)=>
 bF (aJ r)<|
 bF (aJ r)<|
 .load (Ty.agg I.sB) (aB r (I.ni+4)) λ(r11:Bs.den I.sB)=>
 .call (I.aF r10 r11) [(Ty.agg I.sB)] λ(r12:((Bs.den I.sB)×Unit))=>
 .store (aB (some a7) (I.ni+4)) (Bs.inj I.sB r12.1)<|
 .ret 0 [])<|
 .ret 0 []) λ(u1:Unit)=>
 .ret 0 [vP (some a7)]
def CM(fuelN:Nat)(I:iJ)(items:Sl):aK:=
 match fuelN with
 |0=>.fail
 |fuelN+1=>
  aR (gM (aQ items.len) 0)
  (.ret 0 [vP none])<|
  bF (cU false)<|
  bF (wY (kP .i64 (aQ items.len) 2) items.cap)<|
  bF (bN (aJ items.aD) (eV (kP .i64 (aQ items.len) 2) items.len))<|
  .load (Ty.agg I.iB) (aB items.aD (aZ (bQ (kP .i64 (aQ items.len) 2)) I.ni)) λ(r1:Bs.den I.iB)=>
  bF (wY (aT .i64 (kP .i64 (aQ items.len) 2) 1) items.len)<|
  .call (CM fuelN I (⟨(bK items.aD items.cap 0 I.ni),(cY (bQ (kP .i64 (aQ items.len) 2)) 0),(cY items.cap 0)⟩)) [tP] λ(r2:OA×Unit)=>
  .check (aB items.aD (aZ (bQ (kP .i64 (aQ items.len) 2)) I.ni)) (Bs.inj I.iB r1)<|
  .call (CM fuelN I (⟨(bK items.aD items.cap (bQ (aT .i64 (kP .i64 (aQ items.len) 2) 1)) I.ni),(cY items.len (bQ (aT .i64 (kP .i64 (aQ items.len) 2) 1))),(cY items.cap (bQ (aT .i64 (kP .i64 (aQ items.len) 2) 1)))⟩)) [tP] λ(r3:OA×Unit)=>
  .check (aB items.aD (aZ (bQ (kP .i64 (aQ items.len) 2)) I.ni)) (Bs.inj I.iB r1)<|
  .call (Hh I r2.1 r1 r3.1) [tP] λ(r4:OA×Unit)=>
  .ret 0 [vP r4.1]
def LQ(I:iJ)(items:Sl):aK:=.ex λfuelN=>CM fuelN I items
def fa(I:iJ)(items:Sl):aK:=
 .alloc [vP none] λ(a1:Addr)=>
 .call (LQ I items) [tP] λ(r2:OA×Unit)=>
 .store (some a1) [vP r2.1]<|
 .load (Ty.agg [B.ptr]) (some a1) λ(r3:OA×Unit)=>
 .ret 0 [(Value.agg (#[vP r3.1]))]
def P7(I:iJ)(t:(OA×Unit)):aK:=
 .alloc [vP t.1] λ(a1:Addr)=>
 .load tP (aB (some a1) 0) λ(p2:OA)=>
 .call (yR I p2) [tI] λ(r3:Int×Unit)=>
 .ret 0 [vI r3.1]
def MB(I:iJ)(l:OA)(x:(Bs.den I.iB))(r:OA):aK:=
 .alloc (Bs.inj I.iB x) λ(a1:Addr)=>
 .call (sU I l) [tI] λ(r2:Int×Unit)=>
 .call (sU I r) [tI] λ(r3:Int×Unit)=>
 aR (sP r2.1 (aT .i64 r3.1 1))
 (bS tP l 0 λ(p4:OA)=>
 bS tP l 1 λ(p5:OA)=>
 .call (sU I p4) [tI] λ(r6:Int×Unit)=>
 .check (aB l 1) [vP p5]<|
 .call (sU I p5) [tI] λ(r7:Int×Unit)=>
 aR (qG r6.1 r7.1)
 (bS tP l 0 λ(p8:OA)=>
 bS (Ty.agg I.iB) l 2 λ(r9:Bs.den I.iB)=>
 bS tP l 1 λ(p0:OA)=>
 .load (Ty.agg I.iB) (some a1) λ(r0:Bs.den I.iB)=>
 .call (Hh I p0 r0 r) [tP] λ(r1:OA×Unit)=>
 .check (aB l 2) (Bs.inj I.iB r9)<|
 .check (aB l 0) [vP p8]<|
 .call (Hh I p8 r9 r1.1) [tP] λ(r4:OA×Unit)=>
 .ret 0 [vP r4.1])<|
 bS tP l 1 λ(p1:OA)=>
 bS tP l 0 λ(p2:OA)=>
 bS (Ty.agg I.iB) l 2 λ(r5:Bs.den I.iB)=>
 bS tP p1 0 λ(p3:OA)=>
 bS (Ty.agg I.iB) p1 2 λ(r8:Bs.den I.iB)=>
 bS tP p1 1 λ(p6:OA)=>
 .load (Ty.agg I.iB) (some a1) λ(r10:Bs.den I.iB)=>
 .call (Hh I p2 r5 p3) [tP] λ(r14:OA×Unit)=>
 .check (some a1) (Bs.inj I.iB r10)<|
 .check (aB p1 1) [vP p6]<|
 .check (aB p1 2) (Bs.inj I.iB r8)<|
 .call (Hh I p6 r10 r) [tP] λ(r15:OA×Unit)=>
 .check (aB p1 2) (Bs.inj I.iB r8)<|
 .call (Hh I r14.1 r8 r15.1) [tP] λ(r17:OA×Unit)=>
 .ret 0 [vP r17.1])<|
 .call (sU I r) [tI] λ(r19:Int×Unit)=>
 .call (sU I l) [tI] λ(r26:Int×Unit)=>
 aR (sP r19.1 (aT .i64 r26.1 1))
 (bS tP r 1 λ(p7:OA)=>
 bS tP r 0 λ(p9:OA)=>
 .call (sU I p7) [tI] λ(r27:Int×Unit)=>
 .check (aB r 0) [vP p9]<|
 .call (sU I p9) [tI] λ(r31:Int×Unit)=>
 aR (qG r27.1 r31.1)
 (.load (Ty.agg I.iB) (some a1) λ(r33:Bs.den I.iB)=>
 bS tP r 0 λ(p11:OA)=>
 bS (Ty.agg I.iB) r 2 λ(r36:Bs.den I.iB)=>
 bS tP r 1 λ(p12:OA)=>
 .call (Hh I l r33 p11) [tP] λ(r38:OA×Unit)=>
 .check (aB r 1) [vP p12]<|
 .check (aB r 2) (Bs.inj I.iB r36)<|
 .call (Hh I r38.1 r36 p12) [tP] λ(r40:OA×Unit)=>
 .ret 0 [vP r40.1])<|
 bS tP r 0 λ(p13:OA)=>
 .load (Ty.agg I.iB) (some a1) λ(r42:Bs.den I.iB)=>
 bS tP p13 0 λ(p16:OA)=>
 bS (Ty.agg I.iB) p13 2 λ(r48:Bs.den I.iB)=>
 bS tP p13 1 λ(p18:OA)=>
 bS (Ty.agg I.iB) r 2 λ(r49:Bs.den I.iB)=>
 bS tP r 1 λ(p20:OA)=>
 .call (Hh I l r42 p16) [tP] λ(r50:OA×Unit)=>
 .check (aB r 1) [vP p20]<|
 .check (aB r 2) (Bs.inj I.iB r49)<|
 .check (aB p13 1) [vP p18]<|
 .check (aB p13 2) (Bs.inj I.iB r48)<|
 .call (Hh I p18 r49 p20) [tP] λ(r51:OA×Unit)=>
 .check (aB p13 2) (Bs.inj I.iB r48)<|
 .call (Hh I r50.1 r48 r51.1) [tP] λ(r52:OA×Unit)=>
 .ret 0 [vP r52.1])<|
 .load (Ty.agg I.iB) (some a1) λ(r53:Bs.den I.iB)=>
 .call (Hh I l r53 r) [tP] λ(r54:OA×Unit)=>
 .ret 0 [vP r54.1]
def F9(fuelN:Nat)(I:iJ)(l:OA)(x:(Bs.den I.iB))(r:OA):aK:=
 match fuelN with
 |0=>.fail
 |fuelN+1=>
  .alloc (Bs.inj I.iB x) λ(a1:Addr)=>
  .call (sU I l) [tI] λ(r2:Int×Unit)=>
  .call (sU I r) [tI] λ(r3:Int×Unit)=>
  aR (sP r2.1 (aT .i64 r3.1 1))
  (bS tP l 0 λ(p4:OA)=>
  bS (Ty.agg I.iB) l 2 λ(r5:Bs.den I.iB)=>
  bS tP l 1 λ(p6:OA)=>
  .load (Ty.agg I.iB) (some a1) λ(r7:Bs.den I.iB)=>
  .call (F9 fuelN I p6 r7 r) [tP] λ(r8:OA×Unit)=>
  .check (aB l 2) (Bs.inj I.iB r5)<|
  .check (aB l 0) [vP p4]<|
  .call (MB I p4 r5 r8.1) [tP] λ(r9:OA×Unit)=>
  .ret 0 [vP r9.1])<|
  .call (sU I r) [tI] λ(r0:Int×Unit)=>
  .call (sU I l) [tI] λ(r1:Int×Unit)=>
  aR (sP r0.1 (aT .i64 r1.1 1))
  (.load (Ty.agg I.iB) (some a1) λ(r4:Bs.den I.iB)=>
  bS tP r 0 λ(p0:OA)=>
  bS (Ty.agg I.iB) r 2 λ(r6:Bs.den I.iB)=>
  bS tP r 1 λ(p1:OA)=>
  .call (F9 fuelN I l r4 p0) [tP] λ(r13:OA×Unit)=>
  .check (aB r 1) [vP p1]<|
  .check (aB r 2) (Bs.inj I.iB r6)<|
  .call (MB I r13.1 r6 p1) [tP] λ(r15:OA×Unit)=>
  .ret 0 [vP r15.1])<|
  .load (Ty.agg I.iB) (some a1) λ(r20:Bs.den I.iB)=>
  .call (Hh I l r20 r) [tP] λ(r21:OA×Unit)=>
  .ret 0 [vP r21.1]
def JX(I:iJ)(l:OA)(x:(Bs.den I.iB))(r:OA):aK:=.ex λfuelN=>F9 fuelN I l x r
def JY(fuelN:Nat)(I:iJ)(n:OA)(i:Int):aK:=
 match fuelN with
 |0=>.fail
 |fuelN+1=>
  aR (fO n)
  (.ret 0 [vP none,vP none])<|
  bS tP n 0 λ(p1:OA)=>
  .call (yR I p1) [tI] λ(r2:Int×Unit)=>
  aR (xY i r2.1)
  (bS tP n 0 λ(p3:OA)=>
  .call (JY fuelN I p3 i) [tP,tP] λ(r4:OA×OA×Unit)=>
  bS (Ty.agg I.iB) n 2 λ(r5:Bs.den I.iB)=>
  bS tP n 1 λ(p6:OA)=>
  .call (JX I r4.2.1 r5 p6) [tP] λ(r7:OA×Unit)=>
  .ret 0 [vP r4.1,vP r7.1])<|
  bS tP n 1 λ(p8:OA)=>
  .call (JY fuelN I p8 (bJ .i64 (bJ .i64 i r2.1) 1)) [tP,tP] λ(r9:OA×OA×Unit)=>
  bS tP n 0 λ(p0:OA)=>
  bS (Ty.agg I.iB) n 2 λ(r0:Bs.den I.iB)=>
  .call (JX I p0 r0 r9.1) [tP] λ(r1:OA×Unit)=>
  .ret 0 [vP r1.1,vP r9.2.1]
def VG(I:iJ)(n:OA)(i:Int):aK:=.ex λfuelN=>JY fuelN I n i
def EU(fuelN:Nat)(I:iJ)(n:OA):aK:=
 match fuelN with
 |0=>.fail
 |fuelN+1=>
  .alloc (Bs.inj I.iB I.zi) λ(a1:Addr)=>
  bS tP n 0 λ(p2:OA)=>
  aR (fO p2)
  (bS (Ty.agg I.iB) n 2 λ(r3:Bs.den I.iB)=>
  bS tP n 1 λ(p4:OA)=>
  .store (some a1) (Bs.inj I.iB r3)<|
  .check (aB n 1) [vP p4]<|
  .load (Ty.agg I.iB) (some a1) λ(r5:Bs.den I.iB)=>
  .ret 0 [(Value.agg (Bs.inj I.iB r5).toArray),vP p4])<|
  bS tP n 0 λ(p6:OA)=>
  .call (EU fuelN I p6) [(Ty.agg I.iB),tP] λ(r7:((Bs.den I.iB)×OA×Unit))=>
  .alloc (Bs.inj I.iB I.zi) λ(a8:Addr)=>
  .store (some a8) (Bs.inj I.iB r7.1)<|
  .load (Ty.agg I.iB) (some a8) λ(r9:Bs.den I.iB)=>
  bS (Ty.agg I.iB) n 2 λ(r0:Bs.den I.iB)=>
  bS tP n 1 λ(p0:OA)=>
  .call (MB I r7.2.1 r0 p0) [tP] λ(r1:OA×Unit)=>
  .check (some a8) (Bs.inj I.iB r9)<|
  .store (some a1) (Bs.inj I.iB r9)<|
  .load (Ty.agg I.iB) (some a1) λ(r2:Bs.den I.iB)=>
  .ret 0 [(Value.agg (Bs.inj I.iB r2).toArray),vP r1.1]
def VH(I:iJ)(n:OA):aK:=.ex λfuelN=>EU fuelN I n
def JW(I:iJ)(l:OA)(r:OA):aK:=
 aR (fO r)
 (.ret 0 [vP l])<|
 .call (VH I r) [(Ty.agg I.iB),tP] λ(r1:((Bs.den I.iB)×OA×Unit))=>
 .alloc (Bs.inj I.iB I.zi) λ(a2:Addr)=>
 .store (some a2) (Bs.inj I.iB r1.1)<|
 .load (Ty.agg I.iB) (some a2) λ(r3:Bs.den I.iB)=>
 .call (JX I l r3 r1.2.1) [tP] λ(r4:OA×Unit)=>
 .ret 0 [vP r4.1]
def F8(I:iJ)(t:(OA×Unit))(from_:Int)(to:Int)(items:Sl):aK:=
 .alloc [vP t.1] λ(a1:Addr)=>
 .alloc [vP none] λ(a2:Addr)=>
 eE 0 [tB] (aR (fH from_ 0)
 (.ret 0 [vB true])<|
 aR (sP from_ to)
 (.ret 0 [vB true])<|
 .load (Ty.agg [B.ptr]) (some a1) λ(r0:OA×Unit)=>
 .call (P7 I (r0.1,())) [tI] λ(r1:Int×Unit)=>
 .ret 0 [vB (sP to r1.1)]) λ(r2:Bool×Unit)=>
 aR r2.1
 (.store (some a2) [vP none]<|
 .load (Ty.agg [B.ptr]) (some a2) λ(r3:OA×Unit)=>
 .ret 0 [(Value.agg (#[vP r3.1])),(vI 1)])<|
 .load tP (aB (some a1) 0) λ(p0:OA)=>
 .call (VG I p0 from_) [tP,tP] λ(r4:OA×OA×Unit)=>
 .load tP (aB (some a1) 0) λ(p1:OA)=>
 .call (VG I p1 to) [tP,tP] λ(r5:OA×OA×Unit)=>
 .call (LQ I items) [tP] λ(r6:OA×Unit)=>
 .call (JW I r4.1 r6.1) [tP] λ(r7:OA×Unit)=>
 .call (JW I r7.1 r5.2.1) [tP] λ(r8:OA×Unit)=>
 .store (some a2) [vP r8.1]<|
 .load (Ty.agg [B.ptr]) (some a2) λ(r9:OA×Unit)=>
 .ret 0 [(Value.agg (#[vP r9.1])),(vI 0)]
def Yu(I:iJ)(t:(OA×Unit))(i:Int):aK:=
 .alloc [vP t.1] λ(a1:Addr)=>
 .alloc (Bs.inj I.sB I.zs) λ(a2:Addr)=>
 .alloc (Bs.inj I.sB I.zs) λ(a3:Addr)=>
 .load (Ty.agg [B.ptr]) (some a1) λ(r4:OA×Unit)=>
 .call (P7 I (r4.1,())) [tI] λ(r5:Int×Unit)=>
 .load tP (aB (some a1) 0) λ(p6:OA)=>
 eE 2 [] (.loop [tI,tP] ((NQ i r5.1),(p6,())) λ(r0:Int×OA×Unit)=>
 eE 0 [tB] (aR (cU (fO r0.2.1))
 (.ret 0 [vB (sP r0.1 0)])<|
 .ret 0 [vB false]) λ(r1:Bool×Unit)=>
 aR r1.1
 (bS tP r0.2.1 0 λ(p0:OA)=>
 .call (yR I p0) [tI] λ(r2:Int×Unit)=>
 aR (xY r0.1 r2.1)
 (bS tP r0.2.1 0 λ(p1:OA)=>
 .ret 0 [vI r0.1,vP p1])<|
 eE 0 [] (bS tP r0.2.1 0 λ(p2:OA)=>
 aR (cU (fO p2))
 (.load (Ty.agg I.sB) (some a3) λ(r3:Bs.den I.sB)=>
 bS tP r0.2.1 0 λ(p3:OA)=>
 bF (aJ p3)<|
 bF (aJ p3)<|
 .load (Ty.agg I.sB) (aB p3 (I.ni+4)) λ(r6:Bs.den I.sB)=>
 .call (I.aF r3 r6) [(Ty.agg I.sB)] λ(r7:((Bs.den I.sB)×Unit))=>
 .store (some a3) (Bs.inj I.sB r7.1)<|
 .ret 0 [])<|
 .ret 0 []) λ(u0:Unit)=>
 .load (Ty.agg I.sB) (some a3) λ(r8:Bs.den I.sB)=>
 bS (Ty.agg I.iB) r0.2.1 2 λ(r9:Bs.den I.iB)=>
 .call (I.mF r9) [(Ty.agg I.sB)] λ(r10:((Bs.den I.sB)×Unit))=>
 .check (some a3) (Bs.inj I.sB r8)<|
 .call (I.aF r8 r10.1) [(Ty.agg I.sB)] λ(r11:((Bs.den I.sB)×Unit))=>
 .store (some a3) (Bs.inj I.sB r11.1)<|
 bS tP r0.2.1 1 λ(p4:OA)=>
 .ret 0 [vI (bJ .i64 (bJ .i64 r0.1 r2.1) 1),vP p4])<|
 .ret 2 []) λ(u1:Unit)=>
 .load (Ty.agg I.sB) (some a3) λ(r12:Bs.den I.sB)=>
 .store (some a2) (Bs.inj I.sB r12)<|
 .load (Ty.agg I.sB) (some a2) λ(r13:Bs.den I.sB)=>
 .ret 0 [(Value.agg (Bs.inj I.sB r13).toArray)]
def f_(I:iJ)(t:(OA×Unit))(i:Int):aK:=
 .alloc [vP t.1] λ(a1:Addr)=>
 .alloc (Bs.inj I.iB I.zi) λ(a2:Addr)=>
 .load tP (aB (some a1) 0) λ(p3:OA)=>
 .bind
 (.loop [tI,tP] (i,(p3,())) λ(r0:Int×OA×Unit)=>
 eE 0 [tB] (aR (cU (fO r0.2.1))
 (.ret 0 [vB (qG r0.1 0)])<|
 .ret 0 [vB false]) λ(r1:Bool×Unit)=>
 aR r1.1
 (bS tP r0.2.1 0 λ(p0:OA)=>
 .call (yR I p0) [tI] λ(r2:Int×Unit)=>
 aR (gM r0.1 r2.1)
 (bS (Ty.agg I.iB) r0.2.1 2 λ(r3:Bs.den I.iB)=>
 .store (some a2) (Bs.inj I.iB r3)<|
 .ret 1 [vP (some a2),vB true])<|
 aR (fH r0.1 r2.1)
 (bS tP r0.2.1 0 λ(p1:OA)=>
 .ret 0 [vI r0.1,vP p1])<|
 bS tP r0.2.1 1 λ(p2:OA)=>
 .ret 0 [vI (bJ .i64 (bJ .i64 r0.1 r2.1) 1),vP p2])<|
 .ret 2 []) λ(k0:Nat)=>
 λ(v0:bG)=>
 aR (jL k0 2)
 (.cast [] v0 λ(u0:Unit)=>
 .alloc (Bs.inj I.iB I.zi) λ(a0:Addr)=>
 .load (Ty.agg I.iB) (some a0) λ(r4:Bs.den I.iB)=>
 .store (some a2) (Bs.inj I.iB r4)<|
 .load (Ty.agg I.iB) (some a2) λ(r5:Bs.den I.iB)=>
 .ret 0 [(Value.agg (Bs.inj I.iB r5).toArray),vB false])<|
 aR (jL k0 1)
 (.cast [tP,tB] v0 λ(r6:OA×Bool×Unit)=>
 .load (Ty.agg I.iB) r6.1 λ(r7:Bs.den I.iB)=>
 .ret 0 [(Value.agg (Bs.inj I.iB r7).toArray),vB r6.2.1])<|
 .fail
def j8(I:iJ)(t:(OA×Unit)):aK:=
 .alloc [vP t.1] λ(a1:Addr)=>
 .alloc (Bs.inj I.sB I.zs) λ(a2:Addr)=>
 .load tP (aB (some a1) 0) λ(p3:OA)=>
 aR (fO p3)
 (.alloc (Bs.inj I.sB I.zs) λ(a4:Addr)=>
 .load (Ty.agg I.sB) (some a4) λ(r5:Bs.den I.sB)=>
 .store (some a2) (Bs.inj I.sB r5)<|
 .load (Ty.agg I.sB) (some a2) λ(r6:Bs.den I.sB)=>
 .ret 0 [(Value.agg (Bs.inj I.sB r6).toArray)])<|
 .load tP (aB (some a1) 0) λ(p7:OA)=>
 bF (aJ p7)<|
 bF (aJ p7)<|
 .load (Ty.agg I.sB) (aB p7 (I.ni+4)) λ(r8:Bs.den I.sB)=>
 .store (some a2) (Bs.inj I.sB r8)<|
 .load (Ty.agg I.sB) (some a2) λ(r9:Bs.den I.sB)=>
 .ret 0 [(Value.agg (Bs.inj I.sB r9).toArray)]
def Yt(I:iJ)(t:(OA×Unit))(k:Int)(n:Int):aK:=
 .alloc [vP t.1] λ(a1:Addr)=>
 aR (xY n 0)
 (.ret 0 [vI 0])<|
 .alloc (Bs.inj I.sB I.zs) λ(a2:Addr)=>
 .load tP (aB (some a1) 0) λ(p3:OA)=>
 .bind
 (.loop [tI,tP] ((0:Int),(p3,())) λ(r0:Int×OA×Unit)=>
 aR (cU (fO r0.2.1))
 (.load (Ty.agg I.sB) (some a2) λ(r1:Bs.den I.sB)=>
 .alloc (Bs.inj I.sB I.zs) λ(a0:Addr)=>
 .store (some a0) (Bs.inj I.sB r1)<|
 eE 0 [] (bS tP r0.2.1 0 λ(p0:OA)=>
 aR (cU (fO p0))
 (.load (Ty.agg I.sB) (some a2) λ(r2:Bs.den I.sB)=>
 bS tP r0.2.1 0 λ(p1:OA)=>
 bF (aJ p1)<|
 bF (aJ p1)<|
 .load (Ty.agg I.sB) (aB p1 (I.ni+4)) λ(r3:Bs.den I.sB)=>
 .call (I.aF r2 r3) [(Ty.agg I.sB)] λ(r4:((Bs.den I.sB)×Unit))=>
 .store (some a0) (Bs.inj I.sB r4.1)<|
 .ret 0 [])<|
 .ret 0 []) λ(u0:Unit)=>
 .load (Ty.agg I.sB) (some a0) λ(r5:Bs.den I.sB)=>
 .call (I.kF r5 k) [tI] λ(r6:Int×Unit)=>
 aR (qG r6.1 n)
 (bS tP r0.2.1 0 λ(p2:OA)=>
 .ret 0 [vI r0.1,vP p2])<|
 bS tP r0.2.1 0 λ(p4:OA)=>
 .call (yR I p4) [tI] λ(r7:Int×Unit)=>
 .load (Ty.agg I.sB) (some a0) λ(r8:Bs.den I.sB)=>
 bS (Ty.agg I.iB) r0.2.1 2 λ(r9:Bs.den I.iB)=>
 .call (I.mF r9) [(Ty.agg I.sB)] λ(r10:((Bs.den I.sB)×Unit))=>
 .check (some a0) (Bs.inj I.sB r8)<|
 .call (I.aF r8 r10.1) [(Ty.agg I.sB)] λ(r11:((Bs.den I.sB)×Unit))=>
 .store (some a2) (Bs.inj I.sB r11.1)<|
 .load (Ty.agg I.sB) (some a2) λ(r12:Bs.den I.sB)=>
 .call (I.kF r12 k) [tI] λ(r13:Int×Unit)=>
 aR (qG r13.1 n)
 (.ret 1 [vI (aT .i64 r0.1 (aT .i64 r7.1 1))])<|
 bS tP r0.2.1 1 λ(p5:OA)=>
 .ret 0 [vI (aT .i64 r0.1 (aT .i64 r7.1 1)),vP p5])<|
 .ret 2 [vI r0.1]) λ(k0:Nat)=>
 λ(v0:bG)=>
 aR (jL k0 2)
 (.cast [tI] v0 λ(r14:Int×Unit)=>
 .ret 0 [vI (aT .i64 r14.1 1)])<|
 aR (jL k0 1)
 (.cast [tI] v0 λ(r15:Int×Unit)=>
 .ret 0 [vI r15.1])<|
 .fail
def Sr(I:iJ)(yield:Value)(x1:OA)(x2:OA):aK:=
 bF (S8 yield)<|
 .alloc [yield] λ(a1:Addr)=>
 .alloc [Value.nilFunc] λ(a2:Addr)=>
 .store (some a2) [(Value.func (Fn.func I.f2) #[] (#[vP (some a2),vP (some a1)]))]<|
 .load (Ty.one B.any) (some a2) λ(c3:Value)=>
 bF (aJ x1)<|
 .load tP (aB x1 0) λ(p4:OA)=>
 .load tI x2 λ(n5:Int)=>
 .kC c3 [vP p4,vI (Df 0 n5)] [tB] λ(r6:Bool×Unit)=>
 .ret 0 []
def P8(I:iJ)(n:OA)(from_:Int)(x2:OA)(x3:OA):aK:=
 eE 0 [tB] (aR (fO n)
 (.ret 0 [vB true])<|
 bF (aJ n)<|
 bF (aJ n)<|
 .load tI (aB n (I.ni+2)) λ(n0:Int)=>
 .ret 0 [vB (qG from_ n0)]) λ(r0:Bool×Unit)=>
 aR r0.1
 (.ret 0 [vB true])<|
 bS tP n 0 λ(p0:OA)=>
 .call (yR I p0) [tI] λ(r1:Int×Unit)=>
 eE 0 [tB] (aR (fH from_ r1.1)
 (.load (Ty.one B.any) x2 λ(c0:Value)=>
 bS tP n 0 λ(p1:OA)=>
 .kC c0 [vP p1,vI from_] [tB] λ(r2:Bool×Unit)=>
 .ret 0 [vB (cU r2.1)])<|
 .ret 0 [vB false]) λ(r3:Bool×Unit)=>
 aR r3.1
 (.ret 0 [vB false])<|
 eE 0 [tB] (aR (xY from_ r1.1)
 (.load (Ty.one B.any) x3 λ(c1:Value)=>
 bS (Ty.agg I.iB) n 2 λ(r4:Bs.den I.iB)=>
 .kC c1 [(Value.agg (Bs.inj I.iB r4).toArray)] [tB] λ(r5:Bool×Unit)=>
 .ret 0 [vB (cU r5.1)])<|
 .ret 0 [vB false]) λ(r6:Bool×Unit)=>
 aR r6.1
 (.ret 0 [vB false])<|
 .load (Ty.one B.any) x2 λ(c2:Value)=>
 bS tP n 1 λ(p2:OA)=>
 .kC c2 [vP p2,vI (Df 0 (bJ .i64 (bJ .i64 from_ r1.1) 1))] [tB] λ(r7:Bool×Unit)=>
 .ret 0 [vB r7.1]
end
section
open Go.Sw.Tree (iv fP jR jX mW oR Bz xO dQ least TR)
variable{P:Program}{I:iJ}{h:aG}{Q:Nat->bG->aG->Prop}
variable{h':aG}{l:List I.It}{bs:List B}{d:Nat}{a:Addr}{s:Sl}{pr:OA}{x:I.It}
def oJ(I:iJ)(h:aG):Prop:=∀i,h.size<=i->I.Z i
theorem oJ.ext{h:aG}(f:oJ I h)(e:Ext h h'):oJ I h':=λi hi=>f i (dI e.size hi)
structure iJ.Ok(P:Program)(I:iJ):Prop where
 i1:1<=I.ni/\I.ni<=100
 s1:1<=I.ns/\I.ns<=100
 fi:∀(x:I.It) v,v∈Bs.inj I.iB x->flat v=true
 fs:∀(x:I.Su) v,v∈Bs.inj I.sB x->flat v=true
 w1:∀x,1<=I.wt x
 v0:I.V 0 I.zs
 vm:∀x,I.xi x->I.V (I.wt x) (I.LK x)
 va:∀n m s o,I.V n s->I.V m o->I.V (n+m) (I.add s o)
 mono:∀n m s,I.V n s->n<=m->I.V m s
 az:∀n s,I.V n s->I.add s I.zs=s
 za:∀n s,I.V n s->I.add I.zs s=s
 assoc:∀n m k x y z,I.V n x->I.V m y->I.V k z->I.add (I.add x y) z=I.add x (I.add y z)
 wy:∀k,I.key I.zs k=0
 wz:∀n m s o k,I.V n s->I.V m o->I.key s k<=I.key (I.add s o) k
 cm:∀(h:aG) x,I.xi x->aS P (I.mF x) [.agg I.sB] h λ(y:I.Su×Unit) _=>y.1=I.LK x
 ca:∀(h:aG) n m s o,I.V n s->I.V m o->n+m<=4398046511104->aS P (I.aF s o) [.agg I.sB] h λ(y:I.Su×Unit) _=>y.1=I.add s o
 ck:∀(h:aG) n s k,I.V n s->n<=4398046511104->aS P (I.kF s k) [tI] h λ(y:Int×Unit) _=>y.1=I.key s k
def iJ.sum(I:iJ)(l:List I.It):I.Su:=l.foldl (λs r=>I.add s (I.LK r)) I.zs
def iJ.W(I:iJ)(l:List I.It):Nat:=(l.map I.wt).sum
def iJ.wf(I:iJ)(l:List I.It):Prop:=∀r,r∈l->I.xi r
theorem pW(l m:List I.It):I.W (l++m)=I.W l+I.W m:=by simp[iJ.W]
theorem P9(x:I.It)(l:List I.It):I.W (x::l)=I.wt x+I.W l:=by simp[iJ.W]
theorem qO(O:I.Ok P)(l:List I.It):l.length<=I.W l:=by
 induction l with
 |nil=>exact bM _
 |cons x l b=>rw[P9];have:=O.w1 x;simp only[fK];omega
theorem Uu(l:List I.It)(n:Nat):I.W (l.take n)<=I.W l:=by
 have:=pW (l.take n) (l.drop n);rw[eY]at this;omega
theorem Ut(l:List I.It)(n:Nat):I.W (l.drop n)<=I.W l:=by
 have:=pW (l.take n) (l.drop n);rw[eY]at this;omega
theorem V.fold(O:I.Ok P)(b:I.wf l):∀{n:Nat} {s:I.Su},I.V n s->I.V (n+I.W l) (l.foldl (λs r=>I.add s (I.LK r)) s):=by
 induction l with
 |nil=>intro n s v;exact v
 |cons r l e=>
  intro n s v;have:=e (λx c=>b x (eK _ c)) (O.va _ _ _ _ v (O.vm r (b r (eO ..))));exact O.mono _ _ _ this (by rw[P9];omega)
theorem V.sum(O:I.Ok P){l:List I.It}(b:I.wf l):I.V (I.W l) (I.sum l):=O.mono _ _ _ (V.fold O b O.v0) (by omega)
theorem fold_add(O:I.Ok P)(b:I.wf l):∀{n m:Nat} {s o:I.Su},I.V n s->I.V m o ->
  l.foldl (λs r=>I.add s (I.LK r)) (I.add s o)=I.add s (l.foldl (λs r=>I.add s (I.LK r)) o):=by
 induction l with
 |nil=>intros;rfl
 |cons r l f=>
  intro n m s o v w;have c:=O.vm r (b r (eO ..));simp only[CD];rw[O.assoc _ _ _ _ _ _ v w c];exact f (λx e=>b x (eK _ e)) v (O.va _ _ _ _ w c)
theorem sum_append(O:I.Ok P){m:List I.It}(b:I.wf l)(hm:I.wf m):I.sum (l++m)=I.add (I.sum l) (I.sum m):=by
 unfold iJ.sum;rw[GC];have:=fold_add O hm (V.sum O b) O.v0;rw[O.az _ _ (V.sum O b)]at this;exact this
theorem FR(l:List I.It)(r:I.It):I.sum (l++[r])=I.add (I.sum l) (I.LK r):=by unfold iJ.sum;rw[GC];rfl
theorem sum_nil:I.sum []=I.zs:=rfl
theorem lA:∀(bs:List B) (x:Bs.den bs),(Bs.inj bs x).length=bs.length:=by
 intro bs
 induction bs with
 |nil=>intro x;rfl
 |cons b bs c=>intro x;simp[Bs.inj,c]
theorem gN(x:Bs.den bs)(c:bs.length<=100){K:Addr->aK}(b:∀h',Ext h h'->cA h.size 1 h' ⟨some ⟨h.size,0,none⟩,bs.length,bs.length⟩ (Bs.inj bs x)->wp P (K ⟨h.size,0,none⟩) h' Q):wp P (.alloc (Bs.inj bs x) K) h Q:=
 λelem=>b _ (Ext.push ..) (bR (by rw[lA];omega) (by decide) (by omega))
theorem hS{n c:Nat}{x:Bs.den bs}{K:Bs.den bs->aK}(e:cA n 1 h ⟨some a,c,d⟩ (Bs.inj bs x))(b:wp P (K x) h Q):wp P (.load (.agg bs) (some a) K) h Q:=⟨a,rfl,x,e.cells,b⟩
theorem PV{n c:Nat}{x:Bs.den bs}{K:aK}(e:cA n 1 h ⟨some a,c,d⟩ (Bs.inj bs x))(b:wp P K h Q):wp P (.check (some a) (Bs.inj bs x) K) h Q:=Bx rfl e.cells b
theorem mX{n c:Nat}{x:Bs.den bs}(y:Bs.den bs){K:aK}(f:cA n 1 h ⟨some a,c,d⟩ (Bs.inj bs x))(b:∀v,v∈Bs.inj bs y->flat v=true)
  (e:∀h',cA n 1 h' ⟨some a,c,d⟩ (Bs.inj bs y)->jU ⟨some a,c,d⟩ h h'->wp P K h' Q):wp P (.store (some a) (Bs.inj bs y) K) h Q:=fP (Bs.inj bs y) f (by rw[lA,lA]) b e
theorem HQ{z:Bs.den bs}(y:Bs.den bs)(g:bs.length<=100)(e:∀v,v∈Bs.inj bs y->flat v=true){K:Addr->aK}
  (f:∀h',Ext h h'->cA h.size 1 h' ⟨some ⟨h.size,0,none⟩,bs.length,bs.length⟩ (Bs.inj bs y)->wp P (K ⟨h.size,0,none⟩) h' Q):wp P (.alloc (Bs.inj bs z) λa=>.store (some a) (Bs.inj bs y) (K a)) h Q:=
 gN z g λk b o1=>mX y o1 e λc o2 j=>f c (jU.jQ b j (by intro a ha;cases ha;exact bM _)) o2
theorem zA{n c:Nat}{x:Bs.den bs}(y:Bs.den bs){R:Nat->bG->aG->Prop}{h0:aG}(f:cA n 1 h ⟨some a,c,d⟩ (Bs.inj bs x))(k:h0.size<=n)(e:Ext h0 h)(j:∀v,v∈Bs.inj bs y->flat v=true)
  (m:∀h',Ext h0 h'->R 0 [.agg (Bs.inj bs y).toArray] h'):wp P (.store (some a) (Bs.inj bs y)<|.load (.agg bs) (some a) λr=>.ret 0 [.agg (Bs.inj bs r).toArray]) h R:=
 mX y f j λg o1 o=>hS o1 (aC (m g (jU.jQ e o (by intro b hb;cases hb;have:=(f.lt rfl).1;exact dI k this))))
theorem HF{n c g j:Nat}{b:Addr}{vs:bG}(o:cA n 1 h ⟨some a,c,d⟩ vs)(u:jU ⟨some b,g,j⟩ h h')(e:b.block≠a.block):cA n 1 h' ⟨some a,c,d⟩ vs:=
 o.aP λx f=>u.2.1 _ (o.lt f).2 λy k=>by cases f;cases k;exact e
def cI(I:iJ)(l:List I.It):bG:=l.flatMap λr=>Bs.inj I.iB r
theorem od(l:List I.It):(cI I l).length=l.length*I.ni:=by
 unfold cI
 induction l with
 |nil=>simp
 |cons r l b=>rw[gB,bP,b,lA,fK,CH];unfold iJ.ni;omega
theorem LX(x:I.It)(l:List I.It):cI I (x::l)=Bs.inj I.iB x++cI I l:=by simp[cI]
theorem kg(l:List I.It):∀(j:Nat) (r:I.It),l[j]?=some r->∀(i:Nat) (v:Value),(Bs.inj I.iB r)[i]?=some v->(cI I l)[j*I.ni+i]?=some v:=by
 induction l with
 |nil=>intro j r h;simp at h
 |cons x l f=>
  intro j r h i v b;have e:=lA I.iB x;rw[LX];cases j with
  |zero=>
   simp at h;subst h;have:=(cR.1 b).1;rw[mL (by omega)];simpa using b
  |succ j=>
   have:=f j r (by simpa using h) i v b;have g:(j+1)*I.ni=j*I.ni+I.ni:=FZ ..;have c:(Bs.inj I.iB x).length=I.ni:=e;rw[jZ (by omega),c,show(j+1)*I.ni+i-I.ni=j*I.ni+i by omega];exact this
theorem fq(l:List I.It)(n:Nat):(cI I l).take (n*I.ni)=cI I (l.take n):=by
 induction l generalizing n with
 |nil=>simp[cI]
 |cons x l e=>
  cases n with
  |zero=>simp[cI]
  |succ n=>
   have c:(Bs.inj I.iB x).length=I.ni:=lA _ _;have b:(n+1)*I.ni=I.ni+n*I.ni:=by rw[FZ];omega
   rw[LX,JO,LX,b,JP,iW (by omega),c,BE,e]
theorem fp(l:List I.It)(n:Nat):(cI I l).drop (n*I.ni)=cI I (l.drop n):=by
 induction l generalizing n with
 |nil=>simp[cI]
 |cons x l e=>
  cases n with
  |zero=>simp
  |succ n=>
   have c:(Bs.inj I.iB x).length=I.ni:=lA _ _;have b:(n+1)*I.ni=I.ni+n*I.ni:=by rw[FZ];omega
   rw[LX,List.drop_succ_cons,b,R3,uL (by omega),c,BE,e,GA]
theorem Gx{m:List I.It}(a:I.wf l)(b:I.wf m):I.wf (l++m):=λr c=>(dH.1 c).elim (a r) (b r)
theorem L9(a:I.wf l)(n:Nat):I.wf (l.take n):=λr b=>a r (rU b)
theorem Rz(a:I.wf l)(n:Nat):I.wf (l.drop n):=λr b=>a r (BD b)
structure Pm(I:iJ)(h:aG)(s:Sl)(l:List I.It):Prop where
 rd:Rd I.ni h s (cI I l)
 cap:s.len<=s.cap
 max:s.cap<2^63
 wf:I.wf l
theorem Pm.len(O:I.Ok P){s:Sl}{l:List I.It}(r:Pm I h s l):s.len=l.length:=by
 have:=r.rd.1;rw[od]at this;exact Nat.eq_of_mul_eq_mul_right O.i1.1 this
theorem Pm.ext(r:Pm I h s l)(e:Ext h h'):Pm I h' s l:=⟨e.rd r.rd,r.cap,r.max,r.wf⟩
theorem Pm.take(O:I.Ok P){s:Sl}{l:List I.It}(b:Pm I h s l){n m:Nat}(e:n<=l.length)(hm:n<=m)(c:m<2^63):Pm I h ⟨s.aD,n,m⟩ (l.take n):=
 ⟨by have:=Rd.take b.rd (n:=n) (by rw[b.len O];exact e) m;rw[fq]at this;exact this,hm,c,L9 b.wf n⟩
theorem Pm.drop(O:I.Ok P){s:Sl}{l:List I.It}(b:Pm I h s l){i m:Nat}(hi:i<=l.length)(hm:s.len-i<=m)(c:m<2^63):Pm I h ⟨bK s.aD s.cap i I.ni,s.len-i,m⟩ (l.drop i):=
 ⟨by have:=Rd.drop b.rd (i:=i) (by rw[b.len O];exact hi) b.cap m;rw[fp]at this;exact this,hm,c,Rz b.wf i⟩
theorem PD{j:Nat}{r:I.It}(g:Pm I h s l)(h1:1<=I.ni)(f:l[j]?=some r):∃a,s.aD=some a/\Cells h (a.add (j*I.ni)) (Bs.inj I.iB r):=by
 have n:(Bs.inj I.iB r).length=I.ni:=lA _ _;obtain⟨a,e,c⟩:=g.rd.2 _ _ (kg l j r f 0 _ (cL (by omega)));refine⟨a,e,aI.2 λi v hi=>?_⟩;obtain⟨m,b,k⟩:=g.rd.2 _ _ (kg l j r f i v hi);rw[e]at b;cases b;rw[add_add];exact k
theorem xr(O:I.Ok P){K:I.It->aK}{j:Int}(f:Pm I h s l)(h0:0<=j)(h1:j<l.length)
  (g:∀r,l[j.toNat]?=some r->wp P (K r) h Q):wp P (bF (bN (aJ s.aD) (eV j s.len)) (.load (.agg I.iB) (aB s.aD (aZ (bQ j) I.ni)) K)) h Q:=by
 have b:l[j.toNat]?=some l[j.toNat]:=cL (by omega);obtain⟨a,e,c⟩:=PD f O.i1.1 b;have:=f.len O;exact aL (fC.2 ⟨by simp[aJ,e],kN.2 ⟨h0,by omega⟩⟩) ⟨a.add (j.toNat*I.ni),by simp[aB,e,aZ,bQ],l[j.toNat],c,g _ b⟩
theorem WB(O:I.Ok P){K:aK}{j:Nat}{r:I.It}(g:Pm I h s l)(b:l[j]?=some r)(f:wp P K h Q):wp P (.check (aB s.aD (aZ j I.ni)) (Bs.inj I.iB r) K) h Q:=by
 obtain⟨a,e,c⟩:=PD g O.i1.1 b;exact⟨⟨a.add (j*I.ni),by simp[aB,e,aZ],c⟩,f⟩
inductive Bt(α:Type) where
 |nil
 |node (l:Bt α) (x:α) (r:Bt α)
def Bt.list{α:Type}:Bt α->List α
 |.nil=>[]
 |.node l x r=>l.list++x::r.list
def Bt.ht{α:Type}:Bt α->Nat
 |.nil=>0
 |.node l _ r=>max l.ht r.ht+1
theorem Bt.Lb{α:Type}:∀t:Bt α,t.ht<=t.list.length
 |.nil=>bM _
 |.node l x r=>by have:=l.Lb;have:=r.Lb;simp only[Bt.ht,Bt.list,bP,fK];omega
theorem kO{α:Type}(l r:Bt α)(x:α):(Bt.node l x r).list.length=l.list.length+1+r.list.length:=by simp[Bt.list];omega
def C6(I:iJ)(pl pr:OA)(t:Bt I.It)(x:I.It):bG:=[.pointer pl, .pointer pr]++(Bs.inj I.iB x++[iv t.list.length,iv t.ht])
theorem Gj(pl pr:OA)(t:Bt I.It)(x:I.It):(C6 I pl pr t x).length=I.ni+4:=by
 simp only[C6,bP,fK,Mn,lA];unfold iJ.ni;omega
def GG(I:iJ)(h:aG)(a:Addr)(pl pr:OA)(l:Bt I.It)(x:I.It)(r:Bt I.It):Prop:=Cells h a (C6 I pl pr (.node l x r) x++Bs.inj I.sB (I.sum (Bt.node l x r).list))/\I.Z a.block/\a.off=0/\a.spot=none
def Nd(I:iJ)(h:aG):OA->Bt I.It->Prop
 |p, .nil=>p=none
 |p, .node l x r=>∃a pl pr,p=some a/\GG I h a pl pr l x r/\Nd I h pl l/\Nd I h pr r
theorem GG.ext{pl:OA}{l r:Bt I.It}(c:GG I h a pl pr l x r)(e:Ext h h'):GG I h' a pl pr l x r:=⟨e.cells c.1,c.2⟩
theorem Nd.ext{h':aG}(e:Ext h h'):∀{t:Bt I.It} {p:OA},Nd I h p t->Nd I h' p t
 |.nil,_,n=>n
 |.node l x r,p,⟨a,pl,pr,b,c,f,g⟩=>⟨a,pl,pr,b,c.ext e,Nd.ext e f,Nd.ext e g⟩
theorem Nd.oY{F:Nat->Prop}{h':aG}(e:aV F h h')(f:∀i,i<h.size->I.Z i->¬F i):∀{t:Bt I.It} {p:OA},Nd I h p t->Nd I h' p t
 |.nil,_,n=>n
 |.node l x r,p,⟨a,pl,pr,g,c,o,u⟩=>⟨a,pl,pr,g,⟨aI.2 λj v k=>by
   have q:=aI.1 c.1 j v k;have b:=BY q;have m:=c.2.1;rw[iS]at b;rw[yS (h:=h) (by rw[iS];exact e.2.1 _ b (f _ b m))];exact q,c.2⟩,Nd.oY e f o,Nd.oY e f u⟩
theorem Cl{l r:Bt I.It}(w:I.wf (Bt.node l x r).list):I.wf l.list:=λy b=>w y (by simp[Bt.list,b])
theorem Ov{l r:Bt I.It}(w:I.wf (Bt.node l x r).list):I.wf r.list:=λy b=>w y (by simp[Bt.list,b])
theorem HU{l r:Bt I.It}(w:I.wf (Bt.node l x r).list):I.xi x:=w x (by simp[Bt.list])
theorem lR(l r:Bt I.It)(x:I.It):I.W (Bt.node l x r).list=I.W l.list+I.wt x+I.W r.list:=by simp only[Bt.list];rw[pW,P9];omega
theorem cj(O:I.Ok P){l r:Bt I.It}(w:I.wf (Bt.node l x r).list):I.sum (Bt.node l x r).list=I.add (I.add (I.sum l.list) (I.LK x)) (I.sum r.list):=by
 have b:I.wf [x]:=λy c=>by rw[dE.1 c];exact HU w
 rw[show(Bt.node l x r).list=(l.list++[x])++r.list by simp[Bt.list],sum_append O (Gx (Cl w) b) (Ov w),FR]
theorem CU{pre mid post:bG}{j:Nat}(c:Cells h a (pre++(mid++post)))(b:j=pre.length):Cells h (a.add j) mid:=
 aI.2 λi v hi=>by
  rw[add_add];refine aI.1 c (j+i) v ?_;rw[jZ (by omega),show j+i-pre.length=i by omega,mL (cR.1 hi).1];exact hi
theorem GG.item{pl:OA}{l r:Bt I.It}(c:GG I h a pl pr l x r):Cells h (a.add 2) (Bs.inj I.iB x):=by
 replace c:=c.1;unfold C6 at c;rw[dW,dW]at c;exact CU c rfl
theorem GG.sum{a:Addr}{pl pr:OA}{l r:Bt I.It}{x:I.It}(c:GG I h a pl pr l x r):Cells h (a.add (I.ni+4)) (Bs.inj I.sB (I.sum (Bt.node l x r).list)):=
 CU (post:=[]) (by rw[kQ];exact c.1) (Gj ..).symm
theorem GG.BI{pl:OA}{l r:Bt I.It}(c:GG I h a pl pr l x r):Sw.cell h (a.add (I.ni+2))=some (iv (Bt.node l x r).list.length)/\Sw.cell h (a.add (I.ni+3))=some (iv (Bt.node l x r).ht):=by
 replace c:=c.1;unfold C6 at c;rw[<-dW [Value.pointer pl,Value.pointer pr] (Bs.inj I.iB x),dW]at c;have:=CU (j:=I.ni+2) c (by simp only[bP,fK,Mn,lA];unfold iJ.ni;omega);have h0:=aI.1 this 0 _ rfl;have b:=aI.1 this 1 _ rfl;rw[add_zero']at h0;rw[add_add]at b;exact⟨h0,b⟩
theorem GG.left{pl:OA}{l r:Bt I.It}(c:GG I h a pl pr l x r):Sw.cell h (a.add 0)=some (.pointer pl):=aI.1 c.1 0 _ rfl
theorem GG.right{pl:OA}{l r:Bt I.It}(c:GG I h a pl pr l x r):Sw.cell h (a.add 1)=some (.pointer pr):=aI.1 c.1 1 _ rfl
theorem nO{pl:OA}{l r:Bt I.It}{K:OA->aK}(c:GG I h a pl pr l x r)(e:wp P (K pl) h Q):wp P (bF (aJ (some a))<|bF (aJ (some a))<|.load (tP) (aB (some a) 0) K) h Q:=
 aL rfl (aL rfl (bC (b:=.ptr) (a.add 0) pl rfl c.left e))
theorem mO{pl:OA}{l r:Bt I.It}{K:OA->aK}(c:GG I h a pl pr l x r)(e:wp P (K pr) h Q):wp P (bF (aJ (some a))<|bF (aJ (some a))<|.load (tP) (aB (some a) 1) K) h Q:=
 aL rfl (aL rfl (bC (b:=.ptr) (a.add 1) pr rfl c.right e))
theorem uJ{pl:OA}{l r:Bt I.It}{K:I.It->aK}(c:GG I h a pl pr l x r)(b:wp P (K x) h Q):wp P (bF (aJ (some a))<|bF (aJ (some a))<|.load (.agg I.iB) (aB (some a) 2) K) h Q:=
 aL rfl (aL rfl ⟨a.add 2,rfl,x,c.item,b⟩)
theorem Wt{pl:OA}{l r:Bt I.It}{K:I.Su->aK}(c:GG I h a pl pr l x r)(b:wp P (K (I.sum (Bt.node l x r).list)) h Q):wp P (bF (aJ (some a))<|bF (aJ (some a))<|.load (.agg I.sB) (aB (some a) (I.ni+4)) K) h Q:=
 aL rfl (aL rfl ⟨a.add (I.ni+4),rfl,_,c.sum,b⟩)
theorem ae{pl:OA}{l r:Bt I.It}{K:aK}(c:GG I h a pl pr l x r)(b:wp P K h Q):wp P (.check (aB (some a) 0) [.pointer pl] K) h Q:=
 Bx rfl (aI.2 λi v hi=>by match i,hi with|0,hi=>simp at hi;subst hi;rw[add_zero'];exact c.left|i+1,hi=>simp at hi) b
theorem N6{pl:OA}{l r:Bt I.It}{K:aK}(c:GG I h a pl pr l x r)(b:wp P K h Q):wp P (.check (aB (some a) 1) [.pointer pr] K) h Q:=
 Bx rfl (aI.2 λi v hi=>by match i,hi with|0,hi=>simp at hi;subst hi;rw[add_zero'];exact c.right|i+1,hi=>simp at hi) b
theorem Jn{pl:OA}{l r:Bt I.It}{K:aK}(c:GG I h a pl pr l x r)(b:wp P K h Q):wp P (.check (aB (some a) 2) (Bs.inj I.iB x) K) h Q:=
 Bx rfl c.item b
theorem AO{p:OA}{t:Bt I.It}(ht:Nd I h p t):aS P (yR I p) [tI] h λ(x:Int×Unit) _=>x.1=t.list.length:=by
 unfold yR aS;cases t with
 |nil=>obtain rfl:=ht;exact mV (aC ⟨rfl,Ext.refl _,(0,()),rfl,rfl⟩)
 |node l x r=>
  obtain⟨a,pl,pr,rfl,c,_,_⟩:=ht;exact lW (aL rfl (aL rfl (bC (b:=bI) (a.add (I.ni+2)) _ rfl c.BI.1 (aC ⟨rfl,Ext.refl _,(((Bt.node l x r).list.length:Nat),()),rfl,rfl⟩))))
theorem wA{p:OA}{t:Bt I.It}(ht:Nd I h p t):aS P (sU I p) [tI] h λ(x:Int×Unit) _=>x.1=t.ht:=by
 unfold sU aS;cases t with
 |nil=>obtain rfl:=ht;exact mV (aC ⟨rfl,Ext.refl _,(0,()),rfl,rfl⟩)
 |node l x r=>
  obtain⟨a,pl,pr,rfl,c,_,_⟩:=ht;exact lW (aL rfl (aL rfl (bC (b:=bI) (a.add (I.ni+3)) _ rfl c.BI.2 (aC ⟨rfl,Ext.refl _,(((Bt.node l x r).ht:Nat),()),rfl,rfl⟩))))
theorem N9{n m c j:Nat}{pre:bG}{x:Bs.den bs}{K:Bs.den bs->aK}(f:cA n 1 h ⟨some a,m,c⟩ (pre++Bs.inj bs x))(b:j=pre.length)(e:wp P (K x) h Q):wp P (.load (.agg bs) (aB (some a) j) K) h Q:=
 ⟨a.add j,rfl,x,CU (post:=[]) (by rw[kQ];exact f.cells) b,e⟩
theorem E1(O:I.Ok P){pl:OA}{l r:Bt I.It}(nl:Nd I h pl l)(nr:Nd I h pr r)(hw:I.wf (Bt.node l x r).list)(a7:I.W (Bt.node l x r).list<=4398046511104)(ab:oJ I h:=by repeat (first|assumption|refine oJ.ext ?_ (by assumption))) :
  aS P (Hh I pl x pr) [tP] h λ(y:OA×Unit) h'=>Nd I h' y.1 (.node l x r):=by
 have hx:=HU hw;have hl:=kO l r x;have a9:=qO O (Bt.node l x r).list;have ba:=lR l r x;have u:=cj O hw;have T:=V.sum O (Cl hw);have vr:=V.sum O (Ov hw);have vm:=O.vm x hx;have g1:=l.Lb;have g2:=r.Lb;unfold Hh aS;refine gN x O.i1.2 λh1 o o1=>hS o1 ?_;have ck:∀{h'} {K:aK} {Q:Nat->bG->aG->Prop},Ext h1 h'->wp P K h' Q->wp P (.check (some ⟨h.size,0,none⟩) (Bs.inj I.iB x) K) h' Q:=λe hk=>PV (o1.ext e) hk;refine aM (AO (nl.ext o)) λy h2 g hy=>ck g (aM (AO (nr.ext (o.trans g))) λz h3 n hz=>ck (g.trans n) (aM (wA (nl.ext ((o.trans g).trans n))) λA h4 C ao=>
  ck ((g.trans n).trans C) (aM (wA (nr.ext (((o.trans g).trans n).trans C))) λB b U aw=>ck (((g.trans n).trans C).trans U) ?_)))
 obtain⟨(y:Int),w1⟩:=y;obtain⟨(z:Int),w2⟩:=z;obtain⟨(A:Int),w3⟩:=A;obtain⟨(B:Int),w4⟩:=B;dsimp only at hy hz ao aw⊢;have F:=((g.trans n).trans C).trans U;have M:aT .i64 (aT .i64 y 1) z=(((Bt.node l x r).list.length:Nat):Int):=by
  rw[aX (a:=y) (by omega) (by omega),aX (by omega) (by omega)];omega
 have al:aT .i64 (Df A B) 1=(((Bt.node l x r).ht:Nat):Int):=by
  have:Df A B=max A B:=by unfold Df;split<;>omega
  rw[this,aX (by omega) (by omega)];simp only[Bt.ht];omega
 have D:([Value.pointer pl,Value.pointer pr]++(Bs.inj I.iB x++([iv ((Bt.node l x r).list.length:Nat),iv ((Bt.node l x r).ht:Nat)]++Bs.inj I.sB I.zs)))=C6 I pl pr (.node l x r) x++Bs.inj I.sB I.zs:=by
  simp only[C6,dW]
 rw[M,al,D];intro elem;have j:=Gj pl pr (Bt.node l x r) x;have i1:=O.i1;have s1:=O.s1;have bd:(Bs.inj I.sB I.zs).length=I.ns:=lA _ _;have o6:cA b.size 1 (b.push (.cells (C6 I pl pr (.node l x r) x++Bs.inj I.sB I.zs).toArray elem)) ⟨some ⟨b.size,0,none⟩,I.ni+4+I.ns,I.ni+4+I.ns⟩ (C6 I pl pr (.node l x r) x++Bs.inj I.sB I.zs):=
  bR (by rw[bP];omega) (by decide) (by omega)
 have L:Ext b (b.push (.cells (C6 I pl pr (.node l x r) x++Bs.inj I.sB I.zs).toArray elem)):=Ext.push ..;generalize(b.push (.cells (C6 I pl pr (.node l x r) x++Bs.inj I.sB I.zs).toArray elem))=h6 at o6 L⊢;have f:Ext h b:=o.trans F;refine hS (o1.ext (F.trans L)) (aM (O.cm _ x hx) λm h7 X hm=>?_);obtain⟨m,w5⟩:=m;dsimp only at hm;subst hm;refine Dn (Bs.inj I.sB (I.LK x)) (o6.ext X) j.symm (by rw[lA,lA]) (O.fs _) λh8 o8 u8=>?_;have k:Ext b h8:=jU.jQ (L.trans X) u8 (by intro a ha;cases ha;exact bM _);have H:=nl.ext (f.trans k);have bb:=nr.ext (f.trans k);refine dB (λt w h'=>t=0/\w=[]/\Ext b h'/\cA b.size 1 h' ⟨some ⟨b.size,0,none⟩,I.ni+4+I.ns,I.ni+4+I.ns⟩ (C6 I pl pr (.node l x r) x++Bs.inj I.sB (I.add (I.sum l.list) (I.LK x)))) ?_ ?_
 .cases l with
  |nil=>
   obtain rfl:=H;refine lW (aC ⟨rfl,rfl,k,?_⟩);rw[show I.sum (Bt.nil:Bt I.It).list=I.zs from rfl,O.za _ _ vm];exact o8
  |node ll lx N=>
   obtain⟨a,ql,qr,rfl,c,_,_⟩:=H;refine mV (Wt c (N9 o8 j.symm (aM (O.ca _ _ _ _ _ T vm (by omega)) λm h9 Y hm=>?_)));obtain⟨m,w6⟩:=m;dsimp only at hm;subst hm;refine Dn (Bs.inj I.sB (I.add (I.sum (Bt.node ll lx N).list) (I.LK x))) (o8.ext Y) j.symm (by rw[lA,lA]) (O.fs _) λG v a3=>aC ⟨rfl,rfl,jU.jQ (k.trans Y) a3 (by intro a ha;cases ha;exact bM _),v⟩
 .rintro t w h9 ⟨rfl,rfl,p,R⟩
  have J:=nr.ext (f.trans p);refine bE (bO ?_);refine dB (λt w h'=>t=0/\w=[]/\Ext b h'/\cA b.size 1 h' ⟨some ⟨b.size,0,none⟩,I.ni+4+I.ns,I.ni+4+I.ns⟩ (C6 I pl pr (.node l x r) x++Bs.inj I.sB (I.sum (Bt.node l x r).list))) ?_ ?_
  .cases r with
   |nil=>
    obtain rfl:=J;refine lW (aC ⟨rfl,rfl,p,?_⟩);rw[u,show I.sum (Bt.nil:Bt I.It).list=I.zs from rfl,O.az _ _ (O.va _ _ _ _ T vm)];exact R
   |node ll lx N=>
    obtain⟨a,ql,qr,rfl,c,_,_⟩:=J;refine mV (N9 R j.symm (Wt c (aM (O.ca _ _ _ _ _ (O.va _ _ _ _ T vm) vr (by omega)) λm G E hm=>?_)));obtain⟨m,w6⟩:=m;dsimp only at hm;rw[<-u]at hm;subst hm;refine Dn (Bs.inj I.sB (I.sum (Bt.node l x (.node ll lx N)).list)) (R.ext E) j.symm (by rw[lA,lA]) (O.fs _) λa8 a0 a4=>aC ⟨rfl,rfl,jU.jQ (p.trans E) a4 (by intro a ha;cases ha;exact bM _),a0⟩
  .rintro t w G ⟨rfl,rfl,q,v⟩
   exact bE (bO (aC ⟨rfl,f.trans q,(some ⟨b.size,0,none⟩,()),rfl,⟨b.size,0,none⟩,pl,pr,rfl,⟨v.cells,ab _ f.size,rfl,rfl⟩,nl.ext (f.trans q),nr.ext (f.trans q)⟩))
theorem Nd.Hg{n m c:Nat}{ws:bG}{b:Addr}{h h':aG}(u:jU ⟨some b,m,c⟩ h h')(g:cA n 1 h ⟨some b,m,c⟩ ws)(f:c<I.ni+4+I.ns):∀{t:Bt I.It} {p:OA},Nd I h p t->Nd I h' p t
 |.nil,_,n=>n
 |.node l x r,p,⟨a,pl,pr,j,e,k,o⟩=>⟨a,pl,pr,j,⟨xO u e.1 (Bz g e.1 (by rw[bP,Gj,lA];exact f)),e.2⟩,Nd.Hg u g f k,Nd.Hg u g f o⟩
theorem Nd.Vx{s:Sl}{h h':aG}(u:jU s h h')(g:∀b,s.aD=some b->∃k x,Sw.cell h ⟨b.block,0,none⟩=some (.int k x)):∀{t:Bt I.It} {p:OA},Nd I h p t->Nd I h' p t
 |.nil,_,n=>n
 |.node l x r,p,⟨a,pl,pr,A,c,D,E⟩=>⟨a,pl,pr,A,⟨aI.2 λj v B=>by
   have q:=aI.1 c.1 j v B;have f:=BY q;rw[iS]at f;have w:∀b,s.aD=some b->b.block≠a.block:=λb hb e=>by
    obtain⟨k,z,C⟩:=g b hb;have h0:=c.left;have ha:a=⟨b.block,0,none⟩:=by
     obtain⟨F,G,sp⟩:=a;have m:=c.2.2.1;have o:=c.2.2.2;dsimp only at m o e;subst m;subst o;rw[e]
    rw[add_zero',ha,C]at h0;cases h0
   rw[yS (h:=h) (by rw[iS];exact u.2.1 _ f w)];exact q,c.2⟩,Nd.Vx u g D,Nd.Vx u g E⟩
end
section
open Go.Sw.Tree (iv fP jR jX mW oR Bz xO dQ least TR lB kM rL)
variable{P:Program}{I:iJ}{h:aG}{Q:Nat->bG->aG->Prop}
variable{x lx mx rx:I.It}{pr:OA}
def Bt.JV{α:Type}:Bt α->Prop
 |.nil=>True
 |.node l _ r=>l.JV/\r.JV/\l.ht<=r.ht+1/\r.ht<=l.ht+1
def Bt.Full{α:Type}(t:Bt α):Prop:=t.list.length<2^t.ht/\(2^t.ht<=2*t.list.length\/t.ht=0)/\t.JV
theorem Zv:(Bt.nil:Bt I.It).Full:=⟨by simp[Bt.list,Bt.ht], .inr rfl,trivial⟩
theorem XC{l r:Bt I.It}(j:l.Full)(k:r.Full)(h1:r.list.length<=l.list.length)(n:l.list.length<=r.list.length+1):(Bt.node l x r).Full:=by
 obtain⟨a1,a2,f⟩:=j;obtain⟨m,b,g⟩:=k;have e:=kO l r x;have c1:r.ht<=l.ht:=by
  rcases b with b|b
  .have:2^r.ht<2 ^ (l.ht+1):=by rw[Mp];omega
   have:=(Nat.pow_lt_pow_iff_right (by decide:1<2)).1 this;omega
  .omega
 have c2:l.ht<=r.ht+1:=by
  rcases a2 with a2|a2
  .have:2^l.ht<=2 ^ (r.ht+1):=by rw[Mp];omega
   exact(Nat.pow_le_pow_iff_right (by decide:1<2)).1 this
  .omega
 have c:(Bt.node l x r).ht=l.ht+1:=by simp only[Bt.ht];omega
 refine⟨?_, .inl ?_,f,g,c2,by omega⟩
 .rw[c,e,Mp];omega
 .rw[c,e,Mp]
  rcases a2 with a2|a2
  .omega
  .rw[a2];omega
def So(l:Bt I.It)(x:I.It)(r t:Bt I.It):Prop:=t.list=l.list++x::r.list /\
 (l.JV->r.JV->l.ht<=r.ht+2->r.ht<=l.ht+2->t.JV/\max l.ht r.ht<=t.ht/\t.ht<=max l.ht r.ht+1/\(l.ht<=r.ht+1->r.ht<=l.ht+1->t.ht=max l.ht r.ht+1))
def Ur(l:Bt I.It)(x:I.It)(r t:Bt I.It):Prop:=t.list=l.list++x::r.list/\(l.JV->r.JV->t.JV/\max l.ht r.ht<=t.ht/\t.ht<=max l.ht r.ht+1)
theorem qw{ll b r:Bt I.It}(h1:r.ht+1<(Bt.node ll lx b).ht)(g:b.ht<=ll.ht):So (.node ll lx b) x r (.node ll lx (.node b x r)):=by
 refine⟨by simp[Bt.list],λ⟨a1,a2,c,e⟩ a5 a6 f=>?_⟩;simp only[Bt.ht,Bt.JV]at *;refine⟨⟨a1,⟨a2,a5,?_,?_⟩,?_,?_⟩,?_,?_,?_⟩<;>omega
theorem qx{ll m1 m2 r:Bt I.It}(h1:r.ht+1<(Bt.node ll lx (.node m1 mx m2)).ht)(m:ll.ht<(Bt.node m1 mx m2).ht):So (.node ll lx (.node m1 mx m2)) x r (.node (.node ll lx m1) mx (.node m2 x r)):=by
 refine⟨by simp[Bt.list],λ⟨a1,⟨b,c,j,k⟩,e,f⟩ a5 a6 g=>?_⟩;simp only[Bt.ht,Bt.JV]at *;refine⟨⟨⟨a1,b,?_,?_⟩,⟨c,a5,?_,?_⟩,?_,?_⟩,?_,?_,?_⟩<;>omega
theorem qy{l rl rr:Bt I.It}(h1:l.ht+1<(Bt.node rl rx rr).ht)(f:rl.ht<=rr.ht):So l x (.node rl rx rr) (.node (.node l x rl) rx rr):=by
 refine⟨by simp[Bt.list],λa5 ⟨a1,a2,b,c⟩ a6 e=>?_⟩;simp only[Bt.ht,Bt.JV]at *;refine⟨⟨⟨a5,a1,?_,?_⟩,a2,?_,?_⟩,?_,?_,?_⟩<;>omega
theorem qz{l m1 m2 rr:Bt I.It}(h1:l.ht+1<(Bt.node (.node m1 mx m2) rx rr).ht)(m:rr.ht<(Bt.node m1 mx m2).ht):So l x (.node (.node m1 mx m2) rx rr) (.node (.node l x m1) mx (.node m2 rx rr)):=by
 refine⟨by simp[Bt.list],λa5 ⟨⟨b,c,j,k⟩,a2,e,f⟩ a6 g=>?_⟩;simp only[Bt.ht,Bt.JV]at *;refine⟨⟨⟨a5,b,?_,?_⟩,⟨c,a2,?_,?_⟩,?_,?_⟩,?_,?_,?_⟩<;>omega
theorem r_{l r:Bt I.It}(h1:l.ht<=r.ht+1)(c:r.ht<=l.ht+1):So l x r (.node l x r):=by
 refine⟨by simp[Bt.list],λa b _ _=>?_⟩;simp only[Bt.ht,Bt.JV]at *;refine⟨⟨a,b,?_,?_⟩,?_,?_,?_⟩<;>first|omega|(intros;first|trivial|omega)
theorem rq{ll b r t1 t:Bt I.It}(h1:r.ht+1<(Bt.node ll lx b).ht)(j:Ur b x r t1)(e:So ll lx t1 t):Ur (.node ll lx b) x r t:=by
 refine⟨by rw[e.1,j.1];simp[Bt.list],λ⟨a1,a2,n,o⟩ a5=>?_⟩;obtain⟨m,u,v⟩:=j.2 a2 a5;simp only[Bt.ht]at *;obtain⟨c,p,q,f⟩:=e.2 a1 m (by omega) (by omega);refine⟨c,?_,?_⟩<;>(by_cases g:ll.ht<=t1.ht+1<;>by_cases k:t1.ht<=ll.ht+1<;>first|(have:=f g k;omega)|omega)
theorem rv{l rl rr t1 t:Bt I.It}(h1:l.ht+1<(Bt.node rl rx rr).ht)(j:Ur l x rl t1)(e:So t1 rx rr t):Ur l x (.node rl rx rr) t:=by
 refine⟨by rw[e.1,j.1];simp[Bt.list],λa5 ⟨a1,a2,m,n⟩=>?_⟩;obtain⟨k,q,r⟩:=j.2 a5 a1;simp only[Bt.ht]at *;obtain⟨b,o,p,c⟩:=e.2 k a2 (by omega) (by omega);refine⟨b,?_,?_⟩<;>(by_cases f:t1.ht<=rr.ht+1<;>by_cases g:rr.ht<=t1.ht+1<;>first|(have:=c f g;omega)|omega)
theorem ry{l r:Bt I.It}(h1:l.ht<=r.ht+1)(c:r.ht<=l.ht+1):Ur l x r (.node l x r):=by
 refine⟨by simp[Bt.list],λa b=>?_⟩;simp only[Bt.ht,Bt.JV]at *;refine⟨⟨a,b,?_,?_⟩,?_,?_⟩<;>omega
theorem FY{L M:List I.It}(w:I.wf L)(hm:∀y,y∈M->y∈L):I.wf M:=λy b=>w y (hm y b)
theorem UJ(O:I.Ok P){pl:OA}{l r:Bt I.It}(nl:Nd I h pl l)(nr:Nd I h pr r)(hw:I.wf (Bt.node l x r).list)(q:I.W (Bt.node l x r).list<=4398046511104)(b4:oJ I h:=by repeat (first|assumption|refine oJ.ext ?_ (by assumption))) :
  aS P (MB I pl x pr) [tP] h λ(y:OA×Unit) h'=>∃t,Nd I h' y.1 t/\So l x r t:=by
 have hx:=HU hw;have hl:=kO l r x;have b6:=lR (I:=I) l r x;have bo:=qO O (Bt.node l x r).list;have g1:=l.Lb;have g2:=r.Lb;unfold MB aS;refine gN x O.i1.2 λh1 H o1=>?_;have X:∀{h'} {K:I.It->aK} {Q:Nat->bG->aG->Prop},Ext h1 h'->wp P (K x) h' Q->wp P (.load (.agg I.iB) (some ⟨h.size,0,none⟩) K) h' Q:=λe hk=>hS (o1.ext e) hk;have ck:∀{h'} {K:aK} {Q:Nat->bG->aG->Prop},Ext h1 h'->wp P K h' Q->wp P (.check (some ⟨h.size,0,none⟩) (Bs.inj I.iB x) K) h' Q:=λe hk=>PV (o1.ext e) hk;have a4:=nl.ext H;have a9:=nr.ext H;refine aM (wA a4) λy h2 e2 f=>aM (wA (a9.ext e2)) λz h3 e3 u=>?_;obtain⟨(y:Int),w1⟩:=y;obtain⟨(z:Int),w2⟩:=z;dsimp only at f u⊢;subst f;subst u;have M:=e2.trans e3;have ab:=a4.ext M;have al:=a9.ext M;rw[aX (by omega) (by omega)];refine aE (λhc=>?_) λhc=>?_
 .rw[dL]at hc
  cases l with
  |nil=>simp only[Bt.ht]at hc;omega
  |node ll lx T=>
   have bo:=kO ll T lx;have b0:=lR (I:=I) ll T lx;have bt:=qO O (Bt.node ll lx T).list;obtain⟨a,ql,qr,rfl,c,Y,n2⟩:=ab;have c:GG I h3 a ql qr ll lx T:=c;refine nO c (mO c (aM (wA Y) λy h4 R f=>N6 (c.ext R) (aM (wA (n2.ext R)) λz h5 e5 u=>?_)));obtain⟨(y:Int),w1⟩:=y;obtain⟨(z:Int),w2⟩:=z;dsimp only at f u⊢;subst f;subst u;have o:=R.trans e5;have D:=c.ext o;have ao:=Y.ext o;have a0:=n2.ext o;have G:=al.ext o;have n:=M.trans o;refine aE (λC=>?_) λC=>?_
   .rw[dD]at C
    refine nO D (uJ D (mO D (X n (aM (E1 O (x:=x) a0 G (FY hw (by intro y f;simp only[Bt.list,dH,eH]at f⊢;grind)) (by rw[lR];omega)) λp h6 g k=>?_))));obtain⟨(p:OA),w3⟩:=p;dsimp only at k⊢;have b:=qw (x:=x) (r:=r) (lx:=lx) (by omega) (show T.ht<=ll.ht by omega);refine Jn (D.ext g) (ae (D.ext g) (aM (E1 O (x:=lx) (ao.ext g) k (by rw[b.1];exact hw) (by rw[b.1];exact q)) λp h7 J k=>?_));obtain⟨(p:OA),w4⟩:=p;exact aC ⟨rfl,H.trans ((n.trans g).trans J),(p,()),rfl,_,k,b⟩
   .rw[eR]at C
    cases T with
    |nil=>simp only[Bt.ht]at C;omega
    |node v mx w=>
     have bp:=kO v w mx;have bb:=lR (I:=I) v w mx;have ba:=qO O (Bt.node v mx w).list;obtain⟨a',ml,mr,rfl,j,k1,k2⟩:=a0;have j:GG I h5 a' ml mr v mx w:=j;have b:=qx (x:=x) (r:=r) (lx:=lx) (ll:=ll) (m1:=v) (mx:=mx) (m2:=w) (by omega) (by omega);refine mO D (nO D (uJ D (nO j (uJ j (mO j (X n (aM (E1 O (x:=lx) ao k1 (FY hw (by intro y f;simp only[Bt.list,dH,eH]at f⊢;grind)) (by rw[lR];omega)) λp h6 g k=>?_)))))));obtain⟨(p:OA),w3⟩:=p;dsimp only at k⊢;refine ck (n.trans g) (N6 (j.ext g) (Jn (j.ext g) (aM (E1 O (x:=x) (k2.ext g) (G.ext g) (FY hw (by intro y f;simp only[Bt.list,dH,eH]at f⊢;grind)) (by rw[lR];omega)) λp' h7 J F=>?_)));obtain⟨(p':OA),w4⟩:=p';dsimp only at F⊢;refine Jn (j.ext (g.trans J)) (aM (E1 O (x:=mx) (k.ext J) F (by rw[b.1];exact hw) (by rw[b.1];exact q)) λA h8 m L=>?_);obtain⟨(A:OA),w5⟩:=A;exact aC ⟨rfl,H.trans (((n.trans g).trans J).trans m),(A,()),rfl,_,L,b⟩
 .rw[gD]at hc
  refine aM (wA al) λy h4 R f=>aM (wA (ab.ext R)) λz h5 e5 u=>?_;obtain⟨(y:Int),w1⟩:=y;obtain⟨(z:Int),w2⟩:=z;dsimp only at f u⊢;subst f;subst u;have o:=R.trans e5;have a7:=ab.ext o;have G:=al.ext o;have n:=M.trans o;rw[aX (by omega) (by omega)];refine aE (λhd=>?_) λhd=>?_
  .rw[dL]at hd
   cases r with
   |nil=>simp only[Bt.ht]at hd;omega
   |node U rx rr=>
    have b8:=kO U rr rx;have b2:=lR (I:=I) U rr rx;have b1:=qO O (Bt.node U rx rr).list;obtain⟨a,ql,qr,rfl,c,Y,n2⟩:=G;have c:GG I h5 a ql qr U rx rr:=c;refine mO c (nO c (aM (wA n2) λy h6 g f=>ae (c.ext g) (aM (wA (Y.ext g)) λz h7 J u=>?_)));obtain⟨(y:Int),w1⟩:=y;obtain⟨(z:Int),w2⟩:=z;dsimp only at f u⊢;subst f;subst u;have E:=g.trans J;have B:=c.ext E;have aw:=Y.ext E;have a3:=n2.ext E;have a8:=a7.ext E;have N:=n.trans E;refine aE (λC=>?_) λC=>?_
    .rw[dD]at C
     refine X N (nO B (uJ B (mO B (aM (E1 O (x:=x) a8 aw (FY hw (by intro y f;simp only[Bt.list,dH,eH]at f⊢;grind)) (by rw[lR];omega)) λp h8 m k=>?_))));obtain⟨(p:OA),w3⟩:=p;dsimp only at k⊢;have b:=qy (x:=x) (l:=l) (rx:=rx) (rl:=U) (rr:=rr) (by omega) (by omega);refine N6 (B.ext m) (Jn (B.ext m) (aM (E1 O (x:=rx) k (a3.ext m) (by rw[b.1];exact hw) (by rw[b.1];exact q)) λp h9 V k=>?_));obtain⟨(p:OA),w4⟩:=p;exact aC ⟨rfl,H.trans ((N.trans m).trans V),(p,()),rfl,_,k,b⟩
    .rw[eR]at C
     cases U with
     |nil=>simp only[Bt.ht]at C;omega
     |node v mx w=>
      have bp:=kO v w mx;have bb:=lR (I:=I) v w mx;have ba:=qO O (Bt.node v mx w).list;obtain⟨a',ml,mr,rfl,j,k1,k2⟩:=aw;have j:GG I h7 a' ml mr v mx w:=j;have b:=qz (x:=x) (l:=l) (rx:=rx) (m1:=v) (mx:=mx) (m2:=w) (rr:=rr) (by omega) (by omega);refine nO B (X N (nO j (uJ j (mO j (uJ B (mO B (aM (E1 O (x:=x) a8 k1 (FY hw (by intro y f;simp only[Bt.list,dH,eH]at f⊢;grind)) (by rw[lR];omega)) λp h8 m k=>?_)))))));obtain⟨(p:OA),w3⟩:=p;dsimp only at k⊢;refine N6 (B.ext m) (Jn (B.ext m) (N6 (j.ext m) (Jn (j.ext m) (aM (E1 O (x:=rx) (k2.ext m) (a3.ext m) (FY hw (by intro y f;simp only[Bt.list,dH,eH]at f⊢;grind)) (by rw[lR];omega)) λp' h9 V F=>?_))));obtain⟨(p':OA),w4⟩:=p';dsimp only at F⊢;refine Jn (j.ext (m.trans V)) (aM (E1 O (x:=mx) (k.ext V) F (by rw[b.1];exact hw) (by rw[b.1];exact q)) λA b3 bd L=>?_);obtain⟨(A:OA),w5⟩:=A;exact aC ⟨rfl,H.trans (((N.trans m).trans V).trans bd),(A,()),rfl,_,L,b⟩
  .rw[gD]at hd
   refine X n (aM (E1 O (x:=x) a7 G hw q) λp h6 g k=>?_);obtain⟨(p:OA),w3⟩:=p;exact aC ⟨rfl,H.trans (n.trans g),(p,()),rfl,_,k,r_ (by omega) (by omega)⟩
theorem gn(O:I.Ok P):∀(fuel:Nat) {h:aG} {pl pr:OA} {l r:Bt I.It} {x:I.It},l.list.length+r.list.length<fuel->Nd I h pl l->Nd I h pr r->I.wf (Bt.node l x r).list->I.W (Bt.node l x r).list<=4398046511104->(Y:oJ I h:=by repeat (first|assumption|refine oJ.ext ?_ (by assumption))) ->
  aS P (F9 fuel I pl x pr) [tP] h λ(y:OA×Unit) h'=>∃t,Nd I h' y.1 t/\Ur l x r t:=by
 intro fuel
 induction fuel with
 |zero=>intro h pl pr l r x hf;omega
 |succ fuel ih=>
  intro h pl pr l r x hf nl nr hw g Y;have hx:=HU hw;have hl:=kO l r x;have a3:=lR (I:=I) l r x;have ab:=qO O (Bt.node l x r).list;have g1:=l.Lb;have g2:=r.Lb;unfold F9 aS;refine gN x O.i1.2 λh1 u o1=>?_;have N:∀{h'} {K:I.It->aK} {Q:Nat->bG->aG->Prop},Ext h1 h'->wp P (K x) h' Q->wp P (.load (.agg I.iB) (some ⟨h.size,0,none⟩) K) h' Q:=λe hk=>hS (o1.ext e) hk;have G:=nl.ext u;have J:=nr.ext u;refine aM (wA G) λy h2 V j=>aM (wA (J.ext V)) λz h3 e3 w=>?_;obtain⟨(y:Int),w1⟩:=y;obtain⟨(z:Int),w2⟩:=z;dsimp only at j w⊢;subst j;subst w;have k:=V.trans e3;have B:=G.ext k;have C:=J.ext k;rw[aX (by omega) (by omega)];refine aE (λE=>?_) λE=>?_
  .rw[dL]at E
   cases l with
   |nil=>simp only[Bt.ht]at E;omega
   |node ll lx A=>
    have ab:=kO ll A lx;have ao:=lR (I:=I) ll A lx;have al:=qO O (Bt.node ll lx A).list;obtain⟨a,U,qr,rfl,c,R,T⟩:=B;have c:GG I h3 a U qr ll lx A:=c;refine nO c (uJ c (mO c (N k (aM (ih (x:=x) (by omega) T C (FY hw (by intro y j;simp only[Bt.list,dH,eH]at j⊢;grind)) (by rw[lR];omega)) λp h4 m f=>?_))));obtain⟨(p:OA),w3⟩:=p;obtain⟨t1,np,n⟩:=f;dsimp only at np n⊢;have b:(Bt.node ll lx t1).list=(Bt.node (.node ll lx A) x r).list:=by simp only[Bt.list];rw[n.1];simp
    refine Jn (c.ext m) (ae (c.ext m) (aM (UJ O (x:=lx) (R.ext m) np (by rw[b];exact hw) (by rw[b];exact g)) λp X M f=>?_));obtain⟨(p:OA),w4⟩:=p;obtain⟨t2,np,he⟩:=f;exact aC ⟨rfl,u.trans ((k.trans m).trans M),(p,()),rfl,t2,np,rq (by omega) n he⟩
  .rw[gD]at E
   refine aM (wA C) λy h4 m j=>aM (wA (B.ext m)) λz X M w=>?_;obtain⟨(y:Int),w1⟩:=y;obtain⟨(z:Int),w2⟩:=z;dsimp only at j w⊢;subst j;subst w;have v:=m.trans M;have H:=B.ext v;have L:=C.ext v;have o:=k.trans v;rw[aX (by omega) (by omega)];refine aE (λF=>?_) λF=>?_
   .rw[dL]at F
    cases r with
    |nil=>simp only[Bt.ht]at F;omega
    |node D rx rr=>
     have a4:=kO D rr rx;have a0:=lR (I:=I) D rr rx;have aw:=qO O (Bt.node D rx rr).list;obtain⟨a,U,qr,rfl,c,R,T⟩:=L;have c:GG I X a U qr D rx rr:=c;refine N o (nO c (uJ c (mO c (aM (ih (x:=x) (by omega) H R (FY hw (by intro y j;simp only[Bt.list,dH,eH]at j⊢;grind)) (by rw[lR];omega)) λp h6 q f=>?_))));obtain⟨(p:OA),w3⟩:=p;obtain⟨t1,np,n⟩:=f;dsimp only at np n⊢;have b:(Bt.node t1 rx rr).list=(Bt.node l x (.node D rx rr)).list:=by simp only[Bt.list];rw[n.1];simp
     refine N6 (c.ext q) (Jn (c.ext q) (aM (UJ O (x:=rx) np (T.ext q) (by rw[b];exact hw) (by rw[b];exact g)) λp h7 e7 f=>?_));obtain⟨(p:OA),w4⟩:=p;obtain⟨t2,np,he⟩:=f;exact aC ⟨rfl,u.trans ((o.trans q).trans e7),(p,()),rfl,t2,np,rv (by omega) n he⟩
   .rw[gD]at F
    refine N o (aM (E1 O (x:=x) H L hw g) λp h6 q f=>?_);obtain⟨(p:OA),w3⟩:=p;exact aC ⟨rfl,u.trans (o.trans q),(p,()),rfl,_,f,ry (by omega) (by omega)⟩
theorem UM(O:I.Ok P){pl:OA}{l r:Bt I.It}(nl:Nd I h pl l)(nr:Nd I h pr r)(hw:I.wf (Bt.node l x r).list)(b:I.W (Bt.node l x r).list<=4398046511104)(c:oJ I h:=by repeat (first|assumption|refine oJ.ext ?_ (by assumption))) :
  aS P (JX I pl x pr) [tP] h λ(y:OA×Unit) h'=>∃t,Nd I h' y.1 t/\Ur l x r t:=
 ⟨l.list.length+r.list.length+1,gn O _ (KI _) nl nr hw b⟩
theorem pk(O:I.Ok P):∀(fuel:Nat) {h:aG} {p:OA} {t:Bt I.It} {i:Int},t.list.length<fuel->Nd I h p t->I.wf t.list->I.W t.list<=4398046511104 -> -4398046511104<=i->i<=9223372036854775807->(G:oJ I h:=by repeat (first|assumption|refine oJ.ext ?_ (by assumption))) ->
  aS P (JY fuel I p i) [tP, tP] h λ(y:OA×OA×Unit) h'=>∃a b,Nd I h' y.1 a/\Nd I h' y.2.1 b/\a.list=t.list.take i.toNat/\b.list=t.list.drop i.toNat/\(t.JV->a.JV/\b.JV):=by
 intro fuel
 induction fuel with
 |zero=>intro h p t i V;omega
 |succ fuel K=>
  intro h p t i V M hw n H J G;unfold JY aS;cases t with
  |nil=>
   obtain rfl:=M;exact mV (aC ⟨rfl,Ext.refl _,(none,none,()),rfl, .nil, .nil,rfl,rfl,by simp[Bt.list],by simp[Bt.list],λ_=>⟨trivial,trivial⟩⟩)
  |node l x r=>
   have hl:=kO l r x;have al:=lR (I:=I) l r x;have ab:=qO O (Bt.node l x r).list;obtain⟨a,X,qr,rfl,c,B,L⟩:=M;have c:GG I h a X qr l x r:=c;refine lW (nO c (aM (AO B) λy h1 k f=>?_));obtain⟨(y:Int),w1⟩:=y;dsimp only at f⊢;subst f;have c1:=c.ext k;refine aE (λA=>?_) λA=>?_
   .rw[gE]at A
    refine nO c1 (aM (K (by omega) (B.ext k) (Cl hw) (by omega) H J) λy T g f=>?_);obtain⟨(N:OA),(R:OA),Y⟩:=y;obtain⟨D,E,u,v,la,lb,j⟩:=f;dsimp only at u v⊢;have e:(Bt.node E x r).list=(Bt.node l x r).list.drop i.toNat:=by
     simp only[Bt.list];rw[lb,R4 (by omega)]
    refine uJ (c1.ext g) (mO (c1.ext g) (aM (UM O (x:=x) v (L.ext (k.trans g)) (by rw[e];exact Rz hw _) (by rw[e];exact dI (Ut _ _) n)) λy U o f=>?_));obtain⟨(C:OA),w3⟩:=y;obtain⟨t2,nc,q⟩:=f;refine aC ⟨rfl,(k.trans g).trans o,(N,C,()),rfl,D,t2,u.ext o,nc,?_,?_,λm=>⟨(j m.1).1,(q.2 (j m.1).2 m.2.1).1⟩⟩
    .rw[la];simp only[Bt.list];rw[Ap (by omega)]
    .rw[q.1,<-e];rfl
   .rw[mN]at A
    rw[bY (a:=i) (by omega) (by omega),bY (by omega) (by omega)];refine mO c1 (aM (K (i:=i-l.list.length-1) (by omega) (L.ext k) (Ov hw) (by omega) (by omega) (by omega)) λy T g f=>?_);obtain⟨(N:OA),(R:OA),Y⟩:=y;obtain⟨D,E,u,v,la,lb,j⟩:=f;dsimp only at u v⊢;obtain⟨d,hd⟩:∃d:Nat,i=l.list.length+1+d:=⟨(i-l.list.length-1).toNat,by omega⟩;have w:i.toNat=(l.list++[x]).length+d:=by simp;omega
    have F:(i-l.list.length-1).toNat=d:=by omega
    rw[F]at la lb;have z:(Bt.node l x r).list=(l.list++[x])++r.list:=by simp[Bt.list]
    have e:(Bt.node l x D).list=(Bt.node l x r).list.take i.toNat:=by
     rw[z,w,JP,iW (by omega),BE,<-la];simp[Bt.list]
    refine nO (c1.ext g) (uJ (c1.ext g) (aM (UM O (x:=x) (B.ext (k.trans g)) u (by rw[e];exact L9 hw _) (by rw[e];exact dI (Uu _ _) n)) λy U o f=>?_));obtain⟨(C:OA),w3⟩:=y;obtain⟨t2,nc,q⟩:=f;refine aC ⟨rfl,(k.trans g).trans o,(C,R,()),rfl,t2,E,nc,v.ext o,?_,?_,λm=>⟨(q.2 m.1 (j m.2.1).1).1,(j m.2.1).2⟩⟩
    .rw[q.1,<-e];rfl
    .rw[lb,z,w,R3,uL (show(l.list++[x]).length<=(l.list++[x]).length+d from Ek ..),BE,GA]
theorem VX(O:I.Ok P){p:OA}{t:Bt I.It}{i:Int}(e:Nd I h p t)(hw:I.wf t.list)(c:I.W t.list<=4398046511104)(hi:0<=i)(g:i<=t.list.length)(f:oJ I h:=by repeat (first|assumption|refine oJ.ext ?_ (by assumption))) :
  aS P (VG I p i) [tP, tP] h λ(y:OA×OA×Unit) h'=>∃a b,Nd I h' y.1 a/\Nd I h' y.2.1 b/\a.list=t.list.take i.toNat/\b.list=t.list.drop i.toNat/\(t.JV->a.JV/\b.JV):=
 ⟨t.list.length+1,pk O _ (KI _) e hw c (by omega) (by have:=qO O t.list;omega)⟩
def j6(t:Bt I.It)(x:I.It)(t':Bt I.It):Prop:=t.list=x::t'.list/\(t.JV->t'.JV/\t'.ht<=t.ht/\t.ht<=t'.ht+1)
theorem YT(O:I.Ok P):∀(fuel:Nat) {h:aG} {p:OA} {t:Bt I.It},t.list.length<fuel->Nd I h p t->t ≠ .nil->I.wf t.list->I.W t.list<=4398046511104->(D:oJ I h:=by repeat (first|assumption|refine oJ.ext ?_ (by assumption))) ->
  aS P (EU fuel I p) [(.agg I.iB), tP] h λ(y:I.It×OA×Unit) h'=>∃K,Nd I h' y.2.1 K/\j6 t y.1 K:=by
 intro fuel
 induction fuel with
 |zero=>intro h p t T;omega
 |succ fuel ih=>
  intro h p t T nt E hw N D;cases t with
  |nil=>exact absurd rfl E
  |node l x r=>
   have hl:=kO l r x;have al:=lR (I:=I) l r x;have ab:=qO O (Bt.node l x r).list;have U:=HU hw;obtain⟨a,J,qr,rfl,c,w,F⟩:=nt;have c:GG I h a J qr l x r:=c;unfold EU aS;refine gN I.zi O.i1.2 λC g o1=>?_;have i1:=O.i1;have ao:I.iB.length=I.ni:=rfl;have c1:=c.ext g;refine nO c1 ?_;cases l with
   |nil=>
    obtain rfl:=w;refine mV (uJ c1 (mO c1 (mX x o1 (O.fi _) λv o2 L=>?_)));have c2:GG I v a none qr .nil x r:=⟨xO L c1.1 (Bz o1 c1.1 (by rw[bP,Gj,lA];omega)),c1.2⟩;have q:Ext h v:=jU.jQ g L (by intro a ha;cases ha;exact bM _);exact N6 c2 (hS o2 (aC ⟨rfl,q,(x,qr,()),rfl,r,F.ext q,by simp[Bt.list],λ⟨_,b,c,d⟩=>by simp only[Bt.ht]at *;exact⟨b,by omega,by omega⟩⟩))
   |node ll lx o=>
    have V:∃a,J=some a:=by obtain⟨a,_,_,C,_⟩:=w;exact⟨a,C⟩
    obtain⟨la,rfl⟩:=V;refine lW (nO c1 (aM (ih (by omega) (w.ext g) (by simp) (Cl hw) (by omega)) λy v q n=>?_));obtain⟨u,(pq:OA),w2⟩:=y;obtain⟨t1,G,f⟩:=n;dsimp only at G f⊢;refine HQ u O.i1.2 (O.fi _) λh3 A H=>hS H ?_;have j:=q.trans A;have c3:=c1.ext j;have e:(Bt.node (.node ll lx o) x r).list=u::(Bt.node t1 x r).list:=by
     rw[show(Bt.node (.node ll lx o) x r).list=(Bt.node ll lx o).list++x::r.list from rfl,f.1];simp[Bt.list]
    have hlen:=congrArg I.W e;rw[P9]at hlen;refine uJ c3 (mO c3 (aM (UJ O (x:=x) (G.ext A) (F.ext (g.trans j)) (λz Y=>hw z (by rw[e];exact eK _ Y)) (by omega)) λy h4 B n=>?_));obtain⟨(pe:OA),w3⟩:=y;obtain⟨t2,ne,m⟩:=n;dsimp only at ne m⊢;have k:=j.trans B;refine PV (H.ext B) (mX u (o1.ext k) (O.fi _) λh5 o5 M=>hS o5 (aC ⟨rfl,jU.jQ (g.trans k) M (by intro a ha;cases ha;exact bM _),(u,pe,()),rfl,t2,ne.Hg M (o1.ext k) (by omega),?_,?_⟩))
    .rw[e,m.1];rfl
    .intro⟨a1,a2,a3,a4⟩
     obtain⟨R,g2,g3⟩:=f.2 a1;obtain⟨k1,k2,k3,k4⟩:=m.2 R a2 (by omega) (by omega);rw[show(Bt.node (.node ll lx o) x r).ht=max (Bt.node ll lx o).ht r.ht+1 from rfl];refine⟨k1,?_,?_⟩<;>(by_cases X:t1.ht<=r.ht+1<;>by_cases n:r.ht<=t1.ht+1<;>first|(have:=k4 X n;omega)|omega)
theorem YQ(O:I.Ok P){pl:OA}{l r:Bt I.It}(nl:Nd I h pl l)(nr:Nd I h pr r)(hw:I.wf (l.list++r.list))(f:I.W (l.list++r.list)<=4398046511104)(C:oJ I h:=by repeat (first|assumption|refine oJ.ext ?_ (by assumption))) :
  aS P (JW I pl pr) [tP] h λ(y:OA×Unit) h'=>∃t,Nd I h' y.1 t/\t.list=l.list++r.list/\(l.JV->r.JV->t.JV):=by
 have hlen:=pW (I:=I) l.list r.list;unfold JW aS;cases r with
 |nil=>
  obtain rfl:=nr;exact mV (aC ⟨rfl,Ext.refl _,(pl,()),rfl,l,nl,by simp[Bt.list],λa _=>a⟩)
 |node k rx rr=>
  have w:∃a,pr=some a:=by obtain⟨a,_,_,o,_⟩:=nr;exact⟨a,o⟩
  obtain⟨la,rfl⟩:=w;refine lW (aM (R:=λ(y:I.It×OA×Unit) h'=>∃u,Nd I h' y.2.1 u/\j6 (.node k rx rr) y.1 u) ⟨(Bt.node k rx rr).list.length+1,YT O _ (KI _) nr (by simp) (λz A=>hw z (qI _ A)) (by omega)⟩ λy o n j=>?_);obtain⟨m,(F:OA),G⟩:=y;obtain⟨t1,q,e⟩:=j;dsimp only at q e⊢;have c:(Bt.node l m t1).list=l.list++(Bt.node k rx rr).list:=by rw[e.1];rfl
  refine HQ m O.i1.2 (O.fi _) λD g o2=>hS o2 (aM (UM O (x:=m) (nl.ext (n.trans g)) (q.ext g) (by rw[c];exact hw) (by rw[c];exact f)) λy E v j=>?_);obtain⟨(B:OA),H⟩:=y;obtain⟨t2,ne,p⟩:=j;exact aC ⟨rfl,(n.trans g).trans v,(B,()),rfl,t2,ne,by rw[p.1,<-c];rfl,λa b=>(p.2 a (e.2 b).1).1⟩
end
section
open Go.Sw.Tree (iv fP jR jX mW oR Bz xO dQ least TR lB kM rL)
variable{P:Program}{I:iJ}{h:aG}{Q:Nat->bG->aG->Prop}
variable{items:Sl}{i:Int}
theorem SH(O:I.Ok P):∀(fuel:Nat) {h:aG} {items:Sl} {l:List I.It},l.length<fuel->Pm I h items l->I.W l<=4398046511104->(r:oJ I h:=by repeat (first|assumption|refine oJ.ext ?_ (by assumption))) ->
  aS P (CM fuel I items) [tP] h λ(y:OA×Unit) h'=>∃t:Bt I.It,Nd I h' y.1 t/\t.list=l/\t.Full:=by
 intro fuel
 induction fuel with
 |zero=>intro h items l E;omega
 |succ fuel w=>
  intro h items l E c e r;have hlen:=c.len O;have J:=qO O l;have D:=c.cap;have n:=c.max;unfold CM aS;refine aE (λj=>?_) λj=>?_
  .rw[cK,aN,hlen]at j
   exact aC ⟨rfl,Ext.refl _,(none,()),rfl, .nil,rfl,by cases l;rfl;simp at j;omega,Zv⟩
  .rw[dS,aN,hlen]at j
   have F:kP .i64 (aQ items.len) 2=((l.length / 2:Nat):Int):=by
    rw[aN,hlen,Rl (by omega) (by omega) (by omega)];omega
   have u:l.length / 2<l.length:=by omega
   have N:l[l.length / 2]?=some l[l.length / 2]:=cL u;rw[F,aX (by omega) (by omega)];have ht:bQ ((l.length / 2:Nat):Int)=l.length / 2:=by rw[eX];omega
   have v:bQ (((l.length / 2:Nat):Int)+1)=l.length / 2+1:=by rw[eX];omega
   rw[v,show cY items.cap 0=items.cap from rfl,eW,show cY (bQ ((l.length / 2:Nat):Int)) 0=l.length / 2 by rw[ht];rfl];refine pE (sS (jF (by omega) (by omega)) (xr O c (by omega) (by omega) λx k=>sS (jF (by omega) (by omega)) ?_));rw[show((l.length / 2:Nat):Int).toNat=l.length / 2 by omega]at k;refine aM (w (l:=l.take (l.length / 2)) (by rw[dJ];omega) (c.take O (by omega) (by omega) n) (dI (Uu _ _) e)) λy K g f=>?_;obtain⟨(pl:OA),R⟩:=y;obtain⟨G,z,o,C⟩:=f;dsimp only at z⊢;rw[ht];refine WB O (c.ext g) k ?_;refine aM (w (l:=l.drop (l.length / 2+1)) (by rw[cV];omega) ((c.ext g).drop O (by omega) (by unfold cY;omega) (by unfold cY;omega)) (dI (Ut _ _) e)) λy L m f=>?_;obtain⟨(pr:OA),T⟩:=y;obtain⟨H,A,q,fr⟩:=f;dsimp only at A⊢;refine WB O (c.ext (g.trans m)) k ?_;have b:(Bt.node G x H).list=l:=by
    simp only[Bt.list];rw[o,q];have:=cR.1 k;obtain⟨_,rfl⟩:=this;rw[<-gY u,eY]
   refine aM (E1 O (x:=x) (z.ext m) A (by rw[b];exact c.wf) (by rw[b];exact e)) λy M B f=>?_;obtain⟨(p:OA),U⟩:=y;exact aC ⟨rfl,(g.trans m).trans B,(p,()),rfl,_,f,b,XC C fr (by rw[o,q,dJ,cV];omega) (by rw[o,q,dJ,cV];omega)⟩
theorem yt(O:I.Ok P){l:List I.It}(m:Pm I h items l)(c:I.W l<=4398046511104)(r:oJ I h:=by repeat (first|assumption|refine oJ.ext ?_ (by assumption))):aS P (fa I items) [.agg [.ptr]] h λ(y:TR×Unit) h'=>∃t:Bt I.It,Nd I h' y.1.1 t/\t.list=l/\t.Full:=by
 unfold fa aS;refine jR none λv g o1=>?_;refine aM (R:=λ(y:OA×Unit) h'=>∃t:Bt I.It,Nd I h' y.1 t/\t.list=l/\t.Full) ⟨l.length+1,SH O _ (KI _) (m.ext g) c⟩ λy w f o=>?_;obtain⟨(p:OA),u⟩:=y;obtain⟨t,n,k,b⟩:=o;dsimp only at n⊢;refine oR p (o1.ext f) λz q j=>mW q (aC ?_);have e:=jU.jQ (g.trans f) j (by intro a ha;cases ha;exact bM _);exact⟨rfl,e,((p,()),()),rfl,t,n.Hg j (o1.ext f) (by omega),k,b⟩
theorem Hj{p:OA}{t:Bt I.It}(ht:Nd I h p t):aS P (P7 I (p,())) [tI] h λ(x:Int×Unit) _=>x.1=t.list.length:=by
 unfold P7 aS;refine jR p λf b o1=>jX o1 (aM (AO (ht.ext b)) λx g c e=>?_);exact aC ⟨rfl,b.trans c,(x.1,()),rfl,e⟩
theorem vt(O:I.Ok P){p:OA}{t:Bt I.It}(ht:Nd I h p t)(hw:I.wf t.list)(j:I.W t.list<=4398046511104):aS P (j8 I (p,())) [(.agg I.sB)] h λ(x:I.Su×Unit) _=>x.1=I.sum t.list:=by
 unfold j8 aS;refine jR p λm b o1=>gN I.zs O.s1.2 λn f o2=>jX (o1.ext f) ?_;cases t with
 |nil=>
  obtain rfl:=ht;exact mV (gN I.zs O.s1.2 λo g k=>hS k (zA I.zs (o2.ext g) b.size ((b.trans f).trans g) (O.fs _) λh' e=>⟨rfl,e,(I.zs,()),rfl,rfl⟩))
 |node l x r=>
  obtain⟨a,q,qr,rfl,c,_,_⟩:=ht;exact lW (jX (o1.ext f) (Wt (c.ext (b.trans f)) (zA (I.sum (Bt.node l x r).list) o2 b.size (b.trans f) (O.fs _) λh' e=>⟨rfl,e,(_,()),rfl,rfl⟩)))
theorem vg(l:List I.It){i j:Nat}(h:i<=j):I.W (l.take i)+I.W (l.drop j)<=I.W l:=by
 have b:=pW (l.take i) (l.drop i);rw[eY]at b;have c:=Ut (l.drop i) (j-i);rw[Eh,show i+(j-i)=j by omega]at c;omega
theorem W4(O:I.Ok P){p:OA}{t:Bt I.It}{e:List I.It}{j:Int}(H:Nd I h p t)(F:Pm I h items e)(hw:I.wf t.list)(h0:0<=i)(h1:i<=j)(h2:j<=t.list.length)(ab:I.W t.list+I.W e<=4398046511104)(al:oJ I h:=by repeat (first|assumption|refine oJ.ext ?_ (by assumption))) :
  aS P (F8 I (p,()) i j items) [.agg [.ptr], tI] h λ(y:TR×Int×Unit) h'=>y.2.1=0/\∃J,Nd I h' y.1.1 J/\J.list=t.list.take i.toNat++e++t.list.drop j.toNat/\(t.JV->J.JV):=by
 unfold F8 aS;refine jR p λk1 L o1=>jR none λk2 M o2=>?_;have f:=L.trans M;have r:=o1.ext M;refine bZ False ?_ λb k3 k hb=>?_
 .refine aE (λn=>?_) λn=>aE (λc=>?_) λc=>mW r (aM (Hj (H.ext f)) λy k3 k c=>?_)
  .rw[aU]at n;omega
  .rw[dL]at c;omega
  .obtain⟨(y:Int),w⟩:=y
   dsimp only at c⊢;refine aC ⟨rfl,k,sP j y,rfl,Iff.intro (λhx=>?_) False.elim⟩;rw[dL]at hx;omega
 have U:b=false:=by cases b;rfl;exact(hb.1 rfl).elim
 subst U;dsimp only;have u:=r.ext k;have g:=f.trans k;have l1:=Uu t.list i.toNat;have l3:=vg t.list (i:=i.toNat) (j:=j.toNat) (by omega);refine lW (jX u (aM (VX O (H.ext g) hw (by omega) h0 (by omega)) λy k4 m c=>jX (u.ext m) (aM (VX O (H.ext (g.trans m)) hw (by omega) (by omega) h2) λz k5 A n=>?_)));obtain⟨(pa:OA),(pb:OA),w1⟩:=y;obtain⟨ta,tb,X,nb,la,lb,T⟩:=c;obtain⟨(pc:OA),(pd:OA),w2⟩:=z;obtain⟨tc,td,nc,nd,lc,G,C⟩:=n;dsimp only at X nb nc nd⊢;have K:=(g.trans m).trans A;refine aM (R:=λ(y:OA×Unit) h'=>∃t:Bt I.It,Nd I h' y.1 t/\t.list=e/\t.Full) ⟨e.length+1,SH O _ (KI _) (F.ext K) (by omega)⟩ λy k6 B c=>?_;obtain⟨(pm:OA),w3⟩:=y;obtain⟨tm,nm,lm,fm⟩:=c;dsimp only at nm⊢;refine aM (YQ O ((X.ext A).ext B) nm (by rw[la,lm];exact Gx (L9 hw _) F.wf) (by rw[la,lm,pW];omega)) λy k7 N c=>?_;obtain⟨(pn:OA),w4⟩:=y;obtain⟨tn,Y,o,D⟩:=c;dsimp only at Y⊢;rw[la,lm]at o;refine aM (YQ O Y ((nd.ext B).ext N) (by rw[o,G];exact Gx (Gx (L9 hw _) F.wf) (Rz hw _)) (by rw[o,G,pW,pW];omega)) λy k8 e8 c=>?_;obtain⟨(pz:OA),w5⟩:=y;obtain⟨tz,nz,lz,E⟩:=c;dsimp only at nz⊢;have q:=(((((k.trans m).trans A).trans B).trans N).trans e8);have v:=o2.ext q;refine oR pz v λk9 o9 u9=>mW o9 (aC ⟨rfl,jU.jQ (f.trans q) u9 (by intro a ha;cases ha;exact L.size),((pz,()),0,()),rfl,rfl,tz,nz.Hg u9 v (by omega),by rw[lz,o,G],λV=>E (D (T V).1 fm.2.2) (C V).2⟩)
theorem oi(O:I.Ok P){p:OA}{t:Bt I.It}{x:I.It}(nt:Nd I h p t)(hw:I.wf t.list)(C:I.W t.list<=4398046511104)(h0:0<=i)(V:t.list[i.toNat]?=some x) :
  aS P (f_ I (p,()) i) [(.agg I.iB), tB] h λ(y:I.It×Bool×Unit) h'=>y.1=x/\y.2.1=true:=by
 have hi:=(cR.1 V).1;unfold f_ aS;refine jR p λm F o1=>gN I.zi O.i1.2 λh2 H o2=>jX (o1.ext H) ?_;refine dQ (G:=Bt I.It) (λg (s:Int×OA×Unit) h'=>Ext h h'/\Nd I h' s.2.1 g/\0<=s.1/\s.1<g.list.length/\I.W g.list<=4398046511104/\g.list[s.1.toNat]?=some x/\cA m.size 1 h' ⟨some ⟨m.size,0,none⟩,I.iB.length,I.iB.length⟩ (Bs.inj I.iB I.zi)) (λg=>g.list.length)
  (λt' vs h'=>t'=1/\vs=[.pointer (some ⟨m.size,0,none⟩), .bool true]/\Ext h h'/\cA m.size 1 h' ⟨some ⟨m.size,0,none⟩,I.iB.length,I.iB.length⟩ (Bs.inj I.iB x))
  t ⟨F.trans H,nt.ext (F.trans H),h0,by first|omega|(dsimp only;omega),C,V,o2⟩ ?_ ?_
 .rintro g ⟨(j:Int),(q:OA),u⟩ T ⟨J,nq,z,D,hg,e,L⟩
  dsimp only at nq z D e⊢;cases g with
  |nil=>simp[Bt.list]at D;omega
  |node l y r=>
   have hl:=kO l r y;have ao:=lR (I:=I) l r y;have al:=qO O (Bt.node l y r).list;obtain⟨a,ql,qr,rfl,c,Y,n2⟩:=nq;have c:GG I T a ql qr l y r:=c;refine bZ True (mV (aC ⟨rfl,Ext.refl _,qG j 0,rfl,by rw[dD];exact Iff.intro (λ_=>trivial) (λ_=>z)⟩)) λb h4 f hb=>?_;have v:b=true:=hb.2 trivial;subst v;dsimp only;have M:=c.ext f;have N:=J.trans f;refine mV (nO M (aM (AO (Y.ext f)) λk h5 o U=>?_));obtain⟨(k:Int),w⟩:=k;dsimp only at U⊢;subst U;have E:=M.ext o;have A:=(L.ext f).ext o;have n:=N.trans o;have v:(Bt.node l y r).list=l.list++y::r.list:=rfl;rw[v]at e;refine aE (λK=>?_) λK=>aE (λB=>?_) λB=>?_
   .rw[cK]at K
    have X:y=x:=by
     rw[jZ (by omega),show j.toNat-l.list.length=0 by omega]at e;simpa using e
    subst X;exact uJ E (mX y A (O.fi _) λh6 o6 u6=>aC ⟨λh=>absurd h (by decide),λ_=>⟨rfl,rfl,jU.jQ n u6 (by intro a ha;cases ha;exact F.size),o6⟩⟩)
   .rw[aU]at B
    rw[mL (by omega)]at e;exact nO E (aC ⟨λ_=>⟨l,(j,ql,()),rfl,⟨n,(Y.ext f).ext o,z,B,by omega,e,A⟩,by first|omega|(dsimp only;omega)⟩,λh=>absurd rfl h⟩)
   .rw[dS]at K
    rw[aY]at B;rw[bY (a:=j) (by omega) (by omega),bY (by omega) (by omega)];obtain⟨d,ab⟩:∃d:Nat,j=l.list.length+1+d:=⟨(j-l.list.length-1).toNat,by omega⟩;have R:(j-l.list.length-1).toNat=d:=by omega
    rw[jZ (by omega),show j.toNat-l.list.length=d+1 by omega,R5]at e;exact mO E (aC ⟨λ_=>⟨r,(j-l.list.length-1,qr,()),rfl,⟨n,(n2.ext f).ext o,by first|omega|(dsimp only;omega),by first|omega|(dsimp only;omega),by omega,by rw[R];exact e,A⟩,by first|omega|(dsimp only;omega)⟩,λh=>absurd rfl h⟩)
 .rintro tg vs T ⟨rfl,rfl,J,L⟩
  exact nP (by decide) (bE ⟨(some ⟨m.size,0,none⟩,true,()),rfl,hS L (aC ⟨rfl,J,(x,true,()),rfl,rfl,rfl⟩)⟩)
theorem Uz(O:I.Ok P){p:OA}{t:Bt I.It}(nt:Nd I h p t)(v:I.W t.list<=4398046511104)(Y:i<=9223372036854775807)(R:i<0\/(t.list.length:Int)<=i) :
  aS P (f_ I (p,()) i) [(.agg I.iB), tB] h λ(y:I.It×Bool×Unit) h'=>y.1=I.zi/\y.2.1=false:=by
 unfold f_ aS;refine jR p λo A o1=>gN I.zi O.i1.2 λh2 B o2=>jX (o1.ext B) ?_;refine dQ (G:=Bt I.It) (λg (s:Int×OA×Unit) h'=>Ext h h'/\Nd I h' s.2.1 g/\(s.1<0\/(g.list.length:Int)<=s.1)/\s.1<=9223372036854775807/\I.W g.list<=4398046511104/\cA o.size 1 h' ⟨some ⟨o.size,0,none⟩,I.iB.length,I.iB.length⟩ (Bs.inj I.iB I.zi)) (λg=>g.list.length)
  (λt' U h'=>t'=2/\U=[]/\Ext h h'/\cA o.size 1 h' ⟨some ⟨o.size,0,none⟩,I.iB.length,I.iB.length⟩ (Bs.inj I.iB I.zi))
  t ⟨A.trans B,nt.ext (A.trans B),R,Y,v,o2⟩ ?_ ?_
 .rintro g ⟨(j:Int),(q:OA),u⟩ F ⟨m,C,L,M,hg,f⟩
  dsimp only at C L M⊢;cases g with
  |nil=>
   obtain rfl:=C;refine bZ False (lW (aC ⟨rfl,Ext.refl _,false,rfl,Iff.intro (λx=>by cases x) False.elim⟩)) λb H e hb=>?_;have J:b=false:=by cases b;rfl;exact(hb.1 rfl).elim
   subst J;exact lW (aC ⟨λh=>absurd h (by decide),λ_=>⟨rfl,rfl,m.trans e,f.ext e⟩⟩)
  |node l y r=>
   have hl:=kO l r y;have al:=lR (I:=I) l r y;have ab:=qO O (Bt.node l y r).list;obtain⟨a,ql,qr,rfl,c,n1,n2⟩:=C;have c:GG I F a ql qr l y r:=c;refine bZ (0<=j) (mV (aC ⟨rfl,Ext.refl _,qG j 0,rfl,dD⟩)) λb H e hb=>?_;have D:=c.ext e;have z:=m.trans e;dsimp only;refine aE (λK=>?_) λK=>aC ⟨λh=>absurd h (by decide),λ_=>⟨rfl,rfl,z,f.ext e⟩⟩;have h0:=hb.1 K;refine nO D (aM (AO (n1.ext e)) λk X n N=>?_);obtain⟨(k:Int),w⟩:=k;dsimp only at N⊢;subst N;have V:=D.ext n;have T:=(f.ext e).ext n;have E:=z.trans n;rw[show gM j (l.list.length:Int)=false from dS.2 (by omega),show fH j (l.list.length:Int)=false from aY.2 (by omega)];rw[bY (a:=j) (by omega) (by omega),bY (by omega) (by omega)];exact lW (lW (mO V (aC ⟨λ_=>⟨r,(j-l.list.length-1,qr,()),rfl,⟨E,(n2.ext e).ext n,by dsimp only;omega,by dsimp only;omega,by omega,T⟩,by omega⟩,λh=>absurd rfl h⟩)))
 .rintro tg U F ⟨rfl,rfl,m,f⟩
  refine bE (bO (gN I.zi O.i1.2 λH e oz=>hS oz (mX I.zi (f.ext e) (O.fi _) λX o5 u5=>hS o5 (aC ⟨rfl,jU.jQ (m.trans e) u5 (by intro a ha;cases ha;exact A.size),(I.zi,false,()),rfl,rfl,rfl⟩))))
end
section
open Go.Sw.Tree (iv fP jR jX mW oR Bz xO dQ least TR lB kM rL)
variable{P:Program}{I:iJ}{h:aG}{Q:Nat->bG->aG->Prop}
variable{l:Bt I.It}{x:I.It}
theorem FN{p:OA}{r:Bt I.It}{K:OA->aK}(ht:Nd I h p (.node l x r))(b:∀q,Nd I h q l->wp P (K q) h Q):wp P (bF (aJ p)<|bF (aJ p)<|.load (tP) (aB p 0) K) h Q:=by
 obtain⟨a,pl,pr,rfl,c,e,f⟩:=ht;exact nO c (b pl e)
theorem WA{p:OA}{r:Bt I.It}{K:OA->aK}(ht:Nd I h p (.node l x r))(b:∀q,Nd I h q r->wp P (K q) h Q):wp P (bF (aJ p)<|bF (aJ p)<|.load (tP) (aB p 1) K) h Q:=by
 obtain⟨a,pl,pr,rfl,c,f,e⟩:=ht;exact mO c (b pr e)
theorem ay{p:OA}{r:Bt I.It}{K:I.It->aK}(ht:Nd I h p (.node l x r))(b:wp P (K x) h Q):wp P (bF (aJ p)<|bF (aJ p)<|.load (.agg I.iB) (aB p 2) K) h Q:=by
 obtain⟨a,pl,pr,rfl,c,e,f⟩:=ht;exact uJ c b
theorem me{p:OA}{r:Bt I.It}{K:I.Su->aK}(ht:Nd I h p (.node l x r))(b:wp P (K (I.sum (Bt.node l x r).list)) h Q):wp P (bF (aJ p)<|bF (aJ p)<|.load (.agg I.sB) (aB p (I.ni+4)) K) h Q:=by
 obtain⟨a,pl,pr,rfl,c,e,f⟩:=ht;exact Wt c b
def Found(I:iJ)(l:List I.It)(k n i:Int):Prop:=
 (i=0/\n<=0)\/(1<=i/\i<=l.length/\n<=I.key (I.sum (l.take i.toNat)) k/\I.key (I.sum (l.take (i.toNat-1))) k<n)\/(i=l.length+1/\I.key (I.sum l) k<n)
theorem ov(O:I.Ok P){p:OA}{t:Bt I.It}{k n:Int}(ht:Nd I h p t)(hw:I.wf t.list)(b3:I.W t.list<4398046511104) :
  aS P (Yt I (p,()) k n) [tI] h λ(x:Int×Unit) _=>Found I t.list k n x.1:=by
 have cd:=qO O t.list;have cr:I.sB.length=I.ns:=rfl;unfold Yt aS;refine jR p λf e1 o1=>aE (λT=>?_) λT=>?_
 .rw[gE]at T
  exact aC ⟨rfl,e1,(0,()),rfl, .inl ⟨rfl,T⟩⟩
 rw[mN]at T;refine gN I.zs O.s1.2 λh2 e2 o2=>jX (o1.ext e2) ?_;refine dQ (G:=Bt I.It×List I.It×List I.It) (λg (s:Int×OA×Unit) h'=>Ext f h'/\Nd I h' s.2.1 g.1/\t.list=g.2.1++g.1.list++g.2.2/\s.1=g.2.1.length/\cA f.size 1 h' ⟨some ⟨f.size,0,none⟩,I.sB.length,I.sB.length⟩ (Bs.inj I.sB (I.sum g.2.1))/\I.key (I.sum g.2.1) k<n /\
   (g.2.2=[]\/n<=I.key (I.sum (g.2.1++g.1.list)) k)) (λg=>g.1.list.length)
  (λA L h'=>Ext f h'/\((A=2/\∃x:Int×Unit,L=Ts.inj [tI] x/\x.1=t.list.length/\I.key (I.sum t.list) k<n)\/(A=1/\∃x:Int×Unit,L=Ts.inj [tI] x/\Found I t.list k n x.1)))
  (t,[],[]) ⟨e2,ht.ext (e1.trans e2),by simp,rfl,o2,by rw[show I.sum []=I.zs from rfl,O.wy];exact T, .inl rfl⟩ ?_ ?_
 .rintro⟨A,pre,post⟩ ⟨(at_:Int),(q:OA),u⟩ K ⟨F,v,j,R,e,B,b⟩
  dsimp only at v j R e B b⊢;have a9:I.wf (pre++A.list++post):=j ▸ hw;have ba:I.wf pre:=λy o=>a9 y (by simp[o]);have Y:I.wf A.list:=λy o=>a9 y (by simp[o]);have ao:t.list.length=pre.length+A.list.length+post.length:=by rw[j];simp[BC]
  have cc:I.W t.list=I.W pre+I.W A.list+I.W post:=by rw[j,pW,pW]
  have b2:=qO O t.list;cases A with
  |nil=>
   obtain rfl:=v;refine lW (aC ⟨λh=>absurd h (by decide),λ_=>⟨F, .inl ⟨rfl,(at_,()),rfl,?_,?_⟩⟩⟩)
   .rcases b with rfl|b
    .rw[ao,R];simp[Bt.list]
    .simp only[Bt.list,kQ]at b;omega
   .rcases b with rfl|b
    .rw[j];simpa[Bt.list] using B
    .simp only[Bt.list,kQ]at b;omega
  |node l x r=>
   have hq:∃a,q=some a:=by obtain⟨a,_,_,f,_⟩:=v;exact⟨a,f⟩
   obtain⟨qa,rfl⟩:=hq;have cg:=kO l r x;have b6:=lR (I:=I) l r x;have b4:=qO O (Bt.node l x r).list;have C:=HU Y;have vp:=V.sum O ba;have vl:=V.sum O (Cl Y);have vm:=O.vm x C;have E:I.sum (pre++l.list)=I.add (I.sum pre) (I.sum l.list):=sum_append O ba (Cl Y);have al:=O.va _ _ _ _ vp vl;refine mV (hS e (HQ (I.sum pre) O.s1.2 (O.fs _) λh4 M ob=>?_));have e:=e.ext M;have v:=v.ext M;have b8:=F.trans M;have cf:=(e.lt rfl).2;refine dB (λt L h'=>t=0/\L=[]/\Ext K h'/\cA K.size 1 h' ⟨some ⟨K.size,0,none⟩,I.sB.length,I.sB.length⟩ (Bs.inj I.sB (I.sum (pre++l.list)))) ?_ ?_
   .refine FN v λpl nl=>?_
    cases l with
    |nil=>
     obtain rfl:=nl;exact lW (aC ⟨rfl,rfl,M,by simpa[Bt.list] using ob⟩)
    |node ll lx lr=>
     have X:∃a,pl=some a:=by obtain⟨a,_,_,f,_⟩:=nl;exact⟨a,f⟩
     obtain⟨la,rfl⟩:=X;refine mV (hS e (FN v λpl nl=>me nl (aM (O.ca _ _ _ _ _ vp vl (by omega)) λm h5 H hm=>?_)));obtain⟨m,w5⟩:=m;dsimp only at hm;rw[<-E]at hm;subst hm;refine mX (I.sum (pre++(Bt.node ll lx lr).list)) (ob.ext H) (O.fs _) λh6 o6 u6=>aC ⟨rfl,rfl,jU.jQ (M.trans H) u6 (by intro a ha;cases ha;exact bM _),o6⟩
   .rintro tg L h5 ⟨rfl,rfl,H,ob⟩
    have e:=(‹cA f.size 1 K ⟨some ⟨f.size,0,none⟩,I.sB.length,I.sB.length⟩ (Bs.inj I.sB (I.sum pre))›).ext H;have v:=(‹Nd I K (some qa) (.node l x r)›).ext H;have a4:=F.trans H;refine bE (bO (hS ob (aM (O.ck _ _ _ _ (E ▸ al) (by omega)) λy h6 J o=>?_)));obtain⟨(y:Int),w6⟩:=y;dsimp only at o⊢;subst o;have ab:=v.ext J;refine aE (λU=>?_) λU=>?_
    .rw[dD]at U
     refine FN ab λpl nl=>aC ⟨λ_=>⟨(l,pre,x::r.list++post),(at_,pl,()),rfl,⟨a4.trans J,nl,by rw[j];simp[Bt.list],R,e.ext J,B, .inr U⟩,by dsimp only;omega⟩,λh=>absurd rfl h⟩
    .rw[eR]at U
     refine FN ab λpl nl=>aM (AO nl) λc h7 e7 a8=>?_;obtain⟨(c:Int),w7⟩:=c;dsimp only at a8⊢;subst a8;have bb:=ab.ext e7;have bo:=ob.ext (J.trans e7);have bd:=e.ext (J.trans e7);refine hS bo (ay bb (aM (O.cm _ x C) λm h8 N hm=>?_));obtain⟨m,w8⟩:=m;dsimp only at hm;subst hm;refine PV (bo.ext N) (aM (O.ca _ _ _ _ _ (E ▸ al) vm (by omega)) λm h9 e9 hm=>?_);obtain⟨m,w9⟩:=m;dsimp only at hm;rw[<-FR]at hm;subst hm;have vq:I.V (I.W pre+I.W l.list+I.wt x) (I.sum (pre++l.list++[x])):=by rw[FR,E];exact O.va _ _ _ _ al vm
     refine mX (I.sum (pre++l.list++[x])) ((bd.ext N).ext e9) (O.fs _) λa7 b1 bp=>?_;have a3:Ext f a7:=jU.jQ ((((a4.trans J).trans e7).trans N).trans e9) bp (by intro a ha;cases ha;exact bM _);have b0:Nd I a7 (some qa) (.node l x r):=((bb.ext N).ext e9).Hg bp ((bd.ext N).ext e9) (by omega);have e:=b1;refine hS e (aM (O.ck _ _ _ _ vq (by omega)) λy b9 D o=>?_);obtain⟨(y:Int),ct⟩:=y;dsimp only at o⊢;subst o;have a0:aT .i64 at_ (aT .i64 ((l.list.length:Nat):Int) 1)=((pre.length+l.list.length+1:Nat):Int):=by
      rw[aX (a:=((l.list.length:Nat):Int)) (by omega) (by omega),aX (by omega) (by omega)];omega
     rw[a0];have bt:t.list.take (pre.length+l.list.length+1)=pre++l.list++[x]:=by
      rw[show t.list=(pre++l.list++[x])++(r.list++post) by rw[j];simp[Bt.list]];exact R2 (by simp[BC])
     have aw:t.list.take (pre.length+l.list.length)=pre++l.list:=by
      rw[show t.list=(pre++l.list)++(x::r.list++post) by rw[j];simp[Bt.list]];exact R2 (by simp)
     refine aE (λz=>?_) λz=>?_
     .rw[dD]at z
      refine aC ⟨λh=>absurd h (by decide),λ_=>⟨a3.trans D, .inr ⟨rfl,(((pre.length+l.list.length+1:Nat):Int),()),rfl, .inr (.inl ⟨by dsimp only;omega,by dsimp only;omega,?_,?_⟩)⟩⟩⟩
      .dsimp only;rw[cS,bt];exact z
      .dsimp only;rw[cS,Mq,aw];exact U
     .rw[eR]at z
      refine WA (b0.ext D) λpr nr=>aC ⟨λ_=>⟨(r,pre++l.list++[x],post),(((pre.length+l.list.length+1:Nat):Int),pr,()),rfl,⟨a3.trans D,nr,by rw[j];simp[Bt.list],by simp;omega,e.ext D,z,?_⟩,by dsimp only;omega⟩,λh=>absurd rfl h⟩;rcases b with X|X
      .exact .inl X
      .refine .inr ?_
       dsimp only;rw[show pre++l.list++[x]++r.list=pre++(Bt.node l x r).list by simp[Bt.list]];exact X
 .rintro tg L K ⟨F,⟨rfl,x,rfl,C,hk⟩|⟨rfl,x,rfl,C⟩⟩
  .obtain⟨(x:Int),w⟩:=x
   dsimp only at C;refine bE ⟨(x,()),rfl,?_⟩;dsimp only;subst C;rw[aX (by omega) (by omega)];exact aC ⟨rfl,e1.trans F,(_,()),rfl, .inr (.inr ⟨rfl,hk⟩)⟩
  .obtain⟨(x:Int),w⟩:=x
   exact nP (by decide) (bE ⟨(x,()),rfl,aC ⟨rfl,e1.trans F,(x,()),rfl,C⟩⟩)
theorem VV(O:I.Ok P){p:OA}{t:Bt I.It}{i:Int}(ht:Nd I h p t)(hw:I.wf t.list)(b6:I.W t.list<4398046511104) :
  aS P (Yu I (p,()) i) [(.agg I.sB)] h λ(x:I.Su×Unit) _=>x.1=I.sum (t.list.take i.toNat):=by
 have cg:=qO O t.list;have ct:I.sB.length=I.ns:=rfl;unfold Yu aS;refine jR p λw e1 o1=>gN I.zs O.s1.2 λF R o2=>gN I.zs O.s1.2 λh3 K o3=>mW ((o1.ext R).ext K) (aM (Hj (ht.ext ((e1.trans R).trans K))) λy h4 T J=>jX (((o1.ext R).ext K).ext T) ?_);obtain⟨(y:Int),w1⟩:=y;dsimp only at J⊢;subst J;have b2:=(o2.lt rfl).2;have b1:=(o1.lt rfl).2;dsimp only at b1 b2;have ab:Ext h h4:=(((e1.trans R).trans K).trans T);refine dQ (G:=Bt I.It×List I.It×List I.It) (λg (s:Int×OA×Unit) h'=>Ext h h'/\Nd I h' s.2.1 g.1/\t.list=g.2.1++g.1.list++g.2.2/\t.list.take i.toNat=g.2.1++g.1.list.take s.1.toNat/\s.1<=g.1.list.length /\
   cA w.size 1 h' ⟨some ⟨w.size,0,none⟩,I.sB.length,I.sB.length⟩ (Bs.inj I.sB I.zs)/\cA F.size 1 h' ⟨some ⟨F.size,0,none⟩,I.sB.length,I.sB.length⟩ (Bs.inj I.sB (I.sum g.2.1))) (λg=>g.1.list.length)
  (λo N h'=>o=2/\N=[]/\Ext h h'/\cA w.size 1 h' ⟨some ⟨w.size,0,none⟩,I.sB.length,I.sB.length⟩ (Bs.inj I.sB I.zs)/\cA F.size 1 h' ⟨some ⟨F.size,0,none⟩,I.sB.length,I.sB.length⟩ (Bs.inj I.sB (I.sum (t.list.take i.toNat))))
  (t,[],[]) ⟨ab,ht.ext ab,by simp,?_,?_,(o2.ext K).ext T,o3.ext T⟩ ?_ ?_
 .dsimp only
  rw[GA];have:NQ i ((t.list.length:Nat):Int)=min i (t.list.length:Int):=lB ..;rw[this];by_cases hi:i<=(t.list.length:Int)
  .rw[show min i (t.list.length:Int)=i by omega]
  .rw[show min i (t.list.length:Int)=(t.list.length:Int) by omega,iW (by omega),cS,fF]
 .dsimp only
  rw[lB];omega
 .rintro⟨o,pre,post⟩ ⟨(j:Int),(q:OA),u⟩ h5 ⟨e5,nq,H,k,hj,oz,oa⟩
  dsimp only at nq H k hj oz oa⊢;have a0:I.wf (pre++o.list++post):=H ▸ hw;have a3:I.wf pre:=λy J=>a0 y (by simp[J]);have L:I.wf o.list:=λy J=>a0 y (by simp[J]);have b4:t.list.length=pre.length+o.list.length+post.length:=by rw[H];simp[BC]
  have cf:I.W t.list=I.W pre+I.W o.list+I.W post:=by rw[H,pW,pW]
  have b3:=qO O t.list;refine bZ (o ≠ .nil/\0<j) ?_ λb h6 U hb=>?_
  .cases o with
   |nil=>obtain rfl:=nq;exact lW (aC ⟨rfl,Ext.refl _,false,rfl,Iff.intro (λx=>by cases x) (λx=>absurd rfl x.1)⟩)
   |node l x r=>
    obtain⟨a,_,_,rfl,_⟩:=nq;exact mV (aC ⟨rfl,Ext.refl _,sP j 0,rfl,by rw[dL];exact Iff.intro (λx=>⟨by simp,x⟩) (λx=>x.2)⟩)
  have B:=e5.trans U;have a4:=nq.ext U;have D:=oz.ext U;have n:=oa.ext U;dsimp only;refine aE (λX=>?_) λX=>?_
  .obtain⟨bo,ao⟩:=hb.1 X
   cases o with
   |nil=>exact absurd rfl bo
   |node l x r=>
    have cr:=kO l r x;have b9:=lR (I:=I) l r x;have b8:=qO O (Bt.node l x r).list;have hx:=HU L;have vp:=V.sum O a3;have vl:=V.sum O (Cl L);have vm:=O.vm x hx;have aw:I.sum (pre++l.list)=I.add (I.sum pre) (I.sum l.list):=sum_append O a3 (Cl L);have a8:I.V (I.W pre+I.W l.list) (I.sum (pre++l.list)):=aw ▸ O.va _ _ _ _ vp vl;refine FN a4 λpl nl=>aM (AO nl) λc h7 f al=>?_;obtain⟨(c:Int),w7⟩:=c;dsimp only at al⊢;subst al;have z:=a4.ext f;refine aE (λY=>?_) λY=>?_
    .rw[gE]at Y
     refine FN z λpl nl=>aC ⟨λ_=>⟨(l,pre,x::r.list++post),(j,pl,()),rfl,⟨B.trans f,nl,by rw[H];simp[Bt.list],?_,Y,D.ext f,n.ext f⟩,by dsimp only;omega⟩,λh=>absurd rfl h⟩;dsimp only;rw[k];simp only[Bt.list];rw[Ap (by omega)]
    .rw[mN]at Y
     refine dB (λt N h'=>t=0/\N=[]/\Ext h h'/\Nd I h' q (.node l x r)/\cA w.size 1 h' ⟨some ⟨w.size,0,none⟩,I.sB.length,I.sB.length⟩ (Bs.inj I.sB I.zs)/\cA F.size 1 h' ⟨some ⟨F.size,0,none⟩,I.sB.length,I.sB.length⟩ (Bs.inj I.sB (I.sum (pre++l.list)))) ?_ ?_
     .refine FN z λpl nl=>?_
      cases l with
      |nil=>
       obtain rfl:=nl;exact lW (aC ⟨rfl,rfl,B.trans f,z,D.ext f,by simpa[Bt.list] using n.ext f⟩)
      |node ll lx lr=>
       have hp:∃a,pl=some a:=by obtain⟨a,_,_,w,_⟩:=nl;exact⟨a,w⟩
       obtain⟨la,rfl⟩:=hp;refine mV (hS (n.ext f) (FN z λpl nl=>me nl (aM (O.ca _ _ _ _ _ vp vl (by omega)) λm h8 A hm=>?_)));obtain⟨m,w5⟩:=m;dsimp only at hm;rw[<-aw]at hm;subst hm;refine mX (I.sum (pre++(Bt.node ll lx lr).list)) ((n.ext f).ext A) (O.fs _) λh9 o9 u9=>aC ⟨rfl,rfl,jU.jQ ((B.trans f).trans A) u9 (by intro a ha;cases ha;dsimp only;omega),
        (z.ext A).Hg u9 ((n.ext f).ext A) (by omega),HF ((D.ext f).ext A) u9 (by dsimp only;omega),o9⟩
     .rintro tg N h8 ⟨rfl,rfl,A,a7,b0,C⟩
      refine bE (bO (hS C (ay a7 (aM (O.cm _ x hx) λm h9 E hm=>?_))));obtain⟨m,w9⟩:=m;dsimp only at hm;subst hm;refine PV (C.ext E) (aM (O.ca _ _ _ _ _ a8 vm (by omega)) λm cc v hm=>?_);obtain⟨m,cx⟩:=m;dsimp only at hm;rw[<-FR]at hm;subst hm;have vq:I.V (I.W pre+I.W l.list+I.wt x) (I.sum (pre++l.list++[x])):=by rw[FR];exact O.va _ _ _ _ a8 vm
      refine mX (I.sum (pre++l.list++[x])) ((C.ext E).ext v) (O.fs _) λcd bt M=>?_;have ba:=((a7.ext E).ext v).Hg M ((C.ext E).ext v) (by omega);have a9:bJ .i64 (bJ .i64 j ((l.list.length:Nat):Int)) 1=j-l.list.length-1:=by
       rw[bY (a:=j) (by omega) (by omega),bY (by omega) (by omega)]
      rw[a9];refine WA ba λpr nr=>aC ⟨λ_=>⟨(r,pre++l.list++[x],post),(j-l.list.length-1,pr,()),rfl,⟨jU.jQ ((A.trans E).trans v) M (by intro a ha;cases ha;dsimp only;omega),nr,by rw[H];simp[Bt.list],?_,by dsimp only;omega,
       HF ((b0.ext E).ext v) M (by dsimp only;omega),bt⟩,by dsimp only;omega⟩,λh=>absurd rfl h⟩
      dsimp only;rw[k];obtain⟨d,hd⟩:∃d:Nat,j=l.list.length+1+d:=⟨(j-l.list.length-1).toNat,by omega⟩;have bb:j.toNat=(l.list++[x]).length+d:=by simp;omega
      have bd:(j-l.list.length-1).toNat=d:=by omega
      rw[bb,bd,show(Bt.node l x r).list=(l.list++[x])++r.list by simp[Bt.list],JP,iW (by omega),BE];simp
  .have bp:¬(o ≠ .nil/\0<j):=λx=>by rw[hb.2 x]at X;cases X
   refine aC ⟨λh=>absurd h (by decide),λ_=>⟨rfl,rfl,B,D,?_⟩⟩;rw[k];by_cases hn:o = .nil
   .subst hn;simpa[Bt.list] using n
   .have ao:j.toNat=0:=by have:¬0<j:=λx=>bp ⟨hn,x⟩;omega
    rw[ao,R6,kQ];exact n
 .rintro tg N h5 ⟨rfl,rfl,e5,oz,oa⟩
  exact bE (bO (hS oa (zA (I.sum (t.list.take i.toNat)) oz e1.size e5 (O.fs _) λh' e=>⟨rfl,e,(_,()),rfl,rfl⟩)))
end
section
open Go.Sw.Tree (iv fP jR jX mW oR Bz xO dQ least TR lB kM rL kK)
variable{P:Program}{I:iJ}{h:aG}{Q:Nat->bG->aG->Prop}
variable{m':Nat}{y:Value}{a:Addr}
abbrev ag(I:iJ)(r:I.It):Value:=.agg (Bs.inj I.iB r).toArray
abbrev Zn(I:iJ)(a b:OA):Value:=.func (.func I.f1) #[] #[.pointer a, .pointer b]
abbrev V9(I:iJ)(a b:OA):Value:=.func (.func I.f2) #[] #[.pointer a, .pointer b]
structure my(P:Program)(I:iJ):Prop where
 it:∀(y:Value) (a b:OA),dw P (Zn I a b) [y] (Sr I y a b)
 wk:∀(p:OA) (i:Int) (a b:OA),dw P (V9 I a b) [.pointer p,iv i] (P8 I p i a b)
theorem Nd.held{h':aG}(e:iI I.Z h h'):∀{t:Bt I.It} {p:OA},Nd I h p t->Nd I h' p t
 |.nil,_,n=>n
 |.node l x r,p,⟨a,pl,pr,b,c,g,k⟩=>⟨a,pl,pr,b,⟨aI.2 λj v f=>e.cell (aI.1 c.1 j v f) (by rw[iS];exact c.2.1),c.2⟩,Nd.held e g,Nd.held e k⟩
structure St(h0:aG)(m':Nat)(y:Value)(I:iJ)(h:aG):Prop where
 held:iI I.Z h0 h
 le:h0.size<=m'
 sz:m'+2<=h.size
 cy:Sw.cell h ⟨m',0,none⟩=some y
 cw:Sw.cell h ⟨m'+1,0,none⟩=some (V9 I (some ⟨m'+1,0,none⟩) (some ⟨m',0,none⟩))
theorem St.step{h0 h h':aG}{m':Nat}{y:Value}(s:St h0 m' y I h)(f:iI (λi=>own m' 2 i\/(I.Z i/\i<h0.size)) h h'):St h0 m' y I h' where
 held:=s.held.step f λi hi b=>.inr ⟨b,hi⟩
 le:=s.le
 sz:=dI s.sz f.1
 cy:=f.cell s.cy (.inl ⟨bM _,by dsimp only;omega⟩)
 cw:=f.cell s.cw (.inl ⟨by dsimp only;omega,by dsimp only;omega⟩)
theorem St.more{h0 h h':aG}(s:St h0 m' y I h)(e:Ext h h'):St h0 m' y I h':=s.step (iI.bD e)
theorem Wv{v:Value}{K:Value->aK}(c:Sw.cell h a=some v)(e:wp P (K v) h Q):wp P (.load (.one .any) (some a) K) h Q:=bC (b:=.any) a v rfl c e
theorem qe(O:I.Ok P)(D:my P I){h0:aG}{L:List I.It}{J:Nat->aG->Prop}{F:aG->Prop}(sJ:∀k a b,J k a->aV (own m' 2) a b->J k b)
  (hY:∀k r u,L[k]?=some r->J k u->m'+2<=u.size->iI I.Z h0 u->OF P y [ag I r] u λm H=>∃b:Bool,m=[.bool b]/\iI (λi=>own m' 2 i\/(I.Z i/\i<h0.size)) u H/\(b=true->J (k+1) H)/\(b=false->F H)) :
  ∀(t:Bt I.It) {p:OA} {i:Int} {k:Nat} {h:aG},Nd I h0 p t->I.W t.list<=4398046511104->0<=i->i<=9223372036854775807->(∀(j:Nat) (r:I.It),t.list[j]?=some r->i.toNat<=j->L[k+(j-i.toNat)]?=some r)->St h0 m' y I h->J k h ->
  wp P (P8 I p i (some ⟨m'+1,0,none⟩) (some ⟨m',0,none⟩)) h λtag m h'=>tag=0/\∃b:Bool,m=[.bool b]/\St h0 m' y I h'/\(b=true->J (k+(t.list.length-i.toNat)) h')/\(b=false->F h'):=by
 have X:∀k a b,J k a->Ext a b->J k b:=λk a b j e=>sJ k a b j (aV.bD e);intro t
 induction t with
 |nil=>
  intro p i k h N M R u K st q;obtain rfl:=N;unfold P8;refine bZ True (mV (aC ⟨rfl,Ext.refl _,true,rfl,Iff.intro (λ_=>trivial) λ_=>rfl⟩)) λb H G hb=>?_;have ab:b=true:=hb.2 trivial;subst ab;exact mV (aC ⟨rfl,true,rfl,st.more G,λ_=>by simpa[Bt.list] using X _ _ _ q G,λh=>by cases h⟩)
 |node l x r a4 a7=>
  intro p i k h N M R u K st q;have hl:=kO l r x;have bb:=lR (I:=I) l r x;have a9:=qO O (Bt.node l x r).list;have o:∀{h'},St h0 m' y I h'->Nd I h' p (.node l x r):=λs=>Nd.held s.held N;obtain⟨a,ql,qr,rfl,c,n1,n2⟩:=N;have o:∀{h'},St h0 m' y I h'->GG I h' a ql qr l x r:=λs=>⟨aI.2 λj v q=>s.held.cell (aI.1 c.1 j v q) (by rw[iS];exact c.2.1),c.2⟩;have aw:∀(j:Nat) (v:I.It),l.list[j]?=some v->(Bt.node l x r).list[j]?=some v:=λj v z=>by
   show(l.list++x::r.list)[j]?=_;rw[mL (cR.1 z).1];exact z
  have a0:(Bt.node l x r).list[l.list.length]?=some x:=by
   show(l.list++x::r.list)[_]?=_;rw[jZ (bM _)];simp
  have a3:∀(j:Nat) (v:I.It),r.list[j]?=some v->(Bt.node l x r).list[l.list.length+1+j]?=some v:=λj v z=>by
   show(l.list++x::r.list)[_]?=_;rw[jZ (by omega),show l.list.length+1+j-l.list.length=j+1 by omega,R5];exact z
  unfold P8;refine bZ (((Bt.node l x r).list.length:Int)<=i) ?_ λb H G hb=>?_
  .exact lW (aL rfl (aL rfl (bC (b:=bI) (a.add (I.ni+2)) _ rfl (o st).BI.1 (aC ⟨rfl,Ext.refl _,_,rfl,dD⟩))))
  have B:=st.more G;have T:=X _ _ _ q G;dsimp only;refine aE (λg=>aC ⟨rfl,true,rfl,B,λ_=>?_,λh=>by cases h⟩) λg=>?_
  .have:=hb.1 g
   rw[show(Bt.node l x r).list.length-i.toNat=0 by omega];exact T
  have ba:i<((Bt.node l x r).list.length:Int):=by
   by_cases hx:((Bt.node l x r).list.length:Int)<=i
   .rw[hb.2 hx]at g;cases g
   .omega
  refine nO (o B) (aM (AO (Nd.held B.held n1)) λn h3 Y hn=>?_);obtain⟨(n:Int),w⟩:=n;dsimp only at hn⊢;subst hn;have C:=B.more Y;have U:=X _ _ _ T Y;refine dB (λtg m h'=>tg=0/\∃b:Bool,m=[.bool b]/\St h0 m' y I h'/\(b=true->F h')/\(b=false->J (k+(l.list.length-i.toNat)) h')) ?_ ?_
  .refine aE (λA=>?_) λA=>?_
   .rw[aU]at A
    refine Wv C.cw (nO (o C) (Ky (D.wk _ _ _ _) (cM _ ?_ (a4 (k:=k) n1 (by omega) R u (λj v z q=>K j v (aw j v z) q) C U))));rintro tg m h4 ⟨rfl,b,rfl,f,t4,f4⟩;refine⟨rfl,(b,()),rfl,aC ⟨rfl,cU b,rfl,f,λhb=>f4 (dF.1 hb),λhb=>t4 (eC.1 hb)⟩⟩
   .rw[aY]at A
    refine aC ⟨rfl,false,rfl,C,λh=>(by cases h),λ_=>?_⟩;rw[show l.list.length-i.toNat=0 by omega];exact U
  rintro tg m h4 ⟨rfl,b,rfl,f,f4,t4⟩;refine bE (gF (aE (λg=>aC ⟨rfl,false,rfl,f,λh=>(by cases h),λ_=>f4 g⟩) λg=>?_));have V:=t4 g;refine dB (λtg m h'=>tg=0/\∃b:Bool,m=[.bool b]/\St h0 m' y I h'/\(b=true->F h')/\(b=false->J (k+(l.list.length+1-i.toNat)) h')) ?_ ?_
  .refine aE (λA=>?_) λA=>?_
   .rw[gE]at A
    refine Wv f.cy (uJ (o f) (dh ((hY _ x h4 (K _ x a0 (by omega)) V f.sz f.held).mono ?_)));rintro m h5 ⟨b,rfl,fr,t5,f5⟩;refine⟨(b,()),rfl,aC ⟨rfl,cU b,rfl,f.step fr,λhb=>f5 (dF.1 hb),λhb=>?_⟩⟩;have:=t5 (eC.1 hb);rw[show k+(l.list.length+1-i.toNat)=k+(l.list.length-i.toNat)+1 by omega];exact this
   .rw[mN]at A
    refine aC ⟨rfl,false,rfl,f,λh=>(by cases h),λ_=>?_⟩;rw[show l.list.length+1-i.toNat=l.list.length-i.toNat by omega];exact V
  rintro tg m h5 ⟨rfl,b,rfl,E,f5,t5⟩;refine bE (gF (aE (λg=>aC ⟨rfl,false,rfl,E,λh=>(by cases h),λ_=>f5 g⟩) λg=>?_));have al:=t5 g;rw[bY (a:=i) (by omega) (by omega),bY (by omega) (by omega)];have ao:Df 0 (i-l.list.length-1)=((i.toNat-(l.list.length+1):Nat):Int):=by unfold Df;split<;>omega
  rw[ao];refine Wv E.cw (mO (o E) (Ky (D.wk _ _ _ _) (cM _ ?_ (a7 (k:=k+(l.list.length+1-i.toNat)) n2 (by omega) (by omega) (by omega) (λj v z q=>?_) E al))))
  .rintro tg m h6 ⟨rfl,b,rfl,a8,t6,f6⟩
   refine⟨rfl,(b,()),rfl,aC ⟨rfl,b,rfl,a8,λhb=>?_,f6⟩⟩;have:=t6 hb;rw[cS]at this;rw[show k+((Bt.node l x r).list.length-i.toNat)=k+(l.list.length+1-i.toNat)+(r.list.length-(i.toNat-(l.list.length+1))) by omega];exact this
  .rw[cS]at q⊢
   have:=K _ v (a3 j v z) (by omega);rw[show k+(l.list.length+1-i.toNat)+(j-(i.toNat-(l.list.length+1)))=k+(l.list.length+1+j-i.toNat) by omega];exact this
def AL(I:iJ)(L:List I.It)(k:Nat)(hp h1:aG)(args:bG):Prop:=∃r,L[k]?=some r/\args=[ag I r]
theorem U3(O:I.Ok P)(D:my P I){h0:aG}{p:OA}{t:Bt I.It}{b:Addr}{i:Int}(nt:Nd I h0 p t)(o:I.W t.list<=4398046511104)(hi:cX .i64 i)(ca:Sw.cell h0 a=some (.pointer p))(cb:Sw.cell h0 b=some (iv i))(za:I.Z a.block)(zb:I.Z b.block) :
  k_ P (Zn I (some a) (some b)) (t.list.drop i.toNat).length (AL I (t.list.drop i.toNat)) I.Z 2 h0:=by
 intro h y J F hs hz X U sF Y m;rw[eS]at hi;refine D.it _ _ _ h _ ?_;unfold Sr;refine aL (by cases y<;>first|rfl|cases X) λe=>?_;have C:Ext h (h.push (.cells [y].toArray e)):=Ext.push ..;have R:cA h.size 1 (h.push (.cells [y].toArray e)) ⟨some ⟨h.size,0,none⟩,1,1⟩ [y]:=bR rfl (by decide) (by decide);have z:(h.push (.cells [y].toArray e)).size=h.size+1:=by simp
 generalize(h.push (.cells [y].toArray e))=c at C R z⊢;intro g;have E:Ext c (c.push (.cells [.nilFunc].toArray g)):=Ext.push ..;have w:cA c.size 1 (c.push (.cells [.nilFunc].toArray g)) ⟨some ⟨c.size,0,none⟩,1,1⟩ [.nilFunc]:=bR rfl (by decide) (by decide);generalize(c.push (.cells [.nilFunc].toArray g))=h2 at E w⊢;rw[z]at w⊢;refine fP [V9 I (some ⟨h.size+1,0,none⟩) (some ⟨h.size,0,none⟩)] w rfl (by intro v hv;rw[dE.1 hv];rfl) λf T u3=>?_;have q:Ext c f:=jU.jQ E u3 (λx hx=>by cases hx;exact Nat.le_of_eq z);have G:Ext h f:=C.trans q;have A:=(T.lt rfl).2;dsimp only at A;have c3:Sw.cell f ⟨h.size+1,0,none⟩=some (V9 I (some ⟨h.size+1,0,none⟩) (some ⟨h.size,0,none⟩)):=by have:=aI.1 T.cells 0 _ rfl;rwa [add_zero']at this
 have B:Sw.cell f ⟨h.size,0,none⟩=some y:=by have:=aI.1 (R.ext q).cells 0 _ rfl;rwa [add_zero']at this
 have n:iI I.Z h0 f:=hz.step (V:=λ_=>True) (iI.bD G) λ_ _ _=>trivial;have st:St h0 h.size y I f:=⟨n,hs,A,B,c3⟩;refine Wv c3 (aL rfl (bC (b:=.ptr) (a.add 0) p rfl (by rw[add_zero'];exact n.cell ca za) (bC (b:=bI) b i rfl (n.cell cb zb) (Ky (D.wk _ _ _ _) ?_))));have K:Df 0 i=(i.toNat:Int):=by unfold Df;split<;>omega
 rw[K];refine cM _ ?_ (qe O D (L:=t.list.drop i.toNat) U (λk r c H m M N=>Y k c c [ag I r] (cR.1 H).1 m (by omega) (aV.refl _ _) M N ⟨r,H,rfl⟩) t (k:=0) nt o (by omega) (by omega) (λj r hr m=>?_) st (U _ _ _ m (aV.bD G)))
 .rintro tg vs h4 ⟨rfl,b,rfl,u,t4,f4⟩
  have s4:=u.sz;refine⟨rfl,(b,()),rfl,aC ⟨rfl,rfl,by omega,u.held,?_⟩⟩;cases b with
  |true=>left;have:=t4 rfl;rw[cS,JK]at this;rw[cV];exact this
  |false=>exact .inr (f4 rfl)
 .rw[cS]at m⊢
  rw[Ao,JK,show i.toNat+(j-i.toNat)=j by omega];exact hr
end
end Go.Sw.Any
namespace Go.Sw.Piece
open Go.Sw.Any
open Go.Sw.Tree (iv fP jR jX mW oR kM rL kK)
section
variable{P:Program}{S:cH}{h:aG}{Q:Nat->bG->aG->Prop}
abbrev PB:List B:=[.sl, .int .i64, .int .i64, .int .i64, .int .i64, .bool, .bool]
abbrev SB:List B:=[.int .i64, .int .i64, .int .i64, .bool, .bool]
abbrev Part:=Sl×Int×Int×Int×Int×Bool×Bool×Unit
abbrev oX:=Int×Int×Int×Bool×Bool×Unit
def zS:oX:=(0,0,0,false,false,())
def zP:Part:=(⟨none,0,0⟩,0,0,0,0,false,false,())
def Jv(p:Part):oX:=(p.2.2.1,p.2.2.2.1,p.2.2.2.2.1,p.2.2.2.2.2.1,p.2.2.2.2.2.2.1,())
def Oz(s o:oX):Int:=if s.2.2.2.2.1=true/\o.2.2.2.1=true then 1 else 0
def kE(s o:oX):oX:=if s.1=0 then o else if o.1=0 then s else (s.1+o.1,s.2.1+o.2.1,s.2.2.1+o.2.2.1-Oz s o,s.2.2.2.1,o.2.2.2.2.1,())
def Hu(s:oX)(k:Int):Int:=if k=0 then s.1 else if k=1 then s.2.2.1 else 0
def VS(n:Nat)(s:oX):Prop:=0<=s.1/\s.1<=n/\0<=s.2.1/\s.2.1<=4*n/\0<=s.2.2.1/\s.2.2.1<=n/\(s.1=0->s=zS)/\(s.2.2.2.1=true->1<=s.2.2.1)
def WI(p:Part):Nat:=max 1 p.2.2.1.toNat
theorem ED(s:oX):∀v,v∈Bs.inj SB s->flat v=true:=by
 intro v b;simp only[SB,Bs.inj,eH,lG,or_false]at b;rcases b with rfl|rfl|rfl|rfl|rfl<;>rfl
theorem xD(s:Part):∀v,v∈Bs.inj PB s->flat v=true:=by
 intro v b;simp only[PB,Bs.inj,eH,lG,or_false]at b;rcases b with rfl|rfl|rfl|rfl|rfl|rfl|rfl<;>rfl
theorem YD(s o:oX):0<=Oz s o/\Oz s o<=1/\(Oz s o=1->o.2.2.2.1=true):=by
 unfold Oz;split
 .rename_i b;exact⟨by omega,by omega,λ_=>b.2⟩
 .exact⟨by omega,by omega,λh=>by omega⟩
theorem MI(o:oX):kE zS o=o:=by unfold kE;rw[if_pos (show zS.1=0 from rfl)]
theorem VK{x o:oX}(h:x.1=0):kE x o=o:=by unfold kE;rw[if_pos h]
theorem Em{n:Nat}{s:oX}(v:VS n s):kE s zS=s:=by
 unfold kE;by_cases h0:s.1=0
 .rw[if_pos h0];exact(v.2.2.2.2.2.2.1 h0).symm
 .rw[if_neg h0,if_pos (show zS.1=0 from rfl)]
theorem VS.mono{n m:Nat}{s:oX}(v:VS n s)(h:n<=m):VS m s:=by
 obtain⟨a,b,c,d,e,f,g,i⟩:=v;exact⟨a,by omega,c,by omega,e,by omega,g,i⟩
theorem VS.add{n m:Nat}{s o:oX}(v:VS n s)(w:VS m o):VS (n+m) (kE s o):=by
 unfold kE;by_cases h0:s.1=0
 .rw[if_pos h0];exact w.mono (by omega)
 .rw[if_neg h0]
  by_cases j:o.1=0
  .rw[if_pos j];exact v.mono (by omega)
  .rw[if_neg j]
   obtain⟨a,b,c,d,e,f,g,i⟩:=v;obtain⟨r,t,u,z,A,B,C,p⟩:=w;obtain⟨k1,k2,q⟩:=YD s o;have D:Oz s o<=o.2.2.1:=by
    by_cases k:Oz s o=1
    .have:=p (q k);omega
    .omega
   refine⟨by dsimp only;omega,by dsimp only;omega,by dsimp only;omega,by dsimp only;omega,by dsimp only;omega,by dsimp only;omega,λh=>by dsimp only at h;omega,λh=>?_⟩;have:=i h;dsimp only;omega
theorem MH{n m k:Nat}{x y z:oX}(j:VS n x)(o:VS m y)(u:VS k z):kE (kE x y) z=kE x (kE y z):=by
 by_cases b:x.1=0
 .rw[VK b,VK b]
 by_cases c:y.1=0
 .have f:kE x y=x:=by unfold kE;rw[if_neg b,if_pos c]
  have g:kE y z=z:=by unfold kE;rw[if_pos c]
  rw[f,g]
 by_cases e:z.1=0
 .have f:kE y z=y:=by unfold kE;rw[if_neg c,if_pos e]
  have g:∀w:oX,w.1≠0->kE w z=w:=λw hw=>by unfold kE;rw[if_neg hw,if_pos e]
  rw[f];refine g _ ?_;have:=j.1;have:=o.1;unfold kE;rw[if_neg b,if_neg c];dsimp only;omega
 have r:kE x y=(x.1+y.1,x.2.1+y.2.1,x.2.2.1+y.2.2.1-Oz x y,x.2.2.2.1,y.2.2.2.2.1,()):=by unfold kE;rw[if_neg b,if_neg c]
 have t:kE y z=(y.1+z.1,y.2.1+z.2.1,y.2.2.1+z.2.2.1-Oz y z,y.2.2.2.1,z.2.2.2.2.1,()):=by unfold kE;rw[if_neg c,if_neg e]
 have:=j.1;have:=o.1;have:=u.1;rw[r,t];unfold kE;dsimp only;rw[if_neg (by omega),if_neg e,if_neg b,if_neg (by omega)];have p:Oz (x.1+y.1,x.2.1+y.2.1,x.2.2.1+y.2.2.1-Oz x y,x.2.2.2.1,y.2.2.2.2.1,()) z=Oz y z:=rfl;have q:Oz x (y.1+z.1,y.2.1+z.2.1,y.2.2.1+z.2.2.1-Oz y z,y.2.2.2.1,z.2.2.2.2.1,())=Oz x y:=rfl;rw[p,q]
 congr 1
 .omega
 .congr 1
  .omega
  .congr 1;omega
theorem XE{n m:Nat}{s o:oX}(v:VS n s)(w:VS m o)(k:Int):Hu s k<=Hu (kE s o) k:=by
 obtain⟨a,b,c,d,e,f,g,i⟩:=v;obtain⟨t,u,z,A,B,C,D,q⟩:=w;unfold kE;by_cases h0:s.1=0
 .rw[if_pos h0,g h0]
  unfold Hu zS
  (repeat' split)<;>first|omega|(dsimp only;omega)
 .rw[if_neg h0]
  by_cases j:o.1=0
  .rw[if_pos j];exact kR _
  .rw[if_neg j]
   obtain⟨k1,k2,r⟩:=YD s o;have E:Oz s o<=o.2.2.1:=by
    by_cases p:Oz s o=1
    .have:=q (r p);omega
    .omega
   unfold Hu
   (repeat' split)<;>first|omega|(dsimp only;omega)
theorem W2{x:Part}:aS P (mC S x) [.agg SB] h λ(y:oX×Unit) _=>y.1=Jv x:=by
 unfold mC aS;refine gN (bs:=PB) x (by decide) λg c o1=>gN (bs:=SB) zS (by decide) λk f o2=>?_;refine⟨(⟨h.size,0,none⟩:Addr).add 2,rfl,Jv x,aI.2 λj v b=>?_,?_⟩
 .rw[add_add]
  refine aI.1 (o1.ext f).cells _ _ ?_
  match j,b with
  |0,b=>exact b
  |1,b=>exact b
  |2,b=>exact b
  |3,b=>exact b
  |4,b=>exact b
  |j+5,b=>simp[Ty.cells,Bs.inj]at b
 .exact zA (bs:=SB) (Jv x) o2 c.size (c.trans f) (ED _) λh' e=>⟨rfl,e,(Jv x,()),rfl,rfl⟩
theorem vo{n:Nat}{s:oX}{k:Int}:aS P (xL S s k) [tI] h λ(y:Int×Unit) _=>y.1=Hu s k:=by
 unfold xL aS Hu;refine gN (bs:=SB) s (by decide) λg f o1=>aE (λc=>?_) λc=>aE (λe=>?_) λe=>?_
 .rw[cK]at c;rw[if_pos c]
  exact bC (b:=bI) _ s.1 rfl (aI.1 o1.cells 0 _ rfl) (aC ⟨rfl,f,(s.1,()),rfl,rfl⟩)
 .rw[dS]at c;rw[cK]at e;rw[if_neg c,if_pos e]
  exact bC (b:=bI) _ s.2.2.1 rfl (aI.1 o1.cells 2 _ rfl) (aC ⟨rfl,f,(s.2.2.1,()),rfl,rfl⟩)
 .rw[dS]at c e;rw[if_neg c,if_neg e]
  exact aC ⟨rfl,f,(0,()),rfl,rfl⟩
theorem YF{n m:Nat}{s o:oX}(v:VS n s)(w:VS m o)(hn:n+m<=4398046511104):aS P (lD S s o) [.agg SB] h λ(y:oX×Unit) _=>y.1=kE s o:=by
 obtain⟨a,b,c,d,e,f,g,i⟩:=id v;obtain⟨Y,b',c',d',e',f',g',i'⟩:=id w;unfold lD aS;refine gN (bs:=SB) s (by decide) λV u o1=>gN (bs:=SB) o (by decide) λh2 J o2=>gN (bs:=SB) zS (by decide) λE M R=>?_;have q:=J.trans M;have C:∀{h'} {b:B} {j:Nat} {x:b.den} {K:b.den->aK} {Q:Nat->bG->aG->Prop},Ext E h'->(Bs.inj SB s)[j]?=some (b.inj x)->wp P (K x) h' Q->wp P (.load (.one b) (aB (some ⟨h.size,0,none⟩) j) K) h' Q:=λe N O=>bC _ _ rfl (aI.1 (o1.ext (q.trans e)).cells _ _ N) O;have D:∀{h'} {b:B} {j:Nat} {x:b.den} {K:b.den->aK} {Q:Nat->bG->aG->Prop},Ext E h'->(Bs.inj SB o)[j]?=some (b.inj x)->wp P (K x) h' Q->wp P (.load (.one b) (aB (some ⟨V.size,0,none⟩) j) K) h' Q:=λe N O=>bC _ _ rfl (aI.1 (o2.ext (M.trans e)).cells _ _ N) O;refine C (b:=bI) (x:=s.1) (Ext.refl _) rfl (aE (λA=>?_) λA=>?_)
 .rw[cK]at A
  refine hS (bs:=SB) (o2.ext M) (zA (bs:=SB) o R (dI u.size J.size) (u.trans q) (ED _) λh' e=>⟨rfl,e,(o,()),rfl,?_⟩);unfold kE;rw[if_pos A]
 rw[dS]at A;refine D (b:=bI) (x:=o.1) (Ext.refl _) rfl (aE (λH=>?_) λH=>?_)
 .rw[cK]at H
  refine hS (bs:=SB) (o1.ext q) (zA (bs:=SB) s R (dI u.size J.size) (u.trans q) (ED _) λh' e=>⟨rfl,e,(s,()),rfl,?_⟩);unfold kE;rw[if_neg A,if_pos H]
 rw[dS]at H;refine C (b:=bI) (x:=s.1) (Ext.refl _) rfl (D (b:=bI) (x:=o.1) (Ext.refl _) rfl (C (b:=bI) (x:=s.2.1) (Ext.refl _) rfl (D (b:=bI) (x:=o.2.1) (Ext.refl _) rfl
  (C (b:=bI) (x:=s.2.2.1) (Ext.refl _) rfl (D (b:=bI) (x:=o.2.2.1) (Ext.refl _) rfl (C (b:=.bool) (x:=s.2.2.2.1) (Ext.refl _) rfl (D (b:=.bool) (x:=o.2.2.2.2.1) (Ext.refl _) rfl ?_)))))))
 rw[aX (a:=s.1) (by omega) (by omega),aX (a:=s.2.1) (by omega) (by omega),aX (a:=s.2.2.1) (by omega) (by omega)];refine HQ (bs:=SB) (z:=zS) (s.1+o.1,s.2.1+o.2.1,s.2.2.1+o.2.2.1,s.2.2.2.1,o.2.2.2.2.1,()) (by decide) (ED _) λh4 L T=>?_;have F:kE s o=(s.1+o.1,s.2.1+o.2.1,s.2.2.1+o.2.2.1-Oz s o,s.2.2.2.1,o.2.2.2.2.1,()):=by unfold kE;rw[if_neg A,if_neg H]
 refine dB (λt U h'=>t=0/\U=[]/\Ext E h'/\cA E.size 1 h' ⟨some ⟨E.size,0,none⟩,5,5⟩ (Bs.inj SB (kE s o))) ?_ ?_
 .refine bZ (s.2.2.2.2.1=true/\o.2.2.2.1=true) ?_ λbb W r hb=>aE (λp=>?_) λp=>?_
  .refine C (b:=.bool) (x:=s.2.2.2.2.1) L rfl (aE (λp=>?_) λp=>aC ⟨rfl,Ext.refl _,false,rfl,Iff.intro (λh=>by cases h) λh=>by rw[h.1]at p;cases p⟩)
   exact D (b:=.bool) (x:=o.2.2.2.1) L rfl (aC ⟨rfl,Ext.refl _,_,rfl,λh=>⟨p,h⟩,λh=>h.2⟩)
  .have G:Oz s o=1:=by unfold Oz;rw[if_pos (hb.1 p)]
   refine bC (b:=bI) _ (s.2.2.1+o.2.2.1) rfl (aI.1 (T.ext r).cells 2 _ rfl) ?_;rw[bY (by omega) (by omega)];refine fA (vs:=Bs.inj SB (s.1+o.1,s.2.1+o.2.1,s.2.2.1+o.2.2.1,s.2.2.2.1,o.2.2.2.2.1,())) (iv (s.2.2.1+o.2.2.1-1)) (T.ext r) (by simp[Bs.inj]) rfl λh6 o6 X=>aC ⟨rfl,rfl,?_,?_⟩
   .exact jU.jQ (L.trans r) X (by intro x p;cases p;exact bM _)
   .rw[F,G];exact o6
  .refine aC ⟨rfl,rfl,L.trans r,?_⟩
   have G:Oz s o=0:=by unfold Oz;rw[if_neg λk=>by rw[hb.2 k]at p;cases p]
   rw[F,G,Int.sub_zero];exact T.ext r
 .rintro t U W ⟨rfl,rfl,r,o5⟩
  exact bE (bO (hS (bs:=SB) o5 (zA (bs:=SB) (kE s o) (R.ext r) (dI u.size J.size) ((u.trans q).trans r) (ED _) λh' e=>⟨rfl,e,(kE s o,()),rfl,rfl⟩)))
theorem VS.zero:VS 0 zS:=⟨by decide,by decide,by decide,by decide,by decide,by decide,λ_=>rfl,λh=>by cases h⟩
def part(S:cH)(Z:Nat->Prop):iJ where
 iB:=PB
 sB:=SB
 zi:=zP
 zs:=zS
 mF:=mC S
 aF:=lD S
 kF:=xL S
 f1:=S.jI
 f2:=S.mM
 xi:=λp=>VS (WI p) (Jv p)
 wt:=WI
 V:=VS
 LK:=Jv
 add:=kE
 key:=Hu
 Z:=Z
theorem Ch(S:cH)(Z:Nat->Prop):(part S Z).Ok P where
 i1:=(by decide:1<=7/\7<=100)
 s1:=(by decide:1<=5/\5<=100)
 fi:=xD
 fs:=ED
 w1:=λx=>by show 1<=WI x;unfold WI;omega
 v0:=VS.zero
 vm:=λx h=>h
 va:=λn m s o v w=>v.add w
 mono:=λn m s v h=>v.mono h
 az:=λn s v=>Em v
 za:=λn s v=>MI s
 assoc:=λn m k x y z a b c=>MH a b c
 wy:=λk=>by show Hu zS k=0;unfold Hu zS;(repeat' split)<;>rfl
 wz:=λn m s o k v w=>XE v w k
 cm:=λh x _=>W2 (S:=S)
 ca:=λh n m s o v w e=>YF (S:=S) v w e
 ck:=λh n s k v _=>vo (S:=S) (n:=n)
variable{Z:Nat->Prop}
theorem QB(S:cH)(Z:Nat->Prop):∀n,iC n S=CM n (part S Z)
 |0=>rfl
 |n+1=>by
  funext items
  show iC (n+1) S items=_;unfold iC;rw[QB S Z n];rfl
theorem Zx(S:cH)(Z:Nat->Prop):∀n,iR n S=F9 n (part S Z)
 |0=>rfl
 |n+1=>by
  funext l x r
  show iR (n+1) S l x r=_;unfold iR;rw[Zx S Z n];rfl
theorem Wd(S:cH)(Z:Nat->Prop):lX S=JX (part S Z):=by
 funext l x r
 unfold lX JX;simp only[Zx S Z]
theorem kj(S:cH)(Z:Nat->Prop):∀n,jK n S=JY n (part S Z)
 |0=>rfl
 |n+1=>by
  funext p i
  show jK (n+1) S p i=_;unfold jK;rw[kj S Z n,Wd S Z];rfl
theorem Wc(S:cH)(Z:Nat->Prop):∀n,jD n S=EU n (part S Z)
 |0=>rfl
 |n+1=>by
  funext p
  show jD (n+1) S p=_;unfold jD;rw[Wc S Z n];rfl
theorem ri(S:cH)(Z:Nat->Prop):oI S=JW (part S Z):=by
 funext l r
 unfold oI JW vN VH;rw[Wd S Z];simp only[Wc S Z];rfl
theorem yx(S:cH)(Z:Nat->Prop)(s:Sl):vY S s=fa (part S Z) s:=by
 unfold vY fa nD LQ;simp only[QB S Z]
theorem XD(S:cH)(Z:Nat->Prop)(t:OA×Unit)(i j:Int)(s:Sl):nZ S t i j s=F8 (part S Z) t i j s:=by
 unfold nZ F8 nD LQ tX VG;rw[ri S Z];simp only[QB S Z,kj S Z];rfl
end
section
open Go.Sw.Codec
variable{l:bB}{ts:List (Int×Int)}
def Lq(enc:Int):Nat->bB->List (Int×Int)
 |0,_=>[]
 |n+1,l=>if l.length=0 then [] else eJ enc l::Lq enc n (l.drop (eJ enc l).2.toNat)
def bH(enc:Int)(l:bB):List (Int×Int):=Lq enc l.length l
theorem Jz{enc:Int}:∀(n m:Nat) (l:bB),cC l->l.length<=n->l.length<=m->Lq enc n l=Lq enc m l:=by
 intro n
 induction n with
 |zero=>
  intro m l hb c hm;cases m with
  |zero=>rfl
  |succ m=>simp only[Lq];rw[if_pos (by omega)]
 |succ n e=>
  intro m l hb c hm;cases m with
  |zero=>simp only[Lq];rw[if_pos (by omega)]
  |succ m=>
   simp only[Lq];by_cases b:l.length=0
   .rw[if_pos b,if_pos b]
   .rw[if_neg b,if_neg b]
    have:=jM (enc:=enc) (l:=l) (by omega) hb;rw[e m _ (hb.drop _) (by rw[cV];omega) (by rw[cV];omega)]
theorem mJ{enc:Int}(h:l.length=0):bH enc l=[]:=by unfold bH;rw[h];rfl
theorem jY{enc:Int}(hb:cC l)(h:0<l.length):bH enc l=eJ enc l::bH enc (l.drop (eJ enc l).2.toNat):=by
 have:=jM (enc:=enc) h hb;unfold bH;rw[Jz l.length (l.length-1+1) l hb (by omega) (by omega)];simp only[Lq];rw[if_neg (by omega),Jz (l.length-1) (l.drop (eJ enc l).2.toNat).length _ (hb.drop _) (by rw[cV];omega) (by omega)]
theorem Gb{enc:Int}{M:bB->Prop}(h0:∀l,l.length=0->M l)(h1:∀l,cC l->0<l.length->M (l.drop (eJ enc l).2.toNat)->M l):∀l,cC l->M l:=by
 have:∀(n:Nat) (l:bB),l.length=n->cC l->M l:=by
  intro n
  induction n using Nat.strongRecOn with
  |ind n c=>
   intro l e hb;by_cases b:l.length=0
   .exact h0 l b
   .have f:=jM (enc:=enc) (l:=l) (by omega) hb
    exact h1 l hb (by omega) (c _ (by rw[cV];omega) _ rfl (hb.drop _))
 exact λl hb=>this _ l rfl hb
def dM(ts:List (Int×Int)):Nat:=(ts.map λt=>t.2.toNat).sum
theorem FL:dM []=0:=rfl
theorem nA(t:Int×Int)(ts:List (Int×Int)):dM (t::ts)=t.2.toNat+dM ts:=by simp[dM]
theorem jO(a b:List (Int×Int)):dM (a++b)=dM a+dM b:=by simp[dM]
theorem Gt{enc:Int}(hb:cC l):dM (bH enc l)=l.length:=by
 refine Gb (enc:=enc) (M:=λl=>dM (bH enc l)=l.length) (λl c=>?_) (λl hb b e=>?_) l hb
 .rw[mJ c,c];rfl
 .have f:=jM (enc:=enc) b hb
  rw[jY hb b,nA,e,cV];omega
theorem Kv{enc:Int}(hb:cC l):∀t,t∈bH enc l->1<=t.2/\t.2<=4:=by
 refine Gb (enc:=enc) (M:=λl=>∀t,t∈bH enc l->1<=t.2/\t.2<=4) (λl e t ht=>?_) (λl hb b f t ht=>?_) l hb
 .rw[mJ e]at ht;cases ht
 .have c:=jM (enc:=enc) b hb
  rw[jY hb b]at ht;rcases eH.1 ht with rfl|ht
  .exact⟨c.1,c.2.1⟩
  .exact f t ht
theorem P2{enc:Int}(hb:cC l):∀t,t∈bH enc l->cX .i64 t.1:=by
 refine Gb (enc:=enc) (M:=λl=>∀t,t∈bH enc l->cX .i64 t.1) (λl c t ht=>?_) (λl hb b e t ht=>?_) l hb
 .rw[mJ c]at ht;cases ht
 .rw[jY hb b]at ht
  rcases eH.1 ht with rfl|ht
  .exact S7 hb
  .exact e t ht
theorem zY{enc:Int}(hb:cC l):(bH enc l).length<=l.length/\(0<l.length->0<(bH enc l).length)/\l.length<=4*(bH enc l).length:=by
 refine Gb (enc:=enc) (M:=λl=>(bH enc l).length<=l.length/\(0<l.length->0<(bH enc l).length)/\l.length<=4*(bH enc l).length) (λl c=>?_) (λl hb b e=>?_) l hb
 .rw[mJ c];simp[c]
 .have g:=jM (enc:=enc) b hb
  have:=e.1;have f:=e.2.2;rw[cV]at this f;rw[jY hb b];simp only[fK];exact⟨by omega,λ_=>by omega,by omega⟩
theorem pO{enc:Int}(hb:cC l):∀n,n<=(bH enc l).length->Un enc l (dM ((bH enc l).take n))/\bH enc (l.drop (dM ((bH enc l).take n)))=(bH enc l).drop n:=by
 intro n
 induction n with
 |zero=>intro _;rw[R6,FL,Ej,Ej];exact⟨.zero,rfl⟩
 |succ n o=>
  intro p;obtain⟨f,b⟩:=o (by omega);have g:(bH enc l).drop n=(bH enc l)[n]::(bH enc l).drop (n+1):=gY (by omega);generalize j:dM ((bH enc l).take n)=k at f b;have c:0<(l.drop k).length:=by
   by_cases m:(l.drop k).length=0
   .rw[mJ m,g]at b;cases b
   .omega
  have e:=jY (enc:=enc) (hb.drop k) c;rw[b,g,JQ]at e;have ht:(bH enc l).take (n+1)=(bH enc l).take n++[(bH enc l)[n]]:=by rw[eN,cL (by omega)];rfl
  rw[ht,jO,nA,FL,F2,j,e.1];rw[cV]at c;exact⟨f.step (by omega),by rw[<-Eh,<-e.2]⟩
theorem Gu{enc:Int}(hb:cC l):∀n,n<=(bH enc l).length->bH enc (l.take (dM ((bH enc l).take n)))=(bH enc l).take n:=by
 refine Gb (enc:=enc) (M:=λl=>∀n,n<=(bH enc l).length->bH enc (l.take (dM ((bH enc l).take n)))=(bH enc l).take n) (λl k n b=>?_) (λl hb f m n b=>?_) l hb
 .rw[mJ k];simp[dM];exact mJ rfl
 .cases n with
  |zero=>simp[dM];exact mJ rfl
  |succ n=>
   have hm:=(pO hb (n+1) b).1;have o:=jM (enc:=enc) f hb;have e:=jY (enc:=enc) hb f;rw[e]at hm b⊢;rw[JO,nA]at hm⊢;rw[fK]at b;have g:=hm.le hb;generalize j:dM ((bH enc (l.drop (eJ enc l).2.toNat)).take n)=m' at hm g⊢;have c:=OW hb hm .zero (by omega);rw[Ej,Ej]at c;rw[jY (hb.take _) (by rw[dJ];omega),c,Mm,BE,<-j,m n (by omega)]
def BJ(t:Int×Int):oX:=(1,t.2,if t.1=10\/t.1=13 then 1 else 0,decide (t.1=10),decide (t.1=13),())
def qX(ts:List (Int×Int)):oX:=ts.foldl (λs t=>kE s (BJ t)) zS
theorem VS.one{t:Int×Int}(h:1<=t.2/\t.2<=4):VS 1 (BJ t):=by
 unfold BJ;refine⟨by dsimp only;omega,by dsimp only;omega,by dsimp only;omega,by dsimp only;omega,?_,?_,(λh=>by cases h),λh=>?_⟩
 .dsimp only;split<;>omega
 .dsimp only;split<;>omega
 .dsimp only at h⊢
  rw[decide_eq_true_eq]at h;rw[if_pos (.inl h)];omega
def TI(ts:List (Int×Int)):Prop:=∀t,t∈ts->1<=t.2/\t.2<=4
theorem TI.take{a:List (Int×Int)}(h:TI a)(n:Nat):TI (a.take n):=λt ht=>h t (rU ht)
theorem TI.drop{a:List (Int×Int)}(h:TI a)(n:Nat):TI (a.drop n):=λt ht=>h t (BD ht)
theorem wu(h:TI ts):∀{n:Nat} {s:oX},VS n s->VS (n+ts.length) (ts.foldl (λs t=>kE s (BJ t)) s):=by
 induction ts with
 |nil=>intro n s v;exact v
 |cons t ts c=>
  intro n s v;have:=c (λx b=>h x (eK _ b)) (v.add (VS.one (h t (eO ..))));exact this.mono (by simp only[fK];omega)
theorem VS.qX{ts:List (Int×Int)}(h:TI ts):VS ts.length (qX ts):=(wu h VS.zero).mono (by omega)
theorem XA(h:TI ts):∀{n m:Nat} {s o:oX},VS n s->VS m o->ts.foldl (λs t=>kE s (BJ t)) (kE s o)=kE s (ts.foldl (λs t=>kE s (BJ t)) o):=by
 induction ts with
 |nil=>intros;rfl
 |cons t ts c=>
  intro n m s o v w;have ht:=VS.one (h t (eO ..));simp only[CD];rw[MH v w ht];exact c (λx b=>h x (eK _ b)) v (w.add ht)
theorem Lo{a b:List (Int×Int)}(ha:TI a)(hb:TI b):qX (a++b)=kE (qX a) (qX b):=by
 unfold Piece.qX;rw[GC];have:=XA hb (VS.qX ha) VS.zero;rw[Em (VS.qX ha)]at this;exact this
theorem X6(a:List (Int×Int))(t:Int×Int):qX (a++[t])=kE (qX a) (BJ t):=by unfold qX;rw[GC];rfl
theorem i_(h:TI ts):∀{n:Nat} {s:oX},VS n s->(ts.foldl (λs t=>kE s (BJ t)) s).1=s.1+ts.length/\(ts.foldl (λs t=>kE s (BJ t)) s).2.1=s.2.1+dM ts:=by
 induction ts with
 |nil=>intro n s v;simp[dM]
 |cons t ts g=>
  intro n s v;have ht:=h t (eO ..);have b:=g (λx e=>h x (eK _ e)) (v.add (VS.one ht));have c:(kE s (BJ t)).1=s.1+1/\(kE s (BJ t)).2.1=s.2.1+t.2:=by
   unfold kE;by_cases h0:s.1=0
   .rw[if_pos h0]
    have f:=v.2.2.2.2.2.2.1 h0;rw[f];exact⟨rfl,by show t.2=(0:Int)+t.2;omega⟩
   .rw[if_neg h0,if_neg (show(BJ t).1≠0 by show(1:Int)≠0;decide)];exact⟨rfl,rfl⟩
  rw[CD,b.1,b.2,c.1,c.2,nA,fK];omega
theorem D9(h:TI ts):(qX ts).1=ts.length/\(qX ts).2.1=dM ts:=by
 have b:=i_ h VS.zero;have e:zS.1=0/\zS.2.1=0:=⟨rfl,rfl⟩;rw[e.1,e.2]at b;unfold qX;omega
end
section
open Go.Sw.Any Go.Sw.Codec
open Go.Sw.Tree (iv fP jR jX mW oR kM rL kK dQ)
variable{P:Program}{S:cH}{h:aG}{Q:Nat->bG->aG->Prop}
variable{l:bB}
theorem V7(a b:Int):gM a b=decide (a=b):=by
 by_cases h:a=b
 .rw[cK.2 h,decide_eq_true h]
 .rw[dS.2 h,decide_eq_false h]
theorem Y2{atom size:Int}:aS P (vR S atom size) [.agg SB] h λ(y:oX×Unit) _=>y.1=BJ (atom,size):=by
 unfold vR aS;refine gN (bs:=SB) zS (by decide) λg o o1=>?_;rw[V7,V7];refine HQ (bs:=SB) (z:=zS) (1,size,0,decide (atom=10),decide (atom=13),()) (by decide) (ED _) λu j o2=>?_;refine dB (λt n h'=>t=0/\n=[]/\Ext g h'/\cA g.size 1 h' ⟨some ⟨g.size,0,none⟩,5,5⟩ (Bs.inj SB (BJ (atom,size)))) ?_ ?_
 .refine bZ (atom=10\/atom=13) ?_ λr p f hb=>aE (λc=>?_) λc=>?_
  .refine bC (b:=.bool) _ (decide (atom=10)) rfl (aI.1 o2.cells 3 _ rfl) (aE (λc=>aC ⟨rfl,Ext.refl _,true,rfl,Iff.intro (λ_=>.inl (of_decide_eq_true c)) λ_=>rfl⟩) λc=>?_)
   have m:=of_decide_eq_false c;exact bC (b:=.bool) _ (decide (atom=13)) rfl (aI.1 o2.cells 4 _ rfl) (aC ⟨rfl,Ext.refl _,_,rfl,λh=>.inr (of_decide_eq_true h),λh=>decide_eq_true (h.resolve_left m)⟩)
  .refine fA (vs:=Bs.inj SB (1,size,0,decide (atom=10),decide (atom=13),())) (iv 1) (o2.ext f) (by simp[Bs.inj]) rfl λv o6 q=>aC ⟨rfl,rfl,jU.jQ (j.trans f) q (by intro x c;cases c;exact bM _),?_⟩
   have:BJ (atom,size)=(1,size,1,decide (atom=10),decide (atom=13),()):=by unfold BJ;dsimp only;rw[if_pos (hb.1 c)]
   rw[this];exact o6
  .refine aC ⟨rfl,rfl,j.trans f,?_⟩
   have:BJ (atom,size)=(1,size,0,decide (atom=10),decide (atom=13),()):=by unfold BJ;dsimp only;rw[if_neg λk=>by rw[hb.2 k]at c;cases c]
   rw[this];exact o2.ext f
 .rintro t n p ⟨rfl,rfl,f,o5⟩
  exact bE (bO (hS (bs:=SB) o5 (zA (bs:=SB) (BJ (atom,size)) (o1.ext f) (bM _) (o.trans f) (ED _) λh' e=>⟨rfl,e,(BJ (atom,size),()),rfl,rfl⟩)))
def mkS(b:Sl)(tag:Int)(s:oX):Part:=(b,tag,s.1,s.2.1,s.2.2.1,s.2.2.2.1,s.2.2.2.2.1,())
def XJ(b:Sl)(tag:Int)(ts:List (Int×Int)):Part:=mkS b tag (qX ts)
theorem oN{enc:Int}(hb:cC l):TI (bH enc l):=Kv hb
theorem Ge(M:kB P S){enc:Int}(he:eL enc){b:Sl}{tag:Int}(hb:kW .u8 h b l)(hl:l.length<=1099511627776) :
  aS P (lC S enc b tag) [.agg PB] h λ(y:Part×Unit) _=>y.1=XJ b tag (bH enc l):=by
 have f:cC l:=hb.wf;have C:=hb.len;have D:=oN (enc:=enc) f;unfold lC aS;refine gN (bs:=PB) zP (by decide) λj J o1=>HQ (bs:=PB) (z:=zP) (mkS b tag zS) (by decide) (xD _) λF W o2=>?_;refine dQ (G:=Nat) (λn (r:Int×Unit) h'=>n<=(bH enc l).length/\r.1=dM ((bH enc l).take n)/\Ext j h'/\cA j.size 1 h' ⟨some ⟨j.size,0,none⟩,7,7⟩ ([.slice b.aD b.len b.cap,iv tag]++Bs.inj SB (qX ((bH enc l).take n)))) (λn=>(bH enc l).length-n)
  (λt V h'=>t=2/\V=[]/\Ext j h'/\cA j.size 1 h' ⟨some ⟨j.size,0,none⟩,7,7⟩ (Bs.inj PB (XJ b tag (bH enc l)))) 0 ⟨cN _,rfl,W,o2⟩ ?_ ?_
 .rintro n ⟨(r:Int),u⟩ X ⟨hn,T,q,v⟩
  dsimp only at T⊢;subst T;obtain⟨B,A⟩:=pO (enc:=enc) f n hn;have hle:=B.le f;generalize Y:dM ((bH enc l).take n)=k at B A hle⊢;refine aE (λH=>?_) λH=>?_
  .rw[aU,aN,C]at H
   have N:k<l.length:=by omega
   have g:=jY (enc:=enc) (f.drop k) (by rw[cV];omega);rw[A]at g;have w:n<(bH enc l).length:=by
    by_cases c:n<(bH enc l).length
    .exact c
    .rw[uL (by omega)]at g;cases g
   rw[gY w,JQ]at g;have U:=D _ (CK w);have p:(bH enc l).take (n+1)=(bH enc l).take n++[(bH enc l)[n]]:=by rw[eN,cL w];rfl
   refine aM (Qh M (hb.ext (J.trans q))) λ⟨(a:Int),(sz:Int),_⟩ h4 E c=>?_;have c:(a,sz)=eJ enc (l.drop k):=by
    rcases c with⟨R,_,_⟩|⟨_,_,_,c⟩
    .rcases R with h|h|h
     .exact absurd he h
     .omega
     .omega
    .rw[cS]at c;exact c
   rw[<-g.1]at c;dsimp only;refine N9 (v.ext E) rfl (aM Y2 λ⟨(o:oX),_⟩ h5 K m=>?_);have m:o=BJ (a,sz):=m;subst m;dsimp only;have o5:=(v.ext E).ext K;refine Bx (a:=(⟨j.size,0,none⟩:Addr).add 2) rfl (CU (post:=[]) (by rw[kQ];exact o5.cells) rfl) ?_;rw[c];have v1:=VS.qX (D.take n);have v2:=VS.one U;have hlen:=zY (enc:=enc) f;refine aM (YF v1 v2 (by rw[dJ];omega)) λ⟨(o:oX),_⟩ h6 L m=>?_;have m:o=_:=m;subst m;dsimp only;refine Dn (Bs.inj SB (kE (qX ((bH enc l).take n)) (BJ ((bH enc l)[n])))) (o5.ext L) rfl rfl (ED _) λh7 o7 u7=>?_;have ab:sz=(bH enc l)[n].2:=congrArg Prod.snd c;rw[aX (by omega) (by omega)];refine aC ⟨λ_=>⟨n+1,((k:Int)+sz,()),rfl,⟨by omega,?_,jU.jQ (((q.trans E).trans K).trans L) u7 (by intro x c;cases c;exact bM _),?_⟩,by omega⟩,λh=>absurd rfl h⟩
   .dsimp only
    rw[p,jO,nA,FL,Y];omega
   .rw[p,X6];exact o7
  .rw[aY,aN,C]at H
   have N:k=l.length:=by omega
   have O:(bH enc l).take n=bH enc l:=by
    have:(bH enc l).drop n=[]:=by rw[<-A];exact mJ (by rw[cV];omega)
    have F:=eY n (bH enc l);rw[this,kQ]at F;exact F
   rw[O]at v;exact aC ⟨λh=>absurd h (by decide),λ_=>⟨rfl,rfl,q,v⟩⟩
 .rintro t V X ⟨rfl,rfl,q,v⟩
  exact bE (bO (hS (bs:=PB) v (zA (bs:=PB) (XJ b tag (bH enc l)) (o1.ext q) (bM _) (J.trans q) (xD _) λh' e=>⟨rfl,e,(_,()),rfl,rfl⟩)))
def Kt(tag:Int)(k:Nat):Int:=if 0<=tag then tag+k else tag
def FA(enc:Int)(p:Part)(l:bB)(n:Nat):Part:=XJ ⟨p.1.aD,dM ((bH enc l).take n),dM ((bH enc l).take n)⟩ p.2.1 ((bH enc l).take n)
def He(enc:Int)(p:Part)(l:bB)(n:Nat):Part:=
 XJ ⟨bK p.1.aD p.1.cap (dM ((bH enc l).take n)) 1,p.1.len-dM ((bH enc l).take n),p.1.cap-dM ((bH enc l).take n)⟩ (Kt p.2.1 (dM ((bH enc l).take n))) ((bH enc l).drop n)
theorem VX(M:kB P S){enc:Int}(he:eL enc){p:Part}{n:Int}(hb:kW .u8 h p.1 l)(hl:l.length<=1099511627776)(h0:0<=n)(hn:n<=(bH enc l).length)(ht : -1<=p.2.1/\p.2.1<=1099511627776) :
  aS P (dT S p enc n) [.agg PB, .agg PB] h λ(y:Part×Part×Unit) _=>y.1=FA enc p l n.toNat/\y.2.1=He enc p l n.toNat:=by
 have f:cC l:=hb.wf;have ao:=hb.len;have a7:=hb.cap;have a8:=hb.max;have a4:=oN (enc:=enc) f;have hlen:=zY (enc:=enc) f;unfold dT aS;refine gN (bs:=PB) p (by decide) λh1 e1 o1=>gN (bs:=PB) zP (by decide) λh2 e2 o2=>gN (bs:=PB) zP (by decide) λR e3 o3=>?_;have E:=e1.trans (e2.trans e3);have O:=o1.ext (e2.trans e3);have C:∀{h'} {K:Sl->aK} {Q:Nat->bG->aG->Prop},Ext R h'->wp P (K p.1) h' Q->wp P (.load (tS) (aB (some ⟨h.size,0,none⟩) 0) K) h' Q:=λe z=>bC (b:=.sl) _ p.1 rfl (aI.1 (O.ext e).cells 0 _ rfl) z;have ab:∀{h'} {K:Int->aK} {Q:Nat->bG->aG->Prop},Ext R h'->wp P (K p.2.1) h' Q->wp P (.load (tI) (aB (some ⟨h.size,0,none⟩) 1) K) h' Q:=λe z=>bC (b:=bI) _ p.2.1 rfl (aI.1 (O.ext e).cells 1 _ rfl) z;have J:=(pO (enc:=enc) f n.toNat (by omega)).1.le f;refine dQ (G:=Nat) (λm (r:Int×Int×Unit) h'=>m<=n.toNat/\r.1=n-m/\r.2.1=dM ((bH enc l).take m)/\Ext R h') (λm=>n.toNat-m)
  (λt vs h'=>t=2/\vs=[iv (dM ((bH enc l).take n.toNat))]/\Ext R h') 0 ⟨cN _,by dsimp only;omega,rfl,Ext.refl _⟩ ?_ ?_
 .rintro m ⟨(r:Int),(at_:Int),u⟩ h4 ⟨hm,hr,U,o⟩
  dsimp only at hr U⊢;subst hr;subst U;obtain⟨V,B⟩:=pO (enc:=enc) f m (by omega);have hle:=V.le f;generalize z:dM ((bH enc l).take m)=k at V B hle⊢;refine bZ (m<n.toNat) ?_ λbb h5 D v=>aE (λc=>?_) λc=>?_
  .refine aE (λw=>C o (aC ⟨rfl,Ext.refl _,_,rfl,?_⟩)) λw=>aC ⟨rfl,Ext.refl _,false,rfl,?_⟩
   .rw[dL]at w
    rw[aU,aN,ao];refine⟨λ_=>by omega,λ_=>?_⟩;have A:m<(bH enc l).length:=by omega
    by_cases c:(k:Int)<l.length
    .exact c
    .have:(bH enc l).drop m=[]:=by rw[<-B];exact mJ (by rw[cV];omega)
     rw[R7]at this;omega
   .rw[gD]at w
    exact Iff.intro (λh=>by cases h) λh=>by omega
  .have bd:=v.1 c
   have A:m<(bH enc l).length:=by omega
   have T:(bH enc l).take (m+1)=(bH enc l).take m++[(bH enc l)[m]]:=by rw[eN,cL A];rfl
   have ba:k<l.length:=by
    by_cases c:k<l.length
    .exact c
    .have:(bH enc l).drop m=[]:=by rw[<-B];exact mJ (by rw[cV];omega)
     rw[R7]at this;omega
   have X:=jY (enc:=enc) (f.drop k) (by rw[cV];omega);rw[B,gY A,JQ]at X;have bo:=a4 _ (CK A);refine C (o.trans D) (aM (Qh M (hb.ext (E.trans (o.trans D)))) λ⟨(a:Int),(sz:Int),_⟩ h6 H c=>?_);have c:(a,sz)=eJ enc (l.drop k):=by
    rcases c with⟨aw,_,_⟩|⟨_,_,_,c⟩
    .rcases aw with h|h|h
     .exact absurd he h
     .omega
     .omega
    .rw[cS]at c;exact c
   rw[<-X.1]at c;have a9:sz=(bH enc l)[m].2:=congrArg Prod.snd c;dsimp only;rw[aX (by omega) (by omega),bY (by omega) (by omega)];refine aC ⟨λ_=>⟨m+1,(n-m-1,(k:Int)+sz,()),rfl,⟨by omega,by dsimp only;omega,?_,(o.trans D).trans H⟩,by omega⟩,λh=>absurd rfl h⟩;dsimp only;rw[T,jO,nA,FL,z];omega
  .have:¬m<n.toNat:=λh=>by rw[v.2 h]at c;cases c
   have:m=n.toNat:=by omega
   subst this;exact aC ⟨λh=>absurd h (by decide),λ_=>⟨rfl,by rw[z],o.trans D⟩⟩
 .rintro t vs h4 ⟨rfl,rfl,o⟩
  unfold FA He;have W:=Gu (enc:=enc) f n.toNat (by omega);have Y:=(pO (enc:=enc) f n.toNat (by omega)).2;generalize z:dM ((bH enc l).take n.toNat)=k at J W Y⊢;refine bE (fI (ab o ?_));refine gA (tys:=[tI]) (λ(x:Int×Unit) _=>x.1=Kt p.2.1 k) ?_ λ⟨(tg:Int),_⟩ h5 D c=>?_
  .unfold Kt
   refine aE (λw=>?_) λw=>?_
   .rw[dD]at w
    rw[aX (by omega) (by omega),if_pos w];exact aC ⟨rfl,Ext.refl _,(_,()),rfl,rfl⟩
   .rw[eR]at w
    rw[if_neg (by omega)];exact aC ⟨rfl,Ext.refl _,(_,()),rfl,rfl⟩
  have c:tg=_:=c;subst c;dsimp only;have g:=o.trans D;have al:bQ (k:Int)=k:=by rw[eX];omega
  refine C g (sS (fC.2 ⟨jF (by omega) (by omega),jF (by omega) (by omega)⟩) (ab g (C g (sS (jF (by omega) (by omega)) ?_))));rw[al,show cY k 0=k from rfl,eW];have v:=hb.ext (E.trans g);refine aM (Ge M he (tag:=p.2.1) (v.take (n:=k) (m:=k) J (bM _) (by omega)) (by rw[dJ];omega)) λ⟨(y1:Part),_⟩ h6 H L=>?_;have L:y1=_:=L;subst L;dsimp only;refine sR (q:=⟨h.size,0,none⟩) (j:=0) (aI.1 (O.ext (g.trans H)).cells 0 _ rfl) ?_;refine aM (Ge M he (tag:=Kt p.2.1 k) ((v.ext H).tail (i:=k) J) (by rw[cV];omega)) λ⟨(y2:Part),_⟩ h7 e7 N=>?_;have N:y2=_:=N;subst N;dsimp only;have F:=(g.trans H).trans e7;rw[W,Y];refine mX (bs:=PB) (XJ ⟨p.1.aD,k,k⟩ p.2.1 ((bH enc l).take n.toNat)) ((o2.ext e3).ext F) (xD _) λh8 o8 u8=>?_;have b1:=(o1.lt rfl).2;have b2:=(o2.lt rfl).2;dsimp only at b1 b2;have a0:=HF (o3.ext F) u8 (by dsimp only;omega);refine mX (bs:=PB) (XJ ⟨bK p.1.aD p.1.cap k 1,p.1.len-k,p.1.cap-k⟩ (Kt p.2.1 k) ((bH enc l).drop n.toNat)) a0 (xD _) λh9 o9 u9=>?_;have a3:=HF o8 u9 (by dsimp only;omega);refine hS (bs:=PB) a3 (hS (bs:=PB) o9 (aC ⟨rfl,?_,(_,_,()),rfl,rfl,rfl⟩));exact jU.jQ (jU.jQ (E.trans F) u8 (by intro x c;cases c;dsimp only;have:=e1.size;omega)) u9 (by intro x c;cases c;dsimp only;have:=e1.size;have:=e2.size;omega)
end
section
open Go.Sw.Any Go.Sw.Codec
open Go.Sw.Tree (iv fP jR jX mW oR kM rL kK dQ lB)
variable{P:Program}{S:cH}{h:aG}{Q:Nat->bG->aG->Prop}
variable{h':aG}
abbrev aH(x:Int):Value:=.int .i64 x
abbrev dN(s:Sl):Value:=.slice s.aD s.len s.cap
def iH(tag:Int):Nat->List (Int×Int)->List (Int×Int)
 |_,[]=>[]
 |o,t::ts=>(t.1,if tag<0 then -1 else tag+o)::iH tag (o+t.2.toNat) ts
theorem Fu(tag:Int):∀(ts:List (Int×Int)) (o:Nat),(iH tag o ts).length=ts.length
 |[],_=>rfl
 |t::ts,o=>by simp only[iH,fK,Fu tag ts]
theorem Pw(tag:Int):∀(ts:List (Int×Int)) (o n:Nat),(iH tag o ts).take n=iH tag o (ts.take n)
 |[],o,n=>by simp[iH]
 |t::ts,o,0=>by simp[iH]
 |t::ts,o,n+1=>by simp only[iH,JO,Pw tag ts]
theorem J5(tag:Int):∀(ts:List (Int×Int)) (o n:Nat),(iH tag o ts).drop n=iH tag (o+dM (ts.take n)) (ts.drop n)
 |[],o,n=>by simp[iH]
 |t::ts,o,0=>by simp[dM]
 |t::ts,o,n+1=>by simp only[iH,List.drop_succ_cons,JO,J5 tag ts,nA,BC]
theorem Nf{tag:Int}(k:Nat):∀(ts:List (Int×Int)) (o:Nat),iH (Kt tag k) o ts=iH tag (o+k) ts
 |[],o=>rfl
 |t::ts,o=>by
  simp only[iH,Nf k ts];rw[show o+t.2.toNat+k=o+k+t.2.toNat by omega]
  congr 1
  unfold Kt;by_cases h:0<=tag
  .rw[if_pos h,if_neg (by omega),if_neg (by omega)];congr 1;omega
  .rw[if_neg h,if_pos (by omega),if_pos (by omega)]
abbrev Pc:=Part×bB
def zK(enc:Int)(q:Pc):List (Int×Int):=iH q.1.2.1 0 (bH enc q.2)
def iG(enc:Int)(ps:List Pc):List (Int×Int):=ps.flatMap (zK enc)
def cQ(enc:Int)(ps:List Pc):List (Int×Int):=ps.flatMap λq=>bH enc q.2
def dR(ps:List Pc):bB:=ps.flatMap λq=>q.2
theorem yU(enc:Int)(ps:List Pc):(iG enc ps).length=(cQ enc ps).length:=by
 induction ps with
 |nil=>rfl
 |cons q ps b=>
  unfold iG cQ at b⊢;rw[gB,gB,bP,bP,b];unfold zK;rw[Fu]
structure St where
 root:OA
 t:Bt Part
 ps:List Pc
structure TX where
 p:Addr
 enc:Int
 limit:Int
 cur:St
 kept:List St
 ad:Sl
 A:bB
 Z:Nat->Prop
structure AZ(h:aG)(T:TX)(q:Pc):Prop where
 lO:kW .u8 h q.1.1 q.2
 ne:0<q.2.length
 is:q.1=XJ q.1.1 q.1.2.1 (bH T.enc q.2)
 tag : -1<=q.1.2.1/\q.1.2.1+q.2.length<=65536
 len:q.2.length<=65536
 MN:∀a,q.1.1.aD=some a->T.Z a.block/\a.block≠T.p.block/\∀b,T.ad.aD=some b->a.block=b.block->a.spot=none/\a.off+q.2.length<=T.A.length
structure Lv(S:cH)(h:aG)(T:TX)(s:St):Prop where
 nd:Nd (part S T.Z) h s.root s.t
 ls:s.t.list=s.ps.map (·.1)
 Cx:∀q,q∈s.ps->AZ h T q
 small:(dR s.ps).length<=1099511627776
structure eP(S:cH)(n:Nat)(h:aG)(T:TX):Prop where
 enc:eL T.enc
 Bq:0<=T.limit/\T.limit<=65536
 ob:cA n 1 h ⟨some T.p,4,4⟩ [aH T.enc,aH T.limit, .pointer T.cur.root,dN T.ad]
 ad:bU n .u8 h T.ad T.A
 dz:∀b,T.ad.aD=some b->b.block≠T.p.block
 uz:∀b,T.ad.aD=some b->0<T.A.length
 cur:Lv S h T T.cur
 kept:∀s,s∈T.kept->Lv S h T s
 zp:T.Z T.p.block
 za:∀b,T.ad.aD=some b->T.Z b.block
 lo:∀i,T.Z i->n<=i/\i<h.size
theorem AZ.oY{F:Nat->Prop}{T:TX}{q:Pc}(r:AZ h T q)(c:aV F h h')(b:∀i,T.Z i->¬F i):AZ h' T q:=
 ⟨c.lO r.lO λa ha=>b _ (r.MN a ha).1,r.ne,r.is,r.tag,r.len,r.MN⟩
theorem Lv.oY{F:Nat->Prop}{h':aG}{T:TX}{s:St}(r:Lv S h T s)(c:aV F h h')(b:∀i,T.Z i->¬F i):Lv S h' T s:=
 ⟨r.nd.oY c λi _ f=>b i f,r.ls,λq e=>(r.Cx q e).oY c b,r.small⟩
theorem eP.oY{F:Nat->Prop}{n:Nat}{h':aG}{T:TX}(r:eP S n h T)(c:aV F h h')(b:∀i,T.Z i->¬F i):eP S n h' T where
 enc:=r.enc
 Bq:=r.Bq
 ob:=c.own r.ob λx e=>by cases e;exact b _ r.zp
 ad:=c.qH r.ad λx e=>b _ (r.za x e)
 dz:=r.dz
 uz:=r.uz
 cur:=r.cur.oY c b
 kept:=λs f=>(r.kept s f).oY c b
 zp:=r.zp
 za:=r.za
 lo:=λi hi=>⟨(r.lo i hi).1,mK (r.lo i hi).2 c.1⟩
theorem eP.ext{n:Nat}{T:TX}(r:eP S n h T)(e:Ext h h'):eP S n h' T:=r.oY (aV.bD (F:=λ_=>False) e) λ_ _ x=>x
theorem eP.c0{n:Nat}{T:TX}(r:eP S n h T):Sw.cell h (T.p.add 0)=some (aH T.enc):=aI.1 r.ob.cells 0 _ rfl
theorem eP.c1{n:Nat}{T:TX}(r:eP S n h T):Sw.cell h (T.p.add 1)=some (aH T.limit):=aI.1 r.ob.cells 1 _ rfl
theorem eP.c2{n:Nat}{T:TX}(r:eP S n h T):Sw.cell h (T.p.add 2)=some (.pointer T.cur.root):=aI.1 r.ob.cells 2 _ rfl
theorem eP.c3{n:Nat}{T:TX}(r:eP S n h T):Sw.cell h (T.p.add 3)=some (dN T.ad):=aI.1 r.ob.cells 3 _ rfl
theorem AZ.bytes{T:TX}{q:Pc}(r:AZ h T q):cC q.2:=r.lO.wf
theorem AZ.sum{T:TX}{q:Pc}(r:AZ h T q):Jv q.1=qX (bH T.enc q.2):=by rw[r.is];rfl
theorem AZ.wt{T:TX}{q:Pc}(r:AZ h T q):WI q.1=(bH T.enc q.2).length/\VS (WI q.1) (Jv q.1):=by
 have c:=D9 (oN (enc:=T.enc) r.bytes);have f:=(zY (enc:=T.enc) r.bytes).2.1 r.ne;have e:q.1.2.2.1=(qX (bH T.enc q.2)).1:=congrArg Prod.fst r.sum;have b:WI q.1=(bH T.enc q.2).length:=by unfold WI;rw[e,c.1];omega
 exact⟨b,by rw[b,r.sum];exact VS.qX (oN r.bytes)⟩
theorem Lv.wf{T:TX}{s:St}(r:Lv S h T s):(part S T.Z).wf s.t.list:=by
 intro x b;rw[r.ls]at b;obtain⟨q,c,rfl⟩:=dA.1 b;exact(r.Cx q c).wt.2
theorem xZ{enc:Int}{ps:List Pc}(hb:∀q,q∈ps->cC q.2):TI (cQ enc ps):=by
 intro t ht;obtain⟨q,b,ht⟩:=GB.1 ht;exact oN (hb q b) t ht
def Jw(l:List Part):oX:=l.foldl (λs r=>kE s (Jv r)) zS
theorem Vq{T:TX}:∀{ps:List Pc},(∀q,q∈ps->AZ h T q)->Jw (ps.map (·.1))=qX (cQ T.enc ps):=by
 intro ps;have gen:∀(qs pre:List Pc),(∀q,q∈pre++qs->AZ h T q)->(qs.map (·.1)).foldl (λs r=>kE s (Jv r)) (qX (cQ T.enc pre))=qX (cQ T.enc (pre++qs)):=by
  intro qs
  induction qs with
  |nil=>intro pre b;simp
  |cons q qs g=>
   intro pre b;have c:=b q (by simp);have hb:∀q,q∈pre->cC q.2:=λq f=>(b q (by simp[f])).bytes;have e:kE (qX (cQ T.enc pre)) (Jv q.1)=qX (cQ T.enc (pre++[q])):=by
    have:cQ T.enc (pre++[q])=cQ T.enc pre++bH T.enc q.2:=by simp[cQ]
    rw[this,Lo (xZ hb) (oN c.bytes),c.sum]
   rw[fS,CD,e,g (pre++[q]) (by simpa using b)];simp
 intro b;exact gen ps [] (by simpa using b)
theorem nu{T:TX}:∀{ps:List Pc},(∀q,q∈ps->AZ h T q)->((ps.map (·.1)).map WI).sum=(cQ T.enc ps).length:=by
 intro ps
 induction ps with
 |nil=>intro _;rfl
 |cons q ps e=>
  intro b;rw[fS,fS,Eg,e (λx c=>b x (eK _ c)),(b q (eO ..)).wt.1];simp[cQ]
theorem FX{enc:Int}:∀{ps:List Pc},(∀q,q∈ps->cC q.2)->(cQ enc ps).length<=(dR ps).length/\dM (cQ enc ps)=(dR ps).length:=by
 intro ps
 induction ps with
 |nil=>intro _;exact⟨bM _,rfl⟩
 |cons q ps f=>
  intro b;have g:=zY (enc:=enc) (b q (eO ..));have j:=Gt (enc:=enc) (b q (eO ..));have c:=f λx e=>b x (eK _ e);unfold cQ dR at c⊢;rw[gB,gB,bP,bP,jO];omega
theorem Lv.bytes{T:TX}{s:St}(r:Lv S h T s):∀q,q∈s.ps->cC q.2:=λq b=>(r.Cx q b).bytes
theorem Lv.W{T:TX}{s:St}(r:Lv S h T s):(part S T.Z).W s.t.list=(cQ T.enc s.ps).length:=by
 show(List.map WI s.t.list).sum=_;rw[r.ls,nu r.Cx]
theorem Lv.sum{T:TX}{s:St}(r:Lv S h T s):(part S T.Z).sum s.t.list=qX (cQ T.enc s.ps):=by
 show Jw s.t.list=_;rw[r.ls,Vq r.Cx]
theorem Lv.Yo{T:TX}{s:St}(r:Lv S h T s)(e:T.limit<=65536):(cQ T.enc s.ps).length<=1099511627776/\(part S T.Z).W s.t.list<=1099511627776:=by
 have b:=r.small;have c:=(FX (enc:=T.enc) r.bytes).1;rw[r.W];omega
theorem Lv.room{T:TX}{s:St}(r:Lv S h T s)(b:T.limit<=65536):(part S T.Z).W s.t.list<4398046511104:=RZ (r.Yo b).2 (by decide)
abbrev TR:=OA×Unit
theorem uK{n:Nat}{T:TX}{K:TR->aK}(r:eP S n h T)(c:wp P (K (T.cur.root,())) h Q):wp P (bF (aJ (some T.p))<|bF (aJ (some T.p))<|.load (.agg [.ptr]) (aB (some T.p) 2) K) h Q:=
 aL rfl (aL rfl ⟨T.p.add 2,rfl,(T.cur.root,()),aI.2 λj v b=>by
  match j,b with
  |0,b=>simp[Ty.cells,Bs.inj]at b;subst b;rw[add_zero'];exact r.c2
  |j+1,b=>simp[Ty.cells,Bs.inj]at b,c⟩)
theorem au{n:Nat}{T:TX}{K:Int->aK}(r:eP S n h T)(c:wp P (K T.enc) h Q):wp P (bF (aJ (some T.p))<|bF (aJ (some T.p))<|.load (tI) (aB (some T.p) 0) K) h Q:=
 aL rfl (aL rfl (bC (b:=bI) _ T.enc rfl r.c0 c))
theorem YO{n:Nat}{T:TX}(r:eP S n h T):aS P (tW S (T.cur.root,())) [.agg SB] h λ(x:oX×Unit) _=>x.1=qX (cQ T.enc T.cur.ps):=by
 have c:=r.cur.Yo r.Bq.2;have:=vt (Ch S T.Z (P:=P)) r.cur.nd r.cur.wf (rV (r.cur.room r.Bq.2));exact aS.mono this λx h' e b=>b.trans r.cur.sum
theorem VT{n:Nat}{T:TX}(r:eP S n h T):aS P (uH S (some T.p)) [tI] h λ(x:Int×Unit) _=>x.1=(iG T.enc T.cur.ps).length:=by
 unfold uH aS;refine uK r (aM (YO r) λx e c b=>aC ⟨rfl,c,(_,()),rfl,?_⟩);have b:x.1=_:=b;show x.1.1=_;rw[b,(D9 (xZ r.cur.bytes)).1,yU]
theorem Hj{n:Nat}{T:TX}(r:eP S n h T):aS P (BL S (some T.p)) [tI] h λ(x:Int×Unit) _=>x.1=(dR T.cur.ps).length:=by
 unfold BL aS;refine uK r (aM (YO r) λx e c b=>aC ⟨rfl,c,(_,()),rfl,?_⟩);have b:x.1=_:=b;show x.1.2.1=_;rw[b,(D9 (xZ r.cur.bytes)).2,(FX r.cur.bytes).2]
def Sq(enc:Int)(ps:List Pc)(at_:Int)(i n:Nat):Prop:=
 i<=ps.length/\(at_:Int)=(cQ enc (ps.take i)).length+n/\(at_=0->i=0/\n=0)/\(0<at_->∃q,ps[i]?=some q/\0<n/\n<=(bH enc q.2).length)
theorem Hf{enc:Int}(ps:List Pc)(i:Nat):(cQ enc (ps.take i)).length<=(cQ enc ps).length:=by
 have:cQ enc ps=cQ enc (ps.take i)++cQ enc (ps.drop i):=by unfold cQ;rw[<-gX,eY]
 rw[this,bP];omega
theorem HT{enc:Int}{ps:List Pc}{i:Nat}{q:Pc}(b:ps[i]?=some q):cQ enc (ps.take (i+1))=cQ enc (ps.take i)++bH enc q.2:=by
 rw[eN,b];simp[cQ]
theorem U5{T:TX}{ps:List Pc}(e:∀q,q∈ps->AZ h T q)(i:Nat):Hu (Jw ((ps.map (·.1)).take i)) 0=(cQ T.enc (ps.take i)).length:=by
 have c:(ps.map (·.1)).take i=(ps.take i).map (·.1):=Ef.symm;have b:∀q,q∈ps.take i->AZ h T q:=λq h=>e q (rU h);rw[c,Vq b];unfold Hu;rw[if_pos rfl,(D9 (xZ λq h=>(b q h).bytes)).1]
theorem Qi{n:Nat}{T:TX}{at_:Int}(r:eP S n h T)(h0:0<=at_)(h1:at_<=(cQ T.enc T.cur.ps).length) :
  aS P (rB S (some T.p) at_) [tI, tI] h λ(x:Int×Int×Unit) _=>∃i n:Nat,x.1=i/\x.2.1=n/\Sq T.enc T.cur.ps at_ i n:=by
 unfold rB aS;have A:=r.cur.Yo r.Bq.2;refine aE (λg=>?_) λg=>?_
 .rw[gE]at g
  have:at_=0:=by omega
  subst this;exact aC ⟨rfl,Ext.refl _,(0,0,()),rfl,0,0,rfl,rfl,cN _,rfl,λ_=>⟨rfl,rfl⟩,λh=>absurd h (by decide)⟩
 rw[mN]at g;refine uK r ?_;refine aM (R:=λ(x:Int×Unit) _=>Any.Found (part S T.Z) T.cur.t.list 0 at_ x.1) (ov (Ch S T.Z (P:=P)) r.cur.nd r.cur.wf (r.cur.room r.Bq.2)) λ⟨(f:Int),_⟩ o m b=>?_;have b:(f=0/\at_<=0)\/(1<=f/\f<=T.cur.t.list.length/\at_<=Hu (Jw (T.cur.t.list.take f.toNat)) 0/\Hu (Jw (T.cur.t.list.take (f.toNat-1))) 0<at_)\/(f=T.cur.t.list.length+1/\Hu (Jw T.cur.t.list) 0<at_):=b;dsimp only;have c:=r.ext m;have hlen:T.cur.t.list.length=T.cur.ps.length:=by rw[r.cur.ls,cE]
 have B:T.cur.ps.length<=1099511627776:=by have h1:=qO (Ch S T.Z (P:=P)) T.cur.t.list;have o:=dI h1 A.2;rw[<-hlen];exact o
 rw[r.cur.ls]at b;simp only[U5 r.cur.Cx]at b;rw[cE]at b;have k:Hu (Jw (T.cur.ps.map (·.1))) 0=(cQ T.enc T.cur.ps).length:=by
  have:=U5 r.cur.Cx T.cur.ps.length
  rwa [iW (by simp),iW (bM _)]at this
 rw[k]at b;obtain⟨C,D,z,E⟩:1<=f/\f<=T.cur.ps.length/\at_<=(cQ T.enc (T.cur.ps.take f.toNat)).length/\((cQ T.enc (T.cur.ps.take (f.toNat-1))).length:Int)<at_:=by
  rcases b with⟨_,b⟩|b|⟨_,b⟩
  .omega
  .exact b
  .omega
 refine uK c ?_;rw[bY (by omega) (by omega)];refine aM (R:=λ(x:oX×Unit) _=>x.1=Jw (T.cur.t.list.take (f-1).toNat)) (VV (Ch S T.Z (P:=P)) c.cur.nd c.cur.wf (c.cur.room c.Bq.2)) λ⟨(s:oX),_⟩ F w j=>?_;have j:s=_:=j;dsimp only;have hi:(f-1).toNat=f.toNat-1:=by omega
 have v:s.1=(cQ T.enc (T.cur.ps.take (f.toNat-1))).length:=by
  have:=U5 r.cur.Cx (f.toNat-1);rw[j,hi,r.cur.ls,<-this];rfl
 obtain⟨q,u⟩:∃q,T.cur.ps[f.toNat-1]?=some q:=⟨T.cur.ps[f.toNat-1]'(by omega),cL (by omega)⟩;have e:=HT (enc:=T.enc) u;rw[show f.toNat-1+1=f.toNat by omega]at e;rw[e,bP]at z;rw[v,bY (by omega) (by omega)];refine aC ⟨rfl,m.trans w,(_,_,()),rfl,f.toNat-1,(at_-(cQ T.enc (T.cur.ps.take (f.toNat-1))).length).toNat,?_,?_,by omega,by omega,λh=>by omega,λ_=>⟨q,u,by omega,by omega⟩⟩
 .show f-1=_;omega
 .show at_-_=_;omega
end
section
open Go.Sw.Any Go.Sw.Codec
open Go.Sw.Tree (iv fP jR jX mW oR kM rL kK dQ lB)
variable{P:Program}{S:cH}{h:aG}{Q:Nat->bG->aG->Prop}
def w_(S:cH)(t:OA)(a:Addr)(m:Int)(fin:Addr->Addr->aK):aK:=
 .both (.load (.agg PB) (some a) λ(r:Part)=>bF (aJ t)<|bF (aJ t)<|.load (tI) (aB t 0) λ(n:Int)=>
  .call (dT S r n m) [.agg PB, .agg PB] λ(c:Part×Part×Unit)=>
  .alloc (Bs.inj PB zP) λA=>.check (aB t 0) [aH n]<|.check (some a) (Bs.inj PB r)<|
  .alloc (Bs.inj PB zP) λB=>.check (aB t 0) [aH n]<|.check (some a) (Bs.inj PB r)<|
  .store (some A) (Bs.inj PB c.1)<|.store (some B) (Bs.inj PB c.2.1)<|fin A B)<|
 .both (.load (.agg PB) (some a) λ(r:Part)=>bF (aJ t)<|bF (aJ t)<|.load (tI) (aB t 0) λ(n:Int)=>
  .call (dT S r n m) [.agg PB, .agg PB] λ(c:Part×Part×Unit)=>
  .alloc (Bs.inj PB zP) λA=>.check (aB t 0) [aH n]<|.check (some a) (Bs.inj PB r)<|
  .alloc (Bs.inj PB zP) λB=>.check (aB t 0) [aH n]<|.check (some a) (Bs.inj PB r)<|
  .store (some B) (Bs.inj PB c.1)<|.store (some A) (Bs.inj PB c.2.1)<|fin B A)<|
 .both (.load (.agg PB) (some a) λ(r:Part)=>bF (aJ t)<|bF (aJ t)<|.load (tI) (aB t 0) λ(n:Int)=>
  .alloc (Bs.inj PB zP) λA=>.check (aB t 0) [aH n]<|.check (some a) (Bs.inj PB r)<|
  .call (dT S r n m) [.agg PB, .agg PB] λ(c:Part×Part×Unit)=>
  .alloc (Bs.inj PB zP) λB=>.check (aB t 0) [aH n]<|.check (some a) (Bs.inj PB r)<|
  .store (some A) (Bs.inj PB c.1)<|.store (some B) (Bs.inj PB c.2.1)<|fin A B)<|
 .both (.load (.agg PB) (some a) λ(r:Part)=>bF (aJ t)<|bF (aJ t)<|.load (tI) (aB t 0) λ(n:Int)=>
  .alloc (Bs.inj PB zP) λA=>.check (aB t 0) [aH n]<|.check (some a) (Bs.inj PB r)<|
  .alloc (Bs.inj PB zP) λB=>.check (aB t 0) [aH n]<|.check (some a) (Bs.inj PB r)<|
  .call (dT S r n m) [.agg PB, .agg PB] λ(c:Part×Part×Unit)=>
  .store (some A) (Bs.inj PB c.1)<|.store (some B) (Bs.inj PB c.2.1)<|fin A B)<|
 .both (.load (.agg PB) (some a) λ(r:Part)=>bF (aJ t)<|bF (aJ t)<|.load (tI) (aB t 0) λ(n:Int)=>
  .alloc (Bs.inj PB zP) λA=>.check (aB t 0) [aH n]<|.check (some a) (Bs.inj PB r)<|
  .call (dT S r n m) [.agg PB, .agg PB] λ(c:Part×Part×Unit)=>
  .alloc (Bs.inj PB zP) λB=>.check (aB t 0) [aH n]<|.check (some a) (Bs.inj PB r)<|
  .store (some B) (Bs.inj PB c.1)<|.store (some A) (Bs.inj PB c.2.1)<|fin B A)<|
 (.load (.agg PB) (some a) λ(r:Part)=>bF (aJ t)<|bF (aJ t)<|.load (tI) (aB t 0) λ(n:Int)=>
  .alloc (Bs.inj PB zP) λA=>.check (aB t 0) [aH n]<|.check (some a) (Bs.inj PB r)<|
  .alloc (Bs.inj PB zP) λB=>.check (aB t 0) [aH n]<|.check (some a) (Bs.inj PB r)<|
  .call (dT S r n m) [.agg PB, .agg PB] λ(c:Part×Part×Unit)=>
  .store (some B) (Bs.inj PB c.1)<|.store (some A) (Bs.inj PB c.2.1)<|fin B A)
abbrev EL(n:Nat)(h:aG)(a:Addr)(x:Part):Prop:=cA n 1 h ⟨some a,7,7⟩ (Bs.inj PB x)
theorem UI(M:kB P S){V W:Nat}{T:TX}{a:Addr}{x:Part}{bs:bB}{m:Int}{fin:Addr->Addr->aK}(r:eP S V h T)(q:AZ h T (x,bs))(o:EL W h a x)(h0:0<=m)(hm:m<=(bH T.enc bs).length)
  (u:∀h' A B,Ext h h'->EL h.size h' A (FA T.enc x bs m.toNat)->EL h.size h' B (He T.enc x bs m.toNat)->wp P (fin A B) h' Q):wp P (w_ S (some T.p) a m fin) h Q:=by
 have j:∀{h':aG} {K:Addr->aK},Ext h h'->(∀k,Ext h' k->EL h'.size k ⟨h'.size,0,none⟩ zP->wp P (K ⟨h'.size,0,none⟩) k Q) ->
   wp P (.alloc (Bs.inj PB zP) λA=>.check (aB (some T.p) 0) [aH T.enc]<|.check (some a) (Bs.inj PB x)<|K A) h' Q:=λ{h' K} e u=>
  gN (bs:=PB) zP (by decide) λg b o2=>sR (r.ext (e.trans b)).c0 (PV (bs:=PB) (o.ext (e.trans b)) (u g b o2))
 have fs:∀{h':aG} {A B:Addr} {mA H:Nat},Ext h h'->h.size<=mA->h.size<=H->A.block≠B.block->EL mA h' A zP->EL H h' B zP ->
   wp P (.store (some A) (Bs.inj PB (FA T.enc x bs m.toNat))<|.store (some B) (Bs.inj PB (He T.enc x bs m.toNat))<|fin A B) h' Q:=λ{h' A B mA H} e J L F N O=>
  mX (bs:=PB) _ N (xD _) λt o1 R=>mX (bs:=PB) _ (HF O R F) (xD _) λg o2 U=>
   u g A B (jU.jQ (jU.jQ e R (by intro z G;cases G;have:=(N.lt rfl).1;exact dI J this)) U (by intro z G;cases G;have:=(O.lt rfl).1;exact dI L this)) ((HF o1 U F.symm).mono J) (o2.mono L)
 have w:∀{h':aG} {K:Part×Part×Unit->aK},Ext h h'->(∀k,Ext h' k->wp P (K (FA T.enc x bs m.toNat,He T.enc x bs m.toNat,())) k Q)->wp P (.call (dT S x T.enc m) [.agg PB, .agg PB] K) h' Q:=λ{h' K} e u=>
  aM (VX M r.enc (q.lO.ext e) (show bs.length<=_ from dI q.len (by decide)) h0 hm (by have:=q.tag;dsimp only at this⊢;omega)) λ⟨(X:Part),(Y:Part),_⟩ g b ⟨D,E⟩=>by
   have D:X=_:=D;have E:Y=_:=E;subst D;subst E;exact u g b
 have st:∀{K:Part->Int->aK},wp P (K x T.enc) h Q->wp P (.load (.agg PB) (some a) λ(r:Part)=>bF (aJ (some T.p))<|bF (aJ (some T.p))<|.load (tI) (aB (some T.p) 0) λ(n:Int)=>K r n) h Q:=λu=>hS (bs:=PB) o (au r u);have E0:=Ext.refl h;unfold w_;refine⟨?_,?_,?_,?_,?_,?_⟩
 .exact st (w E0 λt c=>j c λg b o2=>j (c.trans b) λC f v=>fs ((c.trans b).trans f) (by have:=c.size;omega) (by have:=c.size;have:=b.size;omega) (by have:=(o2.lt rfl).2;dsimp only at this⊢;omega) (o2.ext f) v)
 .exact st (w E0 λt c=>j c λg b o2=>j (c.trans b) λC f v=>fs ((c.trans b).trans f) (by have:=c.size;have:=b.size;omega) (by have:=c.size;omega) (by have:=(o2.lt rfl).2;dsimp only at this⊢;omega) v (o2.ext f))
 .exact st (j E0 λt c o1=>w c λg b=>j (c.trans b) λC f v=>fs ((c.trans b).trans f) (by omega) (by have:=c.size;have:=b.size;omega) (by have:h.size<t.size:=(o1.lt rfl).2;have:=b.size;show h.size≠g.size;omega) (o1.ext (b.trans f)) v)
 .exact st (j E0 λt c o1=>j c λg b o2=>w (c.trans b) λC f=>fs ((c.trans b).trans f) (by omega) (by have:=c.size;omega) (by have:=(o1.lt rfl).2;dsimp only at this⊢;omega) (o1.ext (b.trans f)) (o2.ext f))
 .exact st (j E0 λt c o1=>w c λg b=>j (c.trans b) λC f v=>fs ((c.trans b).trans f) (by have:=c.size;have:=b.size;omega) (by omega) (by have:h.size<t.size:=(o1.lt rfl).2;have:=b.size;show g.size≠h.size;omega) v (o1.ext (b.trans f)))
 .exact st (j E0 λt c o1=>j c λg b o2=>w (c.trans b) λC f=>fs ((c.trans b).trans f) (by have:=c.size;omega) (by omega) (by have:=(o1.lt rfl).2;dsimp only at this⊢;omega) (o2.ext f) (o1.ext (b.trans f)))
theorem Xw{enc:Int}{ps:List Pc}{at_:Int}{i n:Nat}(f:Sq enc ps at_ i n)(h0:0<=at_):(ps[i]?=none/\n=0/\ps=[]/\(cQ enc ps).take at_.toNat=cQ enc (ps.take i)) \/
  ∃q,ps[i]?=some q/\n<=(bH enc q.2).length/\(cQ enc ps).take at_.toNat=cQ enc (ps.take i)++(bH enc q.2).take n:=by
 obtain⟨f1,f2,f3,f4⟩:=f;have b:∀q,ps[i]?=some q->n<=(bH enc q.2).length->(cQ enc ps).take at_.toNat=cQ enc (ps.take i)++(bH enc q.2).take n:=λq c m=>by
  have g:cQ enc ps=cQ enc (ps.take i)++(bH enc q.2++cQ enc (ps.drop (i+1))):=by
   have j:=HT (enc:=enc) c;rw[<-dW,<-j];unfold cQ;rw[<-gX,eY]
  have k:at_.toNat=(cQ enc (ps.take i)).length+n:=by omega
  rw[k,g,JP,iW (by omega),BE,Ap m]
 by_cases h:0<at_
 .obtain⟨q,c,o,e⟩:=f4 h
  exact .inr ⟨q,c,e,b q c e⟩
 .obtain⟨rfl,rfl⟩:=f3 (by omega)
  cases ps with
  |nil=>exact .inl ⟨rfl,rfl,rfl,by simp[cQ]⟩
  |cons q ps=>exact .inr ⟨q,rfl,cN _,b q rfl (cN _)⟩
theorem VW(M:kB P S){n:Nat}{T:TX}{at_:Int}(r:eP S n h T)(h0:0<=at_)(h1:at_<=(cQ T.enc T.cur.ps).length) :
  aS P (vD S (some T.p) at_) [.agg SB] h λ(x:oX×Unit) _=>x.1=qX ((cQ T.enc T.cur.ps).take at_.toNat):=by
 unfold vD aS;have hf:=r.cur.Yo r.Bq.2;have O:=Ch S T.Z (P:=P);refine gN (bs:=SB) zS (by decide) λha ea oa=>?_;have ra:=r.ext ea;refine aM (Qi ra h0 h1) λ⟨(i':Int),(m':Int),_⟩ h2 e2 ⟨i,m,hi,hm,f⟩=>?_;have hi:i'=i:=hi;have hm:m'=m:=hm;subst hi;subst hm;dsimp only;have E:=ra.ext e2;have a9:T.cur.ps.length<=1099511627776:=by
  have hlen:T.cur.t.list.length=T.cur.ps.length:=by rw[r.cur.ls,cE]
  have h1:=qO O T.cur.t.list;have h2:=dI h1 hf.2;rw[<-hlen];exact h2
 have a4:=f.1;refine uK E (aM (R:=λ(x:oX×Unit) _=>x.1=Jw (T.cur.t.list.take ((i:Int)).toNat)) (VV O E.cur.nd E.cur.wf (E.cur.room E.Bq.2)) λ⟨(s:oX),_⟩ G e3 H=>?_);have H:s=qX (cQ T.enc (T.cur.ps.take i)):=by
  have H:s=_:=H;rw[H,cS,r.cur.ls,<-Ef,Vq λq u=>r.cur.Cx q (rU u)]
 subst H;dsimp only;refine HQ (bs:=SB) (z:=zS) (qX (cQ T.enc (T.cur.ps.take i))) (by decide) (ED _) λh4 L o4=>?_;have g:=(E.ext e3).ext L;have w:∀q,q∈T.cur.ps->cC q.2:=r.cur.bytes;refine dB (λt K h'=>t=0/\K=[]/\Ext G h'/\cA G.size 1 h' ⟨some ⟨G.size,0,none⟩,5,5⟩ (Bs.inj SB (qX ((cQ T.enc T.cur.ps).take at_.toNat)))) ?_ ?_
 .rcases Xw f h0 with⟨u,rfl,ao,J⟩|⟨q,u,hn,J⟩
  .refine uK g (aM (R:=λ(y:Part×Bool×Unit) _=>y.1=zP/\y.2.1=false) (Uz O g.cur.nd (rV (g.cur.room g.Bq.2)) (by omega) (.inr ?_)) λ⟨(y:Part),(ok:Bool),_⟩ h5 k ⟨W,c⟩=>?_)
   .have:T.cur.t.list=[]:=by rw[r.cur.ls,ao];rfl
    show((List.length T.cur.t.list:Nat):Int)<=_;rw[this];simp
   .have c:ok=false:=c
    subst c;dsimp only;refine gN (bs:=PB) zP (by decide) λh6 N o6=>mX (bs:=PB) y o6 (xD _) λV o7 Y=>lW (aC ⟨rfl,rfl,?_,?_⟩)
    .exact jU.jQ ((L.trans k).trans N) Y (by intro x C;cases C;have:=L.size;have:=k.size;dsimp only;omega)
    .rw[J]
     exact HF ((o4.ext k).ext N) Y (by have:G.size<h4.size:=(o4.lt rfl).2;have:=k.size;show h5.size≠G.size;omega)
  .have C:T.cur.t.list[((i:Int)).toNat]?=some q.1:=by rw[cS,r.cur.ls,gP,u];rfl
   refine uK g (aM (R:=λ(y:Part×Bool×Unit) _=>y.1=q.1/\y.2.1=true) (oi O g.cur.nd g.cur.wf (rV (g.cur.room g.Bq.2)) (by omega) C) λ⟨(y:Part),(ok:Bool),_⟩ h5 k ⟨W,c⟩=>?_);have c:ok=true:=c;have W:y=q.1:=W;subst c;subst W;dsimp only;refine gN (bs:=PB) zP (by decide) λh6 N o6=>mX (bs:=PB) q.1 o6 (xD _) λV o7 Y=>mV ?_;have F:Ext h4 V:=jU.jQ (k.trans N) Y (by intro x C;cases C;have:=k.size;dsimp only;omega);have r7:=g.ext F;have D:=eM u;have pc:=r7.cur.Cx q D;refine dB (λt K h'=>t=0/\Ext V h'/\∃A:Addr,K=[.pointer (some A)]/\EL V.size h' A (FA T.enc q.1 q.2 m)) ?_ ?_
   .refine UI M (fin:=λA B=>.ret 0 [.pointer (some A)]) r7 (x:=q.1) (bs:=q.2) pc o7 (by omega) (by omega) λh8 A B U X oB=>aC ⟨rfl,U,A,rfl,?_⟩
    rw[cS]at X;exact X
   .rintro t K h8 ⟨rfl,U,A,rfl,X⟩
    refine bE (Cn (tys:=[tP]) (some A,()) rfl ?_);dsimp only;have al:=(o4.ext F).ext U;refine hS (bs:=SB) al (aL rfl ?_);refine⟨A.add 2,rfl,qX ((bH T.enc q.2).take m),aI.2 λj v b=>?_,?_⟩
    .rw[add_add]
     refine aI.1 X.cells _ _ ?_
     match j,b with
     |0,b=>exact b
     |1,b=>exact b
     |2,b=>exact b
     |3,b=>exact b
     |4,b=>exact b
     |j+5,b=>simp[Ty.cells,Bs.inj]at b
    .have v1:=VS.qX (xZ (enc:=T.enc) (ps:=T.cur.ps.take i) λq u=>w q (rU u))
     have v2:=VS.qX ((oN (enc:=T.enc) (w q D)).take m);have a7:=Hf (enc:=T.enc) T.cur.ps i;have a8:=zY (enc:=T.enc) (w q D);have:=pc.len;refine aM (YF v1 v2 (by rw[dJ];omega)) λ⟨(o:oX),_⟩ h9 e9 ho=>?_;have ho:o=_:=ho;subst ho;dsimp only;refine mX (bs:=SB) _ (al.ext e9) (ED _) λa3 aw a0=>aC ⟨rfl,rfl,jU.jQ (((L.trans F).trans U).trans e9) a0 (by intro x C;cases C;exact bM _),?_⟩;rw[J,Lo (xZ λq u=>w q (rU u)) ((oN (w q D)).take m)];exact aw
 .rintro t K h5 ⟨rfl,rfl,k,o5⟩
  have ab:=(e2.trans e3).trans k;exact bE (bO (hS (bs:=SB) o5 (zA (bs:=SB) _ (oa.ext ab) (bM _) (ea.trans ab) (ED _) λh' e=>⟨rfl,e,(_,()),rfl,rfl⟩)))
end
section
open Go.Sw.Any Go.Sw.Codec
open Go.Sw.Tree (iv fP jR jX mW oR kM rL kK dQ lB)
variable{P:Program}{S:cH}{h:aG}{Q:Nat->bG->aG->Prop}
variable{i:Nat}{ts:List (Int×Int)}
abbrev jT:Sh:=.str (.pair (.int .i64) (.pair (.int .i64) (.pair (.list (.int .i64)) .unit)))
abbrev iM:=Int×Int×(Sl×bB)×Unit
abbrev GP:=Sl×List iM
def aW(es:List iM):bB:=es.flatMap λe=>e.2.2.1.2
theorem DZ{x:GP}{e:iM}{j:Nat}{K:Addr->aK}(m:(Sh.list jT).ok h x)(g:x.2[j]?=some e)
  (k:∀a h',Ext h h'->h.size<=a.block->cA h.size 1 h' ⟨some a,3,3⟩ [aH e.1,aH e.2.1,dN e.2.2.1.1]->wp P (K a) h' Q) :
  wp P (bF (bN (aJ x.1.aD) (eV (j:Int) x.1.len))<|.load (.agg [.int .i64, .int .i64, .sl]) (aB x.1.aD (aZ (bQ (j:Int)) 3)) λ(r:Int×Int×Sl×Unit)=>
   .alloc [aH 0,aH 0, .slice none 0 0] λa=>.store (some a) [aH r.1,aH r.2.1,dN r.2.2.1] (K a)) h Q:=by
 refine Ro (e:=jT) (x:=x) m (by omega) (by simpa using g) rfl (z:=(e.1,e.2.1,e.2.2.1.1,())) rfl ?_;dsimp only;refine λelem=>?_;have b:Ext h (h.push (.cells [aH 0,aH 0, .slice none 0 0].toArray elem)):=Ext.push ..;have o1:cA h.size 1 (h.push (.cells [aH 0,aH 0, .slice none 0 0].toArray elem)) ⟨some ⟨h.size,0,none⟩,3,3⟩ [aH 0,aH 0, .slice none 0 0]:=bR rfl (by decide) (by decide);generalize h.push (.cells [aH 0,aH 0, .slice none 0 0].toArray elem)=p at b o1⊢;exact Ak [aH e.1,aH e.2.1,dN e.2.2.1.1] o1 rfl (by intro v c;simp only[eH,lG,or_false]at c;rcases c with rfl|rfl|rfl<;>rfl) λf o2 o q=>
  k _ f (jU.jQ b o (by intro x n;cases n;exact bM _)) (bM _) o2
def uP(len:Int):Int->List iM->Prop
 |_,[]=>True
 |at_,e::es=>at_<=e.1/\e.1<=e.2.1/\e.2.1<=len/\uP len e.2.1 es
def dG:Int->List iM->Int
 |at_,[]=>at_
 |_,e::es=>dG e.2.1 es
theorem uP.append{len:Int}:∀{xs:List iM} {at_:Int} {f:List iM},uP len at_ (xs++f)↔uP len at_ xs/\uP len (dG at_ xs) f
 |[],at_,f=>by simp[uP,dG]
 |x::xs,at_,f=>by
  simp only[Ed,uP,dG,uP.append (xs:=xs)];exact⟨λ⟨a,b,c,d,e⟩=>⟨⟨a,b,c,d⟩,e⟩,λ⟨⟨a,b,c,d⟩,e⟩=>⟨a,b,c,d,e⟩⟩
theorem zQ:∀{xs:List iM} {at_:Int} {e:iM},dG at_ (xs++[e])=e.2.1
 |[],_,_=>rfl
 |x::xs,at_,e=>zQ (xs:=xs)
theorem uP.at{len:Int}{es:List iM}{at_:Int}(h:uP len at_ es){i:Nat}{e:iM}(hi:es[i]?=some e):dG at_ (es.take i)<=e.1/\e.1<=e.2.1/\e.2.1<=len:=by
 have c:es=es.take i++(e::es.drop (i+1)):=by
  have b:=(cR.1 hi).1;have:=(cR.1 hi).2;rw[<-this,<-gY b,eY]
 rw[c,uP.append]at h;exact⟨h.2.1,h.2.2.1,h.2.2.2.1⟩
theorem Dd{len:Int}:∀{es:List iM} {at_:Int},uP len at_ es->at_<=dG at_ es
 |[],_,_=>kR _
 |e::es,at_,⟨a,b,_,d⟩=>by have:=Dd d;simp only[dG];omega
theorem uP.take{len:Int}{es:List iM}{at_:Int}(h:uP len at_ es)(i:Nat):uP len at_ (es.take i):=by
 have b:=eY i es;rw[<-b,uP.append]at h;exact h.1
def fE(enc:Int)(l:bB):Int:=(l.map (bW enc)).sum
theorem nJ(enc:Int)(l m:bB):fE enc (l++m)=fE enc l+fE enc m:=by simp[fE]
theorem zX(enc:Int)(l:bB):0<=fE enc l/\fE enc l<=4*l.length:=by
 induction l with
 |nil=>simp[fE]
 |cons a l e=>
  have b:=Dp enc a;have c:=zW enc a;have:fE enc (a::l)=bW enc a+fE enc l:=by simp[fE]
  rw[this,fK];omega
def xF(ts:List (Int×Int))(es:List iM):Int:=(es.map λe=>(dM (ts.take e.2.1.toNat):Int)-dM (ts.take e.1.toNat)).sum
def jV(enc:Int)(l:bB):Prop:=∀a,a∈l->0<bW enc a
inductive Lu(enc limit:Int)(ts:List (Int×Int))(es:List iM):Int->Prop where
 |many:70000<es.length->Lu enc limit ts es 3
 |place:es.length<=70000->¬uP ts.length 0 es->Lu enc limit ts es 2
 |fit:es.length<=70000->uP ts.length 0 es->¬jV enc (aW es)->Lu enc limit ts es 11
 |full:es.length<=70000->uP ts.length 0 es->jV enc (aW es)->limit<dM ts+fE enc (aW es)-xF ts es->Lu enc limit ts es 50
 |ok:es.length<=70000->uP ts.length 0 es->jV enc (aW es)->dM ts+fE enc (aW es)-xF ts es<=limit->Lu enc limit ts es 0
theorem uS{es:List iM}{e:iM}(hi:es[i]?=some e):aW (es.take (i+1))=aW (es.take i)++e.2.2.1.2:=by
 rw[eN,hi];simp[aW]
theorem Dj(es:List iM)(i:Nat):(aW (es.take i)).length<=(aW es).length:=by
 have:aW es=aW (es.take i)++aW (es.drop i):=by unfold aW;rw[<-gX,eY]
 rw[this,bP];omega
theorem U1{es:List iM}{e:iM}(hi:es[i]?=some e):xF ts (es.take (i+1))=xF ts (es.take i)+((dM (ts.take e.2.1.toNat):Int)-dM (ts.take e.1.toNat)):=by
 rw[eN,hi];simp[xF]
theorem wN(ts:List (Int×Int))(n:Nat):dM (ts.take n)<=dM ts:=by
 have:=jO (ts.take n) (ts.drop n);rw[eY]at this;omega
theorem Zy(es:List iM) : -(dM ts:Int)*es.length<=xF ts es/\xF ts es<=dM ts*es.length:=by
 induction es with
 |nil=>simp[xF]
 |cons e es j=>
  have f:=wN ts e.2.1.toNat;have g:=wN ts e.1.toNat;have:xF ts (e::es)=((dM (ts.take e.2.1.toNat):Int)-dM (ts.take e.1.toNat))+xF ts es:=by simp[xF]
  rw[this,fK];have b : -(dM ts:Int)*((es.length+1:Nat):Int) = -(dM ts:Int)*es.length + -(dM ts:Int):=by push_cast;rw[Int.mul_add,Int.mul_one]
  have c:(dM ts:Int)*((es.length+1:Nat):Int)=(dM ts:Int)*es.length+(dM ts:Int):=by push_cast;rw[Int.mul_add,Int.mul_one]
  rw[b,c];omega
theorem Y1(M:kB P S){n:Nat}{T:TX}{x:GP}(r:eP S n h T)(J:(Sh.list jT).ok h x)(c4:(aW x.2).length<=1099511627776)(b6:(dR T.cur.ps).length<=T.limit) :
  aS P (yL S (some T.p) x.1) [tI] h λ(y:Int×Unit) _=>Lu T.enc T.limit (cQ T.enc T.cur.ps) x.2 y.1:=by
 have m:=J.len;have b9:=J.2.1;have cg:=J.2.2.1;have hf:=r.cur.Yo r.Bq.2;have cf:=r.Bq;have ao:=(FX (enc:=T.enc) r.cur.bytes).2;unfold yL aS;refine aE (λc=>aC ⟨rfl,Ext.refl _,(3,()),rfl, .many ?_⟩) λc=>?_
 .rw[dL,aN,m]at c;omega
 rw[gD,aN,m]at c;have B:x.2.length<=70000:=by omega
 refine aM (VT r) λ⟨(L:Int),_⟩ h1 e1 hL=>?_;have hL:L=(cQ T.enc T.cur.ps).length:=by have hL:L=_:=hL;rw[hL,yU]
 subst hL;dsimp only;generalize W:cQ T.enc T.cur.ps=ts at *;refine bL (λ(s:Int×Int×Unit) h'=>Ext h h'/\∃i:Nat,s.2.1=i/\i<=x.2.length/\uP ts.length 0 (x.2.take i)/\s.1=dG 0 (x.2.take i)) (λs _=>((x.2.length:Int)-s.2.1).toNat)
  (λt k h'=>Ext h h'/\((t=2/\k=[]/\uP ts.length 0 x.2)\/(t=1/\k=[aH 2]/\¬uP ts.length 0 x.2))) ⟨e1,0,rfl,cN _,trivial,rfl⟩ ?_ ?_
 .rintro⟨(at_:Int),i',u⟩ h2 ⟨D,i,hi,a0,N,ha⟩
  dsimp only at hi ha⊢;subst hi;subst ha;refine aE (λc=>?_) λc=>?_
  .rw[aU,aN,m]at c
   obtain⟨e,f⟩:∃e,x.2[i]?=some e:=⟨x.2[i]'(by omega),cL (by omega)⟩;refine DZ (J.ext D) f λa h3 e3 _ o3=>?_;have l0:∀{K:Int->aK} {Q:Nat->bG->aG->Prop} {h'},Ext h3 h'->wp P (K e.1) h' Q->wp P (.load (tI) (aB (some a) 0) K) h' Q:=λq H=>bC (b:=bI) _ e.1 rfl (aI.1 (o3.ext q).cells 0 _ rfl) H;have l1:∀{K:Int->aK} {Q:Nat->bG->aG->Prop} {h'},Ext h3 h'->wp P (K e.2.1) h' Q->wp P (.load (tI) (aB (some a) 1) K) h' Q:=λq H=>bC (b:=bI) _ e.2.1 rfl (aI.1 (o3.ext q).cells 1 _ rfl) H;have F:x.2.take (i+1)=x.2.take i++[e]:=by rw[eN,f];rfl
   refine bZ (¬(dG 0 (x.2.take i)<=e.1/\e.1<=e.2.1/\e.2.1<=ts.length)) ?_ λbb h4 w hb=>aE (λc=>?_) λc=>?_
   .refine l0 (Ext.refl _) (aE (λc=>aC ⟨rfl,Ext.refl _,true,rfl,?_⟩) λc=>l1 (Ext.refl _) (l0 (Ext.refl _) (aE (λo=>aC ⟨rfl,Ext.refl _,true,rfl,?_⟩) λo=>l1 (Ext.refl _) (aC ⟨rfl,Ext.refl _,_,rfl,?_⟩))))
    .rw[aU]at c;exact Iff.intro (λ_=>by omega) λ_=>rfl
    .rw[aU]at o;exact Iff.intro (λ_=>by omega) λ_=>rfl
    .rw[aY]at c o;rw[dL];omega
   .refine aC ⟨λh=>absurd h (by decide),λ_=>⟨(D.trans e3).trans w, .inr ⟨rfl,rfl,λv=>hb.1 c (v.at f)⟩⟩⟩
   .have al:dG 0 (x.2.take i)<=e.1/\e.1<=e.2.1/\e.2.1<=ts.length:=by
     by_cases hx:dG 0 (x.2.take i)<=e.1/\e.1<=e.2.1/\e.2.1<=ts.length
     .exact hx
     .rw[hb.2 hx]at c;cases c
    refine l1 w ?_;rw[aX (a:=(i:Int)) (by omega) (by omega)];refine aC ⟨λ_=>⟨(e.2.1,(i:Int)+1,()),rfl,⟨(D.trans e3).trans w,i+1,rfl,by omega,?_,?_⟩,by dsimp only;omega⟩,λh=>absurd rfl h⟩
    .rw[F,uP.append];exact⟨N,al.1,al.2.1,al.2.2,trivial⟩
    .rw[F,zQ]
  .rw[aY,aN,m]at c
   rw[iW (by omega)]at N;exact aC ⟨λh=>absurd h (by decide),λ_=>⟨D, .inl ⟨rfl,rfl,N⟩⟩⟩
 rintro t k h2 ⟨D,⟨rfl,rfl,v⟩|⟨rfl,rfl,b4⟩⟩
 .refine bE (bO (aM (Hj (r.ext D)) λ⟨(sz:Int),_⟩ h3 e3 V=>?_))
  have V:sz=(dR T.cur.ps).length:=V;rw[<-ao]at V b6;subst V;dsimp only;have bo:=D.trans e3;refine bL (λ(s:Int×Int×Unit) h'=>Ext h h'/\∃i:Nat,s.2.1=i/\i<=x.2.length/\jV T.enc (aW (x.2.take i))/\s.1=dM ts+fE T.enc (aW (x.2.take i))) (λs _=>((x.2.length:Int)-s.2.1).toNat)
   (λt k h'=>Ext h h'/\((t=4/\k=[aH (dM ts+fE T.enc (aW x.2))]/\jV T.enc (aW x.2))\/(t=1/\k=[aH 11]/\¬jV T.enc (aW x.2)))) ⟨bo,0,rfl,cN _,(λa ha=>by simp[aW]at ha),by simp[aW,fE]⟩ ?_ ?_
  .rintro⟨(bs:Int),i',u⟩ h4 ⟨w,i,hi,a0,N,ha⟩
   dsimp only at hi ha⊢;subst hi;subst ha;refine aE (λc=>?_) λc=>?_
   .rw[aU,aN,m]at c
    obtain⟨e,f⟩:∃e,x.2[i]?=some e:=⟨x.2[i]'(by omega),cL (by omega)⟩;refine DZ (J.ext w) f λa h5 z _ o5=>?_;have ab:kW .i64 h e.2.2.1.1 e.2.2.1.2:=Sh.lO (J.el f).2.2.1;have a3:=ab.len;have bp:=w.trans z;have C:=uS f;have a9:=Dj x.2 (i+1);rw[C,bP]at a9;have a7:∀a,a∈e.2.2.1.2->a∈aW x.2:=λa ha=>by
     unfold aW;exact GB.2 ⟨e,eM f,ha⟩
    refine bC (b:=.sl) _ e.2.2.1.1 rfl (aI.1 o5.cells 2 _ rfl) ?_;refine bL (λ(s:Int×Int×Unit) h'=>Ext h h'/\∃j:Nat,s.2.1=j/\j<=e.2.2.1.2.length/\jV T.enc (e.2.2.1.2.take j)/\s.1=dM ts+fE T.enc (aW (x.2.take i))+fE T.enc (e.2.2.1.2.take j)) (λs _=>((e.2.2.1.2.length:Int)-s.2.1).toNat)
     (λt k h'=>Ext h h'/\((t=6/\k=[aH (dM ts+fE T.enc (aW (x.2.take i))+fE T.enc e.2.2.1.2)]/\jV T.enc e.2.2.1.2)\/(t=1/\k=[aH 11]/\¬jV T.enc e.2.2.1.2))) ⟨bp,0,rfl,cN _,(λa ha=>by simp at ha),by simp[fE]⟩ ?_ ?_
    .rintro⟨(bs:Int),j',u⟩ Y ⟨g,j,hj,c6,O,hb⟩
     dsimp only at hj hb⊢;subst hj;subst hb;have ct:=zX T.enc (aW (x.2.take i));have bd:=zX T.enc (e.2.2.1.2.take j);rw[dJ]at bd;refine aE (λo=>?_) λo=>?_
     .rw[aU,aN,a3]at o
      have G:j<e.2.2.1.2.length:=by omega
      refine qW (ab.ext g) (by omega) (by omega) λcc=>au (r.ext g) ?_;rw[show((j:Int)).toNat=j by omega];have b0:e.2.2.1.2.getD j 0=e.2.2.1.2[j]:=by rw[gI,cL G];rfl
      rw[b0];refine aM (Codec.Hj M.x7 T.enc (e.2.2.1.2[j])) λ⟨(sz:Int),_⟩ h7 X hs=>?_;have hs:sz=bW T.enc (e.2.2.1.2[j]):=hs;subst hs;have cr:=Dp T.enc (e.2.2.1.2[j]);have cd:=zW T.enc (e.2.2.1.2[j]);dsimp only;refine aE (λhz=>?_) λhz=>?_
      .rw[cK]at hz
       refine aC ⟨λh=>absurd h (by decide),λ_=>⟨g.trans X, .inr ⟨rfl,rfl,λA=>?_⟩⟩⟩;have:=A _ (CK G);omega
      .rw[dS]at hz
       have F:e.2.2.1.2.take (j+1)=e.2.2.1.2.take j++[e.2.2.1.2[j]]:=by rw[eN,cL G];rfl
       have ba:fE T.enc [e.2.2.1.2[j]]=bW T.enc (e.2.2.1.2[j]):=by simp[fE]
       rw[aX (a:=(j:Int)) (by omega) (by omega),aX (by omega) (by omega)];refine aC ⟨λ_=>⟨(_,(j:Int)+1,()),rfl,⟨g.trans X,j+1,rfl,by omega,?_,?_⟩,by dsimp only;omega⟩,λh=>absurd rfl h⟩
       .rw[F]
        intro a ha;rcases dH.1 ha with ha|ha
        .exact O a ha
        .rw[dE.1 ha];omega
       .dsimp only;rw[F,nJ,ba];omega
     .rw[aY,aN,a3]at o
      have b8:e.2.2.1.2.take j=e.2.2.1.2:=iW (by omega);rw[b8]at O⊢;exact aC ⟨λh=>absurd h (by decide),λ_=>⟨g, .inl ⟨rfl,rfl,O⟩⟩⟩
    .rintro t k Y ⟨g,⟨rfl,rfl,O⟩|⟨rfl,rfl,O⟩⟩
     .refine bE (fI ?_)
      rw[aX (a:=(i:Int)) (by omega) (by omega)];refine aC ⟨λ_=>⟨(_,(i:Int)+1,()),rfl,⟨g,i+1,rfl,by omega,?_,?_⟩,by dsimp only;omega⟩,λh=>absurd rfl h⟩
      .rw[C]
       intro a ha;exact(dH.1 ha).elim (N a) (O a)
      .dsimp only;rw[C,nJ];omega
     .refine nP (by decide) (bE (fI (aC ⟨λh=>absurd h (by decide),λ_=>⟨g, .inr ⟨rfl,rfl,λA=>O λa ha=>A a (a7 a ha)⟩⟩⟩)))
   .rw[aY,aN,m]at c
    rw[iW (by omega)]at N⊢;exact aC ⟨λh=>absurd h (by decide),λ_=>⟨w, .inl ⟨rfl,rfl,N⟩⟩⟩
  .rintro t k h4 ⟨w,⟨rfl,rfl,A⟩|⟨rfl,rfl,b3⟩⟩
   .refine bE (fI ?_)
    have cx:=zX T.enc (aW x.2);refine bL (λ(s:Int×Int×Unit) h'=>Ext h h'/\∃i:Nat,s.2.1=i/\i<=x.2.length/\s.1=dM ts+fE T.enc (aW x.2)-xF ts (x.2.take i)) (λs _=>((x.2.length:Int)-s.2.1).toNat)
     (λt k h'=>Ext h h'/\t=8/\k=[aH (dM ts+fE T.enc (aW x.2)-xF ts x.2)]) ⟨w,0,rfl,cN _,by simp[xF]⟩ ?_ ?_
    .rintro⟨(bs:Int),i',u⟩ h5 ⟨z,i,hi,a0,ha⟩
     dsimp only at hi ha⊢;subst hi;subst ha;refine aE (λc=>?_) λc=>?_
     .rw[aU,aN,m]at c
      obtain⟨e,f⟩:∃e,x.2[i]?=some e:=⟨x.2[i]'(by omega),cL (by omega)⟩;have c8:=v.at f;have c7:=Dd (v.take i);have hg:=Zy (ts:=ts) (x.2.take i);have c5:(dM ts:Int)*((x.2.take i).length:Nat)<=65536*70000:=Int.mul_le_mul (by omega) (by rw[dJ];omega) (by omega) (by decide);have a8 : -(dM ts:Int)*((x.2.take i).length:Nat) = -((dM ts:Int)*((x.2.take i).length:Nat)):=Int.neg_mul ..;rw[a8]at hg;have aw:=U1 (ts:=ts) f;refine gA (tys:=[tI]) (λ(y:Int×Unit) _=>y.1=dM ts+fE T.enc (aW x.2)-xF ts (x.2.take (i+1))) ?_ λ⟨(y:Int),_⟩ Y g hy=>?_
      .refine DZ (J.ext z) f λa Y g _ o6=>?_
       have l0:∀{K:Int->aK} {Q:Nat->bG->aG->Prop} {h'},Ext Y h'->wp P (K e.1) h' Q->wp P (.load (tI) (aB (some a) 0) K) h' Q:=λq H=>bC (b:=bI) _ e.1 rfl (aI.1 (o6.ext q).cells 0 _ rfl) H;have l1:∀{K:Int->aK} {Q:Nat->bG->aG->Prop} {h'},Ext Y h'->wp P (K e.2.1) h' Q->wp P (.load (tI) (aB (some a) 1) K) h' Q:=λq H=>bC (b:=bI) _ e.2.1 rfl (aI.1 (o6.ext q).cells 1 _ rfl) H;have E:=Ext.refl Y;have r6:=r.ext (z.trans g);refine l1 E (l0 E (aE (λo=>?_) λo=>?_))
       .rw[dL]at o
        refine l1 E (l0 E (aM (VW M r6 (at_:=e.2.1) (by omega) (by rw[W];omega)) λ⟨(s1:oX),_⟩ h7 X R=>sR (q:=a) (j:=0) (aI.1 (o6.ext X).cells 0 _ rfl) (aM (VW M (r6.ext X) (at_:=e.1) (by omega) (by rw[W];omega)) λ⟨(s2:oX),_⟩ h8 e8 U=>?_)));have R:s1=_:=R;have U:s2=_:=U;rw[W]at R U;have a4:TI ts:=by rw[<-W];exact xZ r.cur.bytes
        have b1:s1.2.1=dM (ts.take e.2.1.toNat):=by rw[R];exact(D9 (a4.take _)).2
        have b2:s2.2.1=dM (ts.take e.1.toNat):=by rw[U];exact(D9 (a4.take _)).2
        have k1:=wN ts e.2.1.toNat;have k2:=wN ts e.1.toNat;dsimp only;rw[b1,b2,bY (a:=((dM (ts.take e.2.1.toNat):Nat):Int)) (by omega) (by omega),bY (by omega) (by omega)];exact aC ⟨rfl,(g.trans X).trans e8,(_,()),rfl,by show _=_;rw[aw];omega⟩
       .rw[gD]at o
        have bt:e.1=e.2.1:=by omega
        exact aC ⟨rfl,g,(_,()),rfl,by show _=_;rw[aw,bt];omega⟩
      .have hy:y=_:=hy
       subst hy;dsimp only;rw[aX (a:=(i:Int)) (by omega) (by omega)];exact aC ⟨λ_=>⟨(_,(i:Int)+1,()),rfl,⟨z.trans g,i+1,rfl,by omega,rfl⟩,by dsimp only;omega⟩,λh=>absurd rfl h⟩
     .rw[aY,aN,m]at c
      rw[iW (by omega)];exact aC ⟨λh=>absurd h (by decide),λ_=>⟨z,rfl,rfl⟩⟩
    .rintro t k h5 ⟨z,rfl,rfl⟩
     refine bE (fI (aL rfl (aL rfl (bC (b:=bI) _ T.limit rfl (r.ext z).c1 (aE (λc=>?_) λc=>?_)))))
     .rw[dL]at c
      exact aC ⟨rfl,z,(50,()),rfl, .full B v A c⟩
     .rw[gD]at c
      exact aC ⟨rfl,z,(0,()),rfl, .ok B v A c⟩
   .exact nP (by decide) (bE (fI (aC ⟨rfl,w,(11,()),rfl, .fit B v b3⟩)))
 .exact nP (by decide) (bE (fI (aC ⟨rfl,D,(2,()),rfl, .place B b4⟩)))
end
section
open Go.Sw.Any Go.Sw.Codec
open Go.Sw.Tree (iv fP jR jX mW oR kM rL kK dQ lB)
variable{P:Program}{S:cH}{h:aG}{Q:Nat->bG->aG->Prop}
variable{l:bB}
theorem Vo{enc:Int}(he:eL enc)(hb:cC l)(e:0<l.length):0<bW enc (eJ enc l).1/\(eJ enc l).2=bW enc (eJ enc l).1/\cZ enc (eJ enc l).1=l.take (eJ enc l).2.toNat:=by
 obtain⟨b,c⟩:=Xx he hb e;have f:=oQ b;have g:=jM (enc:=enc) e hb;rw[c,dJ]at f;exact⟨b,by omega,c⟩
theorem WG{enc:Int}(he:eL enc)(hb:cC l):(∀t,t∈bH enc l->0<bW enc t.1/\t.2=bW enc t.1)/\(bH enc l).flatMap (λt=>cZ enc t.1)=l:=by
 refine Gb (enc:=enc) (M:=λl=>(∀t,t∈bH enc l->0<bW enc t.1/\t.2=bW enc t.1)/\(bH enc l).flatMap (λt=>cZ enc t.1)=l) (λl c=>?_) (λl hb b e=>?_) l hb
 .rw[mJ c];exact⟨λt ht=>(by cases ht),(Aq c).symm⟩
 .obtain⟨f,g,j⟩:=Vo he hb b
  rw[jY hb b];refine⟨λt ht=>?_,?_⟩
  .rcases eH.1 ht with rfl|ht
   .exact⟨f,g⟩
   .exact e.1 t ht
  .rw[gB,e.2,j,eY]
abbrev tk(enc a:Int):Int×Int:=(a,bW enc a)
theorem P3{enc:Int}(he:eL enc):∀{l:bB},(∀a,a∈l->0<bW enc a/\iU a)->bH enc (l.flatMap (cZ enc))=l.map (tk enc)
 |[],_=>mJ rfl
 |a::l,h=>by
  have ha:=h a (eO ..);have f:=λx c=>h x (eK _ c);have b:=Uy (enc:=enc) (l:=l) λx c=>(f x c).1;have e:=Qx he ha.1 ha.2 b;have hlen:=oQ ha.1;rw[gB,jY (Ij (Gc ha.1) b) (by rw[bP];omega),e];dsimp only;rw[Mr (by omega),P3 he f];rfl
theorem cv{enc a:Int}(he:eL enc)(g:0<bW enc a)(k:¬iU a):bH enc (cZ enc a)=[tk enc a]:=by
 have hb:=Gc g;have hlen:=oQ g;have hu:=(iK enc a).1 g;have e:eJ enc (cZ enc a)=(a,bW enc a):=by
  unfold iU at k;rcases rO he with rfl|f|f|rfl
  .have ha : -256<=a/\a <= -129:=by omega
   have b:cZ 1 a=[-1-a]:=by unfold cZ;rw[if_pos (by omega)]
   have c:bW 1 a=1:=by rw[b]at hlen;exact hlen.symm
   rw[b]at hb⊢;unfold eJ;rw[if_pos rfl,L7 hb (by simp) λm o p hm n=>?_,c]
   .simp;omega
   .have j:m=1:=by simp at hm;omega
    subst j;have h0:=hb.at 0;have:=(Ko (x1:=0) (x2:=0) (x3:=0) h0.1 h0.2 1 (by decide)).1 n;simp[pY]at this;omega
  .subst f
   by_cases h0:a<0
   .have b:cZ 2 a=[-1-a]:=by unfold cZ;rw[if_pos h0]
    have c:bW 2 a=1:=by rw[b]at hlen;exact hlen.symm
    rw[b,c];unfold eJ gV;simp;omega
   .have b:cZ 2 a=[a % 256,a / 256]:=by unfold cZ fU;rw[if_neg h0,if_neg (by decide),if_neg (by decide),if_neg (by omega),if_pos rfl]
    have c:bW 2 a=2:=by rw[b]at hlen;exact hlen.symm
    rw[b,c];unfold eJ gV cD;simp;omega
  .subst f
   by_cases h0:a<0
   .have b:cZ 3 a=[-1-a]:=by unfold cZ;rw[if_pos h0]
    have c:bW 3 a=1:=by rw[b]at hlen;exact hlen.symm
    rw[b,c];unfold eJ gV;simp;omega
   .have b:cZ 3 a=[a / 256,a % 256]:=by unfold cZ fU;rw[if_neg h0,if_neg (by decide),if_neg (by decide),if_neg (by omega),if_neg (by decide)]
    have c:bW 3 a=2:=by rw[b]at hlen;exact hlen.symm
    rw[b,c];unfold eJ gV cD;simp;omega
  .omega
 rw[jY hb (by omega),e];dsimp only;rw[uL (by omega),mJ rfl]
theorem Nd.mono{I:iJ}{e:Nat->Prop}(b:∀i,i<h.size->I.Z i->e i):∀{t:Bt I.It} {p:OA},Nd I h p t->Nd {I with Z:=e} h p t
 |.nil,_,n=>n
 |.node l x r,p,⟨a,pl,pr,f,c,g,j⟩=>⟨a,pl,pr,f,⟨c.1,b _ (by have:=BY (aI.1 c.1 0 _ rfl);rwa [iS]at this) c.2.1,c.2.2⟩,Nd.mono b g,Nd.mono b j⟩
theorem yA{Z b:Nat->Prop}{t:Bt Part}{p:OA}(n:Nd (part S Z) h p t)(c:∀i,i<h.size->Z i->b i):Nd (part S b) h p t:=Nd.mono (I:=part S Z) c n
def nv(Z:Nat->Prop)(s:Sl)(i:Nat):Prop:=Z i\/∃b,s.aD=some b/\b.block=i
theorem ZM{k:IntKind}{n:Nat}{h h':aG}{s r:Sl}{A B:bB}{x:Sl}{a b:Addr}(F:bU n k h s A)(p:bU n k h' r (A++B))(hb:s.aD=some b)(G:r.aD=some b)(f:kW k h x l)(ha:x.aD=some a)(DN:a.block=b.block)(q:a.spot=none)(E:a.off+l.length<=A.length):kW k h' x l:=by
 obtain⟨_,_,_,t⟩:=F.own;rw[hb]at t;obtain⟨e0,M,_,cs,elem,w,N,z⟩:=t;obtain⟨_,_,_,g⟩:=p.own;rw[G]at g;obtain⟨_,_,_,H,u,j,J,m⟩:=g;refine⟨⟨f.rd.1,λi v hi=>?_⟩,f.cap,f.max,f.wf⟩;obtain⟨K,ea,c⟩:=f.rd.2 i v hi;rw[ha]at ea;cases ea;refine⟨a,ha,?_⟩;have o:=(cR.1 hi).1;rw[cE]at o;obtain⟨L,e,sp⟩:=a;dsimp only at DN q E;subst q;subst DN;rw[pI]at c⊢;unfold Sw.cell at c⊢;dsimp only at c⊢;rw[w]at c;rw[j];have C:=z (e+i) (.int k (A.getD (e+i) 0)) (by rw[gP,cL (by omega)];simp[List.getD,cL (show e+i<A.length by omega)]);have D:=m (e+i) (.int k (A.getD (e+i) 0)) (by rw[gP,mL (by omega),cL (by omega)];simp[List.getD,cL (show e+i<A.length by omega)]);simp at c⊢;rw[C]at c;rw[D];exact c
theorem cu{n:Nat}{T:TX}{B:bB}{r:Sl}{h1 j:aG}(t:eP S n h T)(hn:n<=h.size)(hB:0<B.length)(o1:bU n .u8 h1 r (T.A++B))(v:jU T.ad h h1)(H:∀a,r.aD=some a->T.ad.aD=some a\/h.size<=a.block)(c1:r.aD=T.ad.aD\/Ext h h1)
  (o2:cA n 1 j ⟨some T.p,4,4⟩ [aH T.enc,aH T.limit, .pointer T.cur.root,dN r]) (w:jU ⟨some T.p,4,4⟩ h1 j):eP S n j {T with ad:=r,A:=T.A++B,Z:=nv T.Z r}/\∀q,AZ h T q->AZ j {T with ad:=r,A:=T.A++B,Z:=nv T.Z r} q:=by
 have O:T.p.block<h.size:=(t.lo _ t.zp).2;have C:∀b,r.aD=some b->b.block≠T.p.block:=λb hb=>by
  rcases H b hb with g|g
  .exact t.dz b g
  .omega
 have L:∀{q},AZ h T q->AZ j {T with ad:=r,A:=T.A++B,Z:=nv T.Z r} q:=λ{q} f=>by
  have D:∀a,q.1.1.aD=some a->a.block<h.size:=λa ha=>(t.lo _ (f.MN a ha).1).2;have U:kW .u8 h1 q.1.1 q.2:=by
   rcases c1 with E|E
   .cases ha:q.1.1.aD with
    |none=>exact f.lO.blocks λa g=>by rw[ha]at g;cases g
    |some a=>
     cases hb:T.ad.aD with
     |none=>exact f.lO.blocks λa g o=>v.2.1 _ o λb k=>by rw[hb]at k;cases k
     |some b=>
      by_cases DN:a.block=b.block
      .obtain⟨_,_,R⟩:=f.MN a ha
       obtain⟨G,K⟩:=R b hb DN;exact ZM t.ad o1 hb (E.trans hb) f.lO ha DN G K
      .exact f.lO.blocks λY g o=>v.2.1 _ o λM k=>by rw[ha]at g;cases g;rw[hb]at k;cases k;exact λe=>DN e.symm
   .exact f.lO.ext E
  refine⟨U.blocks λa ha o=>w.2.1 _ o λb hb=>by cases hb;exact λe=>(f.MN a ha).2.1 e.symm,f.ne,f.is,f.tag,f.len,λa ha=>⟨.inl (f.MN a ha).1,(f.MN a ha).2.1,λb hb DN=>?_⟩⟩;rcases H b hb with g|g
  .obtain⟨G,K⟩:=(f.MN a ha).2.2 b g DN
   refine⟨G,?_⟩;show _<=(T.A++B).length;rw[bP];omega
  .have:=D a ha;omega
 have nd:∀{s},Lv S h T s->Nd (part S (nv T.Z r)) j s.root s.t:=λ{s} m=>by
  have V:Nd (part S T.Z) h1 s.root s.t:=m.nd.Vx v λb hb=>by
   have N:=t.uz b hb;have o:kW .u8 h T.ad T.A:=t.ad.lO;obtain⟨M,e,c⟩:=o.rd.at (i:=0) N;rw[hb]at e;cases e;obtain⟨_,_,_,u⟩:=t.ad.own;rw[hb]at u;obtain⟨bb,bo,X⟩:=b;have e0:=u.1;have z:=u.2.1;dsimp only at e0 z;subst e0;subst z;rw[add_zero']at c;exact⟨_,_,c⟩
  have W:Nd (part S T.Z) j s.root s.t:=V.Vx w λb hb=>by
   cases hb;obtain⟨_,_,_,u⟩:=t.ob;have c:=aI.1 (t.ob.cells) 0 _ rfl;have c1:Sw.cell h1 (T.p.add 0)=some (aH T.enc):=by
    rw[yS (h:=h) (by rw[iS];exact v.2.1 _ O λb hb=>t.dz b hb)];exact c
   rw[add_zero']at c1;obtain⟨e0,z,_⟩:=u;have J:(⟨T.p.block,0,none⟩:Addr)=T.p:=by
    show(⟨T.p.block,0,none⟩:Addr)=⟨T.p.block,T.p.off,T.p.spot⟩;rw[e0,z]
   rw[J];exact⟨_,_,c1⟩
  exact yA W λi _ hi=>.inl hi
 have st:∀{s},Lv S h T s->Lv S j {T with ad:=r,A:=T.A++B,Z:=nv T.Z r} s:=λ{s} m=>⟨nd m,m.ls,λq F=>L (m.Cx q F),m.small⟩;refine⟨⟨t.enc,t.Bq,o2,?_,C,λb hb=>by show 0<(T.A++B).length;rw[bP];omega,st t.cur,λs m=>st (t.kept s m), .inl t.zp,λb hb=>.inr ⟨b,hb,rfl⟩,λi hi=>?_⟩,λq F=>L F⟩
 .exact o1.Hg w λa b ha hb=>by cases hb;exact λe=>C a ha e.symm
 .rcases hi with hi|⟨b,hb,rfl⟩
  .have:=t.lo i hi;have:=v.1;have:=w.1;omega
  .have:=(o1.own.lt hb);have:=w.1;omega
end
section
open Go.Sw.Any Go.Sw.Codec
open Go.Sw.Tree (iv fP jR jX mW oR kM rL kK dQ lB)
variable{P:Program}{S:cH}{h:aG}{Q:Nat->bG->aG->Prop}
variable{a1 a2 a5 a6:Addr}{d:Nat}{h':aG}
def cP(l:List Part):bG:=l.flatMap λr=>Bs.inj PB r
theorem Gd(l m:List Part):cP (l++m)=cP l++cP m:=by simp[cP]
theorem Qf(x:Part):cP [x]=Bs.inj PB x:=by simp[cP]
theorem oh(l:List Part):(cP l).length=l.length*7:=by
 induction l with
 |nil=>rfl
 |cons x l b=>unfold cP at b⊢;rw[gB,bP,b,lA,fK];simp;omega
theorem VQ(l:List Part):∀v,v∈cP l->flat v=true:=λv b=>by
 obtain⟨x,_,c⟩:=GB.1 b;exact xD x v c
abbrev zJ(n:Nat)(h:aG)(s:Sl)(l:List Part):Prop:=cA n 7 h s (cP l)
theorem zJ.len{n:Nat}{s:Sl}{l:List Part}(o:zJ n h s l):s.len=l.length:=by
 have:=o.1;rw[oh]at this;omega
structure FG where
 ad:Sl
 A:bB
 Z:Nat->Prop
 qs:List Pc
 ps:Sl
 uW:bB
def TX.at_(T:TX)(g:FG):TX:={T with ad:=g.ad,A:=g.A,Z:=g.Z}
structure VF(S:cH)(n:Nat)(T:TX)(m:Nat)(a1 a2 a5 a6:Addr)(done:bB)(h:aG)(g:FG):Prop where
 t:eP S n h (T.at_ g)
 o1:cA m 1 h ⟨some a1,1,1⟩ [.pointer (some T.p)]
 o2:cA m 1 h ⟨some a2,1,1⟩ [dN g.ps]
 o5:cA m 1 h ⟨some a5,1,1⟩ [aH (g.A.length-(g.uW.flatMap (cZ T.enc)).length:Nat)]
 o6:cA m 1 h ⟨some a6,1,1⟩ [aH g.uW.length]
 op:zJ m h g.ps (g.qs.map (·.1))
 dj:a1.block≠a2.block/\a1.block≠a5.block/\a1.block≠a6.block/\a2.block≠a5.block/\a2.block≠a6.block/\a5.block≠a6.block
 pd:∀b,g.ps.aD=some b->b.block≠a1.block/\b.block≠a2.block/\b.block≠a5.block/\b.block≠a6.block/\¬g.Z b.block
 zd:¬g.Z a1.block/\¬g.Z a2.block/\¬g.Z a5.block/\¬g.Z a6.block
 zn:∀i,g.Z i->T.Z i\/m<=i
 Cx:∀q,q∈g.qs->AZ h (T.at_ g) q/\q.1.2.1 = -1
 all:g.A=T.A++done.flatMap (cZ T.enc)
 put:dR g.qs++g.uW.flatMap (cZ T.enc)=done.flatMap (cZ T.enc)
 ur:cQ T.enc g.qs++g.uW.map (tk T.enc)=done.map (tk T.enc)
 fits:∀a,a∈done->0<bW T.enc a
 Yo:g.uW.length<=128
theorem VF.bn{n m:Nat}{T:TX}{done:bB}{g:FG}(f:VF S n T m a1 a2 a5 a6 done h g):(g.uW.flatMap (cZ T.enc)).length<=g.A.length:=by
 rw[f.all,bP,<-f.put,bP];omega
theorem VF.drop{n m:Nat}{T:TX}{a1 a2 a5 a6:Addr}{done:bB}{g:FG}(f:VF S n T m a1 a2 a5 a6 done h g):g.A.drop (g.A.length-(g.uW.flatMap (cZ T.enc)).length)=g.uW.flatMap (cZ T.enc):=by
 have b:g.A=(T.A++dR g.qs)++g.uW.flatMap (cZ T.enc):=by rw[f.all,<-f.put,dW]
 have c:g.A.length-(g.uW.flatMap (cZ T.enc)).length=(T.A++dR g.qs).length:=by
  have:=congrArg List.length b;rw[bP (bs:=g.uW.flatMap _)]at this;omega
 rw[c];conv=>lhs;rw[b]
 rw[Mr rfl]
theorem VF.WC{n m:Nat}{T:TX}{done:bB}{g:FG}(f:VF S n T m a1 a2 a5 a6 done h g):∀a,a∈g.uW->0<bW T.enc a:=λa ha=>by
 have c:tk T.enc a∈done.map (tk T.enc):=by rw[<-f.ur];exact qI _ (dA.2 ⟨a,ha,rfl⟩)
 obtain⟨b,hb,e⟩:=dA.1 c;have:b=a:=congrArg Prod.fst e;rw[<-this];exact f.fits b hb
theorem VF.ext{n m:Nat}{T:TX}{a1 a2 a5 a6:Addr}{done:bB}{g:FG}{h':aG}(f:VF S n T m a1 a2 a5 a6 done h g)(e:Ext h h'):VF S n T m a1 a2 a5 a6 done h' g:=
 {f with t:=f.t.ext e,o1:=f.o1.ext e,o2:=f.o2.ext e,o5:=f.o5.ext e,o6:=f.o6.ext e,op:=f.op.ext e,Cx:=λq b=>⟨(f.Cx q b).1.oY (aV.bD (F:=λ_=>False) e) λ_ _ x=>x,(f.Cx q b).2⟩}
theorem HJ{enc:Int}{l:bB}(b:∀a,a∈l->0<bW enc a):l.length<=(l.flatMap (cZ enc)).length/\(l.flatMap (cZ enc)).length<=4*l.length:=by
 induction l with
 |nil=>simp
 |cons a l e=>
  have f:=e λx c=>b x (eK _ c);have g:=oQ (b a (eO ..));have j:=zW enc a;have k:=b a (eO ..);rw[gB,bP,fK];omega
theorem qT{n size c:Nat}{s:Sl}{b:Addr}{vs:bG}(o:cA n size h s vs)(u:jU ⟨some b,c,d⟩ h h')(e:∀a,s.aD=some a->b.block≠a.block):cA n size h' s vs:=
 o.aP λx f=>u.2.1 _ (o.lt f).2 λy g=>by cases g;exact e x f
theorem pP{c:Nat}{b:Addr}(u:jU ⟨some b,c,d⟩ h h'):aV (λi=>i=b.block) h h':=aV.dK u λx e _=>by cases e;rfl
theorem UP(M:kB P S){n m:Nat}{T:TX}{done:bB}{g:FG}{K:Unit->aK}(f:VF S n T m a1 a2 a5 a6 done h g)(hm:m<=h.size)(W:bH T.enc (g.uW.flatMap (cZ T.enc))=g.uW.map (tk T.enc))
  (hd:done.length<=1099511627776) (hA:g.A.length<=1099511627776)
  (w:∀h' g',gZ m h h'->VF S n T m a1 a2 a5 a6 done h' g'->g'.uW=[]->g'.Z=g.Z->g'.ad=g.ad->wp P (K ()) h' Q):wp P (.call (lZ S (some a1) (some a5) (some a2) (some a6)) [] K) h Q:=by
 have he:eL T.enc:=f.t.enc;have hle:=f.bn;have hlen:g.ad.len=g.A.length:=f.t.ad.len;have cc:=HJ f.WC;show wp P (lZ S (some a1) (some a5) (some a2) (some a6)) h _;unfold lZ;have c1:Sw.cell h (a1.add 0)=some (.pointer (some T.p)):=aI.1 f.o1.cells 0 _ rfl;have c2:∀{h'},Ext h h'->Sw.cell h' (a2.add 0)=some (dN g.ps):=λe=>aI.1 (f.o2.ext e).cells 0 _ rfl;have c5:Sw.cell h (a5.add 0)=some (aH (g.A.length-(g.uW.flatMap (cZ T.enc)).length:Nat)):=aI.1 f.o5.cells 0 _ rfl;rw[add_zero']at c1 c5;have lp:∀{K:OA->aK} {Q:Nat->bG->aG->Prop},wp P (K (some T.p)) h Q->wp P (.load (tP) (some a1) K) h Q:=λw=>bC (b:=.ptr) a1 (some T.p) rfl c1 w;have ao:∀{K:Sl->aK} {Q:Nat->bG->aG->Prop},wp P (K g.ad) h Q->wp P (bF (aJ (some T.p))<|bF (aJ (some T.p))<|.load (tS) (aB (some T.p) 3) K) h Q:=λw=>aL rfl (aL rfl (bC (b:=.sl) (T.p.add 3) g.ad rfl f.t.c3 w));have aw:∀{K:Int->aK} {Q:Nat->bG->aG->Prop},wp P (K ((g.A.length-(g.uW.flatMap (cZ T.enc)).length:Nat):Int)) h Q->wp P (.load (tI) (some a5) K) h Q:=λw=>bC (b:=bI) a5 _ rfl c5 w;have l2:∀{K:Sl->aK} {Q:Nat->bG->aG->Prop},wp P (K g.ps) h Q->wp P (.load (tS) (some a2) K) h Q:=λw=>bC (b:=.sl) a2 g.ps rfl (by have:=c2 (Ext.refl h);rwa [add_zero']at this) w;refine lp (ao (aw (aE (λhc=>?_) λhc=>aC ⟨rfl,(),rfl,?_⟩)))
 .rw[dL,aN,hlen]at hc
  have V:0<(g.uW.flatMap (cZ T.enc)).length:=by omega
  generalize a9:g.A.length-(g.uW.flatMap (cZ T.enc)).length=fr at *;have H:=f.drop;rw[a9]at H;have X:bQ (aQ g.ad.len)=g.A.length:=by rw[aN,eX,hlen];omega
  have a4:bQ ((fr:Nat):Int)=fr:=by rw[eX];omega
  have b2:g.ad.len<=g.ad.cap:=f.t.ad.lO.cap;have b4:g.ad.cap<2^63:=f.t.ad.lO.max;refine l2 (lp (aL rfl (aL rfl (bC (b:=bI) (T.p.add 0) T.enc rfl f.t.c0 (lp (ao (aw (sS (fC.2 ⟨jF (by rw[aN];omega) (by rw[aN];omega),fC.2 ⟨jF (by rw[aN];omega) (by rw[X,aN];omega),jF (by omega) (by rw[X];omega)⟩⟩) ?_))))))));rw[X,a4];have ba:kW .u8 h ⟨g.ad.aD,g.A.length,g.A.length⟩ g.A:=by
   have:=(show bU n .u8 h g.ad g.A from f.t.ad).lO.take (n:=g.A.length) (m:=g.A.length) (bM _) (bM _) (by omega);rw[iW (bM _)]at this;exact this
  have J:=ba.tail (i:=fr) (by omega);dsimp only at J;rw[H]at J;refine aM (Ge M he (tag:=Int.negSucc 0) J (by omega)) λ⟨(y:Part),_⟩ h1 e1 G=>?_;have G:y=_:=G;rw[W]at G;dsimp only;have ck:∀{h'} {K:aK} {Q:Nat->bG->aG->Prop},Ext h h'->wp P K h' Q->wp P (.check (some a2) [dN g.ps] K) h' Q:=λe w=>Bx rfl (aI.2 λj v hj=>by
   cases j with
   |zero=>simp at hj;subst hj;exact c2 e
   |succ j=>simp at hj) w
  refine ck e1 (gN (bs:=PB) y (by decide) λC e2 o2=>ck (e1.trans e2) ?_);have D:=e1.trans e2;have f2:=f.ext D;have a7:Rd 7 C ⟨some ⟨h1.size,0,none⟩,1,1⟩ (cP [y]):=by
   rw[Qf];exact⟨by simp[Bs.inj],λi v hi=>⟨_,rfl,aI.1 o2.cells i v hi⟩⟩
  have b9:g.qs.length<=done.length:=by
   have h1:=congrArg List.length f.ur;rw[bP,cE,cE]at h1;have:∀qs:List Pc,(∀q,q∈qs->AZ h (T.at_ g) q)->qs.length<=(cQ T.enc qs).length:=λqs=>by
    induction qs with
    |nil=>intro _;exact bM _
    |cons q qs ih=>
     intro B;have E:=ih λx u=>B x (eK _ u);have h4:=B q (eO ..);have h5:=(zY (enc:=T.enc) h4.bytes).2.1 h4.ne;unfold cQ at E⊢;rw[gB,bP,fK];omega
   have:=this g.qs λq B=>(f.Cx q B).1;omega
  have bb:=zJ.len f2.op;rw[cE]at bb;refine Gz f2.op (by have:=D.size;omega) a7 (VQ _) rfl (by show(g.ps.len+1)*64<=_;omega) (by show g.ps.len+1<_;omega) λr E a3 b3 u3 d3=>?_;rw[<-Gd]at a3;have k3:gZ m h E:=gZ.trans (D.aP hm) (jU.aP f2.op (by have:=D.size;omega) u3);have a8:=f2.t.lo;have s3:∀i,i<C.size->(∀b,g.ps.aD=some b->b.block≠i)->E[i]?=C[i]? := u3.2.1;have O:aV (λi=>∃b,g.ps.aD=some b/\b.block=i) C E:=aV.dK u3 λx u _=>⟨x,u,rfl⟩;have t3:eP S n E (T.at_ g):=f2.t.oY O λi hi ⟨b,hb,e⟩=>(f2.pd b hb).2.2.2.2 (e ▸ hi);have k1:∀{c:Addr} {vs:bG},cA m 1 C ⟨some c,1,1⟩ vs->(∀b,g.ps.aD=some b->b.block≠c.block)->cA m 1 E ⟨some c,1,1⟩ vs:=λo V=>O.own o λx u ⟨b,hb,e⟩=>by cases u;exact V b hb e
  have bd:=k1 f2.o1 λb hb=>(f2.pd b hb).1;have bo:=k1 f2.o2 λb hb=>(f2.pd b hb).2.1;have bt:=k1 f2.o5 λb hb=>(f2.pd b hb).2.2.1;have b0:=k1 f2.o6 λb hb=>(f2.pd b hb).2.2.2.1;obtain⟨d1,d2,d4,d5,d6,d7⟩:=f.dj;have L:∀b,r.aD=some b->b.block≠a1.block/\b.block≠a2.block/\b.block≠a5.block/\b.block≠a6.block/\¬g.Z b.block:=λb hb=>by
   rcases d3 b hb with u|u
   .exact f2.pd b u
   .have q1:=(f2.o1.lt rfl).2;have q2:=(f2.o2.lt rfl).2;have q5:=(f2.o5.lt rfl).2;have q6:=(f2.o6.lt rfl).2
    replace q1:a1.block<C.size:=q1;replace q2:a2.block<C.size:=q2;replace q5:a5.block<C.size:=q5;replace q6:a6.block<C.size:=q6;exact⟨by omega,by omega,by omega,by omega,λhz=>by have:b.block<C.size:=(a8 _ hz).2;omega⟩
  refine fP [dN r] bo rfl (by intro v Y;rw[dE.1 Y];rfl) λh4 bp u4=>fP [aH (aQ g.ad.len)] (qT bt u4 λa ha=>by cases ha;exact d5) rfl (by intro v Y;rw[dE.1 Y];rfl) λh5 a0 u5=>fP [aH 0] (qT (qT b0 u4 λa ha=>by cases ha;exact d6) u5 λa ha=>by cases ha;exact d7) rfl (by intro v Y;rw[dE.1 Y];rfl) λR b1 u6=>aC ⟨rfl,(),rfl,?_⟩;have z:aV (λi=>i=a2.block\/i=a5.block\/i=a6.block) E R:=((pP u4).mono λi _ e=>.inl e).trans (((pP u5).mono λi _ e=>.inr (.inl e)).trans ((pP u6).mono λi _ e=>.inr (.inr e)) λi _ x=>x) λi _ x=>x;have ma:m<=a2.block/\m<=a5.block/\m<=a6.block:=⟨(f.o2.lt rfl).1,(f.o5.lt rfl).1,(f.o6.lt rfl).1⟩;obtain⟨z1,z2,z5,z6⟩:=f.zd;have t6:eP S n R (T.at_ g):=t3.oY z λi hi e=>by rcases e with rfl|rfl|rfl<;>first|exact z2 hi|exact z5 hi|exact z6 hi
  have N:aV (λi=>¬g.Z i) h R:=((aV.bD (F:=λi=>¬g.Z i) D).trans (O.mono λi _ ⟨b,hb,e⟩ hz=>(f2.pd b hb).2.2.2.2 (e ▸ hz)) λi _ x=>x).trans (z.mono λi _ e hi=>by rcases e with rfl|rfl|rfl<;>first|exact z2 hi|exact z5 hi|exact z6 hi) λi _ x=>x;refine w R {g with qs:=g.qs++[(y,g.uW.flatMap (cZ T.enc))],ps:=r,uW:=[]} (gZ.trans k3 (z.aP (by have:=k3.1;omega) λi hi e=>by rcases e with rfl|rfl|rfl<;>omega)) ⟨t6,?_,?_,?_,b1,?_,f.dj,L,f.zd,f.zn,?_,f.all,?_,?_,f.fits,by simp⟩ rfl rfl rfl
  .exact z.own bd λx u e=>by cases u;rcases e with e|e|e<;>first|exact d1 e|exact d2 e|exact d4 e
  .exact qT (qT bp u5 λa ha=>by cases ha;exact d5.symm) u6 λa ha=>by cases ha;exact d6.symm
  .have:aQ g.ad.len=((g.A.length-(([]:bB).flatMap (cZ T.enc)).length:Nat):Int):=by rw[aN,hlen];simp
   rw[this]at a0;exact qT a0 u6 λa ha=>by cases ha;exact d7.symm
  .rw[dP]
   exact z.own a3 λx u e=>by rcases e with e|e|e<;>first|exact(L x u).2.1 e|exact(L x u).2.2.1 e|exact(L x u).2.2.2.1 e
  .intro q B
   rcases dH.1 B with B|B
   .exact⟨(f.Cx q B).1.oY N λi hi hn=>hn hi,(f.Cx q B).2⟩
   .rw[dE.1 B]
    have ab:∃b,g.ad.aD=some b:=by
     cases hb:g.ad.aD with
     |some b=>exact⟨b,rfl⟩
     |none=>
      obtain⟨_,b8,_,k⟩:=f.t.ad.own;have k:match g.ad.aD with|none=>g.ad.cap=0|some a=>_:=k
      rw[hb]at k;have k:g.ad.cap=0:=k;omega
    obtain⟨b,hb⟩:=ab;have al:b.off=0/\b.spot=none:=by
     obtain⟨_,_,_,k⟩:=f.t.ad.own;have k:match g.ad.aD with|none=>g.ad.cap=0|some a=>a.off=0/\a.spot=none/\_:=k
     rw[hb]at k;exact⟨k.1,k.2.1⟩
    have U:bK g.ad.aD g.A.length fr 1=some (b.add fr):=by
     unfold bK;rw[if_neg (by omega),hb];simp
    refine⟨⟨?_,V,?_,?_,?_,λa ha=>?_⟩,by rw[G];rfl⟩
    .rw[G]
     have:(XJ (⟨bK g.ad.aD g.A.length fr 1,cY g.A.length fr,cY g.A.length fr⟩) (Int.negSucc 0) (List.map (tk T.enc) g.uW)).1=⟨bK g.ad.aD g.A.length fr 1,cY g.A.length fr,cY g.A.length fr⟩:=rfl;show kW .u8 R (XJ _ _ _).1 _;rw[this];refine N.lO J λx u hn=>hn ?_;rw[U]at u;cases u;rw[iS];exact f.t.za b hb
    .show y=XJ y.1 y.2.1 (bH T.enc _)
     rw[G,W];rfl
    .rw[G];have:=f.Yo;show(-1:Int)<=Int.negSucc 0/\Int.negSucc 0+((g.uW.flatMap (cZ T.enc)).length:Nat)<=65536;omega
    .have:=f.Yo
     show(g.uW.flatMap (cZ T.enc)).length<=_;omega
    .have ha:bK g.ad.aD g.A.length fr 1=some a:=by rw[G]at ha;exact ha
     rw[U]at ha;cases ha;refine⟨by rw[iS];exact f.t.za b hb,by rw[iS];exact f.t.dz b hb,λb' b6 _=>?_⟩;refine⟨MJ al.2 _,?_⟩;rw[VL,al.1];show 0+fr+(g.uW.flatMap (cZ T.enc)).length<=g.A.length;omega
  .have:dR (g.qs++[(y,g.uW.flatMap (cZ T.enc))])=dR g.qs++g.uW.flatMap (cZ T.enc):=by simp[dR]
   rw[this,<-f.put];simp
  .have:cQ T.enc (g.qs++[(y,g.uW.flatMap (cZ T.enc))])=cQ T.enc g.qs++g.uW.map (tk T.enc):=by rw[<-W];simp[cQ]
   rw[this,<-f.ur];simp
 .rw[gD,aN,hlen]at hc
  have h0:(g.uW.flatMap (cZ T.enc)).length=0:=by omega
  have hs:g.uW=[]:=Aq (by omega);exact w h g (gZ.refl _ _) f hs rfl rfl
end
section
open Go.Sw.Any Go.Sw.Codec
open Go.Sw.Tree (iv fP jR jX mW oR kM rL kK dQ lB)
variable{P:Program}{S:cH}{h:aG}{Q:Nat->bG->aG->Prop}
def rS(T:TX)(i:Nat):Prop:=i=T.p.block\/∃b,T.ad.aD=some b/\b.block=i
theorem JB{n:Nat}{T:TX}(t:eP S n h T){i:Nat}(hi:rS T i):T.Z i:=by
 rcases hi with rfl|⟨b,hb,rfl⟩
 .exact t.zp
 .exact t.za b hb
structure dy(S:cH)(n:Nat)(T:TX)(h0:aG)(a1 a2 a5 a6:Addr)(done:bB)(h:aG)(g:FG):Prop where
 f:VF S n T h0.size a1 a2 a5 a6 done h g
 c:aV (rS T) h0 h
 zm:∀i,T.Z i->g.Z i
 adc:∀b,g.ad.aD=some b->T.ad.aD=some b\/h0.size<=b.block
theorem dy.ext{n:Nat}{T:TX}{h0 h':aG}{a1 a2 a5 a6:Addr}{done:bB}{g:FG}(j:dy S n T h0 a1 a2 a5 a6 done h g)(e:Ext h h'):dy S n T h0 a1 a2 a5 a6 done h' g:=⟨j.f.ext e,j.c.ext e,j.zm,j.adc⟩
theorem qc(M:kB P S){n:Nat}{T:TX}{h0:aG}{a1 a2 a5 a6:Addr}{done:bB}{g:FG}{a:Int}{K:aK}(j:dy S n T h0 a1 a2 a5 a6 done h g)(hn:n<=h0.size)(hf:0<bW T.enc a)(a9:cX .i64 a)(hA:g.A.length+4<=1099511627780)(b9:g.uW.length<128)
  (hk:∀h' B,dy S n T h0 a1 a2 a5 a6 (done++[a]) h' B->B.uW=g.uW++[a]->B.A.length<=g.A.length+4->wp P K h' Q) :
  wp P (.load (tP) (some a1) λ(D:OA)=>bF (aJ D)<|bF (aJ D)<|.load (tI) (aB D 0) λ(a0:Int)=>
   .alloc [aH a] λ(al:Addr)=>.call (rC S a0 ⟨some al,1,1⟩) [tS, tI, tI] λ(a4:Sl×Int×Int×Unit)=>
   .load (tP) (some a1) λ(C:OA)=>.load (tP) (some a1) λ(E:OA)=>bF (aJ E)<|bF (aJ E)<|.load (tS) (aB E 3) λ(ao:Sl)=>
   .append 1 1 [.int .u8 0] ao a4.1 λ(aw:Sl)=>.check (some a1) [.pointer C]<|bF (aJ C)<|bF (aJ C)<|.store (aB C 3) [dN aw]<|
   .load (tI) (some a6) λ(a3:Int)=>.store (some a6) [aH (aT .i64 a3 1)] K) h Q:=by
 have f:=j.f;have he:eL T.enc:=f.t.enc;have hlen:=oQ hf;have O:=zW T.enc a;have lp:∀{h'} {K:OA->aK} {Q:Nat->bG->aG->Prop},Ext h h'->wp P (K (some T.p)) h' Q->wp P (.load (tP) (some a1) K) h' Q:=λe hk=>bC (b:=.ptr) a1 (some T.p) rfl (by have:=aI.1 (f.o1.ext e).cells 0 _ rfl;rwa [add_zero']at this) hk;refine lp (Ext.refl h) (aL rfl (aL rfl (bC (b:=bI) (T.p.add 0) T.enc rfl f.t.c0 ?_)));refine jG (k:=.i64) [a] (by intro x m;rw[dE.1 m];exact a9) (by simp) λh1 e1 o1=>?_;refine aM (YK M o1.lO (by simp)) λ⟨(y:Sl),(at_:Int),(er:Int),_⟩ u e2 w=>?_;obtain⟨oy,_,_⟩:=ew.fits he (by intro b hb;rw[dE.1 hb];exact hf) w;have oy:bU h1.size .u8 u y (cZ T.enc a):=by simpa using oy
 dsimp only;have z:=e1.trans e2;have f2:=f.ext z;refine lp z (lp z (aL rfl (aL rfl (bC (b:=.sl) (T.p.add 3) g.ad rfl f2.t.c3 ?_))));have X:n<=u.size:=dI hn (dI j.c.1 z.size);refine uT (show bU n .u8 u g.ad g.A from f2.t.ad) X oy.lO (by omega) (by omega) λr N k3 o3 u3 b3 c3=>?_;have lo:=f2.t.lo;have bb:∀c:Addr,¬g.Z c.block->∀b,g.ad.aD=some b->b.block≠c.block:=λc V b hb e=>V (e ▸ f2.t.za b hb);obtain⟨z1,z2,z5,z6⟩:=f.zd;obtain⟨d1,d2,d4,d5,d6,d7⟩:=f.dj;have G:aV (λi=>∃b,g.ad.aD=some b/\b.block=i) u N:=aV.dK u3 λx m _=>⟨x,m,rfl⟩;have k1:∀{c:Addr} {vs:bG},cA h0.size 1 u ⟨some c,1,1⟩ vs->¬g.Z c.block->cA h0.size 1 N ⟨some c,1,1⟩ vs:=λo ba=>G.own o λx m ⟨b,hb,e⟩=>by cases m;exact bb _ ba b hb e
 have Y:=k1 f2.o1 z1;have bo:=k1 f2.o2 z2;have bt:=k1 f2.o5 z5;have b1:=k1 f2.o6 z6;have cc:T.p.block<u.size:=(lo _ f2.t.zp).2;have b4:cA n 1 N ⟨some T.p,4,4⟩ [aH T.enc,aH T.limit, .pointer T.cur.root,dN g.ad]:=G.own (show cA n 1 u ⟨some T.p,4,4⟩ [aH T.enc,aH T.limit, .pointer T.cur.root,dN g.ad] from f2.t.ob) λx m ⟨b,hb,e⟩=>by cases m;exact f2.t.dz b hb e
 refine Bx rfl (aI.2 λi v hi=>by
  cases i with
  |zero=>simp at hi;subst hi;exact aI.1 Y.cells 0 _ rfl
  |succ i=>simp at hi) (aL rfl (aL rfl (fA (dN r) b4 (by simp) rfl λO o4 J=>?_)))
 have o4:cA n 1 O ⟨some T.p,4,4⟩ [aH T.enc,aH T.limit, .pointer T.cur.root,dN r]:=o4;obtain⟨t4,b6⟩:=cu f2.t X (by omega) o3 u3 b3 c3 o4 J;have zp:∀c:Addr,¬g.Z c.block->T.p.block≠c.block:=λc V e=>V (e ▸ f.t.zp);have bd:=qT Y J λx m=>by cases m;exact zp _ z1
 have bp:=qT bo J λx m=>by cases m;exact zp _ z2
 have b0:=qT bt J λx m=>by cases m;exact zp _ z5
 have ab:=qT b1 J λx m=>by cases m;exact zp _ z6
 have b8:=f.Yo;refine bC (b:=bI) a6 _ rfl (by have:=aI.1 ab.cells 0 _ rfl;rwa [add_zero']at this) ?_;rw[aX (by omega) (by omega)];refine fP [aH ((g.uW.length:Int)+1)] ab rfl (by intro v hv;rw[dE.1 hv];rfl) λU b2 W=>?_;have rz:∀b,r.aD=some b->g.Z b.block\/u.size<=b.block:=λb hb=>(b3 b hb).imp (λm=>f2.t.za b m) id;have old:∀c:Addr,c.block<u.size->¬g.Z c.block->¬nv g.Z r c.block:=λc V hz m=>by
  rcases m with m|⟨b,hb,e⟩
  .exact hz m
  .rcases rz b hb with w|w
   .exact hz (e ▸ w)
   .omega
 have q1:a1.block<u.size:=(f2.o1.lt rfl).2;have q2:a2.block<u.size:=(f2.o2.lt rfl).2;have q5:a5.block<u.size:=(f2.o5.lt rfl).2;have q6:a6.block<u.size:=(f2.o6.lt rfl).2;have R:=old a6 q6 z6;have H:aV (λi=>i=a6.block) O U:=pP W
 let B:FG:={ad:=r,A:=g.A++cZ T.enc a,Z:=nv g.Z r,qs:=g.qs,ps:=g.ps,uW:=g.uW++[a]}
 have t5:eP S n U (T.at_ B):=t4.oY H λi hi e=>R (e ▸ hi);have cd:=f.bn;have L:aV (λi=>i=T.p.block) N O:=pP J;refine hk U B ⟨⟨t5,?_,?_,?_,?_,?_,f.dj,λb hb=>?_,⟨old _ q1 z1,old _ q2 z2,old _ q5 z5,R⟩,λi hi=>?_,λq hq=>?_,?_,?_,?_,?_,?_⟩,?_,λi hi=>.inl (j.zm i hi),λb hb=>?_⟩ rfl (by show(g.A++cZ T.enc a).length<=_;rw[bP];omega)
 .exact qT bd W λx m=>by cases m;exact d4.symm
 .exact qT bp W λx m=>by cases m;exact d6.symm
 .have:((B.A.length-(B.uW.flatMap (cZ T.enc)).length:Nat))=g.A.length-(g.uW.flatMap (cZ T.enc)).length:=by
   show(g.A++cZ T.enc a).length-((g.uW++[a]).flatMap (cZ T.enc)).length=_;rw[gX,bP,bP];simp;omega
  rw[this];exact qT b0 W λx m=>by cases m;exact d7.symm
 .have:((B.uW.length:Nat):Int)=(g.uW.length:Int)+1:=by show(((g.uW++[a]).length:Nat):Int)=_;rw[bP];simp
  rw[this];exact b2
 .have p3:zJ h0.size N g.ps (g.qs.map (·.1)):=G.own f2.op λx m ⟨b,hb,e⟩=>(f2.pd x m).2.2.2.2 (e ▸ f2.t.za b hb)
  have p4:zJ h0.size O g.ps (g.qs.map (·.1)):=L.own p3 λx m e=>(f2.pd x m).2.2.2.2 (e ▸ f2.t.zp);exact H.own p4 λx m e=>(f2.pd x m).2.2.2.1 e
 .obtain⟨w1,w2,w3,w4,w5⟩:=f2.pd b hb
  have a8:b.block<u.size:=(f2.op.lt hb).2;exact⟨w1,w2,w3,w4,old b a8 w5⟩
 .rcases hi with hi|⟨b,hb,rfl⟩
  .exact f.zn i hi
  .rcases rz b hb with w|w
   .exact f.zn _ w
   .have:=j.c.1;have:=z.size;right;omega
 .have:=b6 q ((f.Cx q hq).1.oY (aV.bD (F:=λ_=>False) z) λ_ _ x=>x)
  exact⟨AZ.oY this H λi hi e=>R (e ▸ hi),(f.Cx q hq).2⟩
 .show g.A++cZ T.enc a=_
  rw[f.all,gX,dW];simp
 .show dR g.qs++(g.uW++[a]).flatMap (cZ T.enc)=_
  rw[gX,gX,<-f.put,dW]
 .show cQ T.enc g.qs++(g.uW++[a]).map (tk T.enc)=_
  rw[dP,dP,<-f.ur,dW]
 .intro b hb
  rcases dH.1 hb with hb|hb
  .exact f.fits b hb
  .rw[dE.1 hb];exact hf
 .show(g.uW++[a]).length<=128;rw[bP];simp;omega
 .have a7:aV (λi=>(∃b,g.ad.aD=some b/\b.block=i)\/i=T.p.block\/i=a6.block) u U:=(G.mono λi _ e=>.inl e).trans ((L.mono λi _ e=>.inr (.inl e)).trans (H.mono λi _ e=>.inr (.inr e)) λi _ x=>x) λi _ x=>x
  refine(j.c.ext z).trans a7 λi hi m=>?_;rcases m with⟨b,hb,rfl⟩|rfl|rfl
  .rcases j.adc b hb with w|w
   .exact .inr ⟨b,w,rfl⟩
   .omega
  .exact .inl rfl
  .have:h0.size<=a6.block:=(f.o6.lt rfl).1;omega
 .rcases b3 b hb with w|w
  .exact j.adc b w
  .have:=j.c.1;have:=z.size;right;omega
structure n_(S:cH)(n:Nat)(T:TX)(h0:aG)(l:bB)(h:aG)(g:FG):Prop where
 t:eP S n h (T.at_ g)
 op:zJ h0.size h g.ps (g.qs.map (·.1))
 pd:∀b,g.ps.aD=some b->¬g.Z b.block
 zn:∀i,g.Z i->T.Z i\/h0.size<=i
 zm:∀i,T.Z i->g.Z i
 Cx:∀q,q∈g.qs->AZ h (T.at_ g) q/\q.1.2.1 = -1
 all:g.A=T.A++l.flatMap (cZ T.enc)
 put:dR g.qs=l.flatMap (cZ T.enc)
 ur:cQ T.enc g.qs=l.map (tk T.enc)
 adc:∀b,g.ad.aD=some b->T.ad.aD=some b\/h0.size<=b.block
theorem gk(M:kB P S){n:Nat}{T:TX}{put:Sl}{l:bB}(t:eP S n h T)(hn:n<=h.size)(hp:kW .i64 h put l)(hf:∀a,a∈l->0<bW T.enc a)(hA:T.A.length+4*l.length<=1099511627776)
  (E:l≠[]->∀a,put.aD=some a->¬T.Z a.block) :
  wp P (AB S (some T.p) put) h λtg z h'=>tg=0/\aV (rS T) h h'/\∃g:FG,z=[dN g.ps]/\n_ S n T h l h' g:=by
 unfold AB;have B:=hp.len;refine λU=>?_;have e1:Ext h (h.push (.cells [Value.pointer (some T.p)].toArray U)):=Ext.push ..;have o1:cA h.size 1 (h.push (.cells [Value.pointer (some T.p)].toArray U)) ⟨some ⟨h.size,0,none⟩,1,1⟩ [.pointer (some T.p)]:=bR rfl (by decide) (by decide);have y1:(h.push (.cells [Value.pointer (some T.p)].toArray U)).size=h.size+1:=by simp
 generalize h.push (.cells [Value.pointer (some T.p)].toArray U)=m at e1 o1 y1⊢;refine λV=>?_;have e2:Ext m (m.push (.cells [Value.slice none 0 0].toArray V)):=Ext.push ..;have o2:cA m.size 1 (m.push (.cells [Value.slice none 0 0].toArray V)) ⟨some ⟨m.size,0,none⟩,1,1⟩ [.slice none 0 0]:=bR rfl (by decide) (by decide);have y2:(m.push (.cells [Value.slice none 0 0].toArray V)).size=m.size+1:=by simp
 generalize m.push (.cells [Value.slice none 0 0].toArray V)=o at e2 o2 y2⊢;have t2:=t.ext (e1.trans e2);refine bC (b:=.ptr) ⟨h.size,0,none⟩ (some T.p) rfl (by have:=aI.1 (o1.ext e2).cells 0 _ rfl;rwa [add_zero']at this) (aL rfl (aL rfl (bC (b:=.sl) (T.p.add 3) T.ad rfl t2.c3 ?_)));have b9:T.ad.len=T.A.length:=t.ad.len;refine λW=>?_;have e3:Ext o (o.push (.cells [aH 0].toArray W)):=Ext.push ..;have o3:cA o.size 1 (o.push (.cells [aH 0].toArray W)) ⟨some ⟨o.size,0,none⟩,1,1⟩ [aH 0]:=bR rfl (by decide) (by decide);have y3:(o.push (.cells [aH 0].toArray W)).size=o.size+1:=by simp
 generalize o.push (.cells [aH 0].toArray W)=h3 at e3 o3 y3⊢;refine fP [aH (aQ T.ad.len)] o3 rfl (by intro v hv;rw[dE.1 hv];rfl) λw o4 u4=>?_;have a9:Ext o w:=jU.jQ e3 u4 (by intro x e;cases e;exact bM _);have y4:h3.size<=w.size:=u4.1;refine λao=>?_;have e5:Ext w (w.push (.cells [aH 0].toArray ao)):=Ext.push ..;have o5:cA w.size 1 (w.push (.cells [aH 0].toArray ao)) ⟨some ⟨w.size,0,none⟩,1,1⟩ [aH 0]:=bR rfl (by decide) (by decide);generalize w.push (.cells [aH 0].toArray ao)=h5 at e5 o5⊢;refine fP [aH 0] o5 rfl (by intro v hv;rw[dE.1 hv];rfl) λh6 o6 u6=>?_;have al:Ext w h6:=jU.jQ e5 u6 (by intro x e;cases e;exact bM _);have a8:Ext h h6:=((e1.trans e2).trans a9).trans al;have ba:Ext o h6:=a9.trans al;have lo:=t.lo;have J0:dy S n T h ⟨h.size,0,none⟩ ⟨m.size,0,none⟩ ⟨o.size,0,none⟩ ⟨w.size,0,none⟩ [] h6 {ad:=T.ad,A:=T.A,Z:=T.Z,qs:=[],ps:=⟨none,0,0⟩,uW:=[]}:=by
  refine⟨⟨t.ext a8,o1.ext (e2.trans ba),(o2.ext ba).mono (by omega),?_,o6.mono (by omega),⟨by simp[cP],by simp,(by decide:0<2^63),rfl⟩,⟨by dsimp only;omega,by dsimp only;omega,by dsimp only;omega,by dsimp only;omega,by dsimp only;omega,by dsimp only;omega⟩,λb hb=>(by cases hb),⟨λE=>by have:h.size<h.size:=(lo _ E).2;omega,λE=>by have:m.size<h.size:=(lo _ E).2;omega,λE=>by have:o.size<h.size:=(lo _ E).2;omega,λE=>by have:w.size<h.size:=(lo _ E).2;omega⟩,λi hi=>.inl hi,λq hq=>(by cases hq),by simp,by simp[dR],by simp[cQ],λa ha=>(by cases ha),by simp⟩,aV.bD a8,λi hi=>hi,λb hb=>.inl hb⟩;have:((T.A.length-(([]:bB).flatMap (cZ T.enc)).length:Nat):Int)=aQ T.ad.len:=by rw[aN,b9];simp
  show cA h.size 1 h6 _ [aH _];rw[this];exact(o4.mono (by omega)).ext al
 have c7:(⟨h.size,0,none⟩:Addr).block=h.size:=rfl;generalize(⟨h.size,0,none⟩:Addr)=A1 at J0⊢;generalize(⟨m.size,0,none⟩:Addr)=H at J0⊢;generalize(⟨o.size,0,none⟩:Addr)=A5 at J0⊢;generalize(⟨w.size,0,none⟩:Addr)=K at J0⊢;have bp:∀{g:FG} {done:bB} {h':aG},VF S n T h.size A1 H A5 K done h' g->(∀a,a∈g.uW->iU a)->bH T.enc (g.uW.flatMap (cZ T.enc))=g.uW.map (tk T.enc):=λf O=>P3 t.enc λa ha=>⟨f.WC a ha,O a ha⟩;have D:∀{g:FG} {j:Nat} {h':aG},VF S n T h.size A1 H A5 K (l.take j) h' g->g.A.length<=1099511627776:=λ{g j h'} f=>by
  have m:=(HJ (enc:=T.enc) (l:=l.take j) λa ha=>hf a (rU ha)).2;rw[f.all,bP];rw[dJ]at m;omega
 have b0:∀{h':aG},aV (rS T) h h'->kW .i64 h' put l:=λc=>c.y7 hp λcg x e hw=>E cg x e (JB t hw);refine bL (λ(s:Int×Unit) h'=>∃(j:Nat) (g:FG),s.1=j/\j<=l.length/\dy S n T h A1 H A5 K (l.take j) h' g/\∀a,a∈g.uW->iU a) (λs _=>((l.length:Int)-s.1).toNat)
  (λtg z h'=>tg=2/\z=[]/\∃g,dy S n T h A1 H A5 K l h' g/\∀a,a∈g.uW->iU a) ⟨0,_,rfl,cN _,J0,λa ha=>(by cases ha)⟩ ?_ ?_
 .rintro⟨(i':Int),u⟩ h7 ⟨j,g,hj,c8,J,O⟩
  dsimp only at hj⊢;subst hj;refine aE (λhc=>?_) λhc=>?_
  .rw[aU,aN,B]at hc
   have N:j<l.length:=by omega
   have bt:l.take (j+1)=l.take j++[l[j]]:=by rw[eN,cL N];rfl
   have X:=hf _ (CK N);refine dB (λtg z h'=>tg=0/\z=[]/\∃g,dy S n T h A1 H A5 K (l.take (j+1)) h' g/\∀a,a∈g.uW->iU a) ?_ ?_
   .refine qW (b0 J.c) (by omega) (by omega) λY=>?_
    rw[show((j:Int)).toNat=j by omega]at Y⊢;have cc:l.getD j 0=l[j]:=by rw[gI,cL N];rfl
    rw[cc]at Y⊢;generalize l[j]=a at bt X Y⊢;have hu:=(iK T.enc a).1 X;have B:(0<=a/\(a<55296\/57343<a))↔iU a:=by unfold iU;omega
    refine bZ (iU a) ?_ λpl h8 e8 hb=>?_
    .refine aE (λe=>aE (λhy=>aC ⟨rfl,Ext.refl _,true,rfl,?_⟩) λhy=>aC ⟨rfl,Ext.refl _,_,rfl,?_⟩) λe=>aC ⟨rfl,Ext.refl _,false,rfl,?_⟩
     .rw[dD]at e;rw[aU]at hy;rw[<-B];exact Iff.intro (λ_=>⟨e, .inl hy⟩) λ_=>rfl
     .rw[dD]at e;rw[aY]at hy;rw[dL,<-B];omega
     .rw[eR]at e;rw[<-B];exact Iff.intro (λh=>by cases h) λh=>by omega
    dsimp only;have L:=J.ext e8;have b6:=D L.f;refine dB (λtg z h'=>tg=0/\z=[]/\∃g,dy S n T h A1 H A5 K (l.take j) h' g/\(∀a,a∈g.uW->iU a)/\g.uW.length<128/\(¬iU a->g.uW=[])) ?_ ?_
    .refine bZ (¬iU a\/g.uW.length=128) ?_ λbb h9 e9 bd=>aE (λe=>?_) λe=>aC ⟨rfl,rfl,g,L.ext e9,O,?_,?_⟩
     .refine aE (λe=>aC ⟨rfl,Ext.refl _,true,rfl,?_⟩) λe=>bC (b:=bI) K _ rfl (by have:=aI.1 L.f.o6.cells 0 _ rfl;rwa [add_zero']at this) (aC ⟨rfl,Ext.refl _,_,rfl,?_⟩)
      .rw[dF]at e
       exact Iff.intro (λ_=>.inl λk=>by rw[hb.2 k]at e;cases e) λ_=>rfl
      .rw[eC]at e
       have:=hb.1 e;rw[cK];exact⟨λh=>.inr (by omega),λh=>by rcases h with h|h;exact absurd this h;omega⟩
     .have C:=L.ext e9
      refine UP M C.f C.c.1 (bp C.f O) (by rw[dJ];omega) b6 λb4 g' a3 f10 R b2 F=>aC ⟨rfl,rfl,g',⟨f10,?_,?_,?_⟩,?_,?_,λ_=>R⟩
      .exact C.c.trans (G:=λi=>h.size<=i) ⟨a3.1,λi hi hn=>a3.2.1 i (by omega),a3.2.2⟩ λi hi hg=>by omega
      .rw[b2];exact C.zm
      .rw[F];exact C.adc
      .rw[R];intro a ha;cases ha
      .rw[R];simp
     .have:=L.f.Yo
      have:¬g.uW.length=128:=λk=>by rw[bd.2 (.inr k)]at e;cases e
      omega
     .intro k;rw[bd.2 (.inl k)]at e;cases e
    rintro tg z h9 ⟨rfl,rfl,g9,C,cr,cd,cf⟩;refine bE (bO ?_);have c6:=D C.f;refine qc M C hn X Y (by omega) cd λb4 aw r a0 c4=>?_;rw[<-bt]at r;refine aE (λe=>?_) λe=>aC ⟨rfl,rfl,aw,r,?_⟩
    .rw[dF]at e
     have bo:¬iU a:=λk=>by rw[hb.2 k]at e;cases e
     have a7:bH T.enc (aw.uW.flatMap (cZ T.enc))=aw.uW.map (tk T.enc):=by
      rw[a0,cf bo];have:=cv t.enc X bo;simpa using this
     refine UP M r.f r.c.1 a7 (by rw[dJ];omega) (D r.f) λc5 g' a4 f11 b1 b3 F=>aC ⟨rfl,rfl,g',⟨f11,?_,?_,?_⟩,?_⟩
     .exact r.c.trans (G:=λi=>h.size<=i) ⟨a4.1,λi hi hn=>a4.2.1 i (by omega),a4.2.2⟩ λi hi hg=>by omega
     .rw[b3];exact r.zm
     .rw[F];exact r.adc
     .rw[b1];intro a ha;cases ha
    .rw[eC]at e
     have ct:=hb.1 e;rw[a0];intro b hb;rcases dH.1 hb with hb|hb
     .exact cr b hb
     .rw[dE.1 hb];exact ct
   .rintro tg z h8 ⟨rfl,rfl,g8,L,ab⟩
    refine bE (bO ?_);rw[aX (by omega) (by omega)];exact aC ⟨λ_=>⟨((j:Int)+1,()),rfl,⟨j+1,g8,rfl,by omega,L,ab⟩,by dsimp only;omega⟩,λh=>absurd rfl h⟩
  .rw[aY,aN,B]at hc
   rw[iW (by omega)]at J;exact aC ⟨λh=>absurd h (by decide),λ_=>⟨rfl,rfl,g,J,O⟩⟩
 .rintro tg z h7 ⟨rfl,rfl,g,J,O⟩
  have b8:g.A.length<=1099511627776:=D (j:=l.length) (by rw[iW (bM _)];exact J.f);refine bE (bO (UP M J.f J.c.1 (bp J.f O) (by omega) b8 λh8 g' k8 f8 ab cx F=>?_));refine bC (b:=.sl) H g'.ps rfl (by have:=aI.1 f8.o2.cells 0 _ rfl;rwa [add_zero']at this) (aC ⟨rfl,?_,g',rfl,⟨f8.t,f8.op,λb hb=>(f8.pd b hb).2.2.2.2,f8.zn,?_,f8.Cx,f8.all,?_,?_,?_⟩⟩)
  .exact J.c.trans (G:=λi=>h.size<=i) ⟨k8.1,λi hi hn=>k8.2.1 i (by omega),k8.2.2⟩ λi hi hg=>by omega
  .rw[cx];exact J.zm
  .have:=f8.put;rw[ab]at this;simpa using this
  .have:=f8.ur;rw[ab]at this;simpa using this
  .rw[F];exact J.adc
end
end Go.Sw.Piece
