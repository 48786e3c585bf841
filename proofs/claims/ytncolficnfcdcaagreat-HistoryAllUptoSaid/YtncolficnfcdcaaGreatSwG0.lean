
/- Steps. -/
import Derived.Test.YtncolficnfcdcaaGreatSwU5
import Derived.Test.YtncolficnfcdcaaGreatSwFab
import Derived.Test.YtncolficnfcdcaaGreatSwFcodec
import Derived.Test.YtncolficnfcdcaaGreatSwCC
import Derived.Test.YtncolficnfcdcaaGreatSwU4
set_option linter.unusedVariables false
set_option linter.unusedSimpArgs false
set_option maxRecDepth 100000
set_option maxHeartbeats 1000000
namespace Go.Sw.Any
section
structure iJ where
  iB:List B
  sB:List B
  zi:Bs.den iB
  zs:Bs.den sB
  mF:Bs.den iB->aK
  aF:Bs.den sB->Bs.den sB->aK
  kF:Bs.den sB->Int->aK
  f1:FuncId
  f2:FuncId
  xk:Bs.den iB->Prop
  wt:Bs.den iB->Nat
  V:Nat->Bs.den sB->Prop
  LK:Bs.den iB->Bs.den sB
  add:Bs.den sB->Bs.den sB->Bs.den sB
  key:Bs.den sB->Int->Int
  Z:Nat->Prop
abbrev iJ.It(I:iJ):Type:=Bs.den I.iB
abbrev iJ.Su(I:iJ):Type:=Bs.den I.sB
def iJ.ni(I:iJ):Nat:=I.iB.length
def iJ.ns(I:iJ):Nat:=I.sB.length
def yT(I:iJ)(n:OA):aK:=
 aR (fD n)
 (.ret 0 [vI 0])<|
 bF (aJ n)<|
 bF (aJ n)<|
 .load tI (aB n (I.ni+2)) λ(n1:Int)=>
 .ret 0 [vI n1]
def sW(I:iJ)(n:OA):aK:=
 aR (fD n)
 (.ret 0 [vI 0])<|
 bF (aJ n)<|
 bF (aJ n)<|
 .load tI (aB n (I.ni+3)) λ(n1:Int)=>
 .ret 0 [vI n1]
def Hh(I:iJ)(l:OA)(x:(Bs.den I.iB))(r:OA):aK:=
 .alloc (Bs.inj I.iB x) λ(a1:Addr)=>
 .load (Ty.agg I.iB) (some a1) λ(r2:Bs.den I.iB)=>
 .call (yT I l) [tI] λ(r3:Int×Unit)=>
 .check (some a1) (Bs.inj I.iB r2)<|
 .call (yT I r) [tI] λ(r4:Int×Unit)=>
 .check (some a1) (Bs.inj I.iB r2)<|
 .call (sW I l) [tI] λ(r5:Int×Unit)=>
 .check (some a1) (Bs.inj I.iB r2)<|
 .call (sW I r) [tI] λ(r6:Int×Unit)=>
 .check (some a1) (Bs.inj I.iB r2)<|
 .alloc ([vP l,vP r]++(Bs.inj I.iB r2++([vI (aT .i64 (aT .i64 r3.1 1) r4.1),vI (aT .i64 (Df r5.1 r6.1) 1)]++Bs.inj I.sB I.zs))) λ(a7:Addr)=>
 .load (Ty.agg I.iB) (some a1) λ(r8:Bs.den I.iB)=>
 .call (I.mF r8) [(Ty.agg I.sB)] λ(r9:((Bs.den I.sB)×Unit))=>
 .store (aB (some a7) (I.ni+4)) (Bs.inj I.sB r9.1)<|
 dY 0 [] (aR (cL (fD l))
 (bF (aJ l)<|
 bF (aJ l)<|
 .load (Ty.agg I.sB) (aB l (I.ni+4)) λ(r0:Bs.den I.sB)=>
 .load (Ty.agg I.sB) (aB (some a7) (I.ni+4)) λ(r1:Bs.den I.sB)=>
 .call (I.aF r0 r1) [(Ty.agg I.sB)] λ(r7:((Bs.den I.sB)×Unit))=>
 .store (aB (some a7) (I.ni+4)) (Bs.inj I.sB r7.1)<|
 .ret 0 [])<|
 .ret 0 []) λ(u0:Unit)=>
 dY 0 [] (aR (cL (fD r))
 (.load (Ty.agg I.sB) (aB (some a7) (I.ni+4)) λ(r10:Bs.den I.sB)=>
 bF (aJ r)<|
 bF (aJ r)<|
 .load (Ty.agg I.sB) (aB r (I.ni+4)) λ(r11:Bs.den I.sB)=>
 .call (I.aF r10 r11) [(Ty.agg I.sB)] λ(r12:((Bs.den I.sB)×Unit))=>
 .store (aB (some a7) (I.ni+4)) (Bs.inj I.sB r12.1)<|
 .ret 0 [])<|
 .ret 0 []) λ(u1:Unit)=>
 .ret 0 [vP (some a7)]
def CM(fuelN:Nat)(I:iJ)(items:Sl):aK:=
 match fuelN with
 |0=>.fail
 |fuelN+1=>
  aR (gN (aQ items.len) 0)
  (.ret 0 [vP none])<|
  bF (cL false)<|
  bF (wO (kP .i64 (aQ items.len) 2) items.cap)<|
  bF (bN (aJ items.aD) (eU (kP .i64 (aQ items.len) 2) items.len))<|
  .load (Ty.agg I.iB) (aB items.aD (aZ (bP (kP .i64 (aQ items.len) 2)) I.ni)) λ(r1:Bs.den I.iB)=>
  bF (wO (aT .i64 (kP .i64 (aQ items.len) 2) 1) items.len)<|
  .call (CM fuelN I (⟨(bE items.aD items.cap 0 I.ni),(cS (bP (kP .i64 (aQ items.len) 2)) 0),(cS items.cap 0)⟩)) [tP] λ(r2:OA×Unit)=>
  .check (aB items.aD (aZ (bP (kP .i64 (aQ items.len) 2)) I.ni)) (Bs.inj I.iB r1)<|
  .call (CM fuelN I (⟨(bE items.aD items.cap (bP (aT .i64 (kP .i64 (aQ items.len) 2) 1)) I.ni),(cS items.len (bP (aT .i64 (kP .i64 (aQ items.len) 2) 1))),(cS items.cap (bP (aT .i64 (kP .i64 (aQ items.len) 2) 1)))⟩)) [tP] λ(r3:OA×Unit)=>
  .check (aB items.aD (aZ (bP (kP .i64 (aQ items.len) 2)) I.ni)) (Bs.inj I.iB r1)<|
  .call (Hh I r2.1 r1 r3.1) [tP] λ(r4:OA×Unit)=>
  .ret 0 [vP r4.1]
def LQ(I:iJ)(items:Sl):aK:=.ex λfuelN=>CM fuelN I items
def fc(I:iJ)(items:Sl):aK:=
 .alloc [vP none] λ(a1:Addr)=>
 .call (LQ I items) [tP] λ(r2:OA×Unit)=>
 .store (some a1) [vP r2.1]<|
 .load (Ty.agg [B.ptr]) (some a1) λ(r3:OA×Unit)=>
 .ret 0 [(Value.agg (#[vP r3.1]))]
def P9(I:iJ)(t:(OA×Unit)):aK:=
 .alloc [vP t.1] λ(a1:Addr)=>
 .load tP (aB (some a1) 0) λ(p2:OA)=>
 .call (yT I p2) [tI] λ(r3:Int×Unit)=>
 .ret 0 [vI r3.1]
def MC(I:iJ)(l:OA)(x:(Bs.den I.iB))(r:OA):aK:=
 .alloc (Bs.inj I.iB x) λ(a1:Addr)=>
 .call (sW I l) [tI] λ(r2:Int×Unit)=>
 .call (sW I r) [tI] λ(r3:Int×Unit)=>
 aR (sN r2.1 (aT .i64 r3.1 1))
 (bS tP l 0 λ(p4:OA)=>
 bS tP l 1 λ(p5:OA)=>
 .call (sW I p4) [tI] λ(r6:Int×Unit)=>
 .check (aB l 1) [vP p5]<|
 .call (sW I p5) [tI] λ(r7:Int×Unit)=>
 aR (qK r6.1 r7.1)
 (bS tP l 0 λ(p8:OA)=>
 bS (Ty.agg I.iB) l 2 λ(r9:Bs.den I.iB)=>
 bS tP l 1 λ(p0:OA)=>
 .load (Ty.agg I.iB) (some a1) λ(r0:Bs.den I.iB)=>
 .call (Hh I p0 r0 r) [tP] λ(r1:OA×Unit)=>
 .check (aB l 2) (Bs.inj I.iB r9)<|
 .check (aB l 0) [vP p8]<|
 .call (Hh I p8 r9 r1.1) [tP] λ(r4:OA×Unit)=>
 .ret 0 [vP r4.1])<|
 bS tP l 1 λ(p1:OA)=>
 bS tP l 0 λ(p2:OA)=>
 bS (Ty.agg I.iB) l 2 λ(r5:Bs.den I.iB)=>
 bS tP p1 0 λ(p3:OA)=>
 bS (Ty.agg I.iB) p1 2 λ(r8:Bs.den I.iB)=>
 bS tP p1 1 λ(p6:OA)=>
 .load (Ty.agg I.iB) (some a1) λ(r10:Bs.den I.iB)=>
 .call (Hh I p2 r5 p3) [tP] λ(r14:OA×Unit)=>
 .check (some a1) (Bs.inj I.iB r10)<|
 .check (aB p1 1) [vP p6]<|
 .check (aB p1 2) (Bs.inj I.iB r8)<|
 .call (Hh I p6 r10 r) [tP] λ(r15:OA×Unit)=>
 .check (aB p1 2) (Bs.inj I.iB r8)<|
 .call (Hh I r14.1 r8 r15.1) [tP] λ(r17:OA×Unit)=>
 .ret 0 [vP r17.1])<|
 .call (sW I r) [tI] λ(r19:Int×Unit)=>
 .call (sW I l) [tI] λ(r26:Int×Unit)=>
 aR (sN r19.1 (aT .i64 r26.1 1))
 (bS tP r 1 λ(p7:OA)=>
 bS tP r 0 λ(p9:OA)=>
 .call (sW I p7) [tI] λ(r27:Int×Unit)=>
 .check (aB r 0) [vP p9]<|
 .call (sW I p9) [tI] λ(r31:Int×Unit)=>
 aR (qK r27.1 r31.1)
 (.load (Ty.agg I.iB) (some a1) λ(r33:Bs.den I.iB)=>
 bS tP r 0 λ(p11:OA)=>
 bS (Ty.agg I.iB) r 2 λ(r36:Bs.den I.iB)=>
 bS tP r 1 λ(p12:OA)=>
 .call (Hh I l r33 p11) [tP] λ(r38:OA×Unit)=>
 .check (aB r 1) [vP p12]<|
 .check (aB r 2) (Bs.inj I.iB r36)<|
 .call (Hh I r38.1 r36 p12) [tP] λ(r40:OA×Unit)=>
 .ret 0 [vP r40.1])<|
 bS tP r 0 λ(p13:OA)=>
 .load (Ty.agg I.iB) (some a1) λ(r42:Bs.den I.iB)=>
 bS tP p13 0 λ(p16:OA)=>
 bS (Ty.agg I.iB) p13 2 λ(r48:Bs.den I.iB)=>
 bS tP p13 1 λ(p18:OA)=>
 bS (Ty.agg I.iB) r 2 λ(r49:Bs.den I.iB)=>
 bS tP r 1 λ(p20:OA)=>
 .call (Hh I l r42 p16) [tP] λ(r50:OA×Unit)=>
 .check (aB r 1) [vP p20]<|
 .check (aB r 2) (Bs.inj I.iB r49)<|
 .check (aB p13 1) [vP p18]<|
 .check (aB p13 2) (Bs.inj I.iB r48)<|
 .call (Hh I p18 r49 p20) [tP] λ(r51:OA×Unit)=>
 .check (aB p13 2) (Bs.inj I.iB r48)<|
 .call (Hh I r50.1 r48 r51.1) [tP] λ(r52:OA×Unit)=>
 .ret 0 [vP r52.1])<|
 .load (Ty.agg I.iB) (some a1) λ(r53:Bs.den I.iB)=>
 .call (Hh I l r53 r) [tP] λ(r54:OA×Unit)=>
 .ret 0 [vP r54.1]
def Ga(fuelN:Nat)(I:iJ)(l:OA)(x:(Bs.den I.iB))(r:OA):aK:=
 match fuelN with
 |0=>.fail
 |fuelN+1=>
  .alloc (Bs.inj I.iB x) λ(a1:Addr)=>
  .call (sW I l) [tI] λ(r2:Int×Unit)=>
  .call (sW I r) [tI] λ(r3:Int×Unit)=>
  aR (sN r2.1 (aT .i64 r3.1 1))
  (bS tP l 0 λ(p4:OA)=>
  bS (Ty.agg I.iB) l 2 λ(r5:Bs.den I.iB)=>
  bS tP l 1 λ(p6:OA)=>
  .load (Ty.agg I.iB) (some a1) λ(r7:Bs.den I.iB)=>
  .call (Ga fuelN I p6 r7 r) [tP] λ(r8:OA×Unit)=>
  .check (aB l 2) (Bs.inj I.iB r5)<|
  .check (aB l 0) [vP p4]<|
  .call (MC I p4 r5 r8.1) [tP] λ(r9:OA×Unit)=>
  .ret 0 [vP r9.1])<|
  .call (sW I r) [tI] λ(r0:Int×Unit)=>
  .call (sW I l) [tI] λ(r1:Int×Unit)=>
  aR (sN r0.1 (aT .i64 r1.1 1))
  (.load (Ty.agg I.iB) (some a1) λ(r4:Bs.den I.iB)=>
  bS tP r 0 λ(p0:OA)=>
  bS (Ty.agg I.iB) r 2 λ(r6:Bs.den I.iB)=>
  bS tP r 1 λ(p1:OA)=>
  .call (Ga fuelN I l r4 p0) [tP] λ(r13:OA×Unit)=>
  .check (aB r 1) [vP p1]<|
  .check (aB r 2) (Bs.inj I.iB r6)<|
  .call (MC I r13.1 r6 p1) [tP] λ(r15:OA×Unit)=>
  .ret 0 [vP r15.1])<|
  .load (Ty.agg I.iB) (some a1) λ(r20:Bs.den I.iB)=>
  .call (Hh I l r20 r) [tP] λ(r21:OA×Unit)=>
  .ret 0 [vP r21.1]
def JV(I:iJ)(l:OA)(x:(Bs.den I.iB))(r:OA):aK:=.ex λfuelN=>Ga fuelN I l x r
def JW(fuelN:Nat)(I:iJ)(n:OA)(i:Int):aK:=
 match fuelN with
 |0=>.fail
 |fuelN+1=>
  aR (fD n)
  (.ret 0 [vP none,vP none])<|
  bS tP n 0 λ(p1:OA)=>
  .call (yT I p1) [tI] λ(r2:Int×Unit)=>
  aR (yA i r2.1)
  (bS tP n 0 λ(p3:OA)=>
  .call (JW fuelN I p3 i) [tP,tP] λ(r4:OA×OA×Unit)=>
  bS (Ty.agg I.iB) n 2 λ(r5:Bs.den I.iB)=>
  bS tP n 1 λ(p6:OA)=>
  .call (JV I r4.2.1 r5 p6) [tP] λ(r7:OA×Unit)=>
  .ret 0 [vP r4.1,vP r7.1])<|
  bS tP n 1 λ(p8:OA)=>
  .call (JW fuelN I p8 (bK .i64 (bK .i64 i r2.1) 1)) [tP,tP] λ(r9:OA×OA×Unit)=>
  bS tP n 0 λ(p0:OA)=>
  bS (Ty.agg I.iB) n 2 λ(r0:Bs.den I.iB)=>
  .call (JV I p0 r0 r9.1) [tP] λ(r1:OA×Unit)=>
  .ret 0 [vP r1.1,vP r9.2.1]
def VI(I:iJ)(n:OA)(i:Int):aK:=.ex λfuelN=>JW fuelN I n i
def EU(fuelN:Nat)(I:iJ)(n:OA):aK:=
 match fuelN with
 |0=>.fail
 |fuelN+1=>
  .alloc (Bs.inj I.iB I.zi) λ(a1:Addr)=>
  bS tP n 0 λ(p2:OA)=>
  aR (fD p2)
  (bS (Ty.agg I.iB) n 2 λ(r3:Bs.den I.iB)=>
  bS tP n 1 λ(p4:OA)=>
  .store (some a1) (Bs.inj I.iB r3)<|
  .check (aB n 1) [vP p4]<|
  .load (Ty.agg I.iB) (some a1) λ(r5:Bs.den I.iB)=>
  .ret 0 [(Value.agg (Bs.inj I.iB r5).toArray),vP p4])<|
  bS tP n 0 λ(p6:OA)=>
  .call (EU fuelN I p6) [(Ty.agg I.iB),tP] λ(r7:((Bs.den I.iB)×OA×Unit))=>
  .alloc (Bs.inj I.iB I.zi) λ(a8:Addr)=>
  .store (some a8) (Bs.inj I.iB r7.1)<|
  .load (Ty.agg I.iB) (some a8) λ(r9:Bs.den I.iB)=>
  bS (Ty.agg I.iB) n 2 λ(r0:Bs.den I.iB)=>
  bS tP n 1 λ(p0:OA)=>
  .call (MC I r7.2.1 r0 p0) [tP] λ(r1:OA×Unit)=>
  .check (some a8) (Bs.inj I.iB r9)<|
  .store (some a1) (Bs.inj I.iB r9)<|
  .load (Ty.agg I.iB) (some a1) λ(r2:Bs.den I.iB)=>
  .ret 0 [(Value.agg (Bs.inj I.iB r2).toArray),vP r1.1]
def VJ(I:iJ)(n:OA):aK:=.ex λfuelN=>EU fuelN I n
def JU(I:iJ)(l:OA)(r:OA):aK:=
 aR (fD r)
 (.ret 0 [vP l])<|
 .call (VJ I r) [(Ty.agg I.iB),tP] λ(r1:((Bs.den I.iB)×OA×Unit))=>
 .alloc (Bs.inj I.iB I.zi) λ(a2:Addr)=>
 .store (some a2) (Bs.inj I.iB r1.1)<|
 .load (Ty.agg I.iB) (some a2) λ(r3:Bs.den I.iB)=>
 .call (JV I l r3 r1.2.1) [tP] λ(r4:OA×Unit)=>
 .ret 0 [vP r4.1]
def F9(I:iJ)(t:(OA×Unit))(from_:Int)(to:Int)(items:Sl):aK:=
 .alloc [vP t.1] λ(a1:Addr)=>
 .alloc [vP none] λ(a2:Addr)=>
 dY 0 [tB] (aR (fG from_ 0)
 (.ret 0 [vB true])<|
 aR (sN from_ to)
 (.ret 0 [vB true])<|
 .load (Ty.agg [B.ptr]) (some a1) λ(r0:OA×Unit)=>
 .call (P9 I (r0.1,())) [tI] λ(r1:Int×Unit)=>
 .ret 0 [vB (sN to r1.1)]) λ(r2:Bool×Unit)=>
 aR r2.1
 (.store (some a2) [vP none]<|
 .load (Ty.agg [B.ptr]) (some a2) λ(r3:OA×Unit)=>
 .ret 0 [(Value.agg (#[vP r3.1])),(vI 1)])<|
 .load tP (aB (some a1) 0) λ(p0:OA)=>
 .call (VI I p0 from_) [tP,tP] λ(r4:OA×OA×Unit)=>
 .load tP (aB (some a1) 0) λ(p1:OA)=>
 .call (VI I p1 to) [tP,tP] λ(r5:OA×OA×Unit)=>
 .call (LQ I items) [tP] λ(r6:OA×Unit)=>
 .call (JU I r4.1 r6.1) [tP] λ(r7:OA×Unit)=>
 .call (JU I r7.1 r5.2.1) [tP] λ(r8:OA×Unit)=>
 .store (some a2) [vP r8.1]<|
 .load (Ty.agg [B.ptr]) (some a2) λ(r9:OA×Unit)=>
 .ret 0 [(Value.agg (#[vP r9.1])),(vI 0)]
def Yx(I:iJ)(t:(OA×Unit))(i:Int):aK:=
 .alloc [vP t.1] λ(a1:Addr)=>
 .alloc (Bs.inj I.sB I.zs) λ(a2:Addr)=>
 .alloc (Bs.inj I.sB I.zs) λ(a3:Addr)=>
 .load (Ty.agg [B.ptr]) (some a1) λ(r4:OA×Unit)=>
 .call (P9 I (r4.1,())) [tI] λ(r5:Int×Unit)=>
 .load tP (aB (some a1) 0) λ(p6:OA)=>
 dY 2 [] (.loop [tI,tP] ((NR i r5.1),(p6,())) λ(r0:Int×OA×Unit)=>
 dY 0 [tB] (aR (cL (fD r0.2.1))
 (.ret 0 [vB (sN r0.1 0)])<|
 .ret 0 [vB false]) λ(r1:Bool×Unit)=>
 aR r1.1
 (bS tP r0.2.1 0 λ(p0:OA)=>
 .call (yT I p0) [tI] λ(r2:Int×Unit)=>
 aR (yA r0.1 r2.1)
 (bS tP r0.2.1 0 λ(p1:OA)=>
 .ret 0 [vI r0.1,vP p1])<|
 dY 0 [] (bS tP r0.2.1 0 λ(p2:OA)=>
 aR (cL (fD p2))
 (.load (Ty.agg I.sB) (some a3) λ(r3:Bs.den I.sB)=>
 bS tP r0.2.1 0 λ(p3:OA)=>
 bF (aJ p3)<|
 bF (aJ p3)<|
 .load (Ty.agg I.sB) (aB p3 (I.ni+4)) λ(r6:Bs.den I.sB)=>
 .call (I.aF r3 r6) [(Ty.agg I.sB)] λ(r7:((Bs.den I.sB)×Unit))=>
 .store (some a3) (Bs.inj I.sB r7.1)<|
 .ret 0 [])<|
 .ret 0 []) λ(u0:Unit)=>
 .load (Ty.agg I.sB) (some a3) λ(r8:Bs.den I.sB)=>
 bS (Ty.agg I.iB) r0.2.1 2 λ(r9:Bs.den I.iB)=>
 .call (I.mF r9) [(Ty.agg I.sB)] λ(r10:((Bs.den I.sB)×Unit))=>
 .check (some a3) (Bs.inj I.sB r8)<|
 .call (I.aF r8 r10.1) [(Ty.agg I.sB)] λ(r11:((Bs.den I.sB)×Unit))=>
 .store (some a3) (Bs.inj I.sB r11.1)<|
 bS tP r0.2.1 1 λ(p4:OA)=>
 .ret 0 [vI (bK .i64 (bK .i64 r0.1 r2.1) 1),vP p4])<|
 .ret 2 []) λ(u1:Unit)=>
 .load (Ty.agg I.sB) (some a3) λ(r12:Bs.den I.sB)=>
 .store (some a2) (Bs.inj I.sB r12)<|
 .load (Ty.agg I.sB) (some a2) λ(r13:Bs.den I.sB)=>
 .ret 0 [(Value.agg (Bs.inj I.sB r13).toArray)]
def fb(I:iJ)(t:(OA×Unit))(i:Int):aK:=
 .alloc [vP t.1] λ(a1:Addr)=>
 .alloc (Bs.inj I.iB I.zi) λ(a2:Addr)=>
 .load tP (aB (some a1) 0) λ(p3:OA)=>
 .bind
 (.loop [tI,tP] (i,(p3,())) λ(r0:Int×OA×Unit)=>
 dY 0 [tB] (aR (cL (fD r0.2.1))
 (.ret 0 [vB (qK r0.1 0)])<|
 .ret 0 [vB false]) λ(r1:Bool×Unit)=>
 aR r1.1
 (bS tP r0.2.1 0 λ(p0:OA)=>
 .call (yT I p0) [tI] λ(r2:Int×Unit)=>
 aR (gN r0.1 r2.1)
 (bS (Ty.agg I.iB) r0.2.1 2 λ(r3:Bs.den I.iB)=>
 .store (some a2) (Bs.inj I.iB r3)<|
 .ret 1 [vP (some a2),vB true])<|
 aR (fG r0.1 r2.1)
 (bS tP r0.2.1 0 λ(p1:OA)=>
 .ret 0 [vI r0.1,vP p1])<|
 bS tP r0.2.1 1 λ(p2:OA)=>
 .ret 0 [vI (bK .i64 (bK .i64 r0.1 r2.1) 1),vP p2])<|
 .ret 2 []) λ(k0:Nat)=>
 λ(v0:bH)=>
 aR (jI k0 2)
 (.cast [] v0 λ(u0:Unit)=>
 .alloc (Bs.inj I.iB I.zi) λ(a0:Addr)=>
 .load (Ty.agg I.iB) (some a0) λ(r4:Bs.den I.iB)=>
 .store (some a2) (Bs.inj I.iB r4)<|
 .load (Ty.agg I.iB) (some a2) λ(r5:Bs.den I.iB)=>
 .ret 0 [(Value.agg (Bs.inj I.iB r5).toArray),vB false])<|
 aR (jI k0 1)
 (.cast [tP,tB] v0 λ(r6:OA×Bool×Unit)=>
 .load (Ty.agg I.iB) r6.1 λ(r7:Bs.den I.iB)=>
 .ret 0 [(Value.agg (Bs.inj I.iB r7).toArray),vB r6.2.1])<|
 .fail
def j8(I:iJ)(t:(OA×Unit)):aK:=
 .alloc [vP t.1] λ(a1:Addr)=>
 .alloc (Bs.inj I.sB I.zs) λ(a2:Addr)=>
 .load tP (aB (some a1) 0) λ(p3:OA)=>
 aR (fD p3)
 (.alloc (Bs.inj I.sB I.zs) λ(a4:Addr)=>
 .load (Ty.agg I.sB) (some a4) λ(r5:Bs.den I.sB)=>
 .store (some a2) (Bs.inj I.sB r5)<|
 .load (Ty.agg I.sB) (some a2) λ(r6:Bs.den I.sB)=>
 .ret 0 [(Value.agg (Bs.inj I.sB r6).toArray)])<|
 .load tP (aB (some a1) 0) λ(p7:OA)=>
 bF (aJ p7)<|
 bF (aJ p7)<|
 .load (Ty.agg I.sB) (aB p7 (I.ni+4)) λ(r8:Bs.den I.sB)=>
 .store (some a2) (Bs.inj I.sB r8)<|
 .load (Ty.agg I.sB) (some a2) λ(r9:Bs.den I.sB)=>
 .ret 0 [(Value.agg (Bs.inj I.sB r9).toArray)]
def Yw(I:iJ)(t:(OA×Unit))(k:Int)(n:Int):aK:=
 .alloc [vP t.1] λ(a1:Addr)=>
 aR (yA n 0)
 (.ret 0 [vI 0])<|
 .alloc (Bs.inj I.sB I.zs) λ(a2:Addr)=>
 .load tP (aB (some a1) 0) λ(p3:OA)=>
 .bind
 (.loop [tI,tP] ((0:Int),(p3,())) λ(r0:Int×OA×Unit)=>
 aR (cL (fD r0.2.1))
 (.load (Ty.agg I.sB) (some a2) λ(r1:Bs.den I.sB)=>
 .alloc (Bs.inj I.sB I.zs) λ(a0:Addr)=>
 .store (some a0) (Bs.inj I.sB r1)<|
 dY 0 [] (bS tP r0.2.1 0 λ(p0:OA)=>
 aR (cL (fD p0))
 (.load (Ty.agg I.sB) (some a2) λ(r2:Bs.den I.sB)=>
 bS tP r0.2.1 0 λ(p1:OA)=>
 bF (aJ p1)<|
 bF (aJ p1)<|
 .load (Ty.agg I.sB) (aB p1 (I.ni+4)) λ(r3:Bs.den I.sB)=>
 .call (I.aF r2 r3) [(Ty.agg I.sB)] λ(r4:((Bs.den I.sB)×Unit))=>
 .store (some a0) (Bs.inj I.sB r4.1)<|
 .ret 0 [])<|
 .ret 0 []) λ(u0:Unit)=>
 .load (Ty.agg I.sB) (some a0) λ(r5:Bs.den I.sB)=>
 .call (I.kF r5 k) [tI] λ(r6:Int×Unit)=>
 aR (qK r6.1 n)
 (bS tP r0.2.1 0 λ(p2:OA)=>
 .ret 0 [vI r0.1,vP p2])<|
 bS tP r0.2.1 0 λ(p4:OA)=>
 .call (yT I p4) [tI] λ(r7:Int×Unit)=>
 .load (Ty.agg I.sB) (some a0) λ(r8:Bs.den I.sB)=>
 bS (Ty.agg I.iB) r0.2.1 2 λ(r9:Bs.den I.iB)=>
 .call (I.mF r9) [(Ty.agg I.sB)] λ(r10:((Bs.den I.sB)×Unit))=>
 .check (some a0) (Bs.inj I.sB r8)<|
 .call (I.aF r8 r10.1) [(Ty.agg I.sB)] λ(r11:((Bs.den I.sB)×Unit))=>
 .store (some a2) (Bs.inj I.sB r11.1)<|
 .load (Ty.agg I.sB) (some a2) λ(r12:Bs.den I.sB)=>
 .call (I.kF r12 k) [tI] λ(r13:Int×Unit)=>
 aR (qK r13.1 n)
 (.ret 1 [vI (aT .i64 r0.1 (aT .i64 r7.1 1))])<|
 bS tP r0.2.1 1 λ(p5:OA)=>
 .ret 0 [vI (aT .i64 r0.1 (aT .i64 r7.1 1)),vP p5])<|
 .ret 2 [vI r0.1]) λ(k0:Nat)=>
 λ(v0:bH)=>
 aR (jI k0 2)
 (.cast [tI] v0 λ(r14:Int×Unit)=>
 .ret 0 [vI (aT .i64 r14.1 1)])<|
 aR (jI k0 1)
 (.cast [tI] v0 λ(r15:Int×Unit)=>
 .ret 0 [vI r15.1])<|
 .fail
def Ss(I:iJ)(yield:Value)(x1:OA)(x2:OA):aK:=
 bF (S8 yield)<|
 .alloc [yield] λ(a1:Addr)=>
 .alloc [Value.nilFunc] λ(a2:Addr)=>
 .store (some a2) [(Value.func (Fn.func I.f2) #[] (#[vP (some a2),vP (some a1)]))]<|
 .load (Ty.one B.any) (some a2) λ(c3:Value)=>
 bF (aJ x1)<|
 .load tP (aB x1 0) λ(p4:OA)=>
 .load tI x2 λ(n5:Int)=>
 .kB c3 [vP p4,vI (Df 0 n5)] [tB] λ(r6:Bool×Unit)=>
 .ret 0 []
def Qa(I:iJ)(n:OA)(from_:Int)(x2:OA)(x3:OA):aK:=
 dY 0 [tB] (aR (fD n)
 (.ret 0 [vB true])<|
 bF (aJ n)<|
 bF (aJ n)<|
 .load tI (aB n (I.ni+2)) λ(n0:Int)=>
 .ret 0 [vB (qK from_ n0)]) λ(r0:Bool×Unit)=>
 aR r0.1
 (.ret 0 [vB true])<|
 bS tP n 0 λ(p0:OA)=>
 .call (yT I p0) [tI] λ(r1:Int×Unit)=>
 dY 0 [tB] (aR (fG from_ r1.1)
 (.load (Ty.one B.any) x2 λ(c0:Value)=>
 bS tP n 0 λ(p1:OA)=>
 .kB c0 [vP p1,vI from_] [tB] λ(r2:Bool×Unit)=>
 .ret 0 [vB (cL r2.1)])<|
 .ret 0 [vB false]) λ(r3:Bool×Unit)=>
 aR r3.1
 (.ret 0 [vB false])<|
 dY 0 [tB] (aR (yA from_ r1.1)
 (.load (Ty.one B.any) x3 λ(c1:Value)=>
 bS (Ty.agg I.iB) n 2 λ(r4:Bs.den I.iB)=>
 .kB c1 [(Value.agg (Bs.inj I.iB r4).toArray)] [tB] λ(r5:Bool×Unit)=>
 .ret 0 [vB (cL r5.1)])<|
 .ret 0 [vB false]) λ(r6:Bool×Unit)=>
 aR r6.1
 (.ret 0 [vB false])<|
 .load (Ty.one B.any) x2 λ(c2:Value)=>
 bS tP n 1 λ(p2:OA)=>
 .kB c2 [vP p2,vI (Df 0 (bK .i64 (bK .i64 from_ r1.1) 1))] [tB] λ(r7:Bool×Unit)=>
 .ret 0 [vB r7.1]
end
section
open Go.Sw.Tree (iv fR jR jX mX oS BA xQ dQ least TR)
variable{P:Program}{I:iJ}{h:aG}{Q:Nat->bH->aG->Prop}
variable{h':aG}{l:List I.It}{bs:List B}{d:Nat}{a:Addr}{s:Sl}{pr:OA}{x:I.It}
def oK(I:iJ)(h:aG):Prop:=∀i,h.size<=i->I.Z i
theorem oK.ext{h:aG}(f:oK I h)(e:Ext h h'):oK I h':=λi hi=>f i (dI e.size hi)
structure iJ.Ok(P:Program)(I:iJ):Prop where
 i1:1<=I.ni/\I.ni<=100
 s1:1<=I.ns/\I.ns<=100
 fi:∀(x:I.It) v,v∈Bs.inj I.iB x->flat v=true
 fs:∀(x:I.Su) v,v∈Bs.inj I.sB x->flat v=true
 w1:∀x,1<=I.wt x
 v0:I.V 0 I.zs
 vm:∀x,I.xk x->I.V (I.wt x) (I.LK x)
 va:∀n m s o,I.V n s->I.V m o->I.V (n+m) (I.add s o)
 mono:∀n m s,I.V n s->n<=m->I.V m s
 az:∀n s,I.V n s->I.add s I.zs=s
 za:∀n s,I.V n s->I.add I.zs s=s
 assoc:∀n m k x y z,I.V n x->I.V m y->I.V k z->I.add (I.add x y) z=I.add x (I.add y z)
 x_:∀k,I.key I.zs k=0
 x':∀n m s o k,I.V n s->I.V m o->I.key s k<=I.key (I.add s o) k
 cm:∀(h:aG) x,I.xk x->aS P (I.mF x) [.agg I.sB] h λ(y:I.Su×Unit) _=>y.1=I.LK x
 ca:∀(h:aG) n m s o,I.V n s->I.V m o->n+m<=4398046511104->aS P (I.aF s o) [.agg I.sB] h λ(y:I.Su×Unit) _=>y.1=I.add s o
 ck:∀(h:aG) n s k,I.V n s->n<=4398046511104->aS P (I.kF s k) [tI] h λ(y:Int×Unit) _=>y.1=I.key s k
def iJ.sum(I:iJ)(l:List I.It):I.Su:=l.foldl (λs r=>I.add s (I.LK r)) I.zs
def iJ.W(I:iJ)(l:List I.It):Nat:=(l.map I.wt).sum
def iJ.wf(I:iJ)(l:List I.It):Prop:=∀r,r∈l->I.xk r
theorem pZ(l m:List I.It):I.W (l++m)=I.W l+I.W m:=by simp[iJ.W]
theorem Qd(x:I.It)(l:List I.It):I.W (x::l)=I.wt x+I.W l:=by simp[iJ.W]
theorem qR(O:I.Ok P)(l:List I.It):l.length<=I.W l:=by
 induction l with
 |nil=>exact bM _
 |cons x l b=>rw[Qd];have:=O.w1 x;simp only[fM];omega
theorem Ux(l:List I.It)(n:Nat):I.W (l.take n)<=I.W l:=by
 have:=pZ (l.take n) (l.drop n);rw[eY]at this;omega
theorem Uw(l:List I.It)(n:Nat):I.W (l.drop n)<=I.W l:=by
 have:=pZ (l.take n) (l.drop n);rw[eY]at this;omega
theorem V.fold(O:I.Ok P)(b:I.wf l):∀{n:Nat} {s:I.Su},I.V n s->I.V (n+I.W l) (l.foldl (λs r=>I.add s (I.LK r)) s):=by
 induction l with
 |nil=>intro n s v;exact v
 |cons r l e=>
  intro n s v;have:=e (λx c=>b x (eK _ c)) (O.va _ _ _ _ v (O.vm r (b r (eO ..))));exact O.mono _ _ _ this (by rw[Qd];omega)
theorem V.sum(O:I.Ok P){l:List I.It}(b:I.wf l):I.V (I.W l) (I.sum l):=O.mono _ _ _ (V.fold O b O.v0) (by omega)
theorem fold_add(O:I.Ok P)(b:I.wf l):∀{n m:Nat} {s o:I.Su},I.V n s->I.V m o ->
  l.foldl (λs r=>I.add s (I.LK r)) (I.add s o)=I.add s (l.foldl (λs r=>I.add s (I.LK r)) o):=by
 induction l with
 |nil=>intros;rfl
 |cons r l f=>
  intro n m s o v w;have c:=O.vm r (b r (eO ..));simp only[CD];rw[O.assoc _ _ _ _ _ _ v w c];exact f (λx e=>b x (eK _ e)) v (O.va _ _ _ _ w c)
theorem sum_append(O:I.Ok P){m:List I.It}(b:I.wf l)(hm:I.wf m):I.sum (l++m)=I.add (I.sum l) (I.sum m):=by
 unfold iJ.sum;rw[GD];have:=fold_add O hm (V.sum O b) O.v0;rw[O.az _ _ (V.sum O b)]at this;exact this
theorem FT(l:List I.It)(r:I.It):I.sum (l++[r])=I.add (I.sum l) (I.LK r):=by unfold iJ.sum;rw[GD];rfl
theorem sum_nil:I.sum []=I.zs:=rfl
theorem lA:∀(bs:List B) (x:Bs.den bs),(Bs.inj bs x).length=bs.length:=by
 intro bs
 induction bs with
 |nil=>intro x;rfl
 |cons b bs c=>intro x;simp[Bs.inj,c]
theorem gO(x:Bs.den bs)(c:bs.length<=100){K:Addr->aK}(b:∀h',Ext h h'->cA h.size 1 h' ⟨some ⟨h.size,0,none⟩,bs.length,bs.length⟩ (Bs.inj bs x)->wp P (K ⟨h.size,0,none⟩) h' Q):wp P (.alloc (Bs.inj bs x) K) h Q:=
 λelem=>b _ (Ext.push ..) (bR (by rw[lA];omega) (by decide) (by omega))
theorem hS{n c:Nat}{x:Bs.den bs}{K:Bs.den bs->aK}(e:cA n 1 h ⟨some a,c,d⟩ (Bs.inj bs x))(b:wp P (K x) h Q):wp P (.load (.agg bs) (some a) K) h Q:=⟨a,rfl,x,e.cells,b⟩
theorem PW{n c:Nat}{x:Bs.den bs}{K:aK}(e:cA n 1 h ⟨some a,c,d⟩ (Bs.inj bs x))(b:wp P K h Q):wp P (.check (some a) (Bs.inj bs x) K) h Q:=By rfl e.cells b
theorem mY{n c:Nat}{x:Bs.den bs}(y:Bs.den bs){K:aK}(f:cA n 1 h ⟨some a,c,d⟩ (Bs.inj bs x))(b:∀v,v∈Bs.inj bs y->flat v=true)
  (e:∀h',cA n 1 h' ⟨some a,c,d⟩ (Bs.inj bs y)->jU ⟨some a,c,d⟩ h h'->wp P K h' Q):wp P (.store (some a) (Bs.inj bs y) K) h Q:=fR (Bs.inj bs y) f (by rw[lA,lA]) b e
theorem HO{z:Bs.den bs}(y:Bs.den bs)(g:bs.length<=100)(e:∀v,v∈Bs.inj bs y->flat v=true){K:Addr->aK}
  (f:∀h',Ext h h'->cA h.size 1 h' ⟨some ⟨h.size,0,none⟩,bs.length,bs.length⟩ (Bs.inj bs y)->wp P (K ⟨h.size,0,none⟩) h' Q):wp P (.alloc (Bs.inj bs z) λa=>.store (some a) (Bs.inj bs y) (K a)) h Q:=
 gO z g λk b o1=>mY y o1 e λc o2 j=>f c (jU.jQ b j (by intro a ha;cases ha;exact bM _)) o2
theorem zC{n c:Nat}{x:Bs.den bs}(y:Bs.den bs){R:Nat->bH->aG->Prop}{h0:aG}(f:cA n 1 h ⟨some a,c,d⟩ (Bs.inj bs x))(k:h0.size<=n)(e:Ext h0 h)(j:∀v,v∈Bs.inj bs y->flat v=true)
  (m:∀h',Ext h0 h'->R 0 [.agg (Bs.inj bs y).toArray] h'):wp P (.store (some a) (Bs.inj bs y)<|.load (.agg bs) (some a) λr=>.ret 0 [.agg (Bs.inj bs r).toArray]) h R:=
 mY y f j λg o1 o=>hS o1 (aC (m g (jU.jQ e o (by intro b hb;cases hb;have:=(f.lt rfl).1;exact dI k this))))
theorem HE{n c g j:Nat}{b:Addr}{vs:bH}(o:cA n 1 h ⟨some a,c,d⟩ vs)(u:jU ⟨some b,g,j⟩ h h')(e:b.block≠a.block):cA n 1 h' ⟨some a,c,d⟩ vs:=
 o.aP λx f=>u.2.1 _ (o.lt f).2 λy k=>by cases f;cases k;exact e
def cI(I:iJ)(l:List I.It):bH:=l.flatMap λr=>Bs.inj I.iB r
theorem o_(l:List I.It):(cI I l).length=l.length*I.ni:=by
 unfold cI
 induction l with
 |nil=>simp
 |cons r l b=>rw[gD,bQ,b,lA,fM,CH];unfold iJ.ni;omega
theorem LX(x:I.It)(l:List I.It):cI I (x::l)=Bs.inj I.iB x++cI I l:=by simp[cI]
theorem kg(l:List I.It):∀(j:Nat) (r:I.It),l[j]?=some r->∀(i:Nat) (v:Value),(Bs.inj I.iB r)[i]?=some v->(cI I l)[j*I.ni+i]?=some v:=by
 induction l with
 |nil=>intro j r h;simp at h
 |cons x l f=>
  intro j r h i v b;have e:=lA I.iB x;rw[LX];cases j with
  |zero=>
   simp at h;subst h;have:=(cQ.1 b).1;rw[mL (by omega)];simpa using b
  |succ j=>
   have:=f j r (by simpa using h) i v b;have g:(j+1)*I.ni=j*I.ni+I.ni:=F0 ..;have c:(Bs.inj I.iB x).length=I.ni:=e;rw[jZ (by omega),c,show(j+1)*I.ni+i-I.ni=j*I.ni+i by omega];exact this
theorem fu(l:List I.It)(n:Nat):(cI I l).take (n*I.ni)=cI I (l.take n):=by
 induction l generalizing n with
 |nil=>simp[cI]
 |cons x l e=>
  cases n with
  |zero=>simp[cI]
  |succ n=>
   have c:(Bs.inj I.iB x).length=I.ni:=lA _ _;have b:(n+1)*I.ni=I.ni+n*I.ni:=by rw[F0];omega
   rw[LX,JM,LX,b,JN,iY (by omega),c,Ar,e]
theorem fq(l:List I.It)(n:Nat):(cI I l).drop (n*I.ni)=cI I (l.drop n):=by
 induction l generalizing n with
 |nil=>simp[cI]
 |cons x l e=>
  cases n with
  |zero=>simp
  |succ n=>
   have c:(Bs.inj I.iB x).length=I.ni:=lA _ _;have b:(n+1)*I.ni=I.ni+n*I.ni:=by rw[F0];omega
   rw[LX,List.drop_succ_cons,b,R6,uM (by omega),c,Ar,e,GB]
theorem Gy{m:List I.It}(a:I.wf l)(b:I.wf m):I.wf (l++m):=λr c=>(dH.1 c).elim (a r) (b r)
theorem Ma(a:I.wf l)(n:Nat):I.wf (l.take n):=λr b=>a r (rW b)
theorem RC(a:I.wf l)(n:Nat):I.wf (l.drop n):=λr b=>a r (BE b)
structure Pn(I:iJ)(h:aG)(s:Sl)(l:List I.It):Prop where
 rd:Rd I.ni h s (cI I l)
 cap:s.len<=s.cap
 max:s.cap<2^63
 wf:I.wf l
theorem Pn.len(O:I.Ok P){s:Sl}{l:List I.It}(r:Pn I h s l):s.len=l.length:=by
 have:=r.rd.1;rw[o_]at this;exact Nat.eq_of_mul_eq_mul_right O.i1.1 this
theorem Pn.ext(r:Pn I h s l)(e:Ext h h'):Pn I h' s l:=⟨e.rd r.rd,r.cap,r.max,r.wf⟩
theorem Pn.take(O:I.Ok P){s:Sl}{l:List I.It}(b:Pn I h s l){n m:Nat}(e:n<=l.length)(hm:n<=m)(c:m<2^63):Pn I h ⟨s.aD,n,m⟩ (l.take n):=
 ⟨by have:=Rd.take b.rd (n:=n) (by rw[b.len O];exact e) m;rw[fu]at this;exact this,hm,c,Ma b.wf n⟩
theorem Pn.drop(O:I.Ok P){s:Sl}{l:List I.It}(b:Pn I h s l){i m:Nat}(hi:i<=l.length)(hm:s.len-i<=m)(c:m<2^63):Pn I h ⟨bE s.aD s.cap i I.ni,s.len-i,m⟩ (l.drop i):=
 ⟨by have:=Rd.drop b.rd (i:=i) (by rw[b.len O];exact hi) b.cap m;rw[fq]at this;exact this,hm,c,RC b.wf i⟩
theorem PE{j:Nat}{r:I.It}(g:Pn I h s l)(h1:1<=I.ni)(f:l[j]?=some r):∃a,s.aD=some a/\Cells h (a.add (j*I.ni)) (Bs.inj I.iB r):=by
 have n:(Bs.inj I.iB r).length=I.ni:=lA _ _;obtain⟨a,e,c⟩:=g.rd.2 _ _ (kg l j r f 0 _ (cK (by omega)));refine⟨a,e,aI.2 λi v hi=>?_⟩;obtain⟨m,b,k⟩:=g.rd.2 _ _ (kg l j r f i v hi);rw[e]at b;cases b;rw[add_add];exact k
theorem xu(O:I.Ok P){K:I.It->aK}{j:Int}(f:Pn I h s l)(h0:0<=j)(h1:j<l.length)
  (g:∀r,l[j.toNat]?=some r->wp P (K r) h Q):wp P (bF (bN (aJ s.aD) (eU j s.len)) (.load (.agg I.iB) (aB s.aD (aZ (bP j) I.ni)) K)) h Q:=by
 have b:l[j.toNat]?=some l[j.toNat]:=cK (by omega);obtain⟨a,e,c⟩:=PE f O.i1.1 b;have:=f.len O;exact aL (fA.2 ⟨by simp[aJ,e],kN.2 ⟨h0,by omega⟩⟩) ⟨a.add (j.toNat*I.ni),by simp[aB,e,aZ,bP],l[j.toNat],c,g _ b⟩
theorem WE(O:I.Ok P){K:aK}{j:Nat}{r:I.It}(g:Pn I h s l)(b:l[j]?=some r)(f:wp P K h Q):wp P (.check (aB s.aD (aZ j I.ni)) (Bs.inj I.iB r) K) h Q:=by
 obtain⟨a,e,c⟩:=PE g O.i1.1 b;exact⟨⟨a.add (j*I.ni),by simp[aB,e,aZ],c⟩,f⟩
inductive Bt(α:Type) where
 |nil
 |node (l:Bt α) (x:α) (r:Bt α)
def Bt.list{α:Type}:Bt α->List α
 |.nil=>[]
 |.node l x r=>l.list++x::r.list
def Bt.ht{α:Type}:Bt α->Nat
 |.nil=>0
 |.node l _ r=>max l.ht r.ht+1
theorem Bt.La{α:Type}:∀t:Bt α,t.ht<=t.list.length
 |.nil=>bM _
 |.node l x r=>by have:=l.La;have:=r.La;simp only[Bt.ht,Bt.list,bQ,fM];omega
theorem kO{α:Type}(l r:Bt α)(x:α):(Bt.node l x r).list.length=l.list.length+1+r.list.length:=by simp[Bt.list];omega
def C6(I:iJ)(pl pr:OA)(t:Bt I.It)(x:I.It):bH:=[.pointer pl, .pointer pr]++(Bs.inj I.iB x++[iv t.list.length,iv t.ht])
theorem Gk(pl pr:OA)(t:Bt I.It)(x:I.It):(C6 I pl pr t x).length=I.ni+4:=by
 simp only[C6,bQ,fM,Mp,lA];unfold iJ.ni;omega
def GH(I:iJ)(h:aG)(a:Addr)(pl pr:OA)(l:Bt I.It)(x:I.It)(r:Bt I.It):Prop:=Cells h a (C6 I pl pr (.node l x r) x++Bs.inj I.sB (I.sum (Bt.node l x r).list))/\I.Z a.block/\a.off=0/\a.spot=none
def Nd(I:iJ)(h:aG):OA->Bt I.It->Prop
 |p, .nil=>p=none
 |p, .node l x r=>∃a pl pr,p=some a/\GH I h a pl pr l x r/\Nd I h pl l/\Nd I h pr r
theorem GH.ext{pl:OA}{l r:Bt I.It}(c:GH I h a pl pr l x r)(e:Ext h h'):GH I h' a pl pr l x r:=⟨e.cells c.1,c.2⟩
theorem Nd.ext{h':aG}(e:Ext h h'):∀{t:Bt I.It} {p:OA},Nd I h p t->Nd I h' p t
 |.nil,_,n=>n
 |.node l x r,p,⟨a,pl,pr,b,c,f,g⟩=>⟨a,pl,pr,b,c.ext e,Nd.ext e f,Nd.ext e g⟩
theorem Nd.oZ{F:Nat->Prop}{h':aG}(e:aV F h h')(f:∀i,i<h.size->I.Z i->¬F i):∀{t:Bt I.It} {p:OA},Nd I h p t->Nd I h' p t
 |.nil,_,n=>n
 |.node l x r,p,⟨a,pl,pr,g,c,o,u⟩=>⟨a,pl,pr,g,⟨aI.2 λj v k=>by
   have q:=aI.1 c.1 j v k;have b:=BY q;have m:=c.2.1;rw[iT]at b;rw[yU (h:=h) (by rw[iT];exact e.2.1 _ b (f _ b m))];exact q,c.2⟩,Nd.oZ e f o,Nd.oZ e f u⟩
theorem Cl{l r:Bt I.It}(w:I.wf (Bt.node l x r).list):I.wf l.list:=λy b=>w y (by simp[Bt.list,b])
theorem Ov{l r:Bt I.It}(w:I.wf (Bt.node l x r).list):I.wf r.list:=λy b=>w y (by simp[Bt.list,b])
theorem HS{l r:Bt I.It}(w:I.wf (Bt.node l x r).list):I.xk x:=w x (by simp[Bt.list])
theorem lR(l r:Bt I.It)(x:I.It):I.W (Bt.node l x r).list=I.W l.list+I.wt x+I.W r.list:=by simp only[Bt.list];rw[pZ,Qd];omega
theorem cq(O:I.Ok P){l r:Bt I.It}(w:I.wf (Bt.node l x r).list):I.sum (Bt.node l x r).list=I.add (I.add (I.sum l.list) (I.LK x)) (I.sum r.list):=by
 have b:I.wf [x]:=λy c=>by rw[dE.1 c];exact HS w
 rw[show(Bt.node l x r).list=(l.list++[x])++r.list by simp[Bt.list],sum_append O (Gy (Cl w) b) (Ov w),FT]
theorem CU{pre mid post:bH}{j:Nat}(c:Cells h a (pre++(mid++post)))(b:j=pre.length):Cells h (a.add j) mid:=
 aI.2 λi v hi=>by
  rw[add_add];refine aI.1 c (j+i) v ?_;rw[jZ (by omega),show j+i-pre.length=i by omega,mL (cQ.1 hi).1];exact hi
theorem GH.item{pl:OA}{l r:Bt I.It}(c:GH I h a pl pr l x r):Cells h (a.add 2) (Bs.inj I.iB x):=by
 replace c:=c.1;unfold C6 at c;rw[dX,dX]at c;exact CU c rfl
theorem GH.sum{a:Addr}{pl pr:OA}{l r:Bt I.It}{x:I.It}(c:GH I h a pl pr l x r):Cells h (a.add (I.ni+4)) (Bs.inj I.sB (I.sum (Bt.node l x r).list)):=
 CU (post:=[]) (by rw[kQ];exact c.1) (Gk ..).symm
theorem GH.BI{pl:OA}{l r:Bt I.It}(c:GH I h a pl pr l x r):Sw.cell h (a.add (I.ni+2))=some (iv (Bt.node l x r).list.length)/\Sw.cell h (a.add (I.ni+3))=some (iv (Bt.node l x r).ht):=by
 replace c:=c.1;unfold C6 at c;rw[<-dX [Value.pointer pl,Value.pointer pr] (Bs.inj I.iB x),dX]at c;have:=CU (j:=I.ni+2) c (by simp only[bQ,fM,Mp,lA];unfold iJ.ni;omega);have h0:=aI.1 this 0 _ rfl;have b:=aI.1 this 1 _ rfl;rw[add_zero']at h0;rw[add_add]at b;exact⟨h0,b⟩
theorem GH.left{pl:OA}{l r:Bt I.It}(c:GH I h a pl pr l x r):Sw.cell h (a.add 0)=some (.pointer pl):=aI.1 c.1 0 _ rfl
theorem GH.right{pl:OA}{l r:Bt I.It}(c:GH I h a pl pr l x r):Sw.cell h (a.add 1)=some (.pointer pr):=aI.1 c.1 1 _ rfl
theorem nO{pl:OA}{l r:Bt I.It}{K:OA->aK}(c:GH I h a pl pr l x r)(e:wp P (K pl) h Q):wp P (bF (aJ (some a))<|bF (aJ (some a))<|.load (tP) (aB (some a) 0) K) h Q:=
 aL rfl (aL rfl (bC (b:=.ptr) (a.add 0) pl rfl c.left e))
theorem mO{pl:OA}{l r:Bt I.It}{K:OA->aK}(c:GH I h a pl pr l x r)(e:wp P (K pr) h Q):wp P (bF (aJ (some a))<|bF (aJ (some a))<|.load (tP) (aB (some a) 1) K) h Q:=
 aL rfl (aL rfl (bC (b:=.ptr) (a.add 1) pr rfl c.right e))
theorem uK{pl:OA}{l r:Bt I.It}{K:I.It->aK}(c:GH I h a pl pr l x r)(b:wp P (K x) h Q):wp P (bF (aJ (some a))<|bF (aJ (some a))<|.load (.agg I.iB) (aB (some a) 2) K) h Q:=
 aL rfl (aL rfl ⟨a.add 2,rfl,x,c.item,b⟩)
theorem Wv{pl:OA}{l r:Bt I.It}{K:I.Su->aK}(c:GH I h a pl pr l x r)(b:wp P (K (I.sum (Bt.node l x r).list)) h Q):wp P (bF (aJ (some a))<|bF (aJ (some a))<|.load (.agg I.sB) (aB (some a) (I.ni+4)) K) h Q:=
 aL rfl (aL rfl ⟨a.add (I.ni+4),rfl,_,c.sum,b⟩)
theorem ah{pl:OA}{l r:Bt I.It}{K:aK}(c:GH I h a pl pr l x r)(b:wp P K h Q):wp P (.check (aB (some a) 0) [.pointer pl] K) h Q:=
 By rfl (aI.2 λi v hi=>by match i,hi with|0,hi=>simp at hi;subst hi;rw[add_zero'];exact c.left|i+1,hi=>simp at hi) b
theorem N7{pl:OA}{l r:Bt I.It}{K:aK}(c:GH I h a pl pr l x r)(b:wp P K h Q):wp P (.check (aB (some a) 1) [.pointer pr] K) h Q:=
 By rfl (aI.2 λi v hi=>by match i,hi with|0,hi=>simp at hi;subst hi;rw[add_zero'];exact c.right|i+1,hi=>simp at hi) b
theorem Jl{pl:OA}{l r:Bt I.It}{K:aK}(c:GH I h a pl pr l x r)(b:wp P K h Q):wp P (.check (aB (some a) 2) (Bs.inj I.iB x) K) h Q:=
 By rfl c.item b
theorem AQ{p:OA}{t:Bt I.It}(ht:Nd I h p t):aS P (yT I p) [tI] h λ(x:Int×Unit) _=>x.1=t.list.length:=by
 unfold yT aS;cases t with
 |nil=>obtain rfl:=ht;exact mW (aC ⟨rfl,Ext.refl _,(0,()),rfl,rfl⟩)
 |node l x r=>
  obtain⟨a,pl,pr,rfl,c,_,_⟩:=ht;exact lW (aL rfl (aL rfl (bC (b:=bI) (a.add (I.ni+2)) _ rfl c.BI.1 (aC ⟨rfl,Ext.refl _,(((Bt.node l x r).list.length:Nat),()),rfl,rfl⟩))))
theorem wC{p:OA}{t:Bt I.It}(ht:Nd I h p t):aS P (sW I p) [tI] h λ(x:Int×Unit) _=>x.1=t.ht:=by
 unfold sW aS;cases t with
 |nil=>obtain rfl:=ht;exact mW (aC ⟨rfl,Ext.refl _,(0,()),rfl,rfl⟩)
 |node l x r=>
  obtain⟨a,pl,pr,rfl,c,_,_⟩:=ht;exact lW (aL rfl (aL rfl (bC (b:=bI) (a.add (I.ni+3)) _ rfl c.BI.2 (aC ⟨rfl,Ext.refl _,(((Bt.node l x r).ht:Nat),()),rfl,rfl⟩))))
theorem Oa{n m c j:Nat}{pre:bH}{x:Bs.den bs}{K:Bs.den bs->aK}(f:cA n 1 h ⟨some a,m,c⟩ (pre++Bs.inj bs x))(b:j=pre.length)(e:wp P (K x) h Q):wp P (.load (.agg bs) (aB (some a) j) K) h Q:=
 ⟨a.add j,rfl,x,CU (post:=[]) (by rw[kQ];exact f.cells) b,e⟩
theorem E1(O:I.Ok P){pl:OA}{l r:Bt I.It}(nl:Nd I h pl l)(nr:Nd I h pr r)(hw:I.wf (Bt.node l x r).list)(a7:I.W (Bt.node l x r).list<=4398046511104)(ab:oK I h:=by repeat (first|assumption|refine oK.ext ?_ (by assumption))) :
  aS P (Hh I pl x pr) [tP] h λ(y:OA×Unit) h'=>Nd I h' y.1 (.node l x r):=by
 have hx:=HS hw;have hl:=kO l r x;have a9:=qR O (Bt.node l x r).list;have ba:=lR l r x;have u:=cq O hw;have T:=V.sum O (Cl hw);have vr:=V.sum O (Ov hw);have vm:=O.vm x hx;have g1:=l.La;have g2:=r.La;unfold Hh aS;refine gO x O.i1.2 λh1 o o1=>hS o1 ?_;have ck:∀{h'} {K:aK} {Q:Nat->bH->aG->Prop},Ext h1 h'->wp P K h' Q->wp P (.check (some ⟨h.size,0,none⟩) (Bs.inj I.iB x) K) h' Q:=λe hk=>PW (o1.ext e) hk;refine aM (AQ (nl.ext o)) λy h2 g hy=>ck g (aM (AQ (nr.ext (o.trans g))) λz h3 n hz=>ck (g.trans n) (aM (wC (nl.ext ((o.trans g).trans n))) λA h4 C ao=>
  ck ((g.trans n).trans C) (aM (wC (nr.ext (((o.trans g).trans n).trans C))) λB b U aw=>ck (((g.trans n).trans C).trans U) ?_)))
 obtain⟨(y:Int),w1⟩:=y;obtain⟨(z:Int),w2⟩:=z;obtain⟨(A:Int),w3⟩:=A;obtain⟨(B:Int),w4⟩:=B;dsimp only at hy hz ao aw⊢;have F:=((g.trans n).trans C).trans U;have M:aT .i64 (aT .i64 y 1) z=(((Bt.node l x r).list.length:Nat):Int):=by
  rw[aW (a:=y) (by omega) (by omega),aW (by omega) (by omega)];omega
 have al:aT .i64 (Df A B) 1=(((Bt.node l x r).ht:Nat):Int):=by
  have:Df A B=max A B:=by unfold Df;split<;>omega
  rw[this,aW (by omega) (by omega)];simp only[Bt.ht];omega
 have D:([Value.pointer pl,Value.pointer pr]++(Bs.inj I.iB x++([iv ((Bt.node l x r).list.length:Nat),iv ((Bt.node l x r).ht:Nat)]++Bs.inj I.sB I.zs)))=C6 I pl pr (.node l x r) x++Bs.inj I.sB I.zs:=by
  simp only[C6,dX]
 rw[M,al,D];intro elem;have j:=Gk pl pr (Bt.node l x r) x;have i1:=O.i1;have s1:=O.s1;have bd:(Bs.inj I.sB I.zs).length=I.ns:=lA _ _;have o6:cA b.size 1 (b.push (.cells (C6 I pl pr (.node l x r) x++Bs.inj I.sB I.zs).toArray elem)) ⟨some ⟨b.size,0,none⟩,I.ni+4+I.ns,I.ni+4+I.ns⟩ (C6 I pl pr (.node l x r) x++Bs.inj I.sB I.zs):=
  bR (by rw[bQ];omega) (by decide) (by omega)
 have L:Ext b (b.push (.cells (C6 I pl pr (.node l x r) x++Bs.inj I.sB I.zs).toArray elem)):=Ext.push ..;generalize(b.push (.cells (C6 I pl pr (.node l x r) x++Bs.inj I.sB I.zs).toArray elem))=h6 at o6 L⊢;have f:Ext h b:=o.trans F;refine hS (o1.ext (F.trans L)) (aM (O.cm _ x hx) λm h7 X hm=>?_);obtain⟨m,w5⟩:=m;dsimp only at hm;subst hm;refine Dn (Bs.inj I.sB (I.LK x)) (o6.ext X) j.symm (by rw[lA,lA]) (O.fs _) λh8 o8 u8=>?_;have k:Ext b h8:=jU.jQ (L.trans X) u8 (by intro a ha;cases ha;exact bM _);have H:=nl.ext (f.trans k);have bb:=nr.ext (f.trans k);refine cZ (λt w h'=>t=0/\w=[]/\Ext b h'/\cA b.size 1 h' ⟨some ⟨b.size,0,none⟩,I.ni+4+I.ns,I.ni+4+I.ns⟩ (C6 I pl pr (.node l x r) x++Bs.inj I.sB (I.add (I.sum l.list) (I.LK x)))) ?_ ?_
 .cases l with
  |nil=>
   obtain rfl:=H;refine lW (aC ⟨rfl,rfl,k,?_⟩);rw[show I.sum (Bt.nil:Bt I.It).list=I.zs from rfl,O.za _ _ vm];exact o8
  |node ll lx N=>
   obtain⟨a,ql,qr,rfl,c,_,_⟩:=H;refine mW (Wv c (Oa o8 j.symm (aM (O.ca _ _ _ _ _ T vm (by omega)) λm h9 Y hm=>?_)));obtain⟨m,w6⟩:=m;dsimp only at hm;subst hm;refine Dn (Bs.inj I.sB (I.add (I.sum (Bt.node ll lx N).list) (I.LK x))) (o8.ext Y) j.symm (by rw[lA,lA]) (O.fs _) λG v a3=>aC ⟨rfl,rfl,jU.jQ (k.trans Y) a3 (by intro a ha;cases ha;exact bM _),v⟩
 .rintro t w h9 ⟨rfl,rfl,p,R⟩
  have J:=nr.ext (f.trans p);refine bG (bO ?_);refine cZ (λt w h'=>t=0/\w=[]/\Ext b h'/\cA b.size 1 h' ⟨some ⟨b.size,0,none⟩,I.ni+4+I.ns,I.ni+4+I.ns⟩ (C6 I pl pr (.node l x r) x++Bs.inj I.sB (I.sum (Bt.node l x r).list))) ?_ ?_
  .cases r with
   |nil=>
    obtain rfl:=J;refine lW (aC ⟨rfl,rfl,p,?_⟩);rw[u,show I.sum (Bt.nil:Bt I.It).list=I.zs from rfl,O.az _ _ (O.va _ _ _ _ T vm)];exact R
   |node ll lx N=>
    obtain⟨a,ql,qr,rfl,c,_,_⟩:=J;refine mW (Oa R j.symm (Wv c (aM (O.ca _ _ _ _ _ (O.va _ _ _ _ T vm) vr (by omega)) λm G E hm=>?_)));obtain⟨m,w6⟩:=m;dsimp only at hm;rw[<-u]at hm;subst hm;refine Dn (Bs.inj I.sB (I.sum (Bt.node l x (.node ll lx N)).list)) (R.ext E) j.symm (by rw[lA,lA]) (O.fs _) λa8 a0 a4=>aC ⟨rfl,rfl,jU.jQ (p.trans E) a4 (by intro a ha;cases ha;exact bM _),a0⟩
  .rintro t w G ⟨rfl,rfl,q,v⟩
   exact bG (bO (aC ⟨rfl,f.trans q,(some ⟨b.size,0,none⟩,()),rfl,⟨b.size,0,none⟩,pl,pr,rfl,⟨v.cells,ab _ f.size,rfl,rfl⟩,nl.ext (f.trans q),nr.ext (f.trans q)⟩))
theorem Nd.Hg{n m c:Nat}{ws:bH}{b:Addr}{h h':aG}(u:jU ⟨some b,m,c⟩ h h')(g:cA n 1 h ⟨some b,m,c⟩ ws)(f:c<I.ni+4+I.ns):∀{t:Bt I.It} {p:OA},Nd I h p t->Nd I h' p t
 |.nil,_,n=>n
 |.node l x r,p,⟨a,pl,pr,j,e,k,o⟩=>⟨a,pl,pr,j,⟨xQ u e.1 (BA g e.1 (by rw[bQ,Gk,lA];exact f)),e.2⟩,Nd.Hg u g f k,Nd.Hg u g f o⟩
theorem Nd.Vz{s:Sl}{h h':aG}(u:jU s h h')(g:∀b,s.aD=some b->∃k x,Sw.cell h ⟨b.block,0,none⟩=some (.int k x)):∀{t:Bt I.It} {p:OA},Nd I h p t->Nd I h' p t
 |.nil,_,n=>n
 |.node l x r,p,⟨a,pl,pr,A,c,D,E⟩=>⟨a,pl,pr,A,⟨aI.2 λj v B=>by
   have q:=aI.1 c.1 j v B;have f:=BY q;rw[iT]at f;have w:∀b,s.aD=some b->b.block≠a.block:=λb hb e=>by
    obtain⟨k,z,C⟩:=g b hb;have h0:=c.left;have ha:a=⟨b.block,0,none⟩:=by
     obtain⟨F,G,sp⟩:=a;have m:=c.2.2.1;have o:=c.2.2.2;dsimp only at m o e;subst m;subst o;rw[e]
    rw[add_zero',ha,C]at h0;cases h0
   rw[yU (h:=h) (by rw[iT];exact u.2.1 _ f w)];exact q,c.2⟩,Nd.Vz u g D,Nd.Vz u g E⟩
end
section
open Go.Sw.Tree (iv fR jR jX mX oS BA xQ dQ least TR lB kM rO)
variable{P:Program}{I:iJ}{h:aG}{Q:Nat->bH->aG->Prop}
variable{x lx mx rx:I.It}{pr:OA}
def Bt.JT{α:Type}:Bt α->Prop
 |.nil=>True
 |.node l _ r=>l.JT/\r.JT/\l.ht<=r.ht+1/\r.ht<=l.ht+1
def Bt.Full{α:Type}(t:Bt α):Prop:=t.list.length<2^t.ht/\(2^t.ht<=2*t.list.length\/t.ht=0)/\t.JT
theorem Zy:(Bt.nil:Bt I.It).Full:=⟨by simp[Bt.list,Bt.ht], .inr rfl,trivial⟩
theorem XE{l r:Bt I.It}(j:l.Full)(k:r.Full)(h1:r.list.length<=l.list.length)(n:l.list.length<=r.list.length+1):(Bt.node l x r).Full:=by
 obtain⟨a1,a2,f⟩:=j;obtain⟨m,b,g⟩:=k;have e:=kO l r x;have c1:r.ht<=l.ht:=by
  rcases b with b|b
  .have:2^r.ht<2 ^ (l.ht+1):=by rw[Mq];omega
   have:=(Nat.pow_lt_pow_iff_right (by decide:1<2)).1 this;omega
  .omega
 have c2:l.ht<=r.ht+1:=by
  rcases a2 with a2|a2
  .have:2^l.ht<=2 ^ (r.ht+1):=by rw[Mq];omega
   exact(Nat.pow_le_pow_iff_right (by decide:1<2)).1 this
  .omega
 have c:(Bt.node l x r).ht=l.ht+1:=by simp only[Bt.ht];omega
 refine⟨?_, .inl ?_,f,g,c2,by omega⟩
 .rw[c,e,Mq];omega
 .rw[c,e,Mq]
  rcases a2 with a2|a2
  .omega
  .rw[a2];omega
def Sp(l:Bt I.It)(x:I.It)(r t:Bt I.It):Prop:=t.list=l.list++x::r.list /\
 (l.JT->r.JT->l.ht<=r.ht+2->r.ht<=l.ht+2->t.JT/\max l.ht r.ht<=t.ht/\t.ht<=max l.ht r.ht+1/\(l.ht<=r.ht+1->r.ht<=l.ht+1->t.ht=max l.ht r.ht+1))
def Uu(l:Bt I.It)(x:I.It)(r t:Bt I.It):Prop:=t.list=l.list++x::r.list/\(l.JT->r.JT->t.JT/\max l.ht r.ht<=t.ht/\t.ht<=max l.ht r.ht+1)
theorem qz{ll b r:Bt I.It}(h1:r.ht+1<(Bt.node ll lx b).ht)(g:b.ht<=ll.ht):Sp (.node ll lx b) x r (.node ll lx (.node b x r)):=by
 refine⟨by simp[Bt.list],λ⟨a1,a2,c,e⟩ a5 a6 f=>?_⟩;simp only[Bt.ht,Bt.JT]at *;refine⟨⟨a1,⟨a2,a5,?_,?_⟩,?_,?_⟩,?_,?_,?_⟩<;>omega
theorem r_{ll m1 m2 r:Bt I.It}(h1:r.ht+1<(Bt.node ll lx (.node m1 mx m2)).ht)(m:ll.ht<(Bt.node m1 mx m2).ht):Sp (.node ll lx (.node m1 mx m2)) x r (.node (.node ll lx m1) mx (.node m2 x r)):=by
 refine⟨by simp[Bt.list],λ⟨a1,⟨b,c,j,k⟩,e,f⟩ a5 a6 g=>?_⟩;simp only[Bt.ht,Bt.JT]at *;refine⟨⟨⟨a1,b,?_,?_⟩,⟨c,a5,?_,?_⟩,?_,?_⟩,?_,?_,?_⟩<;>omega
theorem rh{l rl rr:Bt I.It}(h1:l.ht+1<(Bt.node rl rx rr).ht)(f:rl.ht<=rr.ht):Sp l x (.node rl rx rr) (.node (.node l x rl) rx rr):=by
 refine⟨by simp[Bt.list],λa5 ⟨a1,a2,b,c⟩ a6 e=>?_⟩;simp only[Bt.ht,Bt.JT]at *;refine⟨⟨⟨a5,a1,?_,?_⟩,a2,?_,?_⟩,?_,?_,?_⟩<;>omega
theorem ri{l m1 m2 rr:Bt I.It}(h1:l.ht+1<(Bt.node (.node m1 mx m2) rx rr).ht)(m:rr.ht<(Bt.node m1 mx m2).ht):Sp l x (.node (.node m1 mx m2) rx rr) (.node (.node l x m1) mx (.node m2 rx rr)):=by
 refine⟨by simp[Bt.list],λa5 ⟨⟨b,c,j,k⟩,a2,e,f⟩ a6 g=>?_⟩;simp only[Bt.ht,Bt.JT]at *;refine⟨⟨⟨a5,b,?_,?_⟩,⟨c,a2,?_,?_⟩,?_,?_⟩,?_,?_,?_⟩<;>omega
theorem rk{l r:Bt I.It}(h1:l.ht<=r.ht+1)(c:r.ht<=l.ht+1):Sp l x r (.node l x r):=by
 refine⟨by simp[Bt.list],λa b _ _=>?_⟩;simp only[Bt.ht,Bt.JT]at *;refine⟨⟨a,b,?_,?_⟩,?_,?_,?_⟩<;>first|omega|(intros;first|trivial|omega)
theorem s_{ll b r t1 t:Bt I.It}(h1:r.ht+1<(Bt.node ll lx b).ht)(j:Uu b x r t1)(e:Sp ll lx t1 t):Uu (.node ll lx b) x r t:=by
 refine⟨by rw[e.1,j.1];simp[Bt.list],λ⟨a1,a2,n,o⟩ a5=>?_⟩;obtain⟨m,u,v⟩:=j.2 a2 a5;simp only[Bt.ht]at *;obtain⟨c,p,q,f⟩:=e.2 a1 m (by omega) (by omega);refine⟨c,?_,?_⟩<;>(by_cases g:ll.ht<=t1.ht+1<;>by_cases k:t1.ht<=ll.ht+1<;>first|(have:=f g k;omega)|omega)
theorem sc{l rl rr t1 t:Bt I.It}(h1:l.ht+1<(Bt.node rl rx rr).ht)(j:Uu l x rl t1)(e:Sp t1 rx rr t):Uu l x (.node rl rx rr) t:=by
 refine⟨by rw[e.1,j.1];simp[Bt.list],λa5 ⟨a1,a2,m,n⟩=>?_⟩;obtain⟨k,q,r⟩:=j.2 a5 a1;simp only[Bt.ht]at *;obtain⟨b,o,p,c⟩:=e.2 k a2 (by omega) (by omega);refine⟨b,?_,?_⟩<;>(by_cases f:t1.ht<=rr.ht+1<;>by_cases g:rr.ht<=t1.ht+1<;>first|(have:=c f g;omega)|omega)
theorem se{l r:Bt I.It}(h1:l.ht<=r.ht+1)(c:r.ht<=l.ht+1):Uu l x r (.node l x r):=by
 refine⟨by simp[Bt.list],λa b=>?_⟩;simp only[Bt.ht,Bt.JT]at *;refine⟨⟨a,b,?_,?_⟩,?_,?_⟩<;>omega
theorem FZ{L M:List I.It}(w:I.wf L)(hm:∀y,y∈M->y∈L):I.wf M:=λy b=>w y (hm y b)
theorem UM(O:I.Ok P){pl:OA}{l r:Bt I.It}(nl:Nd I h pl l)(nr:Nd I h pr r)(hw:I.wf (Bt.node l x r).list)(q:I.W (Bt.node l x r).list<=4398046511104)(b4:oK I h:=by repeat (first|assumption|refine oK.ext ?_ (by assumption))) :
  aS P (MC I pl x pr) [tP] h λ(y:OA×Unit) h'=>∃t,Nd I h' y.1 t/\Sp l x r t:=by
 have hx:=HS hw;have hl:=kO l r x;have b6:=lR (I:=I) l r x;have bo:=qR O (Bt.node l x r).list;have g1:=l.La;have g2:=r.La;unfold MC aS;refine gO x O.i1.2 λh1 H o1=>?_;have X:∀{h'} {K:I.It->aK} {Q:Nat->bH->aG->Prop},Ext h1 h'->wp P (K x) h' Q->wp P (.load (.agg I.iB) (some ⟨h.size,0,none⟩) K) h' Q:=λe hk=>hS (o1.ext e) hk;have ck:∀{h'} {K:aK} {Q:Nat->bH->aG->Prop},Ext h1 h'->wp P K h' Q->wp P (.check (some ⟨h.size,0,none⟩) (Bs.inj I.iB x) K) h' Q:=λe hk=>PW (o1.ext e) hk;have a4:=nl.ext H;have a9:=nr.ext H;refine aM (wC a4) λy h2 e2 f=>aM (wC (a9.ext e2)) λz h3 e3 u=>?_;obtain⟨(y:Int),w1⟩:=y;obtain⟨(z:Int),w2⟩:=z;dsimp only at f u⊢;subst f;subst u;have M:=e2.trans e3;have ab:=a4.ext M;have al:=a9.ext M;rw[aW (by omega) (by omega)];refine aE (λhc=>?_) λhc=>?_
 .rw[dL]at hc
  cases l with
  |nil=>simp only[Bt.ht]at hc;omega
  |node ll lx T=>
   have bo:=kO ll T lx;have b0:=lR (I:=I) ll T lx;have bt:=qR O (Bt.node ll lx T).list;obtain⟨a,ql,qr,rfl,c,Y,n2⟩:=ab;have c:GH I h3 a ql qr ll lx T:=c;refine nO c (mO c (aM (wC Y) λy h4 R f=>N7 (c.ext R) (aM (wC (n2.ext R)) λz h5 e5 u=>?_)));obtain⟨(y:Int),w1⟩:=y;obtain⟨(z:Int),w2⟩:=z;dsimp only at f u⊢;subst f;subst u;have o:=R.trans e5;have D:=c.ext o;have ao:=Y.ext o;have a0:=n2.ext o;have G:=al.ext o;have n:=M.trans o;refine aE (λC=>?_) λC=>?_
   .rw[dD]at C
    refine nO D (uK D (mO D (X n (aM (E1 O (x:=x) a0 G (FZ hw (by intro y f;simp only[Bt.list,dH,eH]at f⊢;grind)) (by rw[lR];omega)) λp h6 g k=>?_))));obtain⟨(p:OA),w3⟩:=p;dsimp only at k⊢;have b:=qz (x:=x) (r:=r) (lx:=lx) (by omega) (show T.ht<=ll.ht by omega);refine Jl (D.ext g) (ah (D.ext g) (aM (E1 O (x:=lx) (ao.ext g) k (by rw[b.1];exact hw) (by rw[b.1];exact q)) λp h7 J k=>?_));obtain⟨(p:OA),w4⟩:=p;exact aC ⟨rfl,H.trans ((n.trans g).trans J),(p,()),rfl,_,k,b⟩
   .rw[eS]at C
    cases T with
    |nil=>simp only[Bt.ht]at C;omega
    |node v mx w=>
     have bp:=kO v w mx;have bb:=lR (I:=I) v w mx;have ba:=qR O (Bt.node v mx w).list;obtain⟨a',ml,mr,rfl,j,k1,k2⟩:=a0;have j:GH I h5 a' ml mr v mx w:=j;have b:=r_ (x:=x) (r:=r) (lx:=lx) (ll:=ll) (m1:=v) (mx:=mx) (m2:=w) (by omega) (by omega);refine mO D (nO D (uK D (nO j (uK j (mO j (X n (aM (E1 O (x:=lx) ao k1 (FZ hw (by intro y f;simp only[Bt.list,dH,eH]at f⊢;grind)) (by rw[lR];omega)) λp h6 g k=>?_)))))));obtain⟨(p:OA),w3⟩:=p;dsimp only at k⊢;refine ck (n.trans g) (N7 (j.ext g) (Jl (j.ext g) (aM (E1 O (x:=x) (k2.ext g) (G.ext g) (FZ hw (by intro y f;simp only[Bt.list,dH,eH]at f⊢;grind)) (by rw[lR];omega)) λp' h7 J F=>?_)));obtain⟨(p':OA),w4⟩:=p';dsimp only at F⊢;refine Jl (j.ext (g.trans J)) (aM (E1 O (x:=mx) (k.ext J) F (by rw[b.1];exact hw) (by rw[b.1];exact q)) λA h8 m L=>?_);obtain⟨(A:OA),w5⟩:=A;exact aC ⟨rfl,H.trans (((n.trans g).trans J).trans m),(A,()),rfl,_,L,b⟩
 .rw[gF]at hc
  refine aM (wC al) λy h4 R f=>aM (wC (ab.ext R)) λz h5 e5 u=>?_;obtain⟨(y:Int),w1⟩:=y;obtain⟨(z:Int),w2⟩:=z;dsimp only at f u⊢;subst f;subst u;have o:=R.trans e5;have a7:=ab.ext o;have G:=al.ext o;have n:=M.trans o;rw[aW (by omega) (by omega)];refine aE (λhd=>?_) λhd=>?_
  .rw[dL]at hd
   cases r with
   |nil=>simp only[Bt.ht]at hd;omega
   |node U rx rr=>
    have b8:=kO U rr rx;have b2:=lR (I:=I) U rr rx;have b1:=qR O (Bt.node U rx rr).list;obtain⟨a,ql,qr,rfl,c,Y,n2⟩:=G;have c:GH I h5 a ql qr U rx rr:=c;refine mO c (nO c (aM (wC n2) λy h6 g f=>ah (c.ext g) (aM (wC (Y.ext g)) λz h7 J u=>?_)));obtain⟨(y:Int),w1⟩:=y;obtain⟨(z:Int),w2⟩:=z;dsimp only at f u⊢;subst f;subst u;have E:=g.trans J;have B:=c.ext E;have aw:=Y.ext E;have a3:=n2.ext E;have a8:=a7.ext E;have N:=n.trans E;refine aE (λC=>?_) λC=>?_
    .rw[dD]at C
     refine X N (nO B (uK B (mO B (aM (E1 O (x:=x) a8 aw (FZ hw (by intro y f;simp only[Bt.list,dH,eH]at f⊢;grind)) (by rw[lR];omega)) λp h8 m k=>?_))));obtain⟨(p:OA),w3⟩:=p;dsimp only at k⊢;have b:=rh (x:=x) (l:=l) (rx:=rx) (rl:=U) (rr:=rr) (by omega) (by omega);refine N7 (B.ext m) (Jl (B.ext m) (aM (E1 O (x:=rx) k (a3.ext m) (by rw[b.1];exact hw) (by rw[b.1];exact q)) λp h9 V k=>?_));obtain⟨(p:OA),w4⟩:=p;exact aC ⟨rfl,H.trans ((N.trans m).trans V),(p,()),rfl,_,k,b⟩
    .rw[eS]at C
     cases U with
     |nil=>simp only[Bt.ht]at C;omega
     |node v mx w=>
      have bp:=kO v w mx;have bb:=lR (I:=I) v w mx;have ba:=qR O (Bt.node v mx w).list;obtain⟨a',ml,mr,rfl,j,k1,k2⟩:=aw;have j:GH I h7 a' ml mr v mx w:=j;have b:=ri (x:=x) (l:=l) (rx:=rx) (m1:=v) (mx:=mx) (m2:=w) (rr:=rr) (by omega) (by omega);refine nO B (X N (nO j (uK j (mO j (uK B (mO B (aM (E1 O (x:=x) a8 k1 (FZ hw (by intro y f;simp only[Bt.list,dH,eH]at f⊢;grind)) (by rw[lR];omega)) λp h8 m k=>?_)))))));obtain⟨(p:OA),w3⟩:=p;dsimp only at k⊢;refine N7 (B.ext m) (Jl (B.ext m) (N7 (j.ext m) (Jl (j.ext m) (aM (E1 O (x:=rx) (k2.ext m) (a3.ext m) (FZ hw (by intro y f;simp only[Bt.list,dH,eH]at f⊢;grind)) (by rw[lR];omega)) λp' h9 V F=>?_))));obtain⟨(p':OA),w4⟩:=p';dsimp only at F⊢;refine Jl (j.ext (m.trans V)) (aM (E1 O (x:=mx) (k.ext V) F (by rw[b.1];exact hw) (by rw[b.1];exact q)) λA b3 bd L=>?_);obtain⟨(A:OA),w5⟩:=A;exact aC ⟨rfl,H.trans (((N.trans m).trans V).trans bd),(A,()),rfl,_,L,b⟩
  .rw[gF]at hd
   refine X n (aM (E1 O (x:=x) a7 G hw q) λp h6 g k=>?_);obtain⟨(p:OA),w3⟩:=p;exact aC ⟨rfl,H.trans (n.trans g),(p,()),rfl,_,k,rk (by omega) (by omega)⟩
theorem gn(O:I.Ok P):∀(fuel:Nat) {h:aG} {pl pr:OA} {l r:Bt I.It} {x:I.It},l.list.length+r.list.length<fuel->Nd I h pl l->Nd I h pr r->I.wf (Bt.node l x r).list->I.W (Bt.node l x r).list<=4398046511104->(Y:oK I h:=by repeat (first|assumption|refine oK.ext ?_ (by assumption))) ->
  aS P (Ga fuel I pl x pr) [tP] h λ(y:OA×Unit) h'=>∃t,Nd I h' y.1 t/\Uu l x r t:=by
 intro fuel
 induction fuel with
 |zero=>intro h pl pr l r x hf;omega
 |succ fuel ih=>
  intro h pl pr l r x hf nl nr hw g Y;have hx:=HS hw;have hl:=kO l r x;have a3:=lR (I:=I) l r x;have ab:=qR O (Bt.node l x r).list;have g1:=l.La;have g2:=r.La;unfold Ga aS;refine gO x O.i1.2 λh1 u o1=>?_;have N:∀{h'} {K:I.It->aK} {Q:Nat->bH->aG->Prop},Ext h1 h'->wp P (K x) h' Q->wp P (.load (.agg I.iB) (some ⟨h.size,0,none⟩) K) h' Q:=λe hk=>hS (o1.ext e) hk;have G:=nl.ext u;have J:=nr.ext u;refine aM (wC G) λy h2 V j=>aM (wC (J.ext V)) λz h3 e3 w=>?_;obtain⟨(y:Int),w1⟩:=y;obtain⟨(z:Int),w2⟩:=z;dsimp only at j w⊢;subst j;subst w;have k:=V.trans e3;have B:=G.ext k;have C:=J.ext k;rw[aW (by omega) (by omega)];refine aE (λE=>?_) λE=>?_
  .rw[dL]at E
   cases l with
   |nil=>simp only[Bt.ht]at E;omega
   |node ll lx A=>
    have ab:=kO ll A lx;have ao:=lR (I:=I) ll A lx;have al:=qR O (Bt.node ll lx A).list;obtain⟨a,U,qr,rfl,c,R,T⟩:=B;have c:GH I h3 a U qr ll lx A:=c;refine nO c (uK c (mO c (N k (aM (ih (x:=x) (by omega) T C (FZ hw (by intro y j;simp only[Bt.list,dH,eH]at j⊢;grind)) (by rw[lR];omega)) λp h4 m f=>?_))));obtain⟨(p:OA),w3⟩:=p;obtain⟨t1,np,n⟩:=f;dsimp only at np n⊢;have b:(Bt.node ll lx t1).list=(Bt.node (.node ll lx A) x r).list:=by simp only[Bt.list];rw[n.1];simp
    refine Jl (c.ext m) (ah (c.ext m) (aM (UM O (x:=lx) (R.ext m) np (by rw[b];exact hw) (by rw[b];exact g)) λp X M f=>?_));obtain⟨(p:OA),w4⟩:=p;obtain⟨t2,np,he⟩:=f;exact aC ⟨rfl,u.trans ((k.trans m).trans M),(p,()),rfl,t2,np,s_ (by omega) n he⟩
  .rw[gF]at E
   refine aM (wC C) λy h4 m j=>aM (wC (B.ext m)) λz X M w=>?_;obtain⟨(y:Int),w1⟩:=y;obtain⟨(z:Int),w2⟩:=z;dsimp only at j w⊢;subst j;subst w;have v:=m.trans M;have H:=B.ext v;have L:=C.ext v;have o:=k.trans v;rw[aW (by omega) (by omega)];refine aE (λF=>?_) λF=>?_
   .rw[dL]at F
    cases r with
    |nil=>simp only[Bt.ht]at F;omega
    |node D rx rr=>
     have a4:=kO D rr rx;have a0:=lR (I:=I) D rr rx;have aw:=qR O (Bt.node D rx rr).list;obtain⟨a,U,qr,rfl,c,R,T⟩:=L;have c:GH I X a U qr D rx rr:=c;refine N o (nO c (uK c (mO c (aM (ih (x:=x) (by omega) H R (FZ hw (by intro y j;simp only[Bt.list,dH,eH]at j⊢;grind)) (by rw[lR];omega)) λp h6 q f=>?_))));obtain⟨(p:OA),w3⟩:=p;obtain⟨t1,np,n⟩:=f;dsimp only at np n⊢;have b:(Bt.node t1 rx rr).list=(Bt.node l x (.node D rx rr)).list:=by simp only[Bt.list];rw[n.1];simp
     refine N7 (c.ext q) (Jl (c.ext q) (aM (UM O (x:=rx) np (T.ext q) (by rw[b];exact hw) (by rw[b];exact g)) λp h7 e7 f=>?_));obtain⟨(p:OA),w4⟩:=p;obtain⟨t2,np,he⟩:=f;exact aC ⟨rfl,u.trans ((o.trans q).trans e7),(p,()),rfl,t2,np,sc (by omega) n he⟩
   .rw[gF]at F
    refine N o (aM (E1 O (x:=x) H L hw g) λp h6 q f=>?_);obtain⟨(p:OA),w3⟩:=p;exact aC ⟨rfl,u.trans (o.trans q),(p,()),rfl,_,f,se (by omega) (by omega)⟩
theorem UP(O:I.Ok P){pl:OA}{l r:Bt I.It}(nl:Nd I h pl l)(nr:Nd I h pr r)(hw:I.wf (Bt.node l x r).list)(b:I.W (Bt.node l x r).list<=4398046511104)(c:oK I h:=by repeat (first|assumption|refine oK.ext ?_ (by assumption))) :
  aS P (JV I pl x pr) [tP] h λ(y:OA×Unit) h'=>∃t,Nd I h' y.1 t/\Uu l x r t:=
 ⟨l.list.length+r.list.length+1,gn O _ (KH _) nl nr hw b⟩
theorem pk(O:I.Ok P):∀(fuel:Nat) {h:aG} {p:OA} {t:Bt I.It} {i:Int},t.list.length<fuel->Nd I h p t->I.wf t.list->I.W t.list<=4398046511104 -> -4398046511104<=i->i<=9223372036854775807->(G:oK I h:=by repeat (first|assumption|refine oK.ext ?_ (by assumption))) ->
  aS P (JW fuel I p i) [tP, tP] h λ(y:OA×OA×Unit) h'=>∃a b,Nd I h' y.1 a/\Nd I h' y.2.1 b/\a.list=t.list.take i.toNat/\b.list=t.list.drop i.toNat/\(t.JT->a.JT/\b.JT):=by
 intro fuel
 induction fuel with
 |zero=>intro h p t i V;omega
 |succ fuel K=>
  intro h p t i V M hw n H J G;unfold JW aS;cases t with
  |nil=>
   obtain rfl:=M;exact mW (aC ⟨rfl,Ext.refl _,(none,none,()),rfl, .nil, .nil,rfl,rfl,by simp[Bt.list],by simp[Bt.list],λ_=>⟨trivial,trivial⟩⟩)
  |node l x r=>
   have hl:=kO l r x;have al:=lR (I:=I) l r x;have ab:=qR O (Bt.node l x r).list;obtain⟨a,X,qr,rfl,c,B,L⟩:=M;have c:GH I h a X qr l x r:=c;refine lW (nO c (aM (AQ B) λy h1 k f=>?_));obtain⟨(y:Int),w1⟩:=y;dsimp only at f⊢;subst f;have c1:=c.ext k;refine aE (λA=>?_) λA=>?_
   .rw[gG]at A
    refine nO c1 (aM (K (by omega) (B.ext k) (Cl hw) (by omega) H J) λy T g f=>?_);obtain⟨(N:OA),(R:OA),Y⟩:=y;obtain⟨D,E,u,v,la,lb,j⟩:=f;dsimp only at u v⊢;have e:(Bt.node E x r).list=(Bt.node l x r).list.drop i.toNat:=by
     simp only[Bt.list];rw[lb,R7 (by omega)]
    refine uK (c1.ext g) (mO (c1.ext g) (aM (UP O (x:=x) v (L.ext (k.trans g)) (by rw[e];exact RC hw _) (by rw[e];exact dI (Uw _ _) n)) λy U o f=>?_));obtain⟨(C:OA),w3⟩:=y;obtain⟨t2,nc,q⟩:=f;refine aC ⟨rfl,(k.trans g).trans o,(N,C,()),rfl,D,t2,u.ext o,nc,?_,?_,λm=>⟨(j m.1).1,(q.2 (j m.1).2 m.2.1).1⟩⟩
    .rw[la];simp only[Bt.list];rw[As (by omega)]
    .rw[q.1,<-e];rfl
   .rw[mN]at A
    rw[bY (a:=i) (by omega) (by omega),bY (by omega) (by omega)];refine mO c1 (aM (K (i:=i-l.list.length-1) (by omega) (L.ext k) (Ov hw) (by omega) (by omega) (by omega)) λy T g f=>?_);obtain⟨(N:OA),(R:OA),Y⟩:=y;obtain⟨D,E,u,v,la,lb,j⟩:=f;dsimp only at u v⊢;obtain⟨d,hd⟩:∃d:Nat,i=l.list.length+1+d:=⟨(i-l.list.length-1).toNat,by omega⟩;have w:i.toNat=(l.list++[x]).length+d:=by simp;omega
    have F:(i-l.list.length-1).toNat=d:=by omega
    rw[F]at la lb;have z:(Bt.node l x r).list=(l.list++[x])++r.list:=by simp[Bt.list]
    have e:(Bt.node l x D).list=(Bt.node l x r).list.take i.toNat:=by
     rw[z,w,JN,iY (by omega),Ar,<-la];simp[Bt.list]
    refine nO (c1.ext g) (uK (c1.ext g) (aM (UP O (x:=x) (B.ext (k.trans g)) u (by rw[e];exact Ma hw _) (by rw[e];exact dI (Ux _ _) n)) λy U o f=>?_));obtain⟨(C:OA),w3⟩:=y;obtain⟨t2,nc,q⟩:=f;refine aC ⟨rfl,(k.trans g).trans o,(C,R,()),rfl,t2,E,nc,v.ext o,?_,?_,λm=>⟨(q.2 m.1 (j m.2.1).1).1,(j m.2.1).2⟩⟩
    .rw[q.1,<-e];rfl
    .rw[lb,z,w,R6,uM (show(l.list++[x]).length<=(l.list++[x]).length+d from Em ..),Ar,GB]
theorem VZ(O:I.Ok P){p:OA}{t:Bt I.It}{i:Int}(e:Nd I h p t)(hw:I.wf t.list)(c:I.W t.list<=4398046511104)(hi:0<=i)(g:i<=t.list.length)(f:oK I h:=by repeat (first|assumption|refine oK.ext ?_ (by assumption))) :
  aS P (VI I p i) [tP, tP] h λ(y:OA×OA×Unit) h'=>∃a b,Nd I h' y.1 a/\Nd I h' y.2.1 b/\a.list=t.list.take i.toNat/\b.list=t.list.drop i.toNat/\(t.JT->a.JT/\b.JT):=
 ⟨t.list.length+1,pk O _ (KH _) e hw c (by omega) (by have:=qR O t.list;omega)⟩
def j6(t:Bt I.It)(x:I.It)(t':Bt I.It):Prop:=t.list=x::t'.list/\(t.JT->t'.JT/\t'.ht<=t.ht/\t.ht<=t'.ht+1)
theorem YW(O:I.Ok P):∀(fuel:Nat) {h:aG} {p:OA} {t:Bt I.It},t.list.length<fuel->Nd I h p t->t ≠ .nil->I.wf t.list->I.W t.list<=4398046511104->(D:oK I h:=by repeat (first|assumption|refine oK.ext ?_ (by assumption))) ->
  aS P (EU fuel I p) [(.agg I.iB), tP] h λ(y:I.It×OA×Unit) h'=>∃K,Nd I h' y.2.1 K/\j6 t y.1 K:=by
 intro fuel
 induction fuel with
 |zero=>intro h p t T;omega
 |succ fuel ih=>
  intro h p t T nt E hw N D;cases t with
  |nil=>exact absurd rfl E
  |node l x r=>
   have hl:=kO l r x;have al:=lR (I:=I) l r x;have ab:=qR O (Bt.node l x r).list;have U:=HS hw;obtain⟨a,J,qr,rfl,c,w,F⟩:=nt;have c:GH I h a J qr l x r:=c;unfold EU aS;refine gO I.zi O.i1.2 λC g o1=>?_;have i1:=O.i1;have ao:I.iB.length=I.ni:=rfl;have c1:=c.ext g;refine nO c1 ?_;cases l with
   |nil=>
    obtain rfl:=w;refine mW (uK c1 (mO c1 (mY x o1 (O.fi _) λv o2 L=>?_)));have c2:GH I v a none qr .nil x r:=⟨xQ L c1.1 (BA o1 c1.1 (by rw[bQ,Gk,lA];omega)),c1.2⟩;have q:Ext h v:=jU.jQ g L (by intro a ha;cases ha;exact bM _);exact N7 c2 (hS o2 (aC ⟨rfl,q,(x,qr,()),rfl,r,F.ext q,by simp[Bt.list],λ⟨_,b,c,d⟩=>by simp only[Bt.ht]at *;exact⟨b,by omega,by omega⟩⟩))
   |node ll lx o=>
    have V:∃a,J=some a:=by obtain⟨a,_,_,C,_⟩:=w;exact⟨a,C⟩
    obtain⟨la,rfl⟩:=V;refine lW (nO c1 (aM (ih (by omega) (w.ext g) (by simp) (Cl hw) (by omega)) λy v q n=>?_));obtain⟨u,(pq:OA),w2⟩:=y;obtain⟨t1,G,f⟩:=n;dsimp only at G f⊢;refine HO u O.i1.2 (O.fi _) λh3 A H=>hS H ?_;have j:=q.trans A;have c3:=c1.ext j;have e:(Bt.node (.node ll lx o) x r).list=u::(Bt.node t1 x r).list:=by
     rw[show(Bt.node (.node ll lx o) x r).list=(Bt.node ll lx o).list++x::r.list from rfl,f.1];simp[Bt.list]
    have hlen:=congrArg I.W e;rw[Qd]at hlen;refine uK c3 (mO c3 (aM (UM O (x:=x) (G.ext A) (F.ext (g.trans j)) (λz Y=>hw z (by rw[e];exact eK _ Y)) (by omega)) λy h4 B n=>?_));obtain⟨(pe:OA),w3⟩:=y;obtain⟨t2,ne,m⟩:=n;dsimp only at ne m⊢;have k:=j.trans B;refine PW (H.ext B) (mY u (o1.ext k) (O.fi _) λh5 o5 M=>hS o5 (aC ⟨rfl,jU.jQ (g.trans k) M (by intro a ha;cases ha;exact bM _),(u,pe,()),rfl,t2,ne.Hg M (o1.ext k) (by omega),?_,?_⟩))
    .rw[e,m.1];rfl
    .intro⟨a1,a2,a3,a4⟩
     obtain⟨R,g2,g3⟩:=f.2 a1;obtain⟨k1,k2,k3,k4⟩:=m.2 R a2 (by omega) (by omega);rw[show(Bt.node (.node ll lx o) x r).ht=max (Bt.node ll lx o).ht r.ht+1 from rfl];refine⟨k1,?_,?_⟩<;>(by_cases X:t1.ht<=r.ht+1<;>by_cases n:r.ht<=t1.ht+1<;>first|(have:=k4 X n;omega)|omega)
theorem YT(O:I.Ok P){pl:OA}{l r:Bt I.It}(nl:Nd I h pl l)(nr:Nd I h pr r)(hw:I.wf (l.list++r.list))(f:I.W (l.list++r.list)<=4398046511104)(C:oK I h:=by repeat (first|assumption|refine oK.ext ?_ (by assumption))) :
  aS P (JU I pl pr) [tP] h λ(y:OA×Unit) h'=>∃t,Nd I h' y.1 t/\t.list=l.list++r.list/\(l.JT->r.JT->t.JT):=by
 have hlen:=pZ (I:=I) l.list r.list;unfold JU aS;cases r with
 |nil=>
  obtain rfl:=nr;exact mW (aC ⟨rfl,Ext.refl _,(pl,()),rfl,l,nl,by simp[Bt.list],λa _=>a⟩)
 |node k rx rr=>
  have w:∃a,pr=some a:=by obtain⟨a,_,_,o,_⟩:=nr;exact⟨a,o⟩
  obtain⟨la,rfl⟩:=w;refine lW (aM (R:=λ(y:I.It×OA×Unit) h'=>∃u,Nd I h' y.2.1 u/\j6 (.node k rx rr) y.1 u) ⟨(Bt.node k rx rr).list.length+1,YW O _ (KH _) nr (by simp) (λz A=>hw z (qM _ A)) (by omega)⟩ λy o n j=>?_);obtain⟨m,(F:OA),G⟩:=y;obtain⟨t1,q,e⟩:=j;dsimp only at q e⊢;have c:(Bt.node l m t1).list=l.list++(Bt.node k rx rr).list:=by rw[e.1];rfl
  refine HO m O.i1.2 (O.fi _) λD g o2=>hS o2 (aM (UP O (x:=m) (nl.ext (n.trans g)) (q.ext g) (by rw[c];exact hw) (by rw[c];exact f)) λy E v j=>?_);obtain⟨(B:OA),H⟩:=y;obtain⟨t2,ne,p⟩:=j;exact aC ⟨rfl,(n.trans g).trans v,(B,()),rfl,t2,ne,by rw[p.1,<-c];rfl,λa b=>(p.2 a (e.2 b).1).1⟩
end
section
open Go.Sw.Tree (iv fR jR jX mX oS BA xQ dQ least TR lB kM rO)
variable{P:Program}{I:iJ}{h:aG}{Q:Nat->bH->aG->Prop}
variable{items:Sl}{i:Int}
theorem SI(O:I.Ok P):∀(fuel:Nat) {h:aG} {items:Sl} {l:List I.It},l.length<fuel->Pn I h items l->I.W l<=4398046511104->(r:oK I h:=by repeat (first|assumption|refine oK.ext ?_ (by assumption))) ->
  aS P (CM fuel I items) [tP] h λ(y:OA×Unit) h'=>∃t:Bt I.It,Nd I h' y.1 t/\t.list=l/\t.Full:=by
 intro fuel
 induction fuel with
 |zero=>intro h items l E;omega
 |succ fuel w=>
  intro h items l E c e r;have hlen:=c.len O;have J:=qR O l;have D:=c.cap;have n:=c.max;unfold CM aS;refine aE (λj=>?_) λj=>?_
  .rw[cM,aN,hlen]at j
   exact aC ⟨rfl,Ext.refl _,(none,()),rfl, .nil,rfl,by cases l;rfl;simp at j;omega,Zy⟩
  .rw[dS,aN,hlen]at j
   have F:kP .i64 (aQ items.len) 2=((l.length / 2:Nat):Int):=by
    rw[aN,hlen,Ro (by omega) (by omega) (by omega)];omega
   have u:l.length / 2<l.length:=by omega
   have N:l[l.length / 2]?=some l[l.length / 2]:=cK u;rw[F,aW (by omega) (by omega)];have ht:bP ((l.length / 2:Nat):Int)=l.length / 2:=by rw[eP];omega
   have v:bP (((l.length / 2:Nat):Int)+1)=l.length / 2+1:=by rw[eP];omega
   rw[v,show cS items.cap 0=items.cap from rfl,eX,show cS (bP ((l.length / 2:Nat):Int)) 0=l.length / 2 by rw[ht];rfl];refine pF (sV (iP (by omega) (by omega)) (xu O c (by omega) (by omega) λx k=>sV (iP (by omega) (by omega)) ?_));rw[show((l.length / 2:Nat):Int).toNat=l.length / 2 by omega]at k;refine aM (w (l:=l.take (l.length / 2)) (by rw[dJ];omega) (c.take O (by omega) (by omega) n) (dI (Ux _ _) e)) λy K g f=>?_;obtain⟨(pl:OA),R⟩:=y;obtain⟨G,z,o,C⟩:=f;dsimp only at z⊢;rw[ht];refine WE O (c.ext g) k ?_;refine aM (w (l:=l.drop (l.length / 2+1)) (by rw[cW];omega) ((c.ext g).drop O (by omega) (by unfold cS;omega) (by unfold cS;omega)) (dI (Uw _ _) e)) λy L m f=>?_;obtain⟨(pr:OA),T⟩:=y;obtain⟨H,A,q,fr⟩:=f;dsimp only at A⊢;refine WE O (c.ext (g.trans m)) k ?_;have b:(Bt.node G x H).list=l:=by
    simp only[Bt.list];rw[o,q];have:=cQ.1 k;obtain⟨_,rfl⟩:=this;rw[<-gY u,eY]
   refine aM (E1 O (x:=x) (z.ext m) A (by rw[b];exact c.wf) (by rw[b];exact e)) λy M B f=>?_;obtain⟨(p:OA),U⟩:=y;exact aC ⟨rfl,(g.trans m).trans B,(p,()),rfl,_,f,b,XE C fr (by rw[o,q,dJ,cW];omega) (by rw[o,q,dJ,cW];omega)⟩
theorem yv(O:I.Ok P){l:List I.It}(m:Pn I h items l)(c:I.W l<=4398046511104)(r:oK I h:=by repeat (first|assumption|refine oK.ext ?_ (by assumption))):aS P (fc I items) [.agg [.ptr]] h λ(y:TR×Unit) h'=>∃t:Bt I.It,Nd I h' y.1.1 t/\t.list=l/\t.Full:=by
 unfold fc aS;refine jR none λv g o1=>?_;refine aM (R:=λ(y:OA×Unit) h'=>∃t:Bt I.It,Nd I h' y.1 t/\t.list=l/\t.Full) ⟨l.length+1,SI O _ (KH _) (m.ext g) c⟩ λy w f o=>?_;obtain⟨(p:OA),u⟩:=y;obtain⟨t,n,k,b⟩:=o;dsimp only at n⊢;refine oS p (o1.ext f) λz q j=>mX q (aC ?_);have e:=jU.jQ (g.trans f) j (by intro a ha;cases ha;exact bM _);exact⟨rfl,e,((p,()),()),rfl,t,n.Hg j (o1.ext f) (by omega),k,b⟩
theorem Hj{p:OA}{t:Bt I.It}(ht:Nd I h p t):aS P (P9 I (p,())) [tI] h λ(x:Int×Unit) _=>x.1=t.list.length:=by
 unfold P9 aS;refine jR p λf b o1=>jX o1 (aM (AQ (ht.ext b)) λx g c e=>?_);exact aC ⟨rfl,b.trans c,(x.1,()),rfl,e⟩
theorem vv(O:I.Ok P){p:OA}{t:Bt I.It}(ht:Nd I h p t)(hw:I.wf t.list)(j:I.W t.list<=4398046511104):aS P (j8 I (p,())) [(.agg I.sB)] h λ(x:I.Su×Unit) _=>x.1=I.sum t.list:=by
 unfold j8 aS;refine jR p λm b o1=>gO I.zs O.s1.2 λn f o2=>jX (o1.ext f) ?_;cases t with
 |nil=>
  obtain rfl:=ht;exact mW (gO I.zs O.s1.2 λo g k=>hS k (zC I.zs (o2.ext g) b.size ((b.trans f).trans g) (O.fs _) λh' e=>⟨rfl,e,(I.zs,()),rfl,rfl⟩))
 |node l x r=>
  obtain⟨a,q,qr,rfl,c,_,_⟩:=ht;exact lW (jX (o1.ext f) (Wv (c.ext (b.trans f)) (zC (I.sum (Bt.node l x r).list) o2 b.size (b.trans f) (O.fs _) λh' e=>⟨rfl,e,(_,()),rfl,rfl⟩)))
theorem vi(l:List I.It){i j:Nat}(h:i<=j):I.W (l.take i)+I.W (l.drop j)<=I.W l:=by
 have b:=pZ (l.take i) (l.drop i);rw[eY]at b;have c:=Uw (l.drop i) (j-i);rw[Ej,show i+(j-i)=j by omega]at c;omega
theorem W7(O:I.Ok P){p:OA}{t:Bt I.It}{e:List I.It}{j:Int}(H:Nd I h p t)(F:Pn I h items e)(hw:I.wf t.list)(h0:0<=i)(h1:i<=j)(h2:j<=t.list.length)(ab:I.W t.list+I.W e<=4398046511104)(al:oK I h:=by repeat (first|assumption|refine oK.ext ?_ (by assumption))) :
  aS P (F9 I (p,()) i j items) [.agg [.ptr], tI] h λ(y:TR×Int×Unit) h'=>y.2.1=0/\∃J,Nd I h' y.1.1 J/\J.list=t.list.take i.toNat++e++t.list.drop j.toNat/\(t.JT->J.JT):=by
 unfold F9 aS;refine jR p λk1 L o1=>jR none λk2 M o2=>?_;have f:=L.trans M;have r:=o1.ext M;refine bZ False ?_ λb k3 k hb=>?_
 .refine aE (λn=>?_) λn=>aE (λc=>?_) λc=>mX r (aM (Hj (H.ext f)) λy k3 k c=>?_)
  .rw[aU]at n;omega
  .rw[dL]at c;omega
  .obtain⟨(y:Int),w⟩:=y
   dsimp only at c⊢;refine aC ⟨rfl,k,sN j y,rfl,Iff.intro (λhx=>?_) False.elim⟩;rw[dL]at hx;omega
 have U:b=false:=by cases b;rfl;exact(hb.1 rfl).elim
 subst U;dsimp only;have u:=r.ext k;have g:=f.trans k;have l1:=Ux t.list i.toNat;have l3:=vi t.list (i:=i.toNat) (j:=j.toNat) (by omega);refine lW (jX u (aM (VZ O (H.ext g) hw (by omega) h0 (by omega)) λy k4 m c=>jX (u.ext m) (aM (VZ O (H.ext (g.trans m)) hw (by omega) (by omega) h2) λz k5 A n=>?_)));obtain⟨(pa:OA),(pb:OA),w1⟩:=y;obtain⟨ta,tb,X,nb,la,lb,T⟩:=c;obtain⟨(pc:OA),(pd:OA),w2⟩:=z;obtain⟨tc,td,nc,nd,lc,G,C⟩:=n;dsimp only at X nb nc nd⊢;have K:=(g.trans m).trans A;refine aM (R:=λ(y:OA×Unit) h'=>∃t:Bt I.It,Nd I h' y.1 t/\t.list=e/\t.Full) ⟨e.length+1,SI O _ (KH _) (F.ext K) (by omega)⟩ λy k6 B c=>?_;obtain⟨(pm:OA),w3⟩:=y;obtain⟨tm,nm,lm,fm⟩:=c;dsimp only at nm⊢;refine aM (YT O ((X.ext A).ext B) nm (by rw[la,lm];exact Gy (Ma hw _) F.wf) (by rw[la,lm,pZ];omega)) λy k7 N c=>?_;obtain⟨(pn:OA),w4⟩:=y;obtain⟨tn,Y,o,D⟩:=c;dsimp only at Y⊢;rw[la,lm]at o;refine aM (YT O Y ((nd.ext B).ext N) (by rw[o,G];exact Gy (Gy (Ma hw _) F.wf) (RC hw _)) (by rw[o,G,pZ,pZ];omega)) λy k8 e8 c=>?_;obtain⟨(pz:OA),w5⟩:=y;obtain⟨tz,nz,lz,E⟩:=c;dsimp only at nz⊢;have q:=(((((k.trans m).trans A).trans B).trans N).trans e8);have v:=o2.ext q;refine oS pz v λk9 o9 u9=>mX o9 (aC ⟨rfl,jU.jQ (f.trans q) u9 (by intro a ha;cases ha;exact L.size),((pz,()),0,()),rfl,rfl,tz,nz.Hg u9 v (by omega),by rw[lz,o,G],λV=>E (D (T V).1 fm.2.2) (C V).2⟩)
theorem oh(O:I.Ok P){p:OA}{t:Bt I.It}{x:I.It}(nt:Nd I h p t)(hw:I.wf t.list)(C:I.W t.list<=4398046511104)(h0:0<=i)(V:t.list[i.toNat]?=some x) :
  aS P (fb I (p,()) i) [(.agg I.iB), tB] h λ(y:I.It×Bool×Unit) h'=>y.1=x/\y.2.1=true:=by
 have hi:=(cQ.1 V).1;unfold fb aS;refine jR p λm F o1=>gO I.zi O.i1.2 λh2 H o2=>jX (o1.ext H) ?_;refine dQ (G:=Bt I.It) (λg (s:Int×OA×Unit) h'=>Ext h h'/\Nd I h' s.2.1 g/\0<=s.1/\s.1<g.list.length/\I.W g.list<=4398046511104/\g.list[s.1.toNat]?=some x/\cA m.size 1 h' ⟨some ⟨m.size,0,none⟩,I.iB.length,I.iB.length⟩ (Bs.inj I.iB I.zi)) (λg=>g.list.length)
  (λt' vs h'=>t'=1/\vs=[.pointer (some ⟨m.size,0,none⟩), .bool true]/\Ext h h'/\cA m.size 1 h' ⟨some ⟨m.size,0,none⟩,I.iB.length,I.iB.length⟩ (Bs.inj I.iB x))
  t ⟨F.trans H,nt.ext (F.trans H),h0,by first|omega|(dsimp only;omega),C,V,o2⟩ ?_ ?_
 .rintro g ⟨(j:Int),(q:OA),u⟩ T ⟨J,nq,z,D,hg,e,L⟩
  dsimp only at nq z D e⊢;cases g with
  |nil=>simp[Bt.list]at D;omega
  |node l y r=>
   have hl:=kO l r y;have ao:=lR (I:=I) l r y;have al:=qR O (Bt.node l y r).list;obtain⟨a,ql,qr,rfl,c,Y,n2⟩:=nq;have c:GH I T a ql qr l y r:=c;refine bZ True (mW (aC ⟨rfl,Ext.refl _,qK j 0,rfl,by rw[dD];exact Iff.intro (λ_=>trivial) (λ_=>z)⟩)) λb h4 f hb=>?_;have v:b=true:=hb.2 trivial;subst v;dsimp only;have M:=c.ext f;have N:=J.trans f;refine mW (nO M (aM (AQ (Y.ext f)) λk h5 o U=>?_));obtain⟨(k:Int),w⟩:=k;dsimp only at U⊢;subst U;have E:=M.ext o;have A:=(L.ext f).ext o;have n:=N.trans o;have v:(Bt.node l y r).list=l.list++y::r.list:=rfl;rw[v]at e;refine aE (λK=>?_) λK=>aE (λB=>?_) λB=>?_
   .rw[cM]at K
    have X:y=x:=by
     rw[jZ (by omega),show j.toNat-l.list.length=0 by omega]at e;simpa using e
    subst X;exact uK E (mY y A (O.fi _) λh6 o6 u6=>aC ⟨λh=>absurd h (by decide),λ_=>⟨rfl,rfl,jU.jQ n u6 (by intro a ha;cases ha;exact F.size),o6⟩⟩)
   .rw[aU]at B
    rw[mL (by omega)]at e;exact nO E (aC ⟨λ_=>⟨l,(j,ql,()),rfl,⟨n,(Y.ext f).ext o,z,B,by omega,e,A⟩,by first|omega|(dsimp only;omega)⟩,λh=>absurd rfl h⟩)
   .rw[dS]at K
    rw[aY]at B;rw[bY (a:=j) (by omega) (by omega),bY (by omega) (by omega)];obtain⟨d,ab⟩:∃d:Nat,j=l.list.length+1+d:=⟨(j-l.list.length-1).toNat,by omega⟩;have R:(j-l.list.length-1).toNat=d:=by omega
    rw[jZ (by omega),show j.toNat-l.list.length=d+1 by omega,R8]at e;exact mO E (aC ⟨λ_=>⟨r,(j-l.list.length-1,qr,()),rfl,⟨n,(n2.ext f).ext o,by first|omega|(dsimp only;omega),by first|omega|(dsimp only;omega),by omega,by rw[R];exact e,A⟩,by first|omega|(dsimp only;omega)⟩,λh=>absurd rfl h⟩)
 .rintro tg vs T ⟨rfl,rfl,J,L⟩
  exact nP (by decide) (bG ⟨(some ⟨m.size,0,none⟩,true,()),rfl,hS L (aC ⟨rfl,J,(x,true,()),rfl,rfl,rfl⟩)⟩)
theorem UC(O:I.Ok P){p:OA}{t:Bt I.It}(nt:Nd I h p t)(v:I.W t.list<=4398046511104)(Y:i<=9223372036854775807)(R:i<0\/(t.list.length:Int)<=i) :
  aS P (fb I (p,()) i) [(.agg I.iB), tB] h λ(y:I.It×Bool×Unit) h'=>y.1=I.zi/\y.2.1=false:=by
 unfold fb aS;refine jR p λo A o1=>gO I.zi O.i1.2 λh2 B o2=>jX (o1.ext B) ?_;refine dQ (G:=Bt I.It) (λg (s:Int×OA×Unit) h'=>Ext h h'/\Nd I h' s.2.1 g/\(s.1<0\/(g.list.length:Int)<=s.1)/\s.1<=9223372036854775807/\I.W g.list<=4398046511104/\cA o.size 1 h' ⟨some ⟨o.size,0,none⟩,I.iB.length,I.iB.length⟩ (Bs.inj I.iB I.zi)) (λg=>g.list.length)
  (λt' U h'=>t'=2/\U=[]/\Ext h h'/\cA o.size 1 h' ⟨some ⟨o.size,0,none⟩,I.iB.length,I.iB.length⟩ (Bs.inj I.iB I.zi))
  t ⟨A.trans B,nt.ext (A.trans B),R,Y,v,o2⟩ ?_ ?_
 .rintro g ⟨(j:Int),(q:OA),u⟩ F ⟨m,C,L,M,hg,f⟩
  dsimp only at C L M⊢;cases g with
  |nil=>
   obtain rfl:=C;refine bZ False (lW (aC ⟨rfl,Ext.refl _,false,rfl,Iff.intro (λx=>by cases x) False.elim⟩)) λb H e hb=>?_;have J:b=false:=by cases b;rfl;exact(hb.1 rfl).elim
   subst J;exact lW (aC ⟨λh=>absurd h (by decide),λ_=>⟨rfl,rfl,m.trans e,f.ext e⟩⟩)
  |node l y r=>
   have hl:=kO l r y;have al:=lR (I:=I) l r y;have ab:=qR O (Bt.node l y r).list;obtain⟨a,ql,qr,rfl,c,n1,n2⟩:=C;have c:GH I F a ql qr l y r:=c;refine bZ (0<=j) (mW (aC ⟨rfl,Ext.refl _,qK j 0,rfl,dD⟩)) λb H e hb=>?_;have D:=c.ext e;have z:=m.trans e;dsimp only;refine aE (λK=>?_) λK=>aC ⟨λh=>absurd h (by decide),λ_=>⟨rfl,rfl,z,f.ext e⟩⟩;have h0:=hb.1 K;refine nO D (aM (AQ (n1.ext e)) λk X n N=>?_);obtain⟨(k:Int),w⟩:=k;dsimp only at N⊢;subst N;have V:=D.ext n;have T:=(f.ext e).ext n;have E:=z.trans n;rw[show gN j (l.list.length:Int)=false from dS.2 (by omega),show fG j (l.list.length:Int)=false from aY.2 (by omega)];rw[bY (a:=j) (by omega) (by omega),bY (by omega) (by omega)];exact lW (lW (mO V (aC ⟨λ_=>⟨r,(j-l.list.length-1,qr,()),rfl,⟨E,(n2.ext e).ext n,by dsimp only;omega,by dsimp only;omega,by omega,T⟩,by omega⟩,λh=>absurd rfl h⟩)))
 .rintro tg U F ⟨rfl,rfl,m,f⟩
  refine bG (bO (gO I.zi O.i1.2 λH e oz=>hS oz (mY I.zi (f.ext e) (O.fi _) λX o5 u5=>hS o5 (aC ⟨rfl,jU.jQ (m.trans e) u5 (by intro a ha;cases ha;exact A.size),(I.zi,false,()),rfl,rfl,rfl⟩))))
end
section
open Go.Sw.Tree (iv fR jR jX mX oS BA xQ dQ least TR lB kM rO)
variable{P:Program}{I:iJ}{h:aG}{Q:Nat->bH->aG->Prop}
variable{l:Bt I.It}{x:I.It}
theorem FO{p:OA}{r:Bt I.It}{K:OA->aK}(ht:Nd I h p (.node l x r))(b:∀q,Nd I h q l->wp P (K q) h Q):wp P (bF (aJ p)<|bF (aJ p)<|.load (tP) (aB p 0) K) h Q:=by
 obtain⟨a,pl,pr,rfl,c,e,f⟩:=ht;exact nO c (b pl e)
theorem WD{p:OA}{r:Bt I.It}{K:OA->aK}(ht:Nd I h p (.node l x r))(b:∀q,Nd I h q r->wp P (K q) h Q):wp P (bF (aJ p)<|bF (aJ p)<|.load (tP) (aB p 1) K) h Q:=by
 obtain⟨a,pl,pr,rfl,c,f,e⟩:=ht;exact mO c (b pr e)
theorem bc{p:OA}{r:Bt I.It}{K:I.It->aK}(ht:Nd I h p (.node l x r))(b:wp P (K x) h Q):wp P (bF (aJ p)<|bF (aJ p)<|.load (.agg I.iB) (aB p 2) K) h Q:=by
 obtain⟨a,pl,pr,rfl,c,e,f⟩:=ht;exact uK c b
theorem me{p:OA}{r:Bt I.It}{K:I.Su->aK}(ht:Nd I h p (.node l x r))(b:wp P (K (I.sum (Bt.node l x r).list)) h Q):wp P (bF (aJ p)<|bF (aJ p)<|.load (.agg I.sB) (aB p (I.ni+4)) K) h Q:=by
 obtain⟨a,pl,pr,rfl,c,e,f⟩:=ht;exact Wv c b
def Found(I:iJ)(l:List I.It)(k n i:Int):Prop:=
 (i=0/\n<=0)\/(1<=i/\i<=l.length/\n<=I.key (I.sum (l.take i.toNat)) k/\I.key (I.sum (l.take (i.toNat-1))) k<n)\/(i=l.length+1/\I.key (I.sum l) k<n)
theorem oj(O:I.Ok P){p:OA}{t:Bt I.It}{k n:Int}(ht:Nd I h p t)(hw:I.wf t.list)(b3:I.W t.list<4398046511104) :
  aS P (Yw I (p,()) k n) [tI] h λ(x:Int×Unit) _=>Found I t.list k n x.1:=by
 have cd:=qR O t.list;have cr:I.sB.length=I.ns:=rfl;unfold Yw aS;refine jR p λf e1 o1=>aE (λT=>?_) λT=>?_
 .rw[gG]at T
  exact aC ⟨rfl,e1,(0,()),rfl, .inl ⟨rfl,T⟩⟩
 rw[mN]at T;refine gO I.zs O.s1.2 λh2 e2 o2=>jX (o1.ext e2) ?_;refine dQ (G:=Bt I.It×List I.It×List I.It) (λg (s:Int×OA×Unit) h'=>Ext f h'/\Nd I h' s.2.1 g.1/\t.list=g.2.1++g.1.list++g.2.2/\s.1=g.2.1.length/\cA f.size 1 h' ⟨some ⟨f.size,0,none⟩,I.sB.length,I.sB.length⟩ (Bs.inj I.sB (I.sum g.2.1))/\I.key (I.sum g.2.1) k<n /\
   (g.2.2=[]\/n<=I.key (I.sum (g.2.1++g.1.list)) k)) (λg=>g.1.list.length)
  (λA L h'=>Ext f h'/\((A=2/\∃x:Int×Unit,L=Ts.inj [tI] x/\x.1=t.list.length/\I.key (I.sum t.list) k<n)\/(A=1/\∃x:Int×Unit,L=Ts.inj [tI] x/\Found I t.list k n x.1)))
  (t,[],[]) ⟨e2,ht.ext (e1.trans e2),by simp,rfl,o2,by rw[show I.sum []=I.zs from rfl,O.x_];exact T, .inl rfl⟩ ?_ ?_
 .rintro⟨A,pre,post⟩ ⟨(at_:Int),(q:OA),u⟩ K ⟨F,v,j,R,e,B,b⟩
  dsimp only at v j R e B b⊢;have a9:I.wf (pre++A.list++post):=j ▸ hw;have ba:I.wf pre:=λy o=>a9 y (by simp[o]);have Y:I.wf A.list:=λy o=>a9 y (by simp[o]);have ao:t.list.length=pre.length+A.list.length+post.length:=by rw[j];simp[BD]
  have cc:I.W t.list=I.W pre+I.W A.list+I.W post:=by rw[j,pZ,pZ]
  have b2:=qR O t.list;cases A with
  |nil=>
   obtain rfl:=v;refine lW (aC ⟨λh=>absurd h (by decide),λ_=>⟨F, .inl ⟨rfl,(at_,()),rfl,?_,?_⟩⟩⟩)
   .rcases b with rfl|b
    .rw[ao,R];simp[Bt.list]
    .simp only[Bt.list,kQ]at b;omega
   .rcases b with rfl|b
    .rw[j];simpa[Bt.list] using B
    .simp only[Bt.list,kQ]at b;omega
  |node l x r=>
   have hq:∃a,q=some a:=by obtain⟨a,_,_,f,_⟩:=v;exact⟨a,f⟩
   obtain⟨qa,rfl⟩:=hq;have cg:=kO l r x;have b6:=lR (I:=I) l r x;have b4:=qR O (Bt.node l x r).list;have C:=HS Y;have vp:=V.sum O ba;have vl:=V.sum O (Cl Y);have vm:=O.vm x C;have E:I.sum (pre++l.list)=I.add (I.sum pre) (I.sum l.list):=sum_append O ba (Cl Y);have al:=O.va _ _ _ _ vp vl;refine mW (hS e (HO (I.sum pre) O.s1.2 (O.fs _) λh4 M ob=>?_));have e:=e.ext M;have v:=v.ext M;have b8:=F.trans M;have cf:=(e.lt rfl).2;refine cZ (λt L h'=>t=0/\L=[]/\Ext K h'/\cA K.size 1 h' ⟨some ⟨K.size,0,none⟩,I.sB.length,I.sB.length⟩ (Bs.inj I.sB (I.sum (pre++l.list)))) ?_ ?_
   .refine FO v λpl nl=>?_
    cases l with
    |nil=>
     obtain rfl:=nl;exact lW (aC ⟨rfl,rfl,M,by simpa[Bt.list] using ob⟩)
    |node ll lx lr=>
     have X:∃a,pl=some a:=by obtain⟨a,_,_,f,_⟩:=nl;exact⟨a,f⟩
     obtain⟨la,rfl⟩:=X;refine mW (hS e (FO v λpl nl=>me nl (aM (O.ca _ _ _ _ _ vp vl (by omega)) λm h5 H hm=>?_)));obtain⟨m,w5⟩:=m;dsimp only at hm;rw[<-E]at hm;subst hm;refine mY (I.sum (pre++(Bt.node ll lx lr).list)) (ob.ext H) (O.fs _) λh6 o6 u6=>aC ⟨rfl,rfl,jU.jQ (M.trans H) u6 (by intro a ha;cases ha;exact bM _),o6⟩
   .rintro tg L h5 ⟨rfl,rfl,H,ob⟩
    have e:=(‹cA f.size 1 K ⟨some ⟨f.size,0,none⟩,I.sB.length,I.sB.length⟩ (Bs.inj I.sB (I.sum pre))›).ext H;have v:=(‹Nd I K (some qa) (.node l x r)›).ext H;have a4:=F.trans H;refine bG (bO (hS ob (aM (O.ck _ _ _ _ (E ▸ al) (by omega)) λy h6 J o=>?_)));obtain⟨(y:Int),w6⟩:=y;dsimp only at o⊢;subst o;have ab:=v.ext J;refine aE (λU=>?_) λU=>?_
    .rw[dD]at U
     refine FO ab λpl nl=>aC ⟨λ_=>⟨(l,pre,x::r.list++post),(at_,pl,()),rfl,⟨a4.trans J,nl,by rw[j];simp[Bt.list],R,e.ext J,B, .inr U⟩,by dsimp only;omega⟩,λh=>absurd rfl h⟩
    .rw[eS]at U
     refine FO ab λpl nl=>aM (AQ nl) λc h7 e7 a8=>?_;obtain⟨(c:Int),w7⟩:=c;dsimp only at a8⊢;subst a8;have bb:=ab.ext e7;have bo:=ob.ext (J.trans e7);have bd:=e.ext (J.trans e7);refine hS bo (bc bb (aM (O.cm _ x C) λm h8 N hm=>?_));obtain⟨m,w8⟩:=m;dsimp only at hm;subst hm;refine PW (bo.ext N) (aM (O.ca _ _ _ _ _ (E ▸ al) vm (by omega)) λm h9 e9 hm=>?_);obtain⟨m,w9⟩:=m;dsimp only at hm;rw[<-FT]at hm;subst hm;have vq:I.V (I.W pre+I.W l.list+I.wt x) (I.sum (pre++l.list++[x])):=by rw[FT,E];exact O.va _ _ _ _ al vm
     refine mY (I.sum (pre++l.list++[x])) ((bd.ext N).ext e9) (O.fs _) λa7 b1 bp=>?_;have a3:Ext f a7:=jU.jQ ((((a4.trans J).trans e7).trans N).trans e9) bp (by intro a ha;cases ha;exact bM _);have b0:Nd I a7 (some qa) (.node l x r):=((bb.ext N).ext e9).Hg bp ((bd.ext N).ext e9) (by omega);have e:=b1;refine hS e (aM (O.ck _ _ _ _ vq (by omega)) λy b9 D o=>?_);obtain⟨(y:Int),ct⟩:=y;dsimp only at o⊢;subst o;have a0:aT .i64 at_ (aT .i64 ((l.list.length:Nat):Int) 1)=((pre.length+l.list.length+1:Nat):Int):=by
      rw[aW (a:=((l.list.length:Nat):Int)) (by omega) (by omega),aW (by omega) (by omega)];omega
     rw[a0];have bt:t.list.take (pre.length+l.list.length+1)=pre++l.list++[x]:=by
      rw[show t.list=(pre++l.list++[x])++(r.list++post) by rw[j];simp[Bt.list]];exact R5 (by simp[BD])
     have aw:t.list.take (pre.length+l.list.length)=pre++l.list:=by
      rw[show t.list=(pre++l.list)++(x::r.list++post) by rw[j];simp[Bt.list]];exact R5 (by simp)
     refine aE (λz=>?_) λz=>?_
     .rw[dD]at z
      refine aC ⟨λh=>absurd h (by decide),λ_=>⟨a3.trans D, .inr ⟨rfl,(((pre.length+l.list.length+1:Nat):Int),()),rfl, .inr (.inl ⟨by dsimp only;omega,by dsimp only;omega,?_,?_⟩)⟩⟩⟩
      .dsimp only;rw[cR,bt];exact z
      .dsimp only;rw[cR,Mr,aw];exact U
     .rw[eS]at z
      refine WD (b0.ext D) λpr nr=>aC ⟨λ_=>⟨(r,pre++l.list++[x],post),(((pre.length+l.list.length+1:Nat):Int),pr,()),rfl,⟨a3.trans D,nr,by rw[j];simp[Bt.list],by simp;omega,e.ext D,z,?_⟩,by dsimp only;omega⟩,λh=>absurd rfl h⟩;rcases b with X|X
      .exact .inl X
      .refine .inr ?_
       dsimp only;rw[show pre++l.list++[x]++r.list=pre++(Bt.node l x r).list by simp[Bt.list]];exact X
 .rintro tg L K ⟨F,⟨rfl,x,rfl,C,hk⟩|⟨rfl,x,rfl,C⟩⟩
  .obtain⟨(x:Int),w⟩:=x
   dsimp only at C;refine bG ⟨(x,()),rfl,?_⟩;dsimp only;subst C;rw[aW (by omega) (by omega)];exact aC ⟨rfl,e1.trans F,(_,()),rfl, .inr (.inr ⟨rfl,hk⟩)⟩
  .obtain⟨(x:Int),w⟩:=x
   exact nP (by decide) (bG ⟨(x,()),rfl,aC ⟨rfl,e1.trans F,(x,()),rfl,C⟩⟩)
theorem VX(O:I.Ok P){p:OA}{t:Bt I.It}{i:Int}(ht:Nd I h p t)(hw:I.wf t.list)(b6:I.W t.list<4398046511104) :
  aS P (Yx I (p,()) i) [(.agg I.sB)] h λ(x:I.Su×Unit) _=>x.1=I.sum (t.list.take i.toNat):=by
 have cg:=qR O t.list;have ct:I.sB.length=I.ns:=rfl;unfold Yx aS;refine jR p λw e1 o1=>gO I.zs O.s1.2 λF R o2=>gO I.zs O.s1.2 λh3 K o3=>mX ((o1.ext R).ext K) (aM (Hj (ht.ext ((e1.trans R).trans K))) λy h4 T J=>jX (((o1.ext R).ext K).ext T) ?_);obtain⟨(y:Int),w1⟩:=y;dsimp only at J⊢;subst J;have b2:=(o2.lt rfl).2;have b1:=(o1.lt rfl).2;dsimp only at b1 b2;have ab:Ext h h4:=(((e1.trans R).trans K).trans T);refine dQ (G:=Bt I.It×List I.It×List I.It) (λg (s:Int×OA×Unit) h'=>Ext h h'/\Nd I h' s.2.1 g.1/\t.list=g.2.1++g.1.list++g.2.2/\t.list.take i.toNat=g.2.1++g.1.list.take s.1.toNat/\s.1<=g.1.list.length /\
   cA w.size 1 h' ⟨some ⟨w.size,0,none⟩,I.sB.length,I.sB.length⟩ (Bs.inj I.sB I.zs)/\cA F.size 1 h' ⟨some ⟨F.size,0,none⟩,I.sB.length,I.sB.length⟩ (Bs.inj I.sB (I.sum g.2.1))) (λg=>g.1.list.length)
  (λo N h'=>o=2/\N=[]/\Ext h h'/\cA w.size 1 h' ⟨some ⟨w.size,0,none⟩,I.sB.length,I.sB.length⟩ (Bs.inj I.sB I.zs)/\cA F.size 1 h' ⟨some ⟨F.size,0,none⟩,I.sB.length,I.sB.length⟩ (Bs.inj I.sB (I.sum (t.list.take i.toNat))))
  (t,[],[]) ⟨ab,ht.ext ab,by simp,?_,?_,(o2.ext K).ext T,o3.ext T⟩ ?_ ?_
 .dsimp only
  rw[GB];have:NR i ((t.list.length:Nat):Int)=min i (t.list.length:Int):=lB ..;rw[this];by_cases hi:i<=(t.list.length:Int)
  .rw[show min i (t.list.length:Int)=i by omega]
  .rw[show min i (t.list.length:Int)=(t.list.length:Int) by omega,iY (by omega),cR,fH]
 .dsimp only
  rw[lB];omega
 .rintro⟨o,pre,post⟩ ⟨(j:Int),(q:OA),u⟩ h5 ⟨e5,nq,H,k,hj,oz,oa⟩
  dsimp only at nq H k hj oz oa⊢;have a0:I.wf (pre++o.list++post):=H ▸ hw;have a3:I.wf pre:=λy J=>a0 y (by simp[J]);have L:I.wf o.list:=λy J=>a0 y (by simp[J]);have b4:t.list.length=pre.length+o.list.length+post.length:=by rw[H];simp[BD]
  have cf:I.W t.list=I.W pre+I.W o.list+I.W post:=by rw[H,pZ,pZ]
  have b3:=qR O t.list;refine bZ (o ≠ .nil/\0<j) ?_ λb h6 U hb=>?_
  .cases o with
   |nil=>obtain rfl:=nq;exact lW (aC ⟨rfl,Ext.refl _,false,rfl,Iff.intro (λx=>by cases x) (λx=>absurd rfl x.1)⟩)
   |node l x r=>
    obtain⟨a,_,_,rfl,_⟩:=nq;exact mW (aC ⟨rfl,Ext.refl _,sN j 0,rfl,by rw[dL];exact Iff.intro (λx=>⟨by simp,x⟩) (λx=>x.2)⟩)
  have B:=e5.trans U;have a4:=nq.ext U;have D:=oz.ext U;have n:=oa.ext U;dsimp only;refine aE (λX=>?_) λX=>?_
  .obtain⟨bo,ao⟩:=hb.1 X
   cases o with
   |nil=>exact absurd rfl bo
   |node l x r=>
    have cr:=kO l r x;have b9:=lR (I:=I) l r x;have b8:=qR O (Bt.node l x r).list;have hx:=HS L;have vp:=V.sum O a3;have vl:=V.sum O (Cl L);have vm:=O.vm x hx;have aw:I.sum (pre++l.list)=I.add (I.sum pre) (I.sum l.list):=sum_append O a3 (Cl L);have a8:I.V (I.W pre+I.W l.list) (I.sum (pre++l.list)):=aw ▸ O.va _ _ _ _ vp vl;refine FO a4 λpl nl=>aM (AQ nl) λc h7 f al=>?_;obtain⟨(c:Int),w7⟩:=c;dsimp only at al⊢;subst al;have z:=a4.ext f;refine aE (λY=>?_) λY=>?_
    .rw[gG]at Y
     refine FO z λpl nl=>aC ⟨λ_=>⟨(l,pre,x::r.list++post),(j,pl,()),rfl,⟨B.trans f,nl,by rw[H];simp[Bt.list],?_,Y,D.ext f,n.ext f⟩,by dsimp only;omega⟩,λh=>absurd rfl h⟩;dsimp only;rw[k];simp only[Bt.list];rw[As (by omega)]
    .rw[mN]at Y
     refine cZ (λt N h'=>t=0/\N=[]/\Ext h h'/\Nd I h' q (.node l x r)/\cA w.size 1 h' ⟨some ⟨w.size,0,none⟩,I.sB.length,I.sB.length⟩ (Bs.inj I.sB I.zs)/\cA F.size 1 h' ⟨some ⟨F.size,0,none⟩,I.sB.length,I.sB.length⟩ (Bs.inj I.sB (I.sum (pre++l.list)))) ?_ ?_
     .refine FO z λpl nl=>?_
      cases l with
      |nil=>
       obtain rfl:=nl;exact lW (aC ⟨rfl,rfl,B.trans f,z,D.ext f,by simpa[Bt.list] using n.ext f⟩)
      |node ll lx lr=>
       have hp:∃a,pl=some a:=by obtain⟨a,_,_,w,_⟩:=nl;exact⟨a,w⟩
       obtain⟨la,rfl⟩:=hp;refine mW (hS (n.ext f) (FO z λpl nl=>me nl (aM (O.ca _ _ _ _ _ vp vl (by omega)) λm h8 A hm=>?_)));obtain⟨m,w5⟩:=m;dsimp only at hm;rw[<-aw]at hm;subst hm;refine mY (I.sum (pre++(Bt.node ll lx lr).list)) ((n.ext f).ext A) (O.fs _) λh9 o9 u9=>aC ⟨rfl,rfl,jU.jQ ((B.trans f).trans A) u9 (by intro a ha;cases ha;dsimp only;omega),
        (z.ext A).Hg u9 ((n.ext f).ext A) (by omega),HE ((D.ext f).ext A) u9 (by dsimp only;omega),o9⟩
     .rintro tg N h8 ⟨rfl,rfl,A,a7,b0,C⟩
      refine bG (bO (hS C (bc a7 (aM (O.cm _ x hx) λm h9 E hm=>?_))));obtain⟨m,w9⟩:=m;dsimp only at hm;subst hm;refine PW (C.ext E) (aM (O.ca _ _ _ _ _ a8 vm (by omega)) λm cc v hm=>?_);obtain⟨m,cx⟩:=m;dsimp only at hm;rw[<-FT]at hm;subst hm;have vq:I.V (I.W pre+I.W l.list+I.wt x) (I.sum (pre++l.list++[x])):=by rw[FT];exact O.va _ _ _ _ a8 vm
      refine mY (I.sum (pre++l.list++[x])) ((C.ext E).ext v) (O.fs _) λcd bt M=>?_;have ba:=((a7.ext E).ext v).Hg M ((C.ext E).ext v) (by omega);have a9:bK .i64 (bK .i64 j ((l.list.length:Nat):Int)) 1=j-l.list.length-1:=by
       rw[bY (a:=j) (by omega) (by omega),bY (by omega) (by omega)]
      rw[a9];refine WD ba λpr nr=>aC ⟨λ_=>⟨(r,pre++l.list++[x],post),(j-l.list.length-1,pr,()),rfl,⟨jU.jQ ((A.trans E).trans v) M (by intro a ha;cases ha;dsimp only;omega),nr,by rw[H];simp[Bt.list],?_,by dsimp only;omega,
       HE ((b0.ext E).ext v) M (by dsimp only;omega),bt⟩,by dsimp only;omega⟩,λh=>absurd rfl h⟩
      dsimp only;rw[k];obtain⟨d,hd⟩:∃d:Nat,j=l.list.length+1+d:=⟨(j-l.list.length-1).toNat,by omega⟩;have bb:j.toNat=(l.list++[x]).length+d:=by simp;omega
      have bd:(j-l.list.length-1).toNat=d:=by omega
      rw[bb,bd,show(Bt.node l x r).list=(l.list++[x])++r.list by simp[Bt.list],JN,iY (by omega),Ar];simp
  .have bp:¬(o ≠ .nil/\0<j):=λx=>by rw[hb.2 x]at X;cases X
   refine aC ⟨λh=>absurd h (by decide),λ_=>⟨rfl,rfl,B,D,?_⟩⟩;rw[k];by_cases hn:o = .nil
   .subst hn;simpa[Bt.list] using n
   .have ao:j.toNat=0:=by have:¬0<j:=λx=>bp ⟨hn,x⟩;omega
    rw[ao,R9,kQ];exact n
 .rintro tg N h5 ⟨rfl,rfl,e5,oz,oa⟩
  exact bG (bO (hS oa (zC (I.sum (t.list.take i.toNat)) oz e1.size e5 (O.fs _) λh' e=>⟨rfl,e,(_,()),rfl,rfl⟩)))
end
section
open Go.Sw.Tree (iv fR jR jX mX oS BA xQ dQ least TR lB kM rO kK)
variable{P:Program}{I:iJ}{h:aG}{Q:Nat->bH->aG->Prop}
variable{m':Nat}{y:Value}{a:Addr}
abbrev ag(I:iJ)(r:I.It):Value:=.agg (Bs.inj I.iB r).toArray
abbrev Zq(I:iJ)(a b:OA):Value:=.func (.func I.f1) #[] #[.pointer a, .pointer b]
abbrev Wb(I:iJ)(a b:OA):Value:=.func (.func I.f2) #[] #[.pointer a, .pointer b]
structure my(P:Program)(I:iJ):Prop where
 it:∀(y:Value) (a b:OA),dz P (Zq I a b) [y] (Ss I y a b)
 wk:∀(p:OA) (i:Int) (a b:OA),dz P (Wb I a b) [.pointer p,iv i] (Qa I p i a b)
theorem Nd.held{h':aG}(e:iI I.Z h h'):∀{t:Bt I.It} {p:OA},Nd I h p t->Nd I h' p t
 |.nil,_,n=>n
 |.node l x r,p,⟨a,pl,pr,b,c,g,k⟩=>⟨a,pl,pr,b,⟨aI.2 λj v f=>e.cell (aI.1 c.1 j v f) (by rw[iT];exact c.2.1),c.2⟩,Nd.held e g,Nd.held e k⟩
structure St(h0:aG)(m':Nat)(y:Value)(I:iJ)(h:aG):Prop where
 held:iI I.Z h0 h
 le:h0.size<=m'
 sz:m'+2<=h.size
 cy:Sw.cell h ⟨m',0,none⟩=some y
 cw:Sw.cell h ⟨m'+1,0,none⟩=some (Wb I (some ⟨m'+1,0,none⟩) (some ⟨m',0,none⟩))
theorem St.step{h0 h h':aG}{m':Nat}{y:Value}(s:St h0 m' y I h)(f:iI (λi=>own m' 2 i\/(I.Z i/\i<h0.size)) h h'):St h0 m' y I h' where
 held:=s.held.step f λi hi b=>.inr ⟨b,hi⟩
 le:=s.le
 sz:=dI s.sz f.1
 cy:=f.cell s.cy (.inl ⟨bM _,by dsimp only;omega⟩)
 cw:=f.cell s.cw (.inl ⟨by dsimp only;omega,by dsimp only;omega⟩)
theorem St.more{h0 h h':aG}(s:St h0 m' y I h)(e:Ext h h'):St h0 m' y I h':=s.step (iI.bD e)
theorem Wx{v:Value}{K:Value->aK}(c:Sw.cell h a=some v)(e:wp P (K v) h Q):wp P (.load (.one .any) (some a) K) h Q:=bC (b:=.any) a v rfl c e
theorem qf(O:I.Ok P)(D:my P I){h0:aG}{L:List I.It}{J:Nat->aG->Prop}{F:aG->Prop}(sJ:∀k a b,J k a->aV (own m' 2) a b->J k b)
  (hY:∀k r u,L[k]?=some r->J k u->m'+2<=u.size->iI I.Z h0 u->OF P y [ag I r] u λm H=>∃b:Bool,m=[.bool b]/\iI (λi=>own m' 2 i\/(I.Z i/\i<h0.size)) u H/\(b=true->J (k+1) H)/\(b=false->F H)) :
  ∀(t:Bt I.It) {p:OA} {i:Int} {k:Nat} {h:aG},Nd I h0 p t->I.W t.list<=4398046511104->0<=i->i<=9223372036854775807->(∀(j:Nat) (r:I.It),t.list[j]?=some r->i.toNat<=j->L[k+(j-i.toNat)]?=some r)->St h0 m' y I h->J k h ->
  wp P (Qa I p i (some ⟨m'+1,0,none⟩) (some ⟨m',0,none⟩)) h λtag m h'=>tag=0/\∃b:Bool,m=[.bool b]/\St h0 m' y I h'/\(b=true->J (k+(t.list.length-i.toNat)) h')/\(b=false->F h'):=by
 have X:∀k a b,J k a->Ext a b->J k b:=λk a b j e=>sJ k a b j (aV.bD e);intro t
 induction t with
 |nil=>
  intro p i k h N M R u K st q;obtain rfl:=N;unfold Qa;refine bZ True (mW (aC ⟨rfl,Ext.refl _,true,rfl,Iff.intro (λ_=>trivial) λ_=>rfl⟩)) λb H G hb=>?_;have ab:b=true:=hb.2 trivial;subst ab;exact mW (aC ⟨rfl,true,rfl,st.more G,λ_=>by simpa[Bt.list] using X _ _ _ q G,λh=>by cases h⟩)
 |node l x r a4 a7=>
  intro p i k h N M R u K st q;have hl:=kO l r x;have bb:=lR (I:=I) l r x;have a9:=qR O (Bt.node l x r).list;have o:∀{h'},St h0 m' y I h'->Nd I h' p (.node l x r):=λs=>Nd.held s.held N;obtain⟨a,ql,qr,rfl,c,n1,n2⟩:=N;have o:∀{h'},St h0 m' y I h'->GH I h' a ql qr l x r:=λs=>⟨aI.2 λj v q=>s.held.cell (aI.1 c.1 j v q) (by rw[iT];exact c.2.1),c.2⟩;have aw:∀(j:Nat) (v:I.It),l.list[j]?=some v->(Bt.node l x r).list[j]?=some v:=λj v z=>by
   show(l.list++x::r.list)[j]?=_;rw[mL (cQ.1 z).1];exact z
  have a0:(Bt.node l x r).list[l.list.length]?=some x:=by
   show(l.list++x::r.list)[_]?=_;rw[jZ (bM _)];simp
  have a3:∀(j:Nat) (v:I.It),r.list[j]?=some v->(Bt.node l x r).list[l.list.length+1+j]?=some v:=λj v z=>by
   show(l.list++x::r.list)[_]?=_;rw[jZ (by omega),show l.list.length+1+j-l.list.length=j+1 by omega,R8];exact z
  unfold Qa;refine bZ (((Bt.node l x r).list.length:Int)<=i) ?_ λb H G hb=>?_
  .exact lW (aL rfl (aL rfl (bC (b:=bI) (a.add (I.ni+2)) _ rfl (o st).BI.1 (aC ⟨rfl,Ext.refl _,_,rfl,dD⟩))))
  have B:=st.more G;have T:=X _ _ _ q G;dsimp only;refine aE (λg=>aC ⟨rfl,true,rfl,B,λ_=>?_,λh=>by cases h⟩) λg=>?_
  .have:=hb.1 g
   rw[show(Bt.node l x r).list.length-i.toNat=0 by omega];exact T
  have ba:i<((Bt.node l x r).list.length:Int):=by
   by_cases hx:((Bt.node l x r).list.length:Int)<=i
   .rw[hb.2 hx]at g;cases g
   .omega
  refine nO (o B) (aM (AQ (Nd.held B.held n1)) λn h3 Y hn=>?_);obtain⟨(n:Int),w⟩:=n;dsimp only at hn⊢;subst hn;have C:=B.more Y;have U:=X _ _ _ T Y;refine cZ (λtg m h'=>tg=0/\∃b:Bool,m=[.bool b]/\St h0 m' y I h'/\(b=true->F h')/\(b=false->J (k+(l.list.length-i.toNat)) h')) ?_ ?_
  .refine aE (λA=>?_) λA=>?_
   .rw[aU]at A
    refine Wx C.cw (nO (o C) (Kx (D.wk _ _ _ _) (cN _ ?_ (a4 (k:=k) n1 (by omega) R u (λj v z q=>K j v (aw j v z) q) C U))));rintro tg m h4 ⟨rfl,b,rfl,f,t4,f4⟩;refine⟨rfl,(b,()),rfl,aC ⟨rfl,cL b,rfl,f,λhb=>f4 (dF.1 hb),λhb=>t4 (eG.1 hb)⟩⟩
   .rw[aY]at A
    refine aC ⟨rfl,false,rfl,C,λh=>(by cases h),λ_=>?_⟩;rw[show l.list.length-i.toNat=0 by omega];exact U
  rintro tg m h4 ⟨rfl,b,rfl,f,f4,t4⟩;refine bG (gA (aE (λg=>aC ⟨rfl,false,rfl,f,λh=>(by cases h),λ_=>f4 g⟩) λg=>?_));have V:=t4 g;refine cZ (λtg m h'=>tg=0/\∃b:Bool,m=[.bool b]/\St h0 m' y I h'/\(b=true->F h')/\(b=false->J (k+(l.list.length+1-i.toNat)) h')) ?_ ?_
  .refine aE (λA=>?_) λA=>?_
   .rw[gG]at A
    refine Wx f.cy (uK (o f) (dt ((hY _ x h4 (K _ x a0 (by omega)) V f.sz f.held).mono ?_)));rintro m h5 ⟨b,rfl,fr,t5,f5⟩;refine⟨(b,()),rfl,aC ⟨rfl,cL b,rfl,f.step fr,λhb=>f5 (dF.1 hb),λhb=>?_⟩⟩;have:=t5 (eG.1 hb);rw[show k+(l.list.length+1-i.toNat)=k+(l.list.length-i.toNat)+1 by omega];exact this
   .rw[mN]at A
    refine aC ⟨rfl,false,rfl,f,λh=>(by cases h),λ_=>?_⟩;rw[show l.list.length+1-i.toNat=l.list.length-i.toNat by omega];exact V
  rintro tg m h5 ⟨rfl,b,rfl,E,f5,t5⟩;refine bG (gA (aE (λg=>aC ⟨rfl,false,rfl,E,λh=>(by cases h),λ_=>f5 g⟩) λg=>?_));have al:=t5 g;rw[bY (a:=i) (by omega) (by omega),bY (by omega) (by omega)];have ao:Df 0 (i-l.list.length-1)=((i.toNat-(l.list.length+1):Nat):Int):=by unfold Df;split<;>omega
  rw[ao];refine Wx E.cw (mO (o E) (Kx (D.wk _ _ _ _) (cN _ ?_ (a7 (k:=k+(l.list.length+1-i.toNat)) n2 (by omega) (by omega) (by omega) (λj v z q=>?_) E al))))
  .rintro tg m h6 ⟨rfl,b,rfl,a8,t6,f6⟩
   refine⟨rfl,(b,()),rfl,aC ⟨rfl,b,rfl,a8,λhb=>?_,f6⟩⟩;have:=t6 hb;rw[cR]at this;rw[show k+((Bt.node l x r).list.length-i.toNat)=k+(l.list.length+1-i.toNat)+(r.list.length-(i.toNat-(l.list.length+1))) by omega];exact this
  .rw[cR]at q⊢
   have:=K _ v (a3 j v z) (by omega);rw[show k+(l.list.length+1-i.toNat)+(j-(i.toNat-(l.list.length+1)))=k+(l.list.length+1+j-i.toNat) by omega];exact this
def AL(I:iJ)(L:List I.It)(k:Nat)(hp h1:aG)(args:bH):Prop:=∃r,L[k]?=some r/\args=[ag I r]
theorem U6(O:I.Ok P)(D:my P I){h0:aG}{p:OA}{t:Bt I.It}{b:Addr}{i:Int}(nt:Nd I h0 p t)(o:I.W t.list<=4398046511104)(hi:cY .i64 i)(ca:Sw.cell h0 a=some (.pointer p))(cb:Sw.cell h0 b=some (iv i))(za:I.Z a.block)(zb:I.Z b.block) :
  k_ P (Zq I (some a) (some b)) (t.list.drop i.toNat).length (AL I (t.list.drop i.toNat)) I.Z 2 h0:=by
 intro h y J F hs hz X U sF Y m;rw[eV]at hi;refine D.it _ _ _ h _ ?_;unfold Ss;refine aL (by cases y<;>first|rfl|cases X) λe=>?_;have C:Ext h (h.push (.cells [y].toArray e)):=Ext.push ..;have R:cA h.size 1 (h.push (.cells [y].toArray e)) ⟨some ⟨h.size,0,none⟩,1,1⟩ [y]:=bR rfl (by decide) (by decide);have z:(h.push (.cells [y].toArray e)).size=h.size+1:=by simp
 generalize(h.push (.cells [y].toArray e))=c at C R z⊢;intro g;have E:Ext c (c.push (.cells [.nilFunc].toArray g)):=Ext.push ..;have w:cA c.size 1 (c.push (.cells [.nilFunc].toArray g)) ⟨some ⟨c.size,0,none⟩,1,1⟩ [.nilFunc]:=bR rfl (by decide) (by decide);generalize(c.push (.cells [.nilFunc].toArray g))=h2 at E w⊢;rw[z]at w⊢;refine fR [Wb I (some ⟨h.size+1,0,none⟩) (some ⟨h.size,0,none⟩)] w rfl (by intro v hv;rw[dE.1 hv];rfl) λf T u3=>?_;have q:Ext c f:=jU.jQ E u3 (λx hx=>by cases hx;exact Nat.le_of_eq z);have G:Ext h f:=C.trans q;have A:=(T.lt rfl).2;dsimp only at A;have c3:Sw.cell f ⟨h.size+1,0,none⟩=some (Wb I (some ⟨h.size+1,0,none⟩) (some ⟨h.size,0,none⟩)):=by have:=aI.1 T.cells 0 _ rfl;rwa [add_zero']at this
 have B:Sw.cell f ⟨h.size,0,none⟩=some y:=by have:=aI.1 (R.ext q).cells 0 _ rfl;rwa [add_zero']at this
 have n:iI I.Z h0 f:=hz.step (V:=λ_=>True) (iI.bD G) λ_ _ _=>trivial;have st:St h0 h.size y I f:=⟨n,hs,A,B,c3⟩;refine Wx c3 (aL rfl (bC (b:=.ptr) (a.add 0) p rfl (by rw[add_zero'];exact n.cell ca za) (bC (b:=bI) b i rfl (n.cell cb zb) (Kx (D.wk _ _ _ _) ?_))));have K:Df 0 i=(i.toNat:Int):=by unfold Df;split<;>omega
 rw[K];refine cN _ ?_ (qf O D (L:=t.list.drop i.toNat) U (λk r c H m M N=>Y k c c [ag I r] (cQ.1 H).1 m (by omega) (aV.refl _ _) M N ⟨r,H,rfl⟩) t (k:=0) nt o (by omega) (by omega) (λj r hr m=>?_) st (U _ _ _ m (aV.bD G)))
 .rintro tg vs h4 ⟨rfl,b,rfl,u,t4,f4⟩
  have s4:=u.sz;refine⟨rfl,(b,()),rfl,aC ⟨rfl,rfl,by omega,u.held,?_⟩⟩;cases b with
  |true=>left;have:=t4 rfl;rw[cR,JI]at this;rw[cW];exact this
  |false=>exact .inr (f4 rfl)
 .rw[cR]at m⊢
  rw[Aq,JI,show i.toNat+(j-i.toNat)=j by omega];exact hr
end
end Go.Sw.Any
namespace Go.Sw.Piece
open Go.Sw.Any
open Go.Sw.Tree (iv fR jR jX mX oS kM rO kK)
section
variable{P:Program}{S:cH}{h:aG}{Q:Nat->bH->aG->Prop}
abbrev PB:List B:=[.sl, .int .i64, .int .i64, .int .i64, .int .i64, .bool, .bool]
abbrev SB:List B:=[.int .i64, .int .i64, .int .i64, .bool, .bool]
abbrev Part:=Sl×Int×Int×Int×Int×Bool×Bool×Unit
abbrev oY:=Int×Int×Int×Bool×Bool×Unit
def zS:oY:=(0,0,0,false,false,())
def zP:Part:=(⟨none,0,0⟩,0,0,0,0,false,false,())
def Jt(p:Part):oY:=(p.2.2.1,p.2.2.2.1,p.2.2.2.2.1,p.2.2.2.2.2.1,p.2.2.2.2.2.2.1,())
def Oz(s o:oY):Int:=if s.2.2.2.2.1=true/\o.2.2.2.1=true then 1 else 0
def kD(s o:oY):oY:=if s.1=0 then o else if o.1=0 then s else (s.1+o.1,s.2.1+o.2.1,s.2.2.1+o.2.2.1-Oz s o,s.2.2.2.1,o.2.2.2.2.1,())
def Hu(s:oY)(k:Int):Int:=if k=0 then s.1 else if k=1 then s.2.2.1 else 0
def VS(n:Nat)(s:oY):Prop:=0<=s.1/\s.1<=n/\0<=s.2.1/\s.2.1<=4*n/\0<=s.2.2.1/\s.2.2.1<=n/\(s.1=0->s=zS)/\(s.2.2.2.1=true->1<=s.2.2.1)
def WN(p:Part):Nat:=max 1 p.2.2.1.toNat
theorem EE(s:oY):∀v,v∈Bs.inj SB s->flat v=true:=by
 intro v b;simp only[SB,Bs.inj,eH,lG,or_false]at b;rcases b with rfl|rfl|rfl|rfl|rfl<;>rfl
theorem xF(s:Part):∀v,v∈Bs.inj PB s->flat v=true:=by
 intro v b;simp only[PB,Bs.inj,eH,lG,or_false]at b;rcases b with rfl|rfl|rfl|rfl|rfl|rfl|rfl<;>rfl
theorem YG(s o:oY):0<=Oz s o/\Oz s o<=1/\(Oz s o=1->o.2.2.2.1=true):=by
 unfold Oz;split
 .rename_i b;exact⟨by omega,by omega,λ_=>b.2⟩
 .exact⟨by omega,by omega,λh=>by omega⟩
theorem MJ(o:oY):kD zS o=o:=by unfold kD;rw[if_pos (show zS.1=0 from rfl)]
theorem VM{x o:oY}(h:x.1=0):kD x o=o:=by unfold kD;rw[if_pos h]
theorem En{n:Nat}{s:oY}(v:VS n s):kD s zS=s:=by
 unfold kD;by_cases h0:s.1=0
 .rw[if_pos h0];exact(v.2.2.2.2.2.2.1 h0).symm
 .rw[if_neg h0,if_pos (show zS.1=0 from rfl)]
theorem VS.mono{n m:Nat}{s:oY}(v:VS n s)(h:n<=m):VS m s:=by
 obtain⟨a,b,c,d,e,f,g,i⟩:=v;exact⟨a,by omega,c,by omega,e,by omega,g,i⟩
theorem VS.add{n m:Nat}{s o:oY}(v:VS n s)(w:VS m o):VS (n+m) (kD s o):=by
 unfold kD;by_cases h0:s.1=0
 .rw[if_pos h0];exact w.mono (by omega)
 .rw[if_neg h0]
  by_cases j:o.1=0
  .rw[if_pos j];exact v.mono (by omega)
  .rw[if_neg j]
   obtain⟨a,b,c,d,e,f,g,i⟩:=v;obtain⟨r,t,u,z,A,B,C,p⟩:=w;obtain⟨k1,k2,q⟩:=YG s o;have D:Oz s o<=o.2.2.1:=by
    by_cases k:Oz s o=1
    .have:=p (q k);omega
    .omega
   refine⟨by dsimp only;omega,by dsimp only;omega,by dsimp only;omega,by dsimp only;omega,by dsimp only;omega,by dsimp only;omega,λh=>by dsimp only at h;omega,λh=>?_⟩;have:=i h;dsimp only;omega
theorem MI{n m k:Nat}{x y z:oY}(j:VS n x)(o:VS m y)(u:VS k z):kD (kD x y) z=kD x (kD y z):=by
 by_cases b:x.1=0
 .rw[VM b,VM b]
 by_cases c:y.1=0
 .have f:kD x y=x:=by unfold kD;rw[if_neg b,if_pos c]
  have g:kD y z=z:=by unfold kD;rw[if_pos c]
  rw[f,g]
 by_cases e:z.1=0
 .have f:kD y z=y:=by unfold kD;rw[if_neg c,if_pos e]
  have g:∀w:oY,w.1≠0->kD w z=w:=λw hw=>by unfold kD;rw[if_neg hw,if_pos e]
  rw[f];refine g _ ?_;have:=j.1;have:=o.1;unfold kD;rw[if_neg b,if_neg c];dsimp only;omega
 have r:kD x y=(x.1+y.1,x.2.1+y.2.1,x.2.2.1+y.2.2.1-Oz x y,x.2.2.2.1,y.2.2.2.2.1,()):=by unfold kD;rw[if_neg b,if_neg c]
 have t:kD y z=(y.1+z.1,y.2.1+z.2.1,y.2.2.1+z.2.2.1-Oz y z,y.2.2.2.1,z.2.2.2.2.1,()):=by unfold kD;rw[if_neg c,if_neg e]
 have:=j.1;have:=o.1;have:=u.1;rw[r,t];unfold kD;dsimp only;rw[if_neg (by omega),if_neg e,if_neg b,if_neg (by omega)];have p:Oz (x.1+y.1,x.2.1+y.2.1,x.2.2.1+y.2.2.1-Oz x y,x.2.2.2.1,y.2.2.2.2.1,()) z=Oz y z:=rfl;have q:Oz x (y.1+z.1,y.2.1+z.2.1,y.2.2.1+z.2.2.1-Oz y z,y.2.2.2.1,z.2.2.2.2.1,())=Oz x y:=rfl;rw[p,q]
 congr 1
 .omega
 .congr 1
  .omega
  .congr 1;omega
theorem XG{n m:Nat}{s o:oY}(v:VS n s)(w:VS m o)(k:Int):Hu s k<=Hu (kD s o) k:=by
 obtain⟨a,b,c,d,e,f,g,i⟩:=v;obtain⟨t,u,z,A,B,C,D,q⟩:=w;unfold kD;by_cases h0:s.1=0
 .rw[if_pos h0,g h0]
  unfold Hu zS
  (repeat' split)<;>first|omega|(dsimp only;omega)
 .rw[if_neg h0]
  by_cases j:o.1=0
  .rw[if_pos j];exact kR _
  .rw[if_neg j]
   obtain⟨k1,k2,r⟩:=YG s o;have E:Oz s o<=o.2.2.1:=by
    by_cases p:Oz s o=1
    .have:=q (r p);omega
    .omega
   unfold Hu
   (repeat' split)<;>first|omega|(dsimp only;omega)
theorem W5{x:Part}:aS P (mC S x) [.agg SB] h λ(y:oY×Unit) _=>y.1=Jt x:=by
 unfold mC aS;refine gO (bs:=PB) x (by decide) λg c o1=>gO (bs:=SB) zS (by decide) λk f o2=>?_;refine⟨(⟨h.size,0,none⟩:Addr).add 2,rfl,Jt x,aI.2 λj v b=>?_,?_⟩
 .rw[add_add]
  refine aI.1 (o1.ext f).cells _ _ ?_
  match j,b with
  |0,b=>exact b
  |1,b=>exact b
  |2,b=>exact b
  |3,b=>exact b
  |4,b=>exact b
  |j+5,b=>simp[Ty.cells,Bs.inj]at b
 .exact zC (bs:=SB) (Jt x) o2 c.size (c.trans f) (EE _) λh' e=>⟨rfl,e,(Jt x,()),rfl,rfl⟩
theorem vu{n:Nat}{s:oY}{k:Int}:aS P (xN S s k) [tI] h λ(y:Int×Unit) _=>y.1=Hu s k:=by
 unfold xN aS Hu;refine gO (bs:=SB) s (by decide) λg f o1=>aE (λc=>?_) λc=>aE (λe=>?_) λe=>?_
 .rw[cM]at c;rw[if_pos c]
  exact bC (b:=bI) _ s.1 rfl (aI.1 o1.cells 0 _ rfl) (aC ⟨rfl,f,(s.1,()),rfl,rfl⟩)
 .rw[dS]at c;rw[cM]at e;rw[if_neg c,if_pos e]
  exact bC (b:=bI) _ s.2.2.1 rfl (aI.1 o1.cells 2 _ rfl) (aC ⟨rfl,f,(s.2.2.1,()),rfl,rfl⟩)
 .rw[dS]at c e;rw[if_neg c,if_neg e]
  exact aC ⟨rfl,f,(0,()),rfl,rfl⟩
theorem YI{n m:Nat}{s o:oY}(v:VS n s)(w:VS m o)(hn:n+m<=4398046511104):aS P (lD S s o) [.agg SB] h λ(y:oY×Unit) _=>y.1=kD s o:=by
 obtain⟨a,b,c,d,e,f,g,i⟩:=id v;obtain⟨Y,b',c',d',e',f',g',i'⟩:=id w;unfold lD aS;refine gO (bs:=SB) s (by decide) λV u o1=>gO (bs:=SB) o (by decide) λh2 J o2=>gO (bs:=SB) zS (by decide) λE M R=>?_;have q:=J.trans M;have C:∀{h'} {b:B} {j:Nat} {x:b.den} {K:b.den->aK} {Q:Nat->bH->aG->Prop},Ext E h'->(Bs.inj SB s)[j]?=some (b.inj x)->wp P (K x) h' Q->wp P (.load (.one b) (aB (some ⟨h.size,0,none⟩) j) K) h' Q:=λe N O=>bC _ _ rfl (aI.1 (o1.ext (q.trans e)).cells _ _ N) O;have D:∀{h'} {b:B} {j:Nat} {x:b.den} {K:b.den->aK} {Q:Nat->bH->aG->Prop},Ext E h'->(Bs.inj SB o)[j]?=some (b.inj x)->wp P (K x) h' Q->wp P (.load (.one b) (aB (some ⟨V.size,0,none⟩) j) K) h' Q:=λe N O=>bC _ _ rfl (aI.1 (o2.ext (M.trans e)).cells _ _ N) O;refine C (b:=bI) (x:=s.1) (Ext.refl _) rfl (aE (λA=>?_) λA=>?_)
 .rw[cM]at A
  refine hS (bs:=SB) (o2.ext M) (zC (bs:=SB) o R (dI u.size J.size) (u.trans q) (EE _) λh' e=>⟨rfl,e,(o,()),rfl,?_⟩);unfold kD;rw[if_pos A]
 rw[dS]at A;refine D (b:=bI) (x:=o.1) (Ext.refl _) rfl (aE (λH=>?_) λH=>?_)
 .rw[cM]at H
  refine hS (bs:=SB) (o1.ext q) (zC (bs:=SB) s R (dI u.size J.size) (u.trans q) (EE _) λh' e=>⟨rfl,e,(s,()),rfl,?_⟩);unfold kD;rw[if_neg A,if_pos H]
 rw[dS]at H;refine C (b:=bI) (x:=s.1) (Ext.refl _) rfl (D (b:=bI) (x:=o.1) (Ext.refl _) rfl (C (b:=bI) (x:=s.2.1) (Ext.refl _) rfl (D (b:=bI) (x:=o.2.1) (Ext.refl _) rfl
  (C (b:=bI) (x:=s.2.2.1) (Ext.refl _) rfl (D (b:=bI) (x:=o.2.2.1) (Ext.refl _) rfl (C (b:=.bool) (x:=s.2.2.2.1) (Ext.refl _) rfl (D (b:=.bool) (x:=o.2.2.2.2.1) (Ext.refl _) rfl ?_)))))))
 rw[aW (a:=s.1) (by omega) (by omega),aW (a:=s.2.1) (by omega) (by omega),aW (a:=s.2.2.1) (by omega) (by omega)];refine HO (bs:=SB) (z:=zS) (s.1+o.1,s.2.1+o.2.1,s.2.2.1+o.2.2.1,s.2.2.2.1,o.2.2.2.2.1,()) (by decide) (EE _) λh4 L T=>?_;have F:kD s o=(s.1+o.1,s.2.1+o.2.1,s.2.2.1+o.2.2.1-Oz s o,s.2.2.2.1,o.2.2.2.2.1,()):=by unfold kD;rw[if_neg A,if_neg H]
 refine cZ (λt U h'=>t=0/\U=[]/\Ext E h'/\cA E.size 1 h' ⟨some ⟨E.size,0,none⟩,5,5⟩ (Bs.inj SB (kD s o))) ?_ ?_
 .refine bZ (s.2.2.2.2.1=true/\o.2.2.2.1=true) ?_ λbb W r hb=>aE (λp=>?_) λp=>?_
  .refine C (b:=.bool) (x:=s.2.2.2.2.1) L rfl (aE (λp=>?_) λp=>aC ⟨rfl,Ext.refl _,false,rfl,Iff.intro (λh=>by cases h) λh=>by rw[h.1]at p;cases p⟩)
   exact D (b:=.bool) (x:=o.2.2.2.1) L rfl (aC ⟨rfl,Ext.refl _,_,rfl,λh=>⟨p,h⟩,λh=>h.2⟩)
  .have G:Oz s o=1:=by unfold Oz;rw[if_pos (hb.1 p)]
   refine bC (b:=bI) _ (s.2.2.1+o.2.2.1) rfl (aI.1 (T.ext r).cells 2 _ rfl) ?_;rw[bY (by omega) (by omega)];refine fB (vs:=Bs.inj SB (s.1+o.1,s.2.1+o.2.1,s.2.2.1+o.2.2.1,s.2.2.2.1,o.2.2.2.2.1,())) (iv (s.2.2.1+o.2.2.1-1)) (T.ext r) (by simp[Bs.inj]) rfl λh6 o6 X=>aC ⟨rfl,rfl,?_,?_⟩
   .exact jU.jQ (L.trans r) X (by intro x p;cases p;exact bM _)
   .rw[F,G];exact o6
  .refine aC ⟨rfl,rfl,L.trans r,?_⟩
   have G:Oz s o=0:=by unfold Oz;rw[if_neg λk=>by rw[hb.2 k]at p;cases p]
   rw[F,G,Int.sub_zero];exact T.ext r
 .rintro t U W ⟨rfl,rfl,r,o5⟩
  exact bG (bO (hS (bs:=SB) o5 (zC (bs:=SB) (kD s o) (R.ext r) (dI u.size J.size) ((u.trans q).trans r) (EE _) λh' e=>⟨rfl,e,(kD s o,()),rfl,rfl⟩)))
theorem VS.zero:VS 0 zS:=⟨by decide,by decide,by decide,by decide,by decide,by decide,λ_=>rfl,λh=>by cases h⟩
def part(S:cH)(Z:Nat->Prop):iJ where
 iB:=PB
 sB:=SB
 zi:=zP
 zs:=zS
 mF:=mC S
 aF:=lD S
 kF:=xN S
 f1:=S.jJ
 f2:=S.mM
 xk:=λp=>VS (WN p) (Jt p)
 wt:=WN
 V:=VS
 LK:=Jt
 add:=kD
 key:=Hu
 Z:=Z
theorem Ch(S:cH)(Z:Nat->Prop):(part S Z).Ok P where
 i1:=(by decide:1<=7/\7<=100)
 s1:=(by decide:1<=5/\5<=100)
 fi:=xF
 fs:=EE
 w1:=λx=>by show 1<=WN x;unfold WN;omega
 v0:=VS.zero
 vm:=λx h=>h
 va:=λn m s o v w=>v.add w
 mono:=λn m s v h=>v.mono h
 az:=λn s v=>En v
 za:=λn s v=>MJ s
 assoc:=λn m k x y z a b c=>MI a b c
 x_:=λk=>by show Hu zS k=0;unfold Hu zS;(repeat' split)<;>rfl
 x':=λn m s o k v w=>XG v w k
 cm:=λh x _=>W5 (S:=S)
 ca:=λh n m s o v w e=>YI (S:=S) v w e
 ck:=λh n s k v _=>vu (S:=S) (n:=n)
variable{Z:Nat->Prop}
theorem QF(S:cH)(Z:Nat->Prop):∀n,iC n S=CM n (part S Z)
 |0=>rfl
 |n+1=>by
  funext items
  show iC (n+1) S items=_;unfold iC;rw[QF S Z n];rfl
theorem ZA(S:cH)(Z:Nat->Prop):∀n,iS n S=Ga n (part S Z)
 |0=>rfl
 |n+1=>by
  funext l x r
  show iS (n+1) S l x r=_;unfold iS;rw[ZA S Z n];rfl
theorem Wf(S:cH)(Z:Nat->Prop):lX S=JV (part S Z):=by
 funext l x r
 unfold lX JV;simp only[ZA S Z]
theorem kj(S:cH)(Z:Nat->Prop):∀n,jL n S=JW n (part S Z)
 |0=>rfl
 |n+1=>by
  funext p i
  show jL (n+1) S p i=_;unfold jL;rw[kj S Z n,Wf S Z];rfl
theorem We(S:cH)(Z:Nat->Prop):∀n,jE n S=EU n (part S Z)
 |0=>rfl
 |n+1=>by
  funext p
  show jE (n+1) S p=_;unfold jE;rw[We S Z n];rfl
theorem rp(S:cH)(Z:Nat->Prop):oJ S=JU (part S Z):=by
 funext l r
 unfold oJ JU vQ VJ;rw[Wf S Z];simp only[We S Z];rfl
theorem y5(S:cH)(Z:Nat->Prop)(s:Sl):vZ S s=fc (part S Z) s:=by
 unfold vZ fc nE LQ;simp only[QF S Z]
theorem XF(S:cH)(Z:Nat->Prop)(t:OA×Unit)(i j:Int)(s:Sl):oC S t i j s=F9 (part S Z) t i j s:=by
 unfold oC F9 nE LQ tY VI;rw[rp S Z];simp only[QF S Z,kj S Z];rfl
end
section
open Go.Sw.Codec
variable{l:bB}{ts:List (Int×Int)}
def Lq(enc:Int):Nat->bB->List (Int×Int)
 |0,_=>[]
 |n+1,l=>if l.length=0 then [] else eJ enc l::Lq enc n (l.drop (eJ enc l).2.toNat)
def bJ(enc:Int)(l:bB):List (Int×Int):=Lq enc l.length l
theorem Jx{enc:Int}:∀(n m:Nat) (l:bB),cC l->l.length<=n->l.length<=m->Lq enc n l=Lq enc m l:=by
 intro n
 induction n with
 |zero=>
  intro m l hb c hm;cases m with
  |zero=>rfl
  |succ m=>simp only[Lq];rw[if_pos (by omega)]
 |succ n e=>
  intro m l hb c hm;cases m with
  |zero=>simp only[Lq];rw[if_pos (by omega)]
  |succ m=>
   simp only[Lq];by_cases b:l.length=0
   .rw[if_pos b,if_pos b]
   .rw[if_neg b,if_neg b]
    have:=jM (enc:=enc) (l:=l) (by omega) hb;rw[e m _ (hb.drop _) (by rw[cW];omega) (by rw[cW];omega)]
theorem mJ{enc:Int}(h:l.length=0):bJ enc l=[]:=by unfold bJ;rw[h];rfl
theorem jY{enc:Int}(hb:cC l)(h:0<l.length):bJ enc l=eJ enc l::bJ enc (l.drop (eJ enc l).2.toNat):=by
 have:=jM (enc:=enc) h hb;unfold bJ;rw[Jx l.length (l.length-1+1) l hb (by omega) (by omega)];simp only[Lq];rw[if_neg (by omega),Jx (l.length-1) (l.drop (eJ enc l).2.toNat).length _ (hb.drop _) (by rw[cW];omega) (by omega)]
theorem Gc{enc:Int}{M:bB->Prop}(h0:∀l,l.length=0->M l)(h1:∀l,cC l->0<l.length->M (l.drop (eJ enc l).2.toNat)->M l):∀l,cC l->M l:=by
 have:∀(n:Nat) (l:bB),l.length=n->cC l->M l:=by
  intro n
  induction n using Nat.strongRecOn with
  |ind n c=>
   intro l e hb;by_cases b:l.length=0
   .exact h0 l b
   .have f:=jM (enc:=enc) (l:=l) (by omega) hb
    exact h1 l hb (by omega) (c _ (by rw[cW];omega) _ rfl (hb.drop _))
 exact λl hb=>this _ l rfl hb
def dM(ts:List (Int×Int)):Nat:=(ts.map λt=>t.2.toNat).sum
theorem FL:dM []=0:=rfl
theorem nB(t:Int×Int)(ts:List (Int×Int)):dM (t::ts)=t.2.toNat+dM ts:=by simp[dM]
theorem jO(a b:List (Int×Int)):dM (a++b)=dM a+dM b:=by simp[dM]
theorem Gu{enc:Int}(hb:cC l):dM (bJ enc l)=l.length:=by
 refine Gc (enc:=enc) (M:=λl=>dM (bJ enc l)=l.length) (λl c=>?_) (λl hb b e=>?_) l hb
 .rw[mJ c,c];rfl
 .have f:=jM (enc:=enc) b hb
  rw[jY hb b,nB,e,cW];omega
theorem Ku{enc:Int}(hb:cC l):∀t,t∈bJ enc l->1<=t.2/\t.2<=4:=by
 refine Gc (enc:=enc) (M:=λl=>∀t,t∈bJ enc l->1<=t.2/\t.2<=4) (λl e t ht=>?_) (λl hb b f t ht=>?_) l hb
 .rw[mJ e]at ht;cases ht
 .have c:=jM (enc:=enc) b hb
  rw[jY hb b]at ht;rcases eH.1 ht with rfl|ht
  .exact⟨c.1,c.2.1⟩
  .exact f t ht
theorem P3{enc:Int}(hb:cC l):∀t,t∈bJ enc l->cY .i64 t.1:=by
 refine Gc (enc:=enc) (M:=λl=>∀t,t∈bJ enc l->cY .i64 t.1) (λl c t ht=>?_) (λl hb b e t ht=>?_) l hb
 .rw[mJ c]at ht;cases ht
 .rw[jY hb b]at ht
  rcases eH.1 ht with rfl|ht
  .exact S7 hb
  .exact e t ht
theorem Aa{enc:Int}(hb:cC l):(bJ enc l).length<=l.length/\(0<l.length->0<(bJ enc l).length)/\l.length<=4*(bJ enc l).length:=by
 refine Gc (enc:=enc) (M:=λl=>(bJ enc l).length<=l.length/\(0<l.length->0<(bJ enc l).length)/\l.length<=4*(bJ enc l).length) (λl c=>?_) (λl hb b e=>?_) l hb
 .rw[mJ c];simp[c]
 .have g:=jM (enc:=enc) b hb
  have:=e.1;have f:=e.2.2;rw[cW]at this f;rw[jY hb b];simp only[fM];exact⟨by omega,λ_=>by omega,by omega⟩
theorem pQ{enc:Int}(hb:cC l):∀n,n<=(bJ enc l).length->Uq enc l (dM ((bJ enc l).take n))/\bJ enc (l.drop (dM ((bJ enc l).take n)))=(bJ enc l).drop n:=by
 intro n
 induction n with
 |zero=>intro _;rw[R9,FL,Ek,Ek];exact⟨.zero,rfl⟩
 |succ n o=>
  intro p;obtain⟨f,b⟩:=o (by omega);have g:(bJ enc l).drop n=(bJ enc l)[n]::(bJ enc l).drop (n+1):=gY (by omega);generalize j:dM ((bJ enc l).take n)=k at f b;have c:0<(l.drop k).length:=by
   by_cases m:(l.drop k).length=0
   .rw[mJ m,g]at b;cases b
   .omega
  have e:=jY (enc:=enc) (hb.drop k) c;rw[b,g,JO]at e;have ht:(bJ enc l).take (n+1)=(bJ enc l).take n++[(bJ enc l)[n]]:=by rw[eN,cK (by omega)];rfl
  rw[ht,jO,nB,FL,F3,j,e.1];rw[cW]at c;exact⟨f.step (by omega),by rw[<-Ej,<-e.2]⟩
theorem Gv{enc:Int}(hb:cC l):∀n,n<=(bJ enc l).length->bJ enc (l.take (dM ((bJ enc l).take n)))=(bJ enc l).take n:=by
 refine Gc (enc:=enc) (M:=λl=>∀n,n<=(bJ enc l).length->bJ enc (l.take (dM ((bJ enc l).take n)))=(bJ enc l).take n) (λl k n b=>?_) (λl hb f m n b=>?_) l hb
 .rw[mJ k];simp[dM];exact mJ rfl
 .cases n with
  |zero=>simp[dM];exact mJ rfl
  |succ n=>
   have hm:=(pQ hb (n+1) b).1;have o:=jM (enc:=enc) f hb;have e:=jY (enc:=enc) hb f;rw[e]at hm b⊢;rw[JM,nB]at hm⊢;rw[fM]at b;have g:=hm.le hb;generalize j:dM ((bJ enc (l.drop (eJ enc l).2.toNat)).take n)=m' at hm g⊢;have c:=OW hb hm .zero (by omega);rw[Ek,Ek]at c;rw[jY (hb.take _) (by rw[dJ];omega),c,Mn,Ar,<-j,m n (by omega)]
def BJ(t:Int×Int):oY:=(1,t.2,if t.1=10\/t.1=13 then 1 else 0,decide (t.1=10),decide (t.1=13),())
def rA(ts:List (Int×Int)):oY:=ts.foldl (λs t=>kD s (BJ t)) zS
theorem VS.one{t:Int×Int}(h:1<=t.2/\t.2<=4):VS 1 (BJ t):=by
 unfold BJ;refine⟨by dsimp only;omega,by dsimp only;omega,by dsimp only;omega,by dsimp only;omega,?_,?_,(λh=>by cases h),λh=>?_⟩
 .dsimp only;split<;>omega
 .dsimp only;split<;>omega
 .dsimp only at h⊢
  rw[decide_eq_true_eq]at h;rw[if_pos (.inl h)];omega
def TI(ts:List (Int×Int)):Prop:=∀t,t∈ts->1<=t.2/\t.2<=4
theorem TI.take{a:List (Int×Int)}(h:TI a)(n:Nat):TI (a.take n):=λt ht=>h t (rW ht)
theorem TI.drop{a:List (Int×Int)}(h:TI a)(n:Nat):TI (a.drop n):=λt ht=>h t (BE ht)
theorem wy(h:TI ts):∀{n:Nat} {s:oY},VS n s->VS (n+ts.length) (ts.foldl (λs t=>kD s (BJ t)) s):=by
 induction ts with
 |nil=>intro n s v;exact v
 |cons t ts c=>
  intro n s v;have:=c (λx b=>h x (eK _ b)) (v.add (VS.one (h t (eO ..))));exact this.mono (by simp only[fM];omega)
theorem VS.rA{ts:List (Int×Int)}(h:TI ts):VS ts.length (rA ts):=(wy h VS.zero).mono (by omega)
theorem XC(h:TI ts):∀{n m:Nat} {s o:oY},VS n s->VS m o->ts.foldl (λs t=>kD s (BJ t)) (kD s o)=kD s (ts.foldl (λs t=>kD s (BJ t)) o):=by
 induction ts with
 |nil=>intros;rfl
 |cons t ts c=>
  intro n m s o v w;have ht:=VS.one (h t (eO ..));simp only[CD];rw[MI v w ht];exact c (λx b=>h x (eK _ b)) v (w.add ht)
theorem Ln{a b:List (Int×Int)}(ha:TI a)(hb:TI b):rA (a++b)=kD (rA a) (rA b):=by
 unfold Piece.rA;rw[GD];have:=XC hb (VS.rA ha) VS.zero;rw[En (VS.rA ha)]at this;exact this
theorem X9(a:List (Int×Int))(t:Int×Int):rA (a++[t])=kD (rA a) (BJ t):=by unfold rA;rw[GD];rfl
theorem i_(h:TI ts):∀{n:Nat} {s:oY},VS n s->(ts.foldl (λs t=>kD s (BJ t)) s).1=s.1+ts.length/\(ts.foldl (λs t=>kD s (BJ t)) s).2.1=s.2.1+dM ts:=by
 induction ts with
 |nil=>intro n s v;simp[dM]
 |cons t ts g=>
  intro n s v;have ht:=h t (eO ..);have b:=g (λx e=>h x (eK _ e)) (v.add (VS.one ht));have c:(kD s (BJ t)).1=s.1+1/\(kD s (BJ t)).2.1=s.2.1+t.2:=by
   unfold kD;by_cases h0:s.1=0
   .rw[if_pos h0]
    have f:=v.2.2.2.2.2.2.1 h0;rw[f];exact⟨rfl,by show t.2=(0:Int)+t.2;omega⟩
   .rw[if_neg h0,if_neg (show(BJ t).1≠0 by show(1:Int)≠0;decide)];exact⟨rfl,rfl⟩
  rw[CD,b.1,b.2,c.1,c.2,nB,fM];omega
theorem Ea(h:TI ts):(rA ts).1=ts.length/\(rA ts).2.1=dM ts:=by
 have b:=i_ h VS.zero;have e:zS.1=0/\zS.2.1=0:=⟨rfl,rfl⟩;rw[e.1,e.2]at b;unfold rA;omega
end
section
open Go.Sw.Any Go.Sw.Codec
open Go.Sw.Tree (iv fR jR jX mX oS kM rO kK dQ)
variable{P:Program}{S:cH}{h:aG}{Q:Nat->bH->aG->Prop}
variable{l:bB}
theorem V9(a b:Int):gN a b=decide (a=b):=by
 by_cases h:a=b
 .rw[cM.2 h,decide_eq_true h]
 .rw[dS.2 h,decide_eq_false h]
theorem Y5{atom size:Int}:aS P (vT S atom size) [.agg SB] h λ(y:oY×Unit) _=>y.1=BJ (atom,size):=by
 unfold vT aS;refine gO (bs:=SB) zS (by decide) λg o o1=>?_;rw[V9,V9];refine HO (bs:=SB) (z:=zS) (1,size,0,decide (atom=10),decide (atom=13),()) (by decide) (EE _) λu j o2=>?_;refine cZ (λt n h'=>t=0/\n=[]/\Ext g h'/\cA g.size 1 h' ⟨some ⟨g.size,0,none⟩,5,5⟩ (Bs.inj SB (BJ (atom,size)))) ?_ ?_
 .refine bZ (atom=10\/atom=13) ?_ λr p f hb=>aE (λc=>?_) λc=>?_
  .refine bC (b:=.bool) _ (decide (atom=10)) rfl (aI.1 o2.cells 3 _ rfl) (aE (λc=>aC ⟨rfl,Ext.refl _,true,rfl,Iff.intro (λ_=>.inl (of_decide_eq_true c)) λ_=>rfl⟩) λc=>?_)
   have m:=of_decide_eq_false c;exact bC (b:=.bool) _ (decide (atom=13)) rfl (aI.1 o2.cells 4 _ rfl) (aC ⟨rfl,Ext.refl _,_,rfl,λh=>.inr (of_decide_eq_true h),λh=>decide_eq_true (h.resolve_left m)⟩)
  .refine fB (vs:=Bs.inj SB (1,size,0,decide (atom=10),decide (atom=13),())) (iv 1) (o2.ext f) (by simp[Bs.inj]) rfl λv o6 q=>aC ⟨rfl,rfl,jU.jQ (j.trans f) q (by intro x c;cases c;exact bM _),?_⟩
   have:BJ (atom,size)=(1,size,1,decide (atom=10),decide (atom=13),()):=by unfold BJ;dsimp only;rw[if_pos (hb.1 c)]
   rw[this];exact o6
  .refine aC ⟨rfl,rfl,j.trans f,?_⟩
   have:BJ (atom,size)=(1,size,0,decide (atom=10),decide (atom=13),()):=by unfold BJ;dsimp only;rw[if_neg λk=>by rw[hb.2 k]at c;cases c]
   rw[this];exact o2.ext f
 .rintro t n p ⟨rfl,rfl,f,o5⟩
  exact bG (bO (hS (bs:=SB) o5 (zC (bs:=SB) (BJ (atom,size)) (o1.ext f) (bM _) (o.trans f) (EE _) λh' e=>⟨rfl,e,(BJ (atom,size),()),rfl,rfl⟩)))
def mkS(b:Sl)(tag:Int)(s:oY):Part:=(b,tag,s.1,s.2.1,s.2.2.1,s.2.2.2.1,s.2.2.2.2.1,())
def XL(b:Sl)(tag:Int)(ts:List (Int×Int)):Part:=mkS b tag (rA ts)
theorem oO{enc:Int}(hb:cC l):TI (bJ enc l):=Ku hb
theorem Gf(M:kJ P S){enc:Int}(he:eM enc){b:Sl}{tag:Int}(hb:kW .u8 h b l)(hl:l.length<=1099511627776) :
  aS P (lC S enc b tag) [.agg PB] h λ(y:Part×Unit) _=>y.1=XL b tag (bJ enc l):=by
 have f:cC l:=hb.wf;have C:=hb.len;have D:=oO (enc:=enc) f;unfold lC aS;refine gO (bs:=PB) zP (by decide) λj J o1=>HO (bs:=PB) (z:=zP) (mkS b tag zS) (by decide) (xF _) λF W o2=>?_;refine dQ (G:=Nat) (λn (r:Int×Unit) h'=>n<=(bJ enc l).length/\r.1=dM ((bJ enc l).take n)/\Ext j h'/\cA j.size 1 h' ⟨some ⟨j.size,0,none⟩,7,7⟩ ([.slice b.aD b.len b.cap,iv tag]++Bs.inj SB (rA ((bJ enc l).take n)))) (λn=>(bJ enc l).length-n)
  (λt V h'=>t=2/\V=[]/\Ext j h'/\cA j.size 1 h' ⟨some ⟨j.size,0,none⟩,7,7⟩ (Bs.inj PB (XL b tag (bJ enc l)))) 0 ⟨cO _,rfl,W,o2⟩ ?_ ?_
 .rintro n ⟨(r:Int),u⟩ X ⟨hn,T,q,v⟩
  dsimp only at T⊢;subst T;obtain⟨B,A⟩:=pQ (enc:=enc) f n hn;have hle:=B.le f;generalize Y:dM ((bJ enc l).take n)=k at B A hle⊢;refine aE (λH=>?_) λH=>?_
  .rw[aU,aN,C]at H
   have N:k<l.length:=by omega
   have g:=jY (enc:=enc) (f.drop k) (by rw[cW];omega);rw[A]at g;have w:n<(bJ enc l).length:=by
    by_cases c:n<(bJ enc l).length
    .exact c
    .rw[uM (by omega)]at g;cases g
   rw[gY w,JO]at g;have U:=D _ (CK w);have p:(bJ enc l).take (n+1)=(bJ enc l).take n++[(bJ enc l)[n]]:=by rw[eN,cK w];rfl
   refine aM (Qm M (hb.ext (J.trans q))) λ⟨(a:Int),(sz:Int),_⟩ h4 E c=>?_;have c:(a,sz)=eJ enc (l.drop k):=by
    rcases c with⟨R,_,_⟩|⟨_,_,_,c⟩
    .rcases R with h|h|h
     .exact absurd he h
     .omega
     .omega
    .rw[cR]at c;exact c
   rw[<-g.1]at c;dsimp only;refine Oa (v.ext E) rfl (aM Y5 λ⟨(o:oY),_⟩ h5 K m=>?_);have m:o=BJ (a,sz):=m;subst m;dsimp only;have o5:=(v.ext E).ext K;refine By (a:=(⟨j.size,0,none⟩:Addr).add 2) rfl (CU (post:=[]) (by rw[kQ];exact o5.cells) rfl) ?_;rw[c];have v1:=VS.rA (D.take n);have v2:=VS.one U;have hlen:=Aa (enc:=enc) f;refine aM (YI v1 v2 (by rw[dJ];omega)) λ⟨(o:oY),_⟩ h6 L m=>?_;have m:o=_:=m;subst m;dsimp only;refine Dn (Bs.inj SB (kD (rA ((bJ enc l).take n)) (BJ ((bJ enc l)[n])))) (o5.ext L) rfl rfl (EE _) λh7 o7 u7=>?_;have ab:sz=(bJ enc l)[n].2:=congrArg Prod.snd c;rw[aW (by omega) (by omega)];refine aC ⟨λ_=>⟨n+1,((k:Int)+sz,()),rfl,⟨by omega,?_,jU.jQ (((q.trans E).trans K).trans L) u7 (by intro x c;cases c;exact bM _),?_⟩,by omega⟩,λh=>absurd rfl h⟩
   .dsimp only
    rw[p,jO,nB,FL,Y];omega
   .rw[p,X9];exact o7
  .rw[aY,aN,C]at H
   have N:k=l.length:=by omega
   have O:(bJ enc l).take n=bJ enc l:=by
    have:(bJ enc l).drop n=[]:=by rw[<-A];exact mJ (by rw[cW];omega)
    have F:=eY n (bJ enc l);rw[this,kQ]at F;exact F
   rw[O]at v;exact aC ⟨λh=>absurd h (by decide),λ_=>⟨rfl,rfl,q,v⟩⟩
 .rintro t V X ⟨rfl,rfl,q,v⟩
  exact bG (bO (hS (bs:=PB) v (zC (bs:=PB) (XL b tag (bJ enc l)) (o1.ext q) (bM _) (J.trans q) (xF _) λh' e=>⟨rfl,e,(_,()),rfl,rfl⟩)))
def Ks(tag:Int)(k:Nat):Int:=if 0<=tag then tag+k else tag
def FA(enc:Int)(p:Part)(l:bB)(n:Nat):Part:=XL ⟨p.1.aD,dM ((bJ enc l).take n),dM ((bJ enc l).take n)⟩ p.2.1 ((bJ enc l).take n)
def He(enc:Int)(p:Part)(l:bB)(n:Nat):Part:=
 XL ⟨bE p.1.aD p.1.cap (dM ((bJ enc l).take n)) 1,p.1.len-dM ((bJ enc l).take n),p.1.cap-dM ((bJ enc l).take n)⟩ (Ks p.2.1 (dM ((bJ enc l).take n))) ((bJ enc l).drop n)
theorem VZ(M:kJ P S){enc:Int}(he:eM enc){p:Part}{n:Int}(hb:kW .u8 h p.1 l)(hl:l.length<=1099511627776)(h0:0<=n)(hn:n<=(bJ enc l).length)(ht : -1<=p.2.1/\p.2.1<=1099511627776) :
  aS P (dT S p enc n) [.agg PB, .agg PB] h λ(y:Part×Part×Unit) _=>y.1=FA enc p l n.toNat/\y.2.1=He enc p l n.toNat:=by
 have f:cC l:=hb.wf;have ao:=hb.len;have a7:=hb.cap;have a8:=hb.max;have a4:=oO (enc:=enc) f;have hlen:=Aa (enc:=enc) f;unfold dT aS;refine gO (bs:=PB) p (by decide) λh1 e1 o1=>gO (bs:=PB) zP (by decide) λh2 e2 o2=>gO (bs:=PB) zP (by decide) λR e3 o3=>?_;have E:=e1.trans (e2.trans e3);have O:=o1.ext (e2.trans e3);have C:∀{h'} {K:Sl->aK} {Q:Nat->bH->aG->Prop},Ext R h'->wp P (K p.1) h' Q->wp P (.load (tS) (aB (some ⟨h.size,0,none⟩) 0) K) h' Q:=λe z=>bC (b:=.sl) _ p.1 rfl (aI.1 (O.ext e).cells 0 _ rfl) z;have ab:∀{h'} {K:Int->aK} {Q:Nat->bH->aG->Prop},Ext R h'->wp P (K p.2.1) h' Q->wp P (.load (tI) (aB (some ⟨h.size,0,none⟩) 1) K) h' Q:=λe z=>bC (b:=bI) _ p.2.1 rfl (aI.1 (O.ext e).cells 1 _ rfl) z;have J:=(pQ (enc:=enc) f n.toNat (by omega)).1.le f;refine dQ (G:=Nat) (λm (r:Int×Int×Unit) h'=>m<=n.toNat/\r.1=n-m/\r.2.1=dM ((bJ enc l).take m)/\Ext R h') (λm=>n.toNat-m)
  (λt vs h'=>t=2/\vs=[iv (dM ((bJ enc l).take n.toNat))]/\Ext R h') 0 ⟨cO _,by dsimp only;omega,rfl,Ext.refl _⟩ ?_ ?_
 .rintro m ⟨(r:Int),(at_:Int),u⟩ h4 ⟨hm,hr,U,o⟩
  dsimp only at hr U⊢;subst hr;subst U;obtain⟨V,B⟩:=pQ (enc:=enc) f m (by omega);have hle:=V.le f;generalize z:dM ((bJ enc l).take m)=k at V B hle⊢;refine bZ (m<n.toNat) ?_ λbb h5 D v=>aE (λc=>?_) λc=>?_
  .refine aE (λw=>C o (aC ⟨rfl,Ext.refl _,_,rfl,?_⟩)) λw=>aC ⟨rfl,Ext.refl _,false,rfl,?_⟩
   .rw[dL]at w
    rw[aU,aN,ao];refine⟨λ_=>by omega,λ_=>?_⟩;have A:m<(bJ enc l).length:=by omega
    by_cases c:(k:Int)<l.length
    .exact c
    .have:(bJ enc l).drop m=[]:=by rw[<-B];exact mJ (by rw[cW];omega)
     rw[Sa]at this;omega
   .rw[gF]at w
    exact Iff.intro (λh=>by cases h) λh=>by omega
  .have bd:=v.1 c
   have A:m<(bJ enc l).length:=by omega
   have T:(bJ enc l).take (m+1)=(bJ enc l).take m++[(bJ enc l)[m]]:=by rw[eN,cK A];rfl
   have ba:k<l.length:=by
    by_cases c:k<l.length
    .exact c
    .have:(bJ enc l).drop m=[]:=by rw[<-B];exact mJ (by rw[cW];omega)
     rw[Sa]at this;omega
   have X:=jY (enc:=enc) (f.drop k) (by rw[cW];omega);rw[B,gY A,JO]at X;have bo:=a4 _ (CK A);refine C (o.trans D) (aM (Qm M (hb.ext (E.trans (o.trans D)))) λ⟨(a:Int),(sz:Int),_⟩ h6 H c=>?_);have c:(a,sz)=eJ enc (l.drop k):=by
    rcases c with⟨aw,_,_⟩|⟨_,_,_,c⟩
    .rcases aw with h|h|h
     .exact absurd he h
     .omega
     .omega
    .rw[cR]at c;exact c
   rw[<-X.1]at c;have a9:sz=(bJ enc l)[m].2:=congrArg Prod.snd c;dsimp only;rw[aW (by omega) (by omega),bY (by omega) (by omega)];refine aC ⟨λ_=>⟨m+1,(n-m-1,(k:Int)+sz,()),rfl,⟨by omega,by dsimp only;omega,?_,(o.trans D).trans H⟩,by omega⟩,λh=>absurd rfl h⟩;dsimp only;rw[T,jO,nB,FL,z];omega
  .have:¬m<n.toNat:=λh=>by rw[v.2 h]at c;cases c
   have:m=n.toNat:=by omega
   subst this;exact aC ⟨λh=>absurd h (by decide),λ_=>⟨rfl,by rw[z],o.trans D⟩⟩
 .rintro t vs h4 ⟨rfl,rfl,o⟩
  unfold FA He;have W:=Gv (enc:=enc) f n.toNat (by omega);have Y:=(pQ (enc:=enc) f n.toNat (by omega)).2;generalize z:dM ((bJ enc l).take n.toNat)=k at J W Y⊢;refine bG (fJ (ab o ?_));refine fL (tys:=[tI]) (λ(x:Int×Unit) _=>x.1=Ks p.2.1 k) ?_ λ⟨(tg:Int),_⟩ h5 D c=>?_
  .unfold Ks
   refine aE (λw=>?_) λw=>?_
   .rw[dD]at w
    rw[aW (by omega) (by omega),if_pos w];exact aC ⟨rfl,Ext.refl _,(_,()),rfl,rfl⟩
   .rw[eS]at w
    rw[if_neg (by omega)];exact aC ⟨rfl,Ext.refl _,(_,()),rfl,rfl⟩
  have c:tg=_:=c;subst c;dsimp only;have g:=o.trans D;have al:bP (k:Int)=k:=by rw[eP];omega
  refine C g (sV (fA.2 ⟨iP (by omega) (by omega),iP (by omega) (by omega)⟩) (ab g (C g (sV (iP (by omega) (by omega)) ?_))));rw[al,show cS k 0=k from rfl,eX];have v:=hb.ext (E.trans g);refine aM (Gf M he (tag:=p.2.1) (v.take (n:=k) (m:=k) J (bM _) (by omega)) (by rw[dJ];omega)) λ⟨(y1:Part),_⟩ h6 H L=>?_;have L:y1=_:=L;subst L;dsimp only;refine sU (q:=⟨h.size,0,none⟩) (j:=0) (aI.1 (O.ext (g.trans H)).cells 0 _ rfl) ?_;refine aM (Gf M he (tag:=Ks p.2.1 k) ((v.ext H).tail (i:=k) J) (by rw[cW];omega)) λ⟨(y2:Part),_⟩ h7 e7 N=>?_;have N:y2=_:=N;subst N;dsimp only;have F:=(g.trans H).trans e7;rw[W,Y];refine mY (bs:=PB) (XL ⟨p.1.aD,k,k⟩ p.2.1 ((bJ enc l).take n.toNat)) ((o2.ext e3).ext F) (xF _) λh8 o8 u8=>?_;have b1:=(o1.lt rfl).2;have b2:=(o2.lt rfl).2;dsimp only at b1 b2;have a0:=HE (o3.ext F) u8 (by dsimp only;omega);refine mY (bs:=PB) (XL ⟨bE p.1.aD p.1.cap k 1,p.1.len-k,p.1.cap-k⟩ (Ks p.2.1 k) ((bJ enc l).drop n.toNat)) a0 (xF _) λh9 o9 u9=>?_;have a3:=HE o8 u9 (by dsimp only;omega);refine hS (bs:=PB) a3 (hS (bs:=PB) o9 (aC ⟨rfl,?_,(_,_,()),rfl,rfl,rfl⟩));exact jU.jQ (jU.jQ (E.trans F) u8 (by intro x c;cases c;dsimp only;have:=e1.size;omega)) u9 (by intro x c;cases c;dsimp only;have:=e1.size;have:=e2.size;omega)
end
section
open Go.Sw.Any Go.Sw.Codec
open Go.Sw.Tree (iv fR jR jX mX oS kM rO kK dQ lB)
variable{P:Program}{S:cH}{h:aG}{Q:Nat->bH->aG->Prop}
variable{h':aG}
abbrev aH(x:Int):Value:=.int .i64 x
abbrev dN(s:Sl):Value:=.slice s.aD s.len s.cap
def iH(tag:Int):Nat->List (Int×Int)->List (Int×Int)
 |_,[]=>[]
 |o,t::ts=>(t.1,if tag<0 then -1 else tag+o)::iH tag (o+t.2.toNat) ts
theorem Fu(tag:Int):∀(ts:List (Int×Int)) (o:Nat),(iH tag o ts).length=ts.length
 |[],_=>rfl
 |t::ts,o=>by simp only[iH,fM,Fu tag ts]
theorem Px(tag:Int):∀(ts:List (Int×Int)) (o n:Nat),(iH tag o ts).take n=iH tag o (ts.take n)
 |[],o,n=>by simp[iH]
 |t::ts,o,0=>by simp[iH]
 |t::ts,o,n+1=>by simp only[iH,JM,Px tag ts]
theorem J4(tag:Int):∀(ts:List (Int×Int)) (o n:Nat),(iH tag o ts).drop n=iH tag (o+dM (ts.take n)) (ts.drop n)
 |[],o,n=>by simp[iH]
 |t::ts,o,0=>by simp[dM]
 |t::ts,o,n+1=>by simp only[iH,List.drop_succ_cons,JM,J4 tag ts,nB,BD]
theorem Ng{tag:Int}(k:Nat):∀(ts:List (Int×Int)) (o:Nat),iH (Ks tag k) o ts=iH tag (o+k) ts
 |[],o=>rfl
 |t::ts,o=>by
  simp only[iH,Ng k ts];rw[show o+t.2.toNat+k=o+k+t.2.toNat by omega]
  congr 1
  unfold Ks;by_cases h:0<=tag
  .rw[if_pos h,if_neg (by omega),if_neg (by omega)];congr 1;omega
  .rw[if_neg h,if_pos (by omega),if_pos (by omega)]
abbrev Pc:=Part×bB
def zM(enc:Int)(q:Pc):List (Int×Int):=iH q.1.2.1 0 (bJ enc q.2)
def iG(enc:Int)(ps:List Pc):List (Int×Int):=ps.flatMap (zM enc)
def cV(enc:Int)(ps:List Pc):List (Int×Int):=ps.flatMap λq=>bJ enc q.2
def dR(ps:List Pc):bB:=ps.flatMap λq=>q.2
theorem yW(enc:Int)(ps:List Pc):(iG enc ps).length=(cV enc ps).length:=by
 induction ps with
 |nil=>rfl
 |cons q ps b=>
  unfold iG cV at b⊢;rw[gD,gD,bQ,bQ,b];unfold zM;rw[Fu]
structure St where
 root:OA
 t:Bt Part
 ps:List Pc
structure TX where
 p:Addr
 enc:Int
 limit:Int
 cur:St
 kept:List St
 ad:Sl
 A:bB
 Z:Nat->Prop
structure A3(h:aG)(T:TX)(q:Pc):Prop where
 lO:kW .u8 h q.1.1 q.2
 ne:0<q.2.length
 is:q.1=XL q.1.1 q.1.2.1 (bJ T.enc q.2)
 tag : -1<=q.1.2.1/\q.1.2.1+q.2.length<=65536
 len:q.2.length<=65536
 MO:∀a,q.1.1.aD=some a->T.Z a.block/\a.block≠T.p.block/\∀b,T.ad.aD=some b->a.block=b.block->a.spot=none/\a.off+q.2.length<=T.A.length
structure Lv(S:cH)(h:aG)(T:TX)(s:St):Prop where
 nd:Nd (part S T.Z) h s.root s.t
 ls:s.t.list=s.ps.map (·.1)
 Cx:∀q,q∈s.ps->A3 h T q
 small:(dR s.ps).length<=1099511627776
structure eQ(S:cH)(n:Nat)(h:aG)(T:TX):Prop where
 enc:eM T.enc
 A4:0<=T.limit/\T.limit<=65536
 ob:cA n 1 h ⟨some T.p,4,4⟩ [aH T.enc,aH T.limit, .pointer T.cur.root,dN T.ad]
 ad:bV n .u8 h T.ad T.A
 ed:∀b,T.ad.aD=some b->b.block≠T.p.block
 vb:∀b,T.ad.aD=some b->0<T.A.length
 cur:Lv S h T T.cur
 kept:∀s,s∈T.kept->Lv S h T s
 zp:T.Z T.p.block
 za:∀b,T.ad.aD=some b->T.Z b.block
 lo:∀i,T.Z i->n<=i/\i<h.size
theorem A3.oZ{F:Nat->Prop}{T:TX}{q:Pc}(r:A3 h T q)(c:aV F h h')(b:∀i,T.Z i->¬F i):A3 h' T q:=
 ⟨c.lO r.lO λa ha=>b _ (r.MO a ha).1,r.ne,r.is,r.tag,r.len,r.MO⟩
theorem Lv.oZ{F:Nat->Prop}{h':aG}{T:TX}{s:St}(r:Lv S h T s)(c:aV F h h')(b:∀i,T.Z i->¬F i):Lv S h' T s:=
 ⟨r.nd.oZ c λi _ f=>b i f,r.ls,λq e=>(r.Cx q e).oZ c b,r.small⟩
theorem eQ.oZ{F:Nat->Prop}{n:Nat}{h':aG}{T:TX}(r:eQ S n h T)(c:aV F h h')(b:∀i,T.Z i->¬F i):eQ S n h' T where
 enc:=r.enc
 A4:=r.A4
 ob:=c.own r.ob λx e=>by cases e;exact b _ r.zp
 ad:=c.qL r.ad λx e=>b _ (r.za x e)
 ed:=r.ed
 vb:=r.vb
 cur:=r.cur.oZ c b
 kept:=λs f=>(r.kept s f).oZ c b
 zp:=r.zp
 za:=r.za
 lo:=λi hi=>⟨(r.lo i hi).1,mK (r.lo i hi).2 c.1⟩
theorem eQ.ext{n:Nat}{T:TX}(r:eQ S n h T)(e:Ext h h'):eQ S n h' T:=r.oZ (aV.bD (F:=λ_=>False) e) λ_ _ x=>x
theorem eQ.c0{n:Nat}{T:TX}(r:eQ S n h T):Sw.cell h (T.p.add 0)=some (aH T.enc):=aI.1 r.ob.cells 0 _ rfl
theorem eQ.c1{n:Nat}{T:TX}(r:eQ S n h T):Sw.cell h (T.p.add 1)=some (aH T.limit):=aI.1 r.ob.cells 1 _ rfl
theorem eQ.c2{n:Nat}{T:TX}(r:eQ S n h T):Sw.cell h (T.p.add 2)=some (.pointer T.cur.root):=aI.1 r.ob.cells 2 _ rfl
theorem eQ.c3{n:Nat}{T:TX}(r:eQ S n h T):Sw.cell h (T.p.add 3)=some (dN T.ad):=aI.1 r.ob.cells 3 _ rfl
theorem A3.bytes{T:TX}{q:Pc}(r:A3 h T q):cC q.2:=r.lO.wf
theorem A3.sum{T:TX}{q:Pc}(r:A3 h T q):Jt q.1=rA (bJ T.enc q.2):=by rw[r.is];rfl
theorem A3.wt{T:TX}{q:Pc}(r:A3 h T q):WN q.1=(bJ T.enc q.2).length/\VS (WN q.1) (Jt q.1):=by
 have c:=Ea (oO (enc:=T.enc) r.bytes);have f:=(Aa (enc:=T.enc) r.bytes).2.1 r.ne;have e:q.1.2.2.1=(rA (bJ T.enc q.2)).1:=congrArg Prod.fst r.sum;have b:WN q.1=(bJ T.enc q.2).length:=by unfold WN;rw[e,c.1];omega
 exact⟨b,by rw[b,r.sum];exact VS.rA (oO r.bytes)⟩
theorem Lv.wf{T:TX}{s:St}(r:Lv S h T s):(part S T.Z).wf s.t.list:=by
 intro x b;rw[r.ls]at b;obtain⟨q,c,rfl⟩:=dB.1 b;exact(r.Cx q c).wt.2
theorem yB{enc:Int}{ps:List Pc}(hb:∀q,q∈ps->cC q.2):TI (cV enc ps):=by
 intro t ht;obtain⟨q,b,ht⟩:=GC.1 ht;exact oO (hb q b) t ht
def Ju(l:List Part):oY:=l.foldl (λs r=>kD s (Jt r)) zS
theorem Vt{T:TX}:∀{ps:List Pc},(∀q,q∈ps->A3 h T q)->Ju (ps.map (·.1))=rA (cV T.enc ps):=by
 intro ps;have gen:∀(qs pre:List Pc),(∀q,q∈pre++qs->A3 h T q)->(qs.map (·.1)).foldl (λs r=>kD s (Jt r)) (rA (cV T.enc pre))=rA (cV T.enc (pre++qs)):=by
  intro qs
  induction qs with
  |nil=>intro pre b;simp
  |cons q qs g=>
   intro pre b;have c:=b q (by simp);have hb:∀q,q∈pre->cC q.2:=λq f=>(b q (by simp[f])).bytes;have e:kD (rA (cV T.enc pre)) (Jt q.1)=rA (cV T.enc (pre++[q])):=by
    have:cV T.enc (pre++[q])=cV T.enc pre++bJ T.enc q.2:=by simp[cV]
    rw[this,Ln (yB hb) (oO c.bytes),c.sum]
   rw[fT,CD,e,g (pre++[q]) (by simpa using b)];simp
 intro b;exact gen ps [] (by simpa using b)
theorem nj{T:TX}:∀{ps:List Pc},(∀q,q∈ps->A3 h T q)->((ps.map (·.1)).map WN).sum=(cV T.enc ps).length:=by
 intro ps
 induction ps with
 |nil=>intro _;rfl
 |cons q ps e=>
  intro b;rw[fT,fT,Eh,e (λx c=>b x (eK _ c)),(b q (eO ..)).wt.1];simp[cV]
theorem FY{enc:Int}:∀{ps:List Pc},(∀q,q∈ps->cC q.2)->(cV enc ps).length<=(dR ps).length/\dM (cV enc ps)=(dR ps).length:=by
 intro ps
 induction ps with
 |nil=>intro _;exact⟨bM _,rfl⟩
 |cons q ps f=>
  intro b;have g:=Aa (enc:=enc) (b q (eO ..));have j:=Gu (enc:=enc) (b q (eO ..));have c:=f λx e=>b x (eK _ e);unfold cV dR at c⊢;rw[gD,gD,bQ,bQ,jO];omega
theorem Lv.bytes{T:TX}{s:St}(r:Lv S h T s):∀q,q∈s.ps->cC q.2:=λq b=>(r.Cx q b).bytes
theorem Lv.W{T:TX}{s:St}(r:Lv S h T s):(part S T.Z).W s.t.list=(cV T.enc s.ps).length:=by
 show(List.map WN s.t.list).sum=_;rw[r.ls,nj r.Cx]
theorem Lv.sum{T:TX}{s:St}(r:Lv S h T s):(part S T.Z).sum s.t.list=rA (cV T.enc s.ps):=by
 show Ju s.t.list=_;rw[r.ls,Vt r.Cx]
theorem Lv.Yq{T:TX}{s:St}(r:Lv S h T s)(e:T.limit<=65536):(cV T.enc s.ps).length<=1099511627776/\(part S T.Z).W s.t.list<=1099511627776:=by
 have b:=r.small;have c:=(FY (enc:=T.enc) r.bytes).1;rw[r.W];omega
theorem Lv.room{T:TX}{s:St}(r:Lv S h T s)(b:T.limit<=65536):(part S T.Z).W s.t.list<4398046511104:=R2 (r.Yq b).2 (by decide)
abbrev TR:=OA×Unit
theorem uL{n:Nat}{T:TX}{K:TR->aK}(r:eQ S n h T)(c:wp P (K (T.cur.root,())) h Q):wp P (bF (aJ (some T.p))<|bF (aJ (some T.p))<|.load (.agg [.ptr]) (aB (some T.p) 2) K) h Q:=
 aL rfl (aL rfl ⟨T.p.add 2,rfl,(T.cur.root,()),aI.2 λj v b=>by
  match j,b with
  |0,b=>simp[Ty.cells,Bs.inj]at b;subst b;rw[add_zero'];exact r.c2
  |j+1,b=>simp[Ty.cells,Bs.inj]at b,c⟩)
theorem ax{n:Nat}{T:TX}{K:Int->aK}(r:eQ S n h T)(c:wp P (K T.enc) h Q):wp P (bF (aJ (some T.p))<|bF (aJ (some T.p))<|.load (tI) (aB (some T.p) 0) K) h Q:=
 aL rfl (aL rfl (bC (b:=bI) _ T.enc rfl r.c0 c))
theorem YR{n:Nat}{T:TX}(r:eQ S n h T):aS P (tX S (T.cur.root,())) [.agg SB] h λ(x:oY×Unit) _=>x.1=rA (cV T.enc T.cur.ps):=by
 have c:=r.cur.Yq r.A4.2;have:=vv (Ch S T.Z (P:=P)) r.cur.nd r.cur.wf (rX (r.cur.room r.A4.2));exact aS.mono this λx h' e b=>b.trans r.cur.sum
theorem VV{n:Nat}{T:TX}(r:eQ S n h T):aS P (uI S (some T.p)) [tI] h λ(x:Int×Unit) _=>x.1=(iG T.enc T.cur.ps).length:=by
 unfold uI aS;refine uL r (aM (YR r) λx e c b=>aC ⟨rfl,c,(_,()),rfl,?_⟩);have b:x.1=_:=b;show x.1.1=_;rw[b,(Ea (yB r.cur.bytes)).1,yW]
theorem Hj{n:Nat}{T:TX}(r:eQ S n h T):aS P (BL S (some T.p)) [tI] h λ(x:Int×Unit) _=>x.1=(dR T.cur.ps).length:=by
 unfold BL aS;refine uL r (aM (YR r) λx e c b=>aC ⟨rfl,c,(_,()),rfl,?_⟩);have b:x.1=_:=b;show x.1.2.1=_;rw[b,(Ea (yB r.cur.bytes)).2,(FY r.cur.bytes).2]
def Sr(enc:Int)(ps:List Pc)(at_:Int)(i n:Nat):Prop:=
 i<=ps.length/\(at_:Int)=(cV enc (ps.take i)).length+n/\(at_=0->i=0/\n=0)/\(0<at_->∃q,ps[i]?=some q/\0<n/\n<=(bJ enc q.2).length)
theorem Hf{enc:Int}(ps:List Pc)(i:Nat):(cV enc (ps.take i)).length<=(cV enc ps).length:=by
 have:cV enc ps=cV enc (ps.take i)++cV enc (ps.drop i):=by unfold cV;rw[<-gX,eY]
 rw[this,bQ];omega
theorem HR{enc:Int}{ps:List Pc}{i:Nat}{q:Pc}(b:ps[i]?=some q):cV enc (ps.take (i+1))=cV enc (ps.take i)++bJ enc q.2:=by
 rw[eN,b];simp[cV]
theorem U8{T:TX}{ps:List Pc}(e:∀q,q∈ps->A3 h T q)(i:Nat):Hu (Ju ((ps.map (·.1)).take i)) 0=(cV T.enc (ps.take i)).length:=by
 have c:(ps.map (·.1)).take i=(ps.take i).map (·.1):=Eg.symm;have b:∀q,q∈ps.take i->A3 h T q:=λq h=>e q (rW h);rw[c,Vt b];unfold Hu;rw[if_pos rfl,(Ea (yB λq h=>(b q h).bytes)).1]
theorem Qn{n:Nat}{T:TX}{at_:Int}(r:eQ S n h T)(h0:0<=at_)(h1:at_<=(cV T.enc T.cur.ps).length) :
  aS P (rF S (some T.p) at_) [tI, tI] h λ(x:Int×Int×Unit) _=>∃i n:Nat,x.1=i/\x.2.1=n/\Sr T.enc T.cur.ps at_ i n:=by
 unfold rF aS;have A:=r.cur.Yq r.A4.2;refine aE (λg=>?_) λg=>?_
 .rw[gG]at g
  have:at_=0:=by omega
  subst this;exact aC ⟨rfl,Ext.refl _,(0,0,()),rfl,0,0,rfl,rfl,cO _,rfl,λ_=>⟨rfl,rfl⟩,λh=>absurd h (by decide)⟩
 rw[mN]at g;refine uL r ?_;refine aM (R:=λ(x:Int×Unit) _=>Any.Found (part S T.Z) T.cur.t.list 0 at_ x.1) (oj (Ch S T.Z (P:=P)) r.cur.nd r.cur.wf (r.cur.room r.A4.2)) λ⟨(f:Int),_⟩ o m b=>?_;have b:(f=0/\at_<=0)\/(1<=f/\f<=T.cur.t.list.length/\at_<=Hu (Ju (T.cur.t.list.take f.toNat)) 0/\Hu (Ju (T.cur.t.list.take (f.toNat-1))) 0<at_)\/(f=T.cur.t.list.length+1/\Hu (Ju T.cur.t.list) 0<at_):=b;dsimp only;have c:=r.ext m;have hlen:T.cur.t.list.length=T.cur.ps.length:=by rw[r.cur.ls,cE]
 have B:T.cur.ps.length<=1099511627776:=by have h1:=qR (Ch S T.Z (P:=P)) T.cur.t.list;have o:=dI h1 A.2;rw[<-hlen];exact o
 rw[r.cur.ls]at b;simp only[U8 r.cur.Cx]at b;rw[cE]at b;have k:Hu (Ju (T.cur.ps.map (·.1))) 0=(cV T.enc T.cur.ps).length:=by
  have:=U8 r.cur.Cx T.cur.ps.length
  rwa [iY (by simp),iY (bM _)]at this
 rw[k]at b;obtain⟨C,D,z,E⟩:1<=f/\f<=T.cur.ps.length/\at_<=(cV T.enc (T.cur.ps.take f.toNat)).length/\((cV T.enc (T.cur.ps.take (f.toNat-1))).length:Int)<at_:=by
  rcases b with⟨_,b⟩|b|⟨_,b⟩
  .omega
  .exact b
  .omega
 refine uL c ?_;rw[bY (by omega) (by omega)];refine aM (R:=λ(x:oY×Unit) _=>x.1=Ju (T.cur.t.list.take (f-1).toNat)) (VX (Ch S T.Z (P:=P)) c.cur.nd c.cur.wf (c.cur.room c.A4.2)) λ⟨(s:oY),_⟩ F w j=>?_;have j:s=_:=j;dsimp only;have hi:(f-1).toNat=f.toNat-1:=by omega
 have v:s.1=(cV T.enc (T.cur.ps.take (f.toNat-1))).length:=by
  have:=U8 r.cur.Cx (f.toNat-1);rw[j,hi,r.cur.ls,<-this];rfl
 obtain⟨q,u⟩:∃q,T.cur.ps[f.toNat-1]?=some q:=⟨T.cur.ps[f.toNat-1]'(by omega),cK (by omega)⟩;have e:=HR (enc:=T.enc) u;rw[show f.toNat-1+1=f.toNat by omega]at e;rw[e,bQ]at z;rw[v,bY (by omega) (by omega)];refine aC ⟨rfl,m.trans w,(_,_,()),rfl,f.toNat-1,(at_-(cV T.enc (T.cur.ps.take (f.toNat-1))).length).toNat,?_,?_,by omega,by omega,λh=>by omega,λ_=>⟨q,u,by omega,by omega⟩⟩
 .show f-1=_;omega
 .show at_-_=_;omega
end
section
open Go.Sw.Any Go.Sw.Codec
open Go.Sw.Tree (iv fR jR jX mX oS kM rO kK dQ lB)
variable{P:Program}{S:cH}{h:aG}{Q:Nat->bH->aG->Prop}
def we(S:cH)(t:OA)(a:Addr)(m:Int)(fin:Addr->Addr->aK):aK:=
 .both (.load (.agg PB) (some a) λ(r:Part)=>bF (aJ t)<|bF (aJ t)<|.load (tI) (aB t 0) λ(n:Int)=>
  .call (dT S r n m) [.agg PB, .agg PB] λ(c:Part×Part×Unit)=>
  .alloc (Bs.inj PB zP) λA=>.check (aB t 0) [aH n]<|.check (some a) (Bs.inj PB r)<|
  .alloc (Bs.inj PB zP) λB=>.check (aB t 0) [aH n]<|.check (some a) (Bs.inj PB r)<|
  .store (some A) (Bs.inj PB c.1)<|.store (some B) (Bs.inj PB c.2.1)<|fin A B)<|
 .both (.load (.agg PB) (some a) λ(r:Part)=>bF (aJ t)<|bF (aJ t)<|.load (tI) (aB t 0) λ(n:Int)=>
  .call (dT S r n m) [.agg PB, .agg PB] λ(c:Part×Part×Unit)=>
  .alloc (Bs.inj PB zP) λA=>.check (aB t 0) [aH n]<|.check (some a) (Bs.inj PB r)<|
  .alloc (Bs.inj PB zP) λB=>.check (aB t 0) [aH n]<|.check (some a) (Bs.inj PB r)<|
  .store (some B) (Bs.inj PB c.1)<|.store (some A) (Bs.inj PB c.2.1)<|fin B A)<|
 .both (.load (.agg PB) (some a) λ(r:Part)=>bF (aJ t)<|bF (aJ t)<|.load (tI) (aB t 0) λ(n:Int)=>
  .alloc (Bs.inj PB zP) λA=>.check (aB t 0) [aH n]<|.check (some a) (Bs.inj PB r)<|
  .call (dT S r n m) [.agg PB, .agg PB] λ(c:Part×Part×Unit)=>
  .alloc (Bs.inj PB zP) λB=>.check (aB t 0) [aH n]<|.check (some a) (Bs.inj PB r)<|
  .store (some A) (Bs.inj PB c.1)<|.store (some B) (Bs.inj PB c.2.1)<|fin A B)<|
 .both (.load (.agg PB) (some a) λ(r:Part)=>bF (aJ t)<|bF (aJ t)<|.load (tI) (aB t 0) λ(n:Int)=>
  .alloc (Bs.inj PB zP) λA=>.check (aB t 0) [aH n]<|.check (some a) (Bs.inj PB r)<|
  .alloc (Bs.inj PB zP) λB=>.check (aB t 0) [aH n]<|.check (some a) (Bs.inj PB r)<|
  .call (dT S r n m) [.agg PB, .agg PB] λ(c:Part×Part×Unit)=>
  .store (some A) (Bs.inj PB c.1)<|.store (some B) (Bs.inj PB c.2.1)<|fin A B)<|
 .both (.load (.agg PB) (some a) λ(r:Part)=>bF (aJ t)<|bF (aJ t)<|.load (tI) (aB t 0) λ(n:Int)=>
  .alloc (Bs.inj PB zP) λA=>.check (aB t 0) [aH n]<|.check (some a) (Bs.inj PB r)<|
  .call (dT S r n m) [.agg PB, .agg PB] λ(c:Part×Part×Unit)=>
  .alloc (Bs.inj PB zP) λB=>.check (aB t 0) [aH n]<|.check (some a) (Bs.inj PB r)<|
  .store (some B) (Bs.inj PB c.1)<|.store (some A) (Bs.inj PB c.2.1)<|fin B A)<|
 (.load (.agg PB) (some a) λ(r:Part)=>bF (aJ t)<|bF (aJ t)<|.load (tI) (aB t 0) λ(n:Int)=>
  .alloc (Bs.inj PB zP) λA=>.check (aB t 0) [aH n]<|.check (some a) (Bs.inj PB r)<|
  .alloc (Bs.inj PB zP) λB=>.check (aB t 0) [aH n]<|.check (some a) (Bs.inj PB r)<|
  .call (dT S r n m) [.agg PB, .agg PB] λ(c:Part×Part×Unit)=>
  .store (some B) (Bs.inj PB c.1)<|.store (some A) (Bs.inj PB c.2.1)<|fin B A)
abbrev EM(n:Nat)(h:aG)(a:Addr)(x:Part):Prop:=cA n 1 h ⟨some a,7,7⟩ (Bs.inj PB x)
theorem UL(M:kJ P S){V W:Nat}{T:TX}{a:Addr}{x:Part}{bs:bB}{m:Int}{fin:Addr->Addr->aK}(r:eQ S V h T)(q:A3 h T (x,bs))(o:EM W h a x)(h0:0<=m)(hm:m<=(bJ T.enc bs).length)
  (u:∀h' A B,Ext h h'->EM h.size h' A (FA T.enc x bs m.toNat)->EM h.size h' B (He T.enc x bs m.toNat)->wp P (fin A B) h' Q):wp P (we S (some T.p) a m fin) h Q:=by
 have j:∀{h':aG} {K:Addr->aK},Ext h h'->(∀k,Ext h' k->EM h'.size k ⟨h'.size,0,none⟩ zP->wp P (K ⟨h'.size,0,none⟩) k Q) ->
   wp P (.alloc (Bs.inj PB zP) λA=>.check (aB (some T.p) 0) [aH T.enc]<|.check (some a) (Bs.inj PB x)<|K A) h' Q:=λ{h' K} e u=>
  gO (bs:=PB) zP (by decide) λg b o2=>sU (r.ext (e.trans b)).c0 (PW (bs:=PB) (o.ext (e.trans b)) (u g b o2))
 have fs:∀{h':aG} {A B:Addr} {mA H:Nat},Ext h h'->h.size<=mA->h.size<=H->A.block≠B.block->EM mA h' A zP->EM H h' B zP ->
   wp P (.store (some A) (Bs.inj PB (FA T.enc x bs m.toNat))<|.store (some B) (Bs.inj PB (He T.enc x bs m.toNat))<|fin A B) h' Q:=λ{h' A B mA H} e J L F N O=>
  mY (bs:=PB) _ N (xF _) λt o1 R=>mY (bs:=PB) _ (HE O R F) (xF _) λg o2 U=>
   u g A B (jU.jQ (jU.jQ e R (by intro z G;cases G;have:=(N.lt rfl).1;exact dI J this)) U (by intro z G;cases G;have:=(O.lt rfl).1;exact dI L this)) ((HE o1 U F.symm).mono J) (o2.mono L)
 have w:∀{h':aG} {K:Part×Part×Unit->aK},Ext h h'->(∀k,Ext h' k->wp P (K (FA T.enc x bs m.toNat,He T.enc x bs m.toNat,())) k Q)->wp P (.call (dT S x T.enc m) [.agg PB, .agg PB] K) h' Q:=λ{h' K} e u=>
  aM (VZ M r.enc (q.lO.ext e) (show bs.length<=_ from dI q.len (by decide)) h0 hm (by have:=q.tag;dsimp only at this⊢;omega)) λ⟨(X:Part),(Y:Part),_⟩ g b ⟨D,E⟩=>by
   have D:X=_:=D;have E:Y=_:=E;subst D;subst E;exact u g b
 have st:∀{K:Part->Int->aK},wp P (K x T.enc) h Q->wp P (.load (.agg PB) (some a) λ(r:Part)=>bF (aJ (some T.p))<|bF (aJ (some T.p))<|.load (tI) (aB (some T.p) 0) λ(n:Int)=>K r n) h Q:=λu=>hS (bs:=PB) o (ax r u);have E0:=Ext.refl h;unfold we;refine⟨?_,?_,?_,?_,?_,?_⟩
 .exact st (w E0 λt c=>j c λg b o2=>j (c.trans b) λC f v=>fs ((c.trans b).trans f) (by have:=c.size;omega) (by have:=c.size;have:=b.size;omega) (by have:=(o2.lt rfl).2;dsimp only at this⊢;omega) (o2.ext f) v)
 .exact st (w E0 λt c=>j c λg b o2=>j (c.trans b) λC f v=>fs ((c.trans b).trans f) (by have:=c.size;have:=b.size;omega) (by have:=c.size;omega) (by have:=(o2.lt rfl).2;dsimp only at this⊢;omega) v (o2.ext f))
 .exact st (j E0 λt c o1=>w c λg b=>j (c.trans b) λC f v=>fs ((c.trans b).trans f) (by omega) (by have:=c.size;have:=b.size;omega) (by have:h.size<t.size:=(o1.lt rfl).2;have:=b.size;show h.size≠g.size;omega) (o1.ext (b.trans f)) v)
 .exact st (j E0 λt c o1=>j c λg b o2=>w (c.trans b) λC f=>fs ((c.trans b).trans f) (by omega) (by have:=c.size;omega) (by have:=(o1.lt rfl).2;dsimp only at this⊢;omega) (o1.ext (b.trans f)) (o2.ext f))
 .exact st (j E0 λt c o1=>w c λg b=>j (c.trans b) λC f v=>fs ((c.trans b).trans f) (by have:=c.size;have:=b.size;omega) (by omega) (by have:h.size<t.size:=(o1.lt rfl).2;have:=b.size;show g.size≠h.size;omega) v (o1.ext (b.trans f)))
 .exact st (j E0 λt c o1=>j c λg b o2=>w (c.trans b) λC f=>fs ((c.trans b).trans f) (by have:=c.size;omega) (by omega) (by have:=(o1.lt rfl).2;dsimp only at this⊢;omega) (o2.ext f) (o1.ext (b.trans f)))
theorem Xy{enc:Int}{ps:List Pc}{at_:Int}{i n:Nat}(f:Sr enc ps at_ i n)(h0:0<=at_):(ps[i]?=none/\n=0/\ps=[]/\(cV enc ps).take at_.toNat=cV enc (ps.take i)) \/
  ∃q,ps[i]?=some q/\n<=(bJ enc q.2).length/\(cV enc ps).take at_.toNat=cV enc (ps.take i)++(bJ enc q.2).take n:=by
 obtain⟨f1,f2,f3,f4⟩:=f;have b:∀q,ps[i]?=some q->n<=(bJ enc q.2).length->(cV enc ps).take at_.toNat=cV enc (ps.take i)++(bJ enc q.2).take n:=λq c m=>by
  have g:cV enc ps=cV enc (ps.take i)++(bJ enc q.2++cV enc (ps.drop (i+1))):=by
   have j:=HR (enc:=enc) c;rw[<-dX,<-j];unfold cV;rw[<-gX,eY]
  have k:at_.toNat=(cV enc (ps.take i)).length+n:=by omega
  rw[k,g,JN,iY (by omega),Ar,As m]
 by_cases h:0<at_
 .obtain⟨q,c,o,e⟩:=f4 h
  exact .inr ⟨q,c,e,b q c e⟩
 .obtain⟨rfl,rfl⟩:=f3 (by omega)
  cases ps with
  |nil=>exact .inl ⟨rfl,rfl,rfl,by simp[cV]⟩
  |cons q ps=>exact .inr ⟨q,rfl,cO _,b q rfl (cO _)⟩
theorem VY(M:kJ P S){n:Nat}{T:TX}{at_:Int}(r:eQ S n h T)(h0:0<=at_)(h1:at_<=(cV T.enc T.cur.ps).length) :
  aS P (vF S (some T.p) at_) [.agg SB] h λ(x:oY×Unit) _=>x.1=rA ((cV T.enc T.cur.ps).take at_.toNat):=by
 unfold vF aS;have hf:=r.cur.Yq r.A4.2;have O:=Ch S T.Z (P:=P);refine gO (bs:=SB) zS (by decide) λha ea oa=>?_;have ra:=r.ext ea;refine aM (Qn ra h0 h1) λ⟨(i':Int),(m':Int),_⟩ h2 e2 ⟨i,m,hi,hm,f⟩=>?_;have hi:i'=i:=hi;have hm:m'=m:=hm;subst hi;subst hm;dsimp only;have E:=ra.ext e2;have a9:T.cur.ps.length<=1099511627776:=by
  have hlen:T.cur.t.list.length=T.cur.ps.length:=by rw[r.cur.ls,cE]
  have h1:=qR O T.cur.t.list;have h2:=dI h1 hf.2;rw[<-hlen];exact h2
 have a4:=f.1;refine uL E (aM (R:=λ(x:oY×Unit) _=>x.1=Ju (T.cur.t.list.take ((i:Int)).toNat)) (VX O E.cur.nd E.cur.wf (E.cur.room E.A4.2)) λ⟨(s:oY),_⟩ G e3 H=>?_);have H:s=rA (cV T.enc (T.cur.ps.take i)):=by
  have H:s=_:=H;rw[H,cR,r.cur.ls,<-Eg,Vt λq u=>r.cur.Cx q (rW u)]
 subst H;dsimp only;refine HO (bs:=SB) (z:=zS) (rA (cV T.enc (T.cur.ps.take i))) (by decide) (EE _) λh4 L o4=>?_;have g:=(E.ext e3).ext L;have w:∀q,q∈T.cur.ps->cC q.2:=r.cur.bytes;refine cZ (λt K h'=>t=0/\K=[]/\Ext G h'/\cA G.size 1 h' ⟨some ⟨G.size,0,none⟩,5,5⟩ (Bs.inj SB (rA ((cV T.enc T.cur.ps).take at_.toNat)))) ?_ ?_
 .rcases Xy f h0 with⟨u,rfl,ao,J⟩|⟨q,u,hn,J⟩
  .refine uL g (aM (R:=λ(y:Part×Bool×Unit) _=>y.1=zP/\y.2.1=false) (UC O g.cur.nd (rX (g.cur.room g.A4.2)) (by omega) (.inr ?_)) λ⟨(y:Part),(ok:Bool),_⟩ h5 k ⟨W,c⟩=>?_)
   .have:T.cur.t.list=[]:=by rw[r.cur.ls,ao];rfl
    show((List.length T.cur.t.list:Nat):Int)<=_;rw[this];simp
   .have c:ok=false:=c
    subst c;dsimp only;refine gO (bs:=PB) zP (by decide) λh6 N o6=>mY (bs:=PB) y o6 (xF _) λV o7 Y=>lW (aC ⟨rfl,rfl,?_,?_⟩)
    .exact jU.jQ ((L.trans k).trans N) Y (by intro x C;cases C;have:=L.size;have:=k.size;dsimp only;omega)
    .rw[J]
     exact HE ((o4.ext k).ext N) Y (by have:G.size<h4.size:=(o4.lt rfl).2;have:=k.size;show h5.size≠G.size;omega)
  .have C:T.cur.t.list[((i:Int)).toNat]?=some q.1:=by rw[cR,r.cur.ls,gQ,u];rfl
   refine uL g (aM (R:=λ(y:Part×Bool×Unit) _=>y.1=q.1/\y.2.1=true) (oh O g.cur.nd g.cur.wf (rX (g.cur.room g.A4.2)) (by omega) C) λ⟨(y:Part),(ok:Bool),_⟩ h5 k ⟨W,c⟩=>?_);have c:ok=true:=c;have W:y=q.1:=W;subst c;subst W;dsimp only;refine gO (bs:=PB) zP (by decide) λh6 N o6=>mY (bs:=PB) q.1 o6 (xF _) λV o7 Y=>mW ?_;have F:Ext h4 V:=jU.jQ (k.trans N) Y (by intro x C;cases C;have:=k.size;dsimp only;omega);have r7:=g.ext F;have D:=eL u;have pc:=r7.cur.Cx q D;refine cZ (λt K h'=>t=0/\Ext V h'/\∃A:Addr,K=[.pointer (some A)]/\EM V.size h' A (FA T.enc q.1 q.2 m)) ?_ ?_
   .refine UL M (fin:=λA B=>.ret 0 [.pointer (some A)]) r7 (x:=q.1) (bs:=q.2) pc o7 (by omega) (by omega) λh8 A B U X oB=>aC ⟨rfl,U,A,rfl,?_⟩
    rw[cR]at X;exact X
   .rintro t K h8 ⟨rfl,U,A,rfl,X⟩
    refine bG (Cn (tys:=[tP]) (some A,()) rfl ?_);dsimp only;have al:=(o4.ext F).ext U;refine hS (bs:=SB) al (aL rfl ?_);refine⟨A.add 2,rfl,rA ((bJ T.enc q.2).take m),aI.2 λj v b=>?_,?_⟩
    .rw[add_add]
     refine aI.1 X.cells _ _ ?_
     match j,b with
     |0,b=>exact b
     |1,b=>exact b
     |2,b=>exact b
     |3,b=>exact b
     |4,b=>exact b
     |j+5,b=>simp[Ty.cells,Bs.inj]at b
    .have v1:=VS.rA (yB (enc:=T.enc) (ps:=T.cur.ps.take i) λq u=>w q (rW u))
     have v2:=VS.rA ((oO (enc:=T.enc) (w q D)).take m);have a7:=Hf (enc:=T.enc) T.cur.ps i;have a8:=Aa (enc:=T.enc) (w q D);have:=pc.len;refine aM (YI v1 v2 (by rw[dJ];omega)) λ⟨(o:oY),_⟩ h9 e9 ho=>?_;have ho:o=_:=ho;subst ho;dsimp only;refine mY (bs:=SB) _ (al.ext e9) (EE _) λa3 aw a0=>aC ⟨rfl,rfl,jU.jQ (((L.trans F).trans U).trans e9) a0 (by intro x C;cases C;exact bM _),?_⟩;rw[J,Ln (yB λq u=>w q (rW u)) ((oO (w q D)).take m)];exact aw
 .rintro t K h5 ⟨rfl,rfl,k,o5⟩
  have ab:=(e2.trans e3).trans k;exact bG (bO (hS (bs:=SB) o5 (zC (bs:=SB) _ (oa.ext ab) (bM _) (ea.trans ab) (EE _) λh' e=>⟨rfl,e,(_,()),rfl,rfl⟩)))
end
section
open Go.Sw.Any Go.Sw.Codec
open Go.Sw.Tree (iv fR jR jX mX oS kM rO kK dQ lB)
variable{P:Program}{S:cH}{h:aG}{Q:Nat->bH->aG->Prop}
variable{i:Nat}{ts:List (Int×Int)}
abbrev jT:Sh:=.str (.pair (.int .i64) (.pair (.int .i64) (.pair (.list (.int .i64)) .unit)))
abbrev iM:=Int×Int×(Sl×bB)×Unit
abbrev GO:=Sl×List iM
def aX(es:List iM):bB:=es.flatMap λe=>e.2.2.1.2
theorem D4{x:GO}{e:iM}{j:Nat}{K:Addr->aK}(m:(Sh.list jT).ok h x)(g:x.2[j]?=some e)
  (k:∀a h',Ext h h'->h.size<=a.block->cA h.size 1 h' ⟨some a,3,3⟩ [aH e.1,aH e.2.1,dN e.2.2.1.1]->wp P (K a) h' Q) :
  wp P (bF (bN (aJ x.1.aD) (eU (j:Int) x.1.len))<|.load (.agg [.int .i64, .int .i64, .sl]) (aB x.1.aD (aZ (bP (j:Int)) 3)) λ(r:Int×Int×Sl×Unit)=>
   .alloc [aH 0,aH 0, .slice none 0 0] λa=>.store (some a) [aH r.1,aH r.2.1,dN r.2.2.1] (K a)) h Q:=by
 refine Rr (e:=jT) (x:=x) m (by omega) (by simpa using g) rfl (z:=(e.1,e.2.1,e.2.2.1.1,())) rfl ?_;dsimp only;refine λelem=>?_;have b:Ext h (h.push (.cells [aH 0,aH 0, .slice none 0 0].toArray elem)):=Ext.push ..;have o1:cA h.size 1 (h.push (.cells [aH 0,aH 0, .slice none 0 0].toArray elem)) ⟨some ⟨h.size,0,none⟩,3,3⟩ [aH 0,aH 0, .slice none 0 0]:=bR rfl (by decide) (by decide);generalize h.push (.cells [aH 0,aH 0, .slice none 0 0].toArray elem)=p at b o1⊢;exact Am [aH e.1,aH e.2.1,dN e.2.2.1.1] o1 rfl (by intro v c;simp only[eH,lG,or_false]at c;rcases c with rfl|rfl|rfl<;>rfl) λf o2 o q=>
  k _ f (jU.jQ b o (by intro x n;cases n;exact bM _)) (bM _) o2
def uQ(len:Int):Int->List iM->Prop
 |_,[]=>True
 |at_,e::es=>at_<=e.1/\e.1<=e.2.1/\e.2.1<=len/\uQ len e.2.1 es
def dG:Int->List iM->Int
 |at_,[]=>at_
 |_,e::es=>dG e.2.1 es
theorem uQ.append{len:Int}:∀{xs:List iM} {at_:Int} {f:List iM},uQ len at_ (xs++f)↔uQ len at_ xs/\uQ len (dG at_ xs) f
 |[],at_,f=>by simp[uQ,dG]
 |x::xs,at_,f=>by
  simp only[Ee,uQ,dG,uQ.append (xs:=xs)];exact⟨λ⟨a,b,c,d,e⟩=>⟨⟨a,b,c,d⟩,e⟩,λ⟨⟨a,b,c,d⟩,e⟩=>⟨a,b,c,d,e⟩⟩
theorem zT:∀{xs:List iM} {at_:Int} {e:iM},dG at_ (xs++[e])=e.2.1
 |[],_,_=>rfl
 |x::xs,at_,e=>zT (xs:=xs)
theorem uQ.at{len:Int}{es:List iM}{at_:Int}(h:uQ len at_ es){i:Nat}{e:iM}(hi:es[i]?=some e):dG at_ (es.take i)<=e.1/\e.1<=e.2.1/\e.2.1<=len:=by
 have c:es=es.take i++(e::es.drop (i+1)):=by
  have b:=(cQ.1 hi).1;have:=(cQ.1 hi).2;rw[<-this,<-gY b,eY]
 rw[c,uQ.append]at h;exact⟨h.2.1,h.2.2.1,h.2.2.2.1⟩
theorem Dd{len:Int}:∀{es:List iM} {at_:Int},uQ len at_ es->at_<=dG at_ es
 |[],_,_=>kR _
 |e::es,at_,⟨a,b,_,d⟩=>by have:=Dd d;simp only[dG];omega
theorem uQ.take{len:Int}{es:List iM}{at_:Int}(h:uQ len at_ es)(i:Nat):uQ len at_ (es.take i):=by
 have b:=eY i es;rw[<-b,uQ.append]at h;exact h.1
def fF(enc:Int)(l:bB):Int:=(l.map (bX enc)).sum
theorem nJ(enc:Int)(l m:bB):fF enc (l++m)=fF enc l+fF enc m:=by simp[fF]
theorem zZ(enc:Int)(l:bB):0<=fF enc l/\fF enc l<=4*l.length:=by
 induction l with
 |nil=>simp[fF]
 |cons a l e=>
  have b:=Dp enc a;have c:=zY enc a;have:fF enc (a::l)=bX enc a+fF enc l:=by simp[fF]
  rw[this,fM];omega
def xH(ts:List (Int×Int))(es:List iM):Int:=(es.map λe=>(dM (ts.take e.2.1.toNat):Int)-dM (ts.take e.1.toNat)).sum
def jV(enc:Int)(l:bB):Prop:=∀a,a∈l->0<bX enc a
inductive Lu(enc limit:Int)(ts:List (Int×Int))(es:List iM):Int->Prop where
 |many:70000<es.length->Lu enc limit ts es 3
 |place:es.length<=70000->¬uQ ts.length 0 es->Lu enc limit ts es 2
 |fit:es.length<=70000->uQ ts.length 0 es->¬jV enc (aX es)->Lu enc limit ts es 11
 |full:es.length<=70000->uQ ts.length 0 es->jV enc (aX es)->limit<dM ts+fF enc (aX es)-xH ts es->Lu enc limit ts es 50
 |ok:es.length<=70000->uQ ts.length 0 es->jV enc (aX es)->dM ts+fF enc (aX es)-xH ts es<=limit->Lu enc limit ts es 0
theorem uT{es:List iM}{e:iM}(hi:es[i]?=some e):aX (es.take (i+1))=aX (es.take i)++e.2.2.1.2:=by
 rw[eN,hi];simp[aX]
theorem Dj(es:List iM)(i:Nat):(aX (es.take i)).length<=(aX es).length:=by
 have:aX es=aX (es.take i)++aX (es.drop i):=by unfold aX;rw[<-gX,eY]
 rw[this,bQ];omega
theorem U4{es:List iM}{e:iM}(hi:es[i]?=some e):xH ts (es.take (i+1))=xH ts (es.take i)+((dM (ts.take e.2.1.toNat):Int)-dM (ts.take e.1.toNat)):=by
 rw[eN,hi];simp[xH]
theorem wQ(ts:List (Int×Int))(n:Nat):dM (ts.take n)<=dM ts:=by
 have:=jO (ts.take n) (ts.drop n);rw[eY]at this;omega
theorem ZB(es:List iM) : -(dM ts:Int)*es.length<=xH ts es/\xH ts es<=dM ts*es.length:=by
 induction es with
 |nil=>simp[xH]
 |cons e es j=>
  have f:=wQ ts e.2.1.toNat;have g:=wQ ts e.1.toNat;have:xH ts (e::es)=((dM (ts.take e.2.1.toNat):Int)-dM (ts.take e.1.toNat))+xH ts es:=by simp[xH]
  rw[this,fM];have b : -(dM ts:Int)*((es.length+1:Nat):Int) = -(dM ts:Int)*es.length + -(dM ts:Int):=by push_cast;rw[Int.mul_add,Int.mul_one]
  have c:(dM ts:Int)*((es.length+1:Nat):Int)=(dM ts:Int)*es.length+(dM ts:Int):=by push_cast;rw[Int.mul_add,Int.mul_one]
  rw[b,c];omega
theorem Y4(M:kJ P S){n:Nat}{T:TX}{x:GO}(r:eQ S n h T)(J:(Sh.list jT).ok h x)(c4:(aX x.2).length<=1099511627776)(b6:(dR T.cur.ps).length<=T.limit) :
  aS P (yN S (some T.p) x.1) [tI] h λ(y:Int×Unit) _=>Lu T.enc T.limit (cV T.enc T.cur.ps) x.2 y.1:=by
 have m:=J.len;have b9:=J.2.1;have cg:=J.2.2.1;have hf:=r.cur.Yq r.A4.2;have cf:=r.A4;have ao:=(FY (enc:=T.enc) r.cur.bytes).2;unfold yN aS;refine aE (λc=>aC ⟨rfl,Ext.refl _,(3,()),rfl, .many ?_⟩) λc=>?_
 .rw[dL,aN,m]at c;omega
 rw[gF,aN,m]at c;have B:x.2.length<=70000:=by omega
 refine aM (VV r) λ⟨(L:Int),_⟩ h1 e1 hL=>?_;have hL:L=(cV T.enc T.cur.ps).length:=by have hL:L=_:=hL;rw[hL,yW]
 subst hL;dsimp only;generalize W:cV T.enc T.cur.ps=ts at *;refine bL (λ(s:Int×Int×Unit) h'=>Ext h h'/\∃i:Nat,s.2.1=i/\i<=x.2.length/\uQ ts.length 0 (x.2.take i)/\s.1=dG 0 (x.2.take i)) (λs _=>((x.2.length:Int)-s.2.1).toNat)
  (λt k h'=>Ext h h'/\((t=2/\k=[]/\uQ ts.length 0 x.2)\/(t=1/\k=[aH 2]/\¬uQ ts.length 0 x.2))) ⟨e1,0,rfl,cO _,trivial,rfl⟩ ?_ ?_
 .rintro⟨(at_:Int),i',u⟩ h2 ⟨D,i,hi,a0,N,ha⟩
  dsimp only at hi ha⊢;subst hi;subst ha;refine aE (λc=>?_) λc=>?_
  .rw[aU,aN,m]at c
   obtain⟨e,f⟩:∃e,x.2[i]?=some e:=⟨x.2[i]'(by omega),cK (by omega)⟩;refine D4 (J.ext D) f λa h3 e3 _ o3=>?_;have l0:∀{K:Int->aK} {Q:Nat->bH->aG->Prop} {h'},Ext h3 h'->wp P (K e.1) h' Q->wp P (.load (tI) (aB (some a) 0) K) h' Q:=λq H=>bC (b:=bI) _ e.1 rfl (aI.1 (o3.ext q).cells 0 _ rfl) H;have l1:∀{K:Int->aK} {Q:Nat->bH->aG->Prop} {h'},Ext h3 h'->wp P (K e.2.1) h' Q->wp P (.load (tI) (aB (some a) 1) K) h' Q:=λq H=>bC (b:=bI) _ e.2.1 rfl (aI.1 (o3.ext q).cells 1 _ rfl) H;have F:x.2.take (i+1)=x.2.take i++[e]:=by rw[eN,f];rfl
   refine bZ (¬(dG 0 (x.2.take i)<=e.1/\e.1<=e.2.1/\e.2.1<=ts.length)) ?_ λbb h4 w hb=>aE (λc=>?_) λc=>?_
   .refine l0 (Ext.refl _) (aE (λc=>aC ⟨rfl,Ext.refl _,true,rfl,?_⟩) λc=>l1 (Ext.refl _) (l0 (Ext.refl _) (aE (λo=>aC ⟨rfl,Ext.refl _,true,rfl,?_⟩) λo=>l1 (Ext.refl _) (aC ⟨rfl,Ext.refl _,_,rfl,?_⟩))))
    .rw[aU]at c;exact Iff.intro (λ_=>by omega) λ_=>rfl
    .rw[aU]at o;exact Iff.intro (λ_=>by omega) λ_=>rfl
    .rw[aY]at c o;rw[dL];omega
   .refine aC ⟨λh=>absurd h (by decide),λ_=>⟨(D.trans e3).trans w, .inr ⟨rfl,rfl,λv=>hb.1 c (v.at f)⟩⟩⟩
   .have al:dG 0 (x.2.take i)<=e.1/\e.1<=e.2.1/\e.2.1<=ts.length:=by
     by_cases hx:dG 0 (x.2.take i)<=e.1/\e.1<=e.2.1/\e.2.1<=ts.length
     .exact hx
     .rw[hb.2 hx]at c;cases c
    refine l1 w ?_;rw[aW (a:=(i:Int)) (by omega) (by omega)];refine aC ⟨λ_=>⟨(e.2.1,(i:Int)+1,()),rfl,⟨(D.trans e3).trans w,i+1,rfl,by omega,?_,?_⟩,by dsimp only;omega⟩,λh=>absurd rfl h⟩
    .rw[F,uQ.append];exact⟨N,al.1,al.2.1,al.2.2,trivial⟩
    .rw[F,zT]
  .rw[aY,aN,m]at c
   rw[iY (by omega)]at N;exact aC ⟨λh=>absurd h (by decide),λ_=>⟨D, .inl ⟨rfl,rfl,N⟩⟩⟩
 rintro t k h2 ⟨D,⟨rfl,rfl,v⟩|⟨rfl,rfl,b4⟩⟩
 .refine bG (bO (aM (Hj (r.ext D)) λ⟨(sz:Int),_⟩ h3 e3 V=>?_))
  have V:sz=(dR T.cur.ps).length:=V;rw[<-ao]at V b6;subst V;dsimp only;have bo:=D.trans e3;refine bL (λ(s:Int×Int×Unit) h'=>Ext h h'/\∃i:Nat,s.2.1=i/\i<=x.2.length/\jV T.enc (aX (x.2.take i))/\s.1=dM ts+fF T.enc (aX (x.2.take i))) (λs _=>((x.2.length:Int)-s.2.1).toNat)
   (λt k h'=>Ext h h'/\((t=4/\k=[aH (dM ts+fF T.enc (aX x.2))]/\jV T.enc (aX x.2))\/(t=1/\k=[aH 11]/\¬jV T.enc (aX x.2)))) ⟨bo,0,rfl,cO _,(λa ha=>by simp[aX]at ha),by simp[aX,fF]⟩ ?_ ?_
  .rintro⟨(bs:Int),i',u⟩ h4 ⟨w,i,hi,a0,N,ha⟩
   dsimp only at hi ha⊢;subst hi;subst ha;refine aE (λc=>?_) λc=>?_
   .rw[aU,aN,m]at c
    obtain⟨e,f⟩:∃e,x.2[i]?=some e:=⟨x.2[i]'(by omega),cK (by omega)⟩;refine D4 (J.ext w) f λa h5 z _ o5=>?_;have ab:kW .i64 h e.2.2.1.1 e.2.2.1.2:=Sh.lO (J.el f).2.2.1;have a3:=ab.len;have bp:=w.trans z;have C:=uT f;have a9:=Dj x.2 (i+1);rw[C,bQ]at a9;have a7:∀a,a∈e.2.2.1.2->a∈aX x.2:=λa ha=>by
     unfold aX;exact GC.2 ⟨e,eL f,ha⟩
    refine bC (b:=.sl) _ e.2.2.1.1 rfl (aI.1 o5.cells 2 _ rfl) ?_;refine bL (λ(s:Int×Int×Unit) h'=>Ext h h'/\∃j:Nat,s.2.1=j/\j<=e.2.2.1.2.length/\jV T.enc (e.2.2.1.2.take j)/\s.1=dM ts+fF T.enc (aX (x.2.take i))+fF T.enc (e.2.2.1.2.take j)) (λs _=>((e.2.2.1.2.length:Int)-s.2.1).toNat)
     (λt k h'=>Ext h h'/\((t=6/\k=[aH (dM ts+fF T.enc (aX (x.2.take i))+fF T.enc e.2.2.1.2)]/\jV T.enc e.2.2.1.2)\/(t=1/\k=[aH 11]/\¬jV T.enc e.2.2.1.2))) ⟨bp,0,rfl,cO _,(λa ha=>by simp at ha),by simp[fF]⟩ ?_ ?_
    .rintro⟨(bs:Int),j',u⟩ Y ⟨g,j,hj,c6,O,hb⟩
     dsimp only at hj hb⊢;subst hj;subst hb;have ct:=zZ T.enc (aX (x.2.take i));have bd:=zZ T.enc (e.2.2.1.2.take j);rw[dJ]at bd;refine aE (λo=>?_) λo=>?_
     .rw[aU,aN,a3]at o
      have G:j<e.2.2.1.2.length:=by omega
      refine qZ (ab.ext g) (by omega) (by omega) λcc=>ax (r.ext g) ?_;rw[show((j:Int)).toNat=j by omega];have b0:e.2.2.1.2.getD j 0=e.2.2.1.2[j]:=by rw[gJ,cK G];rfl
      rw[b0];refine aM (Codec.Hj M.x9 T.enc (e.2.2.1.2[j])) λ⟨(sz:Int),_⟩ h7 X hs=>?_;have hs:sz=bX T.enc (e.2.2.1.2[j]):=hs;subst hs;have cr:=Dp T.enc (e.2.2.1.2[j]);have cd:=zY T.enc (e.2.2.1.2[j]);dsimp only;refine aE (λhz=>?_) λhz=>?_
      .rw[cM]at hz
       refine aC ⟨λh=>absurd h (by decide),λ_=>⟨g.trans X, .inr ⟨rfl,rfl,λA=>?_⟩⟩⟩;have:=A _ (CK G);omega
      .rw[dS]at hz
       have F:e.2.2.1.2.take (j+1)=e.2.2.1.2.take j++[e.2.2.1.2[j]]:=by rw[eN,cK G];rfl
       have ba:fF T.enc [e.2.2.1.2[j]]=bX T.enc (e.2.2.1.2[j]):=by simp[fF]
       rw[aW (a:=(j:Int)) (by omega) (by omega),aW (by omega) (by omega)];refine aC ⟨λ_=>⟨(_,(j:Int)+1,()),rfl,⟨g.trans X,j+1,rfl,by omega,?_,?_⟩,by dsimp only;omega⟩,λh=>absurd rfl h⟩
       .rw[F]
        intro a ha;rcases dH.1 ha with ha|ha
        .exact O a ha
        .rw[dE.1 ha];omega
       .dsimp only;rw[F,nJ,ba];omega
     .rw[aY,aN,a3]at o
      have b8:e.2.2.1.2.take j=e.2.2.1.2:=iY (by omega);rw[b8]at O⊢;exact aC ⟨λh=>absurd h (by decide),λ_=>⟨g, .inl ⟨rfl,rfl,O⟩⟩⟩
    .rintro t k Y ⟨g,⟨rfl,rfl,O⟩|⟨rfl,rfl,O⟩⟩
     .refine bG (fJ ?_)
      rw[aW (a:=(i:Int)) (by omega) (by omega)];refine aC ⟨λ_=>⟨(_,(i:Int)+1,()),rfl,⟨g,i+1,rfl,by omega,?_,?_⟩,by dsimp only;omega⟩,λh=>absurd rfl h⟩
      .rw[C]
       intro a ha;exact(dH.1 ha).elim (N a) (O a)
      .dsimp only;rw[C,nJ];omega
     .refine nP (by decide) (bG (fJ (aC ⟨λh=>absurd h (by decide),λ_=>⟨g, .inr ⟨rfl,rfl,λA=>O λa ha=>A a (a7 a ha)⟩⟩⟩)))
   .rw[aY,aN,m]at c
    rw[iY (by omega)]at N⊢;exact aC ⟨λh=>absurd h (by decide),λ_=>⟨w, .inl ⟨rfl,rfl,N⟩⟩⟩
  .rintro t k h4 ⟨w,⟨rfl,rfl,A⟩|⟨rfl,rfl,b3⟩⟩
   .refine bG (fJ ?_)
    have cx:=zZ T.enc (aX x.2);refine bL (λ(s:Int×Int×Unit) h'=>Ext h h'/\∃i:Nat,s.2.1=i/\i<=x.2.length/\s.1=dM ts+fF T.enc (aX x.2)-xH ts (x.2.take i)) (λs _=>((x.2.length:Int)-s.2.1).toNat)
     (λt k h'=>Ext h h'/\t=8/\k=[aH (dM ts+fF T.enc (aX x.2)-xH ts x.2)]) ⟨w,0,rfl,cO _,by simp[xH]⟩ ?_ ?_
    .rintro⟨(bs:Int),i',u⟩ h5 ⟨z,i,hi,a0,ha⟩
     dsimp only at hi ha⊢;subst hi;subst ha;refine aE (λc=>?_) λc=>?_
     .rw[aU,aN,m]at c
      obtain⟨e,f⟩:∃e,x.2[i]?=some e:=⟨x.2[i]'(by omega),cK (by omega)⟩;have c8:=v.at f;have c7:=Dd (v.take i);have hg:=ZB (ts:=ts) (x.2.take i);have c5:(dM ts:Int)*((x.2.take i).length:Nat)<=65536*70000:=Int.mul_le_mul (by omega) (by rw[dJ];omega) (by omega) (by decide);have a8 : -(dM ts:Int)*((x.2.take i).length:Nat) = -((dM ts:Int)*((x.2.take i).length:Nat)):=Int.neg_mul ..;rw[a8]at hg;have aw:=U4 (ts:=ts) f;refine fL (tys:=[tI]) (λ(y:Int×Unit) _=>y.1=dM ts+fF T.enc (aX x.2)-xH ts (x.2.take (i+1))) ?_ λ⟨(y:Int),_⟩ Y g hy=>?_
      .refine D4 (J.ext z) f λa Y g _ o6=>?_
       have l0:∀{K:Int->aK} {Q:Nat->bH->aG->Prop} {h'},Ext Y h'->wp P (K e.1) h' Q->wp P (.load (tI) (aB (some a) 0) K) h' Q:=λq H=>bC (b:=bI) _ e.1 rfl (aI.1 (o6.ext q).cells 0 _ rfl) H;have l1:∀{K:Int->aK} {Q:Nat->bH->aG->Prop} {h'},Ext Y h'->wp P (K e.2.1) h' Q->wp P (.load (tI) (aB (some a) 1) K) h' Q:=λq H=>bC (b:=bI) _ e.2.1 rfl (aI.1 (o6.ext q).cells 1 _ rfl) H;have E:=Ext.refl Y;have r6:=r.ext (z.trans g);refine l1 E (l0 E (aE (λo=>?_) λo=>?_))
       .rw[dL]at o
        refine l1 E (l0 E (aM (VY M r6 (at_:=e.2.1) (by omega) (by rw[W];omega)) λ⟨(s1:oY),_⟩ h7 X R=>sU (q:=a) (j:=0) (aI.1 (o6.ext X).cells 0 _ rfl) (aM (VY M (r6.ext X) (at_:=e.1) (by omega) (by rw[W];omega)) λ⟨(s2:oY),_⟩ h8 e8 U=>?_)));have R:s1=_:=R;have U:s2=_:=U;rw[W]at R U;have a4:TI ts:=by rw[<-W];exact yB r.cur.bytes
        have b1:s1.2.1=dM (ts.take e.2.1.toNat):=by rw[R];exact(Ea (a4.take _)).2
        have b2:s2.2.1=dM (ts.take e.1.toNat):=by rw[U];exact(Ea (a4.take _)).2
        have k1:=wQ ts e.2.1.toNat;have k2:=wQ ts e.1.toNat;dsimp only;rw[b1,b2,bY (a:=((dM (ts.take e.2.1.toNat):Nat):Int)) (by omega) (by omega),bY (by omega) (by omega)];exact aC ⟨rfl,(g.trans X).trans e8,(_,()),rfl,by show _=_;rw[aw];omega⟩
       .rw[gF]at o
        have bt:e.1=e.2.1:=by omega
        exact aC ⟨rfl,g,(_,()),rfl,by show _=_;rw[aw,bt];omega⟩
      .have hy:y=_:=hy
       subst hy;dsimp only;rw[aW (a:=(i:Int)) (by omega) (by omega)];exact aC ⟨λ_=>⟨(_,(i:Int)+1,()),rfl,⟨z.trans g,i+1,rfl,by omega,rfl⟩,by dsimp only;omega⟩,λh=>absurd rfl h⟩
     .rw[aY,aN,m]at c
      rw[iY (by omega)];exact aC ⟨λh=>absurd h (by decide),λ_=>⟨z,rfl,rfl⟩⟩
    .rintro t k h5 ⟨z,rfl,rfl⟩
     refine bG (fJ (aL rfl (aL rfl (bC (b:=bI) _ T.limit rfl (r.ext z).c1 (aE (λc=>?_) λc=>?_)))))
     .rw[dL]at c
      exact aC ⟨rfl,z,(50,()),rfl, .full B v A c⟩
     .rw[gF]at c
      exact aC ⟨rfl,z,(0,()),rfl, .ok B v A c⟩
   .exact nP (by decide) (bG (fJ (aC ⟨rfl,w,(11,()),rfl, .fit B v b3⟩)))
 .exact nP (by decide) (bG (fJ (aC ⟨rfl,D,(2,()),rfl, .place B b4⟩)))
end
section
open Go.Sw.Any Go.Sw.Codec
open Go.Sw.Tree (iv fR jR jX mX oS kM rO kK dQ lB)
variable{P:Program}{S:cH}{h:aG}{Q:Nat->bH->aG->Prop}
variable{l:bB}
theorem Vr{enc:Int}(he:eM enc)(hb:cC l)(e:0<l.length):0<bX enc (eJ enc l).1/\(eJ enc l).2=bX enc (eJ enc l).1/\dA enc (eJ enc l).1=l.take (eJ enc l).2.toNat:=by
 obtain⟨b,c⟩:=Xz he hb e;have f:=oR b;have g:=jM (enc:=enc) e hb;rw[c,dJ]at f;exact⟨b,by omega,c⟩
theorem WL{enc:Int}(he:eM enc)(hb:cC l):(∀t,t∈bJ enc l->0<bX enc t.1/\t.2=bX enc t.1)/\(bJ enc l).flatMap (λt=>dA enc t.1)=l:=by
 refine Gc (enc:=enc) (M:=λl=>(∀t,t∈bJ enc l->0<bX enc t.1/\t.2=bX enc t.1)/\(bJ enc l).flatMap (λt=>dA enc t.1)=l) (λl c=>?_) (λl hb b e=>?_) l hb
 .rw[mJ c];exact⟨λt ht=>(by cases ht),(At c).symm⟩
 .obtain⟨f,g,j⟩:=Vr he hb b
  rw[jY hb b];refine⟨λt ht=>?_,?_⟩
  .rcases eH.1 ht with rfl|ht
   .exact⟨f,g⟩
   .exact e.1 t ht
  .rw[gD,e.2,j,eY]
abbrev tk(enc a:Int):Int×Int:=(a,bX enc a)
theorem P4{enc:Int}(he:eM enc):∀{l:bB},(∀a,a∈l->0<bX enc a/\iW a)->bJ enc (l.flatMap (dA enc))=l.map (tk enc)
 |[],_=>mJ rfl
 |a::l,h=>by
  have ha:=h a (eO ..);have f:=λx c=>h x (eK _ c);have b:=UB (enc:=enc) (l:=l) λx c=>(f x c).1;have e:=QB he ha.1 ha.2 b;have hlen:=oR ha.1;rw[gD,jY (Ig (Gd ha.1) b) (by rw[bQ];omega),e];dsimp only;rw[Ms (by omega),P4 he f];rfl
theorem d_{enc a:Int}(he:eM enc)(g:0<bX enc a)(k:¬iW a):bJ enc (dA enc a)=[tk enc a]:=by
 have hb:=Gd g;have hlen:=oR g;have hu:=(iK enc a).1 g;have e:eJ enc (dA enc a)=(a,bX enc a):=by
  unfold iW at k;rcases rQ he with rfl|f|f|rfl
  .have ha : -256<=a/\a <= -129:=by omega
   have b:dA 1 a=[-1-a]:=by unfold dA;rw[if_pos (by omega)]
   have c:bX 1 a=1:=by rw[b]at hlen;exact hlen.symm
   rw[b]at hb⊢;unfold eJ;rw[if_pos rfl,L8 hb (by simp) λm o p hm n=>?_,c]
   .simp;omega
   .have j:m=1:=by simp at hm;omega
    subst j;have h0:=hb.at 0;have:=(Kn (x1:=0) (x2:=0) (x3:=0) h0.1 h0.2 1 (by decide)).1 n;simp[qB]at this;omega
  .subst f
   by_cases h0:a<0
   .have b:dA 2 a=[-1-a]:=by unfold dA;rw[if_pos h0]
    have c:bX 2 a=1:=by rw[b]at hlen;exact hlen.symm
    rw[b,c];unfold eJ gV;simp;omega
   .have b:dA 2 a=[a % 256,a / 256]:=by unfold dA fV;rw[if_neg h0,if_neg (by decide),if_neg (by decide),if_neg (by omega),if_pos rfl]
    have c:bX 2 a=2:=by rw[b]at hlen;exact hlen.symm
    rw[b,c];unfold eJ gV cD;simp;omega
  .subst f
   by_cases h0:a<0
   .have b:dA 3 a=[-1-a]:=by unfold dA;rw[if_pos h0]
    have c:bX 3 a=1:=by rw[b]at hlen;exact hlen.symm
    rw[b,c];unfold eJ gV;simp;omega
   .have b:dA 3 a=[a / 256,a % 256]:=by unfold dA fV;rw[if_neg h0,if_neg (by decide),if_neg (by decide),if_neg (by omega),if_neg (by decide)]
    have c:bX 3 a=2:=by rw[b]at hlen;exact hlen.symm
    rw[b,c];unfold eJ gV cD;simp;omega
  .omega
 rw[jY hb (by omega),e];dsimp only;rw[uM (by omega),mJ rfl]
theorem Nd.mono{I:iJ}{e:Nat->Prop}(b:∀i,i<h.size->I.Z i->e i):∀{t:Bt I.It} {p:OA},Nd I h p t->Nd {I with Z:=e} h p t
 |.nil,_,n=>n
 |.node l x r,p,⟨a,pl,pr,f,c,g,j⟩=>⟨a,pl,pr,f,⟨c.1,b _ (by have:=BY (aI.1 c.1 0 _ rfl);rwa [iT]at this) c.2.1,c.2.2⟩,Nd.mono b g,Nd.mono b j⟩
theorem yC{Z b:Nat->Prop}{t:Bt Part}{p:OA}(n:Nd (part S Z) h p t)(c:∀i,i<h.size->Z i->b i):Nd (part S b) h p t:=Nd.mono (I:=part S Z) c n
def nu(Z:Nat->Prop)(s:Sl)(i:Nat):Prop:=Z i\/∃b,s.aD=some b/\b.block=i
theorem ZP{k:IntKind}{n:Nat}{h h':aG}{s r:Sl}{A B:bB}{x:Sl}{a b:Addr}(F:bV n k h s A)(p:bV n k h' r (A++B))(hb:s.aD=some b)(G:r.aD=some b)(f:kW k h x l)(ha:x.aD=some a)(DO:a.block=b.block)(q:a.spot=none)(E:a.off+l.length<=A.length):kW k h' x l:=by
 obtain⟨_,_,_,t⟩:=F.own;rw[hb]at t;obtain⟨e0,M,_,cs,elem,w,N,z⟩:=t;obtain⟨_,_,_,g⟩:=p.own;rw[G]at g;obtain⟨_,_,_,H,u,j,J,m⟩:=g;refine⟨⟨f.rd.1,λi v hi=>?_⟩,f.cap,f.max,f.wf⟩;obtain⟨K,ea,c⟩:=f.rd.2 i v hi;rw[ha]at ea;cases ea;refine⟨a,ha,?_⟩;have o:=(cQ.1 hi).1;rw[cE]at o;obtain⟨L,e,sp⟩:=a;dsimp only at DO q E;subst q;subst DO;rw[pK]at c⊢;unfold Sw.cell at c⊢;dsimp only at c⊢;rw[w]at c;rw[j];have C:=z (e+i) (.int k (A.getD (e+i) 0)) (by rw[gQ,cK (by omega)];simp[List.getD,cK (show e+i<A.length by omega)]);have D:=m (e+i) (.int k (A.getD (e+i) 0)) (by rw[gQ,mL (by omega),cK (by omega)];simp[List.getD,cK (show e+i<A.length by omega)]);simp at c⊢;rw[C]at c;rw[D];exact c
theorem cz{n:Nat}{T:TX}{B:bB}{r:Sl}{h1 j:aG}(t:eQ S n h T)(hn:n<=h.size)(hB:0<B.length)(o1:bV n .u8 h1 r (T.A++B))(v:jU T.ad h h1)(H:∀a,r.aD=some a->T.ad.aD=some a\/h.size<=a.block)(c1:r.aD=T.ad.aD\/Ext h h1)
  (o2:cA n 1 j ⟨some T.p,4,4⟩ [aH T.enc,aH T.limit, .pointer T.cur.root,dN r]) (w:jU ⟨some T.p,4,4⟩ h1 j):eQ S n j {T with ad:=r,A:=T.A++B,Z:=nu T.Z r}/\∀q,A3 h T q->A3 j {T with ad:=r,A:=T.A++B,Z:=nu T.Z r} q:=by
 have O:T.p.block<h.size:=(t.lo _ t.zp).2;have C:∀b,r.aD=some b->b.block≠T.p.block:=λb hb=>by
  rcases H b hb with g|g
  .exact t.ed b g
  .omega
 have L:∀{q},A3 h T q->A3 j {T with ad:=r,A:=T.A++B,Z:=nu T.Z r} q:=λ{q} f=>by
  have D:∀a,q.1.1.aD=some a->a.block<h.size:=λa ha=>(t.lo _ (f.MO a ha).1).2;have U:kW .u8 h1 q.1.1 q.2:=by
   rcases c1 with E|E
   .cases ha:q.1.1.aD with
    |none=>exact f.lO.blocks λa g=>by rw[ha]at g;cases g
    |some a=>
     cases hb:T.ad.aD with
     |none=>exact f.lO.blocks λa g o=>v.2.1 _ o λb k=>by rw[hb]at k;cases k
     |some b=>
      by_cases DO:a.block=b.block
      .obtain⟨_,_,R⟩:=f.MO a ha
       obtain⟨G,K⟩:=R b hb DO;exact ZP t.ad o1 hb (E.trans hb) f.lO ha DO G K
      .exact f.lO.blocks λY g o=>v.2.1 _ o λM k=>by rw[ha]at g;cases g;rw[hb]at k;cases k;exact λe=>DO e.symm
   .exact f.lO.ext E
  refine⟨U.blocks λa ha o=>w.2.1 _ o λb hb=>by cases hb;exact λe=>(f.MO a ha).2.1 e.symm,f.ne,f.is,f.tag,f.len,λa ha=>⟨.inl (f.MO a ha).1,(f.MO a ha).2.1,λb hb DO=>?_⟩⟩;rcases H b hb with g|g
  .obtain⟨G,K⟩:=(f.MO a ha).2.2 b g DO
   refine⟨G,?_⟩;show _<=(T.A++B).length;rw[bQ];omega
  .have:=D a ha;omega
 have nd:∀{s},Lv S h T s->Nd (part S (nu T.Z r)) j s.root s.t:=λ{s} m=>by
  have V:Nd (part S T.Z) h1 s.root s.t:=m.nd.Vz v λb hb=>by
   have N:=t.vb b hb;have o:kW .u8 h T.ad T.A:=t.ad.lO;obtain⟨M,e,c⟩:=o.rd.at (i:=0) N;rw[hb]at e;cases e;obtain⟨_,_,_,u⟩:=t.ad.own;rw[hb]at u;obtain⟨bb,bo,X⟩:=b;have e0:=u.1;have z:=u.2.1;dsimp only at e0 z;subst e0;subst z;rw[add_zero']at c;exact⟨_,_,c⟩
  have W:Nd (part S T.Z) j s.root s.t:=V.Vz w λb hb=>by
   cases hb;obtain⟨_,_,_,u⟩:=t.ob;have c:=aI.1 (t.ob.cells) 0 _ rfl;have c1:Sw.cell h1 (T.p.add 0)=some (aH T.enc):=by
    rw[yU (h:=h) (by rw[iT];exact v.2.1 _ O λb hb=>t.ed b hb)];exact c
   rw[add_zero']at c1;obtain⟨e0,z,_⟩:=u;have J:(⟨T.p.block,0,none⟩:Addr)=T.p:=by
    show(⟨T.p.block,0,none⟩:Addr)=⟨T.p.block,T.p.off,T.p.spot⟩;rw[e0,z]
   rw[J];exact⟨_,_,c1⟩
  exact yC W λi _ hi=>.inl hi
 have st:∀{s},Lv S h T s->Lv S j {T with ad:=r,A:=T.A++B,Z:=nu T.Z r} s:=λ{s} m=>⟨nd m,m.ls,λq F=>L (m.Cx q F),m.small⟩;refine⟨⟨t.enc,t.A4,o2,?_,C,λb hb=>by show 0<(T.A++B).length;rw[bQ];omega,st t.cur,λs m=>st (t.kept s m), .inl t.zp,λb hb=>.inr ⟨b,hb,rfl⟩,λi hi=>?_⟩,λq F=>L F⟩
 .exact o1.Hg w λa b ha hb=>by cases hb;exact λe=>C a ha e.symm
 .rcases hi with hi|⟨b,hb,rfl⟩
  .have:=t.lo i hi;have:=v.1;have:=w.1;omega
  .have:=(o1.own.lt hb);have:=w.1;omega
end
section
open Go.Sw.Any Go.Sw.Codec
open Go.Sw.Tree (iv fR jR jX mX oS kM rO kK dQ lB)
variable{P:Program}{S:cH}{h:aG}{Q:Nat->bH->aG->Prop}
variable{a1 a2 a5 a6:Addr}{d:Nat}{h':aG}
def cP(l:List Part):bH:=l.flatMap λr=>Bs.inj PB r
theorem Ge(l m:List Part):cP (l++m)=cP l++cP m:=by simp[cP]
theorem Qj(x:Part):cP [x]=Bs.inj PB x:=by simp[cP]
theorem od(l:List Part):(cP l).length=l.length*7:=by
 induction l with
 |nil=>rfl
 |cons x l b=>unfold cP at b⊢;rw[gD,bQ,b,lA,fM];simp;omega
theorem VT(l:List Part):∀v,v∈cP l->flat v=true:=λv b=>by
 obtain⟨x,_,c⟩:=GC.1 b;exact xF x v c
abbrev zL(n:Nat)(h:aG)(s:Sl)(l:List Part):Prop:=cA n 7 h s (cP l)
theorem zL.len{n:Nat}{s:Sl}{l:List Part}(o:zL n h s l):s.len=l.length:=by
 have:=o.1;rw[od]at this;omega
structure FG where
 ad:Sl
 A:bB
 Z:Nat->Prop
 qs:List Pc
 ps:Sl
 uY:bB
def TX.at_(T:TX)(g:FG):TX:={T with ad:=g.ad,A:=g.A,Z:=g.Z}
structure VH(S:cH)(n:Nat)(T:TX)(m:Nat)(a1 a2 a5 a6:Addr)(done:bB)(h:aG)(g:FG):Prop where
 t:eQ S n h (T.at_ g)
 o1:cA m 1 h ⟨some a1,1,1⟩ [.pointer (some T.p)]
 o2:cA m 1 h ⟨some a2,1,1⟩ [dN g.ps]
 o5:cA m 1 h ⟨some a5,1,1⟩ [aH (g.A.length-(g.uY.flatMap (dA T.enc)).length:Nat)]
 o6:cA m 1 h ⟨some a6,1,1⟩ [aH g.uY.length]
 op:zL m h g.ps (g.qs.map (·.1))
 dj:a1.block≠a2.block/\a1.block≠a5.block/\a1.block≠a6.block/\a2.block≠a5.block/\a2.block≠a6.block/\a5.block≠a6.block
 pd:∀b,g.ps.aD=some b->b.block≠a1.block/\b.block≠a2.block/\b.block≠a5.block/\b.block≠a6.block/\¬g.Z b.block
 zd:¬g.Z a1.block/\¬g.Z a2.block/\¬g.Z a5.block/\¬g.Z a6.block
 zn:∀i,g.Z i->T.Z i\/m<=i
 Cx:∀q,q∈g.qs->A3 h (T.at_ g) q/\q.1.2.1 = -1
 all:g.A=T.A++done.flatMap (dA T.enc)
 put:dR g.qs++g.uY.flatMap (dA T.enc)=done.flatMap (dA T.enc)
 uv:cV T.enc g.qs++g.uY.map (tk T.enc)=done.map (tk T.enc)
 fits:∀a,a∈done->0<bX T.enc a
 Yq:g.uY.length<=128
theorem VH.br{n m:Nat}{T:TX}{done:bB}{g:FG}(f:VH S n T m a1 a2 a5 a6 done h g):(g.uY.flatMap (dA T.enc)).length<=g.A.length:=by
 rw[f.all,bQ,<-f.put,bQ];omega
theorem VH.drop{n m:Nat}{T:TX}{a1 a2 a5 a6:Addr}{done:bB}{g:FG}(f:VH S n T m a1 a2 a5 a6 done h g):g.A.drop (g.A.length-(g.uY.flatMap (dA T.enc)).length)=g.uY.flatMap (dA T.enc):=by
 have b:g.A=(T.A++dR g.qs)++g.uY.flatMap (dA T.enc):=by rw[f.all,<-f.put,dX]
 have c:g.A.length-(g.uY.flatMap (dA T.enc)).length=(T.A++dR g.qs).length:=by
  have:=congrArg List.length b;rw[bQ (bs:=g.uY.flatMap _)]at this;omega
 rw[c];conv=>lhs;rw[b]
 rw[Ms rfl]
theorem VH.WG{n m:Nat}{T:TX}{done:bB}{g:FG}(f:VH S n T m a1 a2 a5 a6 done h g):∀a,a∈g.uY->0<bX T.enc a:=λa ha=>by
 have c:tk T.enc a∈done.map (tk T.enc):=by rw[<-f.uv];exact qM _ (dB.2 ⟨a,ha,rfl⟩)
 obtain⟨b,hb,e⟩:=dB.1 c;have:b=a:=congrArg Prod.fst e;rw[<-this];exact f.fits b hb
theorem VH.ext{n m:Nat}{T:TX}{a1 a2 a5 a6:Addr}{done:bB}{g:FG}{h':aG}(f:VH S n T m a1 a2 a5 a6 done h g)(e:Ext h h'):VH S n T m a1 a2 a5 a6 done h' g:=
 {f with t:=f.t.ext e,o1:=f.o1.ext e,o2:=f.o2.ext e,o5:=f.o5.ext e,o6:=f.o6.ext e,op:=f.op.ext e,Cx:=λq b=>⟨(f.Cx q b).1.oZ (aV.bD (F:=λ_=>False) e) λ_ _ x=>x,(f.Cx q b).2⟩}
theorem HI{enc:Int}{l:bB}(b:∀a,a∈l->0<bX enc a):l.length<=(l.flatMap (dA enc)).length/\(l.flatMap (dA enc)).length<=4*l.length:=by
 induction l with
 |nil=>simp
 |cons a l e=>
  have f:=e λx c=>b x (eK _ c);have g:=oR (b a (eO ..));have j:=zY enc a;have k:=b a (eO ..);rw[gD,bQ,fM];omega
theorem qW{n size c:Nat}{s:Sl}{b:Addr}{vs:bH}(o:cA n size h s vs)(u:jU ⟨some b,c,d⟩ h h')(e:∀a,s.aD=some a->b.block≠a.block):cA n size h' s vs:=
 o.aP λx f=>u.2.1 _ (o.lt f).2 λy g=>by cases g;exact e x f
theorem pR{c:Nat}{b:Addr}(u:jU ⟨some b,c,d⟩ h h'):aV (λi=>i=b.block) h h':=aV.dK u λx e _=>by cases e;rfl
theorem US(M:kJ P S){n m:Nat}{T:TX}{done:bB}{g:FG}{K:Unit->aK}(f:VH S n T m a1 a2 a5 a6 done h g)(hm:m<=h.size)(W:bJ T.enc (g.uY.flatMap (dA T.enc))=g.uY.map (tk T.enc))
  (hd:done.length<=1099511627776) (hA:g.A.length<=1099511627776)
  (w:∀h' g',gZ m h h'->VH S n T m a1 a2 a5 a6 done h' g'->g'.uY=[]->g'.Z=g.Z->g'.ad=g.ad->wp P (K ()) h' Q):wp P (.call (lZ S (some a1) (some a5) (some a2) (some a6)) [] K) h Q:=by
 have he:eM T.enc:=f.t.enc;have hle:=f.br;have hlen:g.ad.len=g.A.length:=f.t.ad.len;have cc:=HI f.WG;show wp P (lZ S (some a1) (some a5) (some a2) (some a6)) h _;unfold lZ;have c1:Sw.cell h (a1.add 0)=some (.pointer (some T.p)):=aI.1 f.o1.cells 0 _ rfl;have c2:∀{h'},Ext h h'->Sw.cell h' (a2.add 0)=some (dN g.ps):=λe=>aI.1 (f.o2.ext e).cells 0 _ rfl;have c5:Sw.cell h (a5.add 0)=some (aH (g.A.length-(g.uY.flatMap (dA T.enc)).length:Nat)):=aI.1 f.o5.cells 0 _ rfl;rw[add_zero']at c1 c5;have lp:∀{K:OA->aK} {Q:Nat->bH->aG->Prop},wp P (K (some T.p)) h Q->wp P (.load (tP) (some a1) K) h Q:=λw=>bC (b:=.ptr) a1 (some T.p) rfl c1 w;have ao:∀{K:Sl->aK} {Q:Nat->bH->aG->Prop},wp P (K g.ad) h Q->wp P (bF (aJ (some T.p))<|bF (aJ (some T.p))<|.load (tS) (aB (some T.p) 3) K) h Q:=λw=>aL rfl (aL rfl (bC (b:=.sl) (T.p.add 3) g.ad rfl f.t.c3 w));have aw:∀{K:Int->aK} {Q:Nat->bH->aG->Prop},wp P (K ((g.A.length-(g.uY.flatMap (dA T.enc)).length:Nat):Int)) h Q->wp P (.load (tI) (some a5) K) h Q:=λw=>bC (b:=bI) a5 _ rfl c5 w;have l2:∀{K:Sl->aK} {Q:Nat->bH->aG->Prop},wp P (K g.ps) h Q->wp P (.load (tS) (some a2) K) h Q:=λw=>bC (b:=.sl) a2 g.ps rfl (by have:=c2 (Ext.refl h);rwa [add_zero']at this) w;refine lp (ao (aw (aE (λhc=>?_) λhc=>aC ⟨rfl,(),rfl,?_⟩)))
 .rw[dL,aN,hlen]at hc
  have V:0<(g.uY.flatMap (dA T.enc)).length:=by omega
  generalize a9:g.A.length-(g.uY.flatMap (dA T.enc)).length=fr at *;have H:=f.drop;rw[a9]at H;have X:bP (aQ g.ad.len)=g.A.length:=by rw[aN,eP,hlen];omega
  have a4:bP ((fr:Nat):Int)=fr:=by rw[eP];omega
  have b2:g.ad.len<=g.ad.cap:=f.t.ad.lO.cap;have b4:g.ad.cap<2^63:=f.t.ad.lO.max;refine l2 (lp (aL rfl (aL rfl (bC (b:=bI) (T.p.add 0) T.enc rfl f.t.c0 (lp (ao (aw (sV (fA.2 ⟨iP (by rw[aN];omega) (by rw[aN];omega),fA.2 ⟨iP (by rw[aN];omega) (by rw[X,aN];omega),iP (by omega) (by rw[X];omega)⟩⟩) ?_))))))));rw[X,a4];have ba:kW .u8 h ⟨g.ad.aD,g.A.length,g.A.length⟩ g.A:=by
   have:=(show bV n .u8 h g.ad g.A from f.t.ad).lO.take (n:=g.A.length) (m:=g.A.length) (bM _) (bM _) (by omega);rw[iY (bM _)]at this;exact this
  have J:=ba.tail (i:=fr) (by omega);dsimp only at J;rw[H]at J;refine aM (Gf M he (tag:=Int.negSucc 0) J (by omega)) λ⟨(y:Part),_⟩ h1 e1 G=>?_;have G:y=_:=G;rw[W]at G;dsimp only;have ck:∀{h'} {K:aK} {Q:Nat->bH->aG->Prop},Ext h h'->wp P K h' Q->wp P (.check (some a2) [dN g.ps] K) h' Q:=λe w=>By rfl (aI.2 λj v hj=>by
   cases j with
   |zero=>simp at hj;subst hj;exact c2 e
   |succ j=>simp at hj) w
  refine ck e1 (gO (bs:=PB) y (by decide) λC e2 o2=>ck (e1.trans e2) ?_);have D:=e1.trans e2;have f2:=f.ext D;have a7:Rd 7 C ⟨some ⟨h1.size,0,none⟩,1,1⟩ (cP [y]):=by
   rw[Qj];exact⟨by simp[Bs.inj],λi v hi=>⟨_,rfl,aI.1 o2.cells i v hi⟩⟩
  have b9:g.qs.length<=done.length:=by
   have h1:=congrArg List.length f.uv;rw[bQ,cE,cE]at h1;have:∀qs:List Pc,(∀q,q∈qs->A3 h (T.at_ g) q)->qs.length<=(cV T.enc qs).length:=λqs=>by
    induction qs with
    |nil=>intro _;exact bM _
    |cons q qs ih=>
     intro B;have E:=ih λx u=>B x (eK _ u);have h4:=B q (eO ..);have h5:=(Aa (enc:=T.enc) h4.bytes).2.1 h4.ne;unfold cV at E⊢;rw[gD,bQ,fM];omega
   have:=this g.qs λq B=>(f.Cx q B).1;omega
  have bb:=zL.len f2.op;rw[cE]at bb;refine GA f2.op (by have:=D.size;omega) a7 (VT _) rfl (by show(g.ps.len+1)*64<=_;omega) (by show g.ps.len+1<_;omega) λr E a3 b3 u3 d3=>?_;rw[<-Ge]at a3;have k3:gZ m h E:=gZ.trans (D.aP hm) (jU.aP f2.op (by have:=D.size;omega) u3);have a8:=f2.t.lo;have s3:∀i,i<C.size->(∀b,g.ps.aD=some b->b.block≠i)->E[i]?=C[i]? := u3.2.1;have O:aV (λi=>∃b,g.ps.aD=some b/\b.block=i) C E:=aV.dK u3 λx u _=>⟨x,u,rfl⟩;have t3:eQ S n E (T.at_ g):=f2.t.oZ O λi hi ⟨b,hb,e⟩=>(f2.pd b hb).2.2.2.2 (e ▸ hi);have k1:∀{c:Addr} {vs:bH},cA m 1 C ⟨some c,1,1⟩ vs->(∀b,g.ps.aD=some b->b.block≠c.block)->cA m 1 E ⟨some c,1,1⟩ vs:=λo V=>O.own o λx u ⟨b,hb,e⟩=>by cases u;exact V b hb e
  have bd:=k1 f2.o1 λb hb=>(f2.pd b hb).1;have bo:=k1 f2.o2 λb hb=>(f2.pd b hb).2.1;have bt:=k1 f2.o5 λb hb=>(f2.pd b hb).2.2.1;have b0:=k1 f2.o6 λb hb=>(f2.pd b hb).2.2.2.1;obtain⟨d1,d2,d4,d5,d6,d7⟩:=f.dj;have L:∀b,r.aD=some b->b.block≠a1.block/\b.block≠a2.block/\b.block≠a5.block/\b.block≠a6.block/\¬g.Z b.block:=λb hb=>by
   rcases d3 b hb with u|u
   .exact f2.pd b u
   .have q1:=(f2.o1.lt rfl).2;have q2:=(f2.o2.lt rfl).2;have q5:=(f2.o5.lt rfl).2;have q6:=(f2.o6.lt rfl).2
    replace q1:a1.block<C.size:=q1;replace q2:a2.block<C.size:=q2;replace q5:a5.block<C.size:=q5;replace q6:a6.block<C.size:=q6;exact⟨by omega,by omega,by omega,by omega,λhz=>by have:b.block<C.size:=(a8 _ hz).2;omega⟩
  refine fR [dN r] bo rfl (by intro v Y;rw[dE.1 Y];rfl) λh4 bp u4=>fR [aH (aQ g.ad.len)] (qW bt u4 λa ha=>by cases ha;exact d5) rfl (by intro v Y;rw[dE.1 Y];rfl) λh5 a0 u5=>fR [aH 0] (qW (qW b0 u4 λa ha=>by cases ha;exact d6) u5 λa ha=>by cases ha;exact d7) rfl (by intro v Y;rw[dE.1 Y];rfl) λR b1 u6=>aC ⟨rfl,(),rfl,?_⟩;have z:aV (λi=>i=a2.block\/i=a5.block\/i=a6.block) E R:=((pR u4).mono λi _ e=>.inl e).trans (((pR u5).mono λi _ e=>.inr (.inl e)).trans ((pR u6).mono λi _ e=>.inr (.inr e)) λi _ x=>x) λi _ x=>x;have ma:m<=a2.block/\m<=a5.block/\m<=a6.block:=⟨(f.o2.lt rfl).1,(f.o5.lt rfl).1,(f.o6.lt rfl).1⟩;obtain⟨z1,z2,z5,z6⟩:=f.zd;have t6:eQ S n R (T.at_ g):=t3.oZ z λi hi e=>by rcases e with rfl|rfl|rfl<;>first|exact z2 hi|exact z5 hi|exact z6 hi
  have N:aV (λi=>¬g.Z i) h R:=((aV.bD (F:=λi=>¬g.Z i) D).trans (O.mono λi _ ⟨b,hb,e⟩ hz=>(f2.pd b hb).2.2.2.2 (e ▸ hz)) λi _ x=>x).trans (z.mono λi _ e hi=>by rcases e with rfl|rfl|rfl<;>first|exact z2 hi|exact z5 hi|exact z6 hi) λi _ x=>x;refine w R {g with qs:=g.qs++[(y,g.uY.flatMap (dA T.enc))],ps:=r,uY:=[]} (gZ.trans k3 (z.aP (by have:=k3.1;omega) λi hi e=>by rcases e with rfl|rfl|rfl<;>omega)) ⟨t6,?_,?_,?_,b1,?_,f.dj,L,f.zd,f.zn,?_,f.all,?_,?_,f.fits,by simp⟩ rfl rfl rfl
  .exact z.own bd λx u e=>by cases u;rcases e with e|e|e<;>first|exact d1 e|exact d2 e|exact d4 e
  .exact qW (qW bp u5 λa ha=>by cases ha;exact d5.symm) u6 λa ha=>by cases ha;exact d6.symm
  .have:aQ g.ad.len=((g.A.length-(([]:bB).flatMap (dA T.enc)).length:Nat):Int):=by rw[aN,hlen];simp
   rw[this]at a0;exact qW a0 u6 λa ha=>by cases ha;exact d7.symm
  .rw[dP]
   exact z.own a3 λx u e=>by rcases e with e|e|e<;>first|exact(L x u).2.1 e|exact(L x u).2.2.1 e|exact(L x u).2.2.2.1 e
  .intro q B
   rcases dH.1 B with B|B
   .exact⟨(f.Cx q B).1.oZ N λi hi hn=>hn hi,(f.Cx q B).2⟩
   .rw[dE.1 B]
    have ab:∃b,g.ad.aD=some b:=by
     cases hb:g.ad.aD with
     |some b=>exact⟨b,rfl⟩
     |none=>
      obtain⟨_,b8,_,k⟩:=f.t.ad.own;have k:match g.ad.aD with|none=>g.ad.cap=0|some a=>_:=k
      rw[hb]at k;have k:g.ad.cap=0:=k;omega
    obtain⟨b,hb⟩:=ab;have al:b.off=0/\b.spot=none:=by
     obtain⟨_,_,_,k⟩:=f.t.ad.own;have k:match g.ad.aD with|none=>g.ad.cap=0|some a=>a.off=0/\a.spot=none/\_:=k
     rw[hb]at k;exact⟨k.1,k.2.1⟩
    have U:bE g.ad.aD g.A.length fr 1=some (b.add fr):=by
     unfold bE;rw[if_neg (by omega),hb];simp
    refine⟨⟨?_,V,?_,?_,?_,λa ha=>?_⟩,by rw[G];rfl⟩
    .rw[G]
     have:(XL (⟨bE g.ad.aD g.A.length fr 1,cS g.A.length fr,cS g.A.length fr⟩) (Int.negSucc 0) (List.map (tk T.enc) g.uY)).1=⟨bE g.ad.aD g.A.length fr 1,cS g.A.length fr,cS g.A.length fr⟩:=rfl;show kW .u8 R (XL _ _ _).1 _;rw[this];refine N.lO J λx u hn=>hn ?_;rw[U]at u;cases u;rw[iT];exact f.t.za b hb
    .show y=XL y.1 y.2.1 (bJ T.enc _)
     rw[G,W];rfl
    .rw[G];have:=f.Yq;show(-1:Int)<=Int.negSucc 0/\Int.negSucc 0+((g.uY.flatMap (dA T.enc)).length:Nat)<=65536;omega
    .have:=f.Yq
     show(g.uY.flatMap (dA T.enc)).length<=_;omega
    .have ha:bE g.ad.aD g.A.length fr 1=some a:=by rw[G]at ha;exact ha
     rw[U]at ha;cases ha;refine⟨by rw[iT];exact f.t.za b hb,by rw[iT];exact f.t.ed b hb,λb' b6 _=>?_⟩;refine⟨MK al.2 _,?_⟩;rw[VN,al.1];show 0+fr+(g.uY.flatMap (dA T.enc)).length<=g.A.length;omega
  .have:dR (g.qs++[(y,g.uY.flatMap (dA T.enc))])=dR g.qs++g.uY.flatMap (dA T.enc):=by simp[dR]
   rw[this,<-f.put];simp
  .have:cV T.enc (g.qs++[(y,g.uY.flatMap (dA T.enc))])=cV T.enc g.qs++g.uY.map (tk T.enc):=by rw[<-W];simp[cV]
   rw[this,<-f.uv];simp
 .rw[gF,aN,hlen]at hc
  have h0:(g.uY.flatMap (dA T.enc)).length=0:=by omega
  have hs:g.uY=[]:=At (by omega);exact w h g (gZ.refl _ _) f hs rfl rfl
end
section
open Go.Sw.Any Go.Sw.Codec
open Go.Sw.Tree (iv fR jR jX mX oS kM rO kK dQ lB)
variable{P:Program}{S:cH}{h:aG}{Q:Nat->bH->aG->Prop}
def rU(T:TX)(i:Nat):Prop:=i=T.p.block\/∃b,T.ad.aD=some b/\b.block=i
theorem Jz{n:Nat}{T:TX}(t:eQ S n h T){i:Nat}(hi:rU T i):T.Z i:=by
 rcases hi with rfl|⟨b,hb,rfl⟩
 .exact t.zp
 .exact t.za b hb
structure e_(S:cH)(n:Nat)(T:TX)(h0:aG)(a1 a2 a5 a6:Addr)(done:bB)(h:aG)(g:FG):Prop where
 f:VH S n T h0.size a1 a2 a5 a6 done h g
 c:aV (rU T) h0 h
 zm:∀i,T.Z i->g.Z i
 adc:∀b,g.ad.aD=some b->T.ad.aD=some b\/h0.size<=b.block
theorem e_.ext{n:Nat}{T:TX}{h0 h':aG}{a1 a2 a5 a6:Addr}{done:bB}{g:FG}(j:e_ S n T h0 a1 a2 a5 a6 done h g)(e:Ext h h'):e_ S n T h0 a1 a2 a5 a6 done h' g:=⟨j.f.ext e,j.c.ext e,j.zm,j.adc⟩
theorem qd(M:kJ P S){n:Nat}{T:TX}{h0:aG}{a1 a2 a5 a6:Addr}{done:bB}{g:FG}{a:Int}{K:aK}(j:e_ S n T h0 a1 a2 a5 a6 done h g)(hn:n<=h0.size)(hf:0<bX T.enc a)(a9:cY .i64 a)(hA:g.A.length+4<=1099511627780)(b9:g.uY.length<128)
  (hk:∀h' B,e_ S n T h0 a1 a2 a5 a6 (done++[a]) h' B->B.uY=g.uY++[a]->B.A.length<=g.A.length+4->wp P K h' Q) :
  wp P (.load (tP) (some a1) λ(D:OA)=>bF (aJ D)<|bF (aJ D)<|.load (tI) (aB D 0) λ(a0:Int)=>
   .alloc [aH a] λ(al:Addr)=>.call (rG S a0 ⟨some al,1,1⟩) [tS, tI, tI] λ(a4:Sl×Int×Int×Unit)=>
   .load (tP) (some a1) λ(C:OA)=>.load (tP) (some a1) λ(E:OA)=>bF (aJ E)<|bF (aJ E)<|.load (tS) (aB E 3) λ(ao:Sl)=>
   .append 1 1 [.int .u8 0] ao a4.1 λ(aw:Sl)=>.check (some a1) [.pointer C]<|bF (aJ C)<|bF (aJ C)<|.store (aB C 3) [dN aw]<|
   .load (tI) (some a6) λ(a3:Int)=>.store (some a6) [aH (aT .i64 a3 1)] K) h Q:=by
 have f:=j.f;have he:eM T.enc:=f.t.enc;have hlen:=oR hf;have O:=zY T.enc a;have lp:∀{h'} {K:OA->aK} {Q:Nat->bH->aG->Prop},Ext h h'->wp P (K (some T.p)) h' Q->wp P (.load (tP) (some a1) K) h' Q:=λe hk=>bC (b:=.ptr) a1 (some T.p) rfl (by have:=aI.1 (f.o1.ext e).cells 0 _ rfl;rwa [add_zero']at this) hk;refine lp (Ext.refl h) (aL rfl (aL rfl (bC (b:=bI) (T.p.add 0) T.enc rfl f.t.c0 ?_)));refine jG (k:=.i64) [a] (by intro x m;rw[dE.1 m];exact a9) (by simp) λh1 e1 o1=>?_;refine aM (YN M o1.lO (by simp)) λ⟨(y:Sl),(at_:Int),(er:Int),_⟩ u e2 w=>?_;obtain⟨oy,_,_⟩:=f_.fits he (by intro b hb;rw[dE.1 hb];exact hf) w;have oy:bV h1.size .u8 u y (dA T.enc a):=by simpa using oy
 dsimp only;have z:=e1.trans e2;have f2:=f.ext z;refine lp z (lp z (aL rfl (aL rfl (bC (b:=.sl) (T.p.add 3) g.ad rfl f2.t.c3 ?_))));have X:n<=u.size:=dI hn (dI j.c.1 z.size);refine uU (show bV n .u8 u g.ad g.A from f2.t.ad) X oy.lO (by omega) (by omega) λr N k3 o3 u3 b3 c3=>?_;have lo:=f2.t.lo;have bb:∀c:Addr,¬g.Z c.block->∀b,g.ad.aD=some b->b.block≠c.block:=λc V b hb e=>V (e ▸ f2.t.za b hb);obtain⟨z1,z2,z5,z6⟩:=f.zd;obtain⟨d1,d2,d4,d5,d6,d7⟩:=f.dj;have G:aV (λi=>∃b,g.ad.aD=some b/\b.block=i) u N:=aV.dK u3 λx m _=>⟨x,m,rfl⟩;have k1:∀{c:Addr} {vs:bH},cA h0.size 1 u ⟨some c,1,1⟩ vs->¬g.Z c.block->cA h0.size 1 N ⟨some c,1,1⟩ vs:=λo ba=>G.own o λx m ⟨b,hb,e⟩=>by cases m;exact bb _ ba b hb e
 have Y:=k1 f2.o1 z1;have bo:=k1 f2.o2 z2;have bt:=k1 f2.o5 z5;have b1:=k1 f2.o6 z6;have cc:T.p.block<u.size:=(lo _ f2.t.zp).2;have b4:cA n 1 N ⟨some T.p,4,4⟩ [aH T.enc,aH T.limit, .pointer T.cur.root,dN g.ad]:=G.own (show cA n 1 u ⟨some T.p,4,4⟩ [aH T.enc,aH T.limit, .pointer T.cur.root,dN g.ad] from f2.t.ob) λx m ⟨b,hb,e⟩=>by cases m;exact f2.t.ed b hb e
 refine By rfl (aI.2 λi v hi=>by
  cases i with
  |zero=>simp at hi;subst hi;exact aI.1 Y.cells 0 _ rfl
  |succ i=>simp at hi) (aL rfl (aL rfl (fB (dN r) b4 (by simp) rfl λO o4 J=>?_)))
 have o4:cA n 1 O ⟨some T.p,4,4⟩ [aH T.enc,aH T.limit, .pointer T.cur.root,dN r]:=o4;obtain⟨t4,b6⟩:=cz f2.t X (by omega) o3 u3 b3 c3 o4 J;have zp:∀c:Addr,¬g.Z c.block->T.p.block≠c.block:=λc V e=>V (e ▸ f.t.zp);have bd:=qW Y J λx m=>by cases m;exact zp _ z1
 have bp:=qW bo J λx m=>by cases m;exact zp _ z2
 have b0:=qW bt J λx m=>by cases m;exact zp _ z5
 have ab:=qW b1 J λx m=>by cases m;exact zp _ z6
 have b8:=f.Yq;refine bC (b:=bI) a6 _ rfl (by have:=aI.1 ab.cells 0 _ rfl;rwa [add_zero']at this) ?_;rw[aW (by omega) (by omega)];refine fR [aH ((g.uY.length:Int)+1)] ab rfl (by intro v hv;rw[dE.1 hv];rfl) λU b2 W=>?_;have rz:∀b,r.aD=some b->g.Z b.block\/u.size<=b.block:=λb hb=>(b3 b hb).imp (λm=>f2.t.za b m) id;have old:∀c:Addr,c.block<u.size->¬g.Z c.block->¬nu g.Z r c.block:=λc V hz m=>by
  rcases m with m|⟨b,hb,e⟩
  .exact hz m
  .rcases rz b hb with w|w
   .exact hz (e ▸ w)
   .omega
 have q1:a1.block<u.size:=(f2.o1.lt rfl).2;have q2:a2.block<u.size:=(f2.o2.lt rfl).2;have q5:a5.block<u.size:=(f2.o5.lt rfl).2;have q6:a6.block<u.size:=(f2.o6.lt rfl).2;have R:=old a6 q6 z6;have H:aV (λi=>i=a6.block) O U:=pR W
 let B:FG:={ad:=r,A:=g.A++dA T.enc a,Z:=nu g.Z r,qs:=g.qs,ps:=g.ps,uY:=g.uY++[a]}
 have t5:eQ S n U (T.at_ B):=t4.oZ H λi hi e=>R (e ▸ hi);have cd:=f.br;have L:aV (λi=>i=T.p.block) N O:=pR J;refine hk U B ⟨⟨t5,?_,?_,?_,?_,?_,f.dj,λb hb=>?_,⟨old _ q1 z1,old _ q2 z2,old _ q5 z5,R⟩,λi hi=>?_,λq hq=>?_,?_,?_,?_,?_,?_⟩,?_,λi hi=>.inl (j.zm i hi),λb hb=>?_⟩ rfl (by show(g.A++dA T.enc a).length<=_;rw[bQ];omega)
 .exact qW bd W λx m=>by cases m;exact d4.symm
 .exact qW bp W λx m=>by cases m;exact d6.symm
 .have:((B.A.length-(B.uY.flatMap (dA T.enc)).length:Nat))=g.A.length-(g.uY.flatMap (dA T.enc)).length:=by
   show(g.A++dA T.enc a).length-((g.uY++[a]).flatMap (dA T.enc)).length=_;rw[gX,bQ,bQ];simp;omega
  rw[this];exact qW b0 W λx m=>by cases m;exact d7.symm
 .have:((B.uY.length:Nat):Int)=(g.uY.length:Int)+1:=by show(((g.uY++[a]).length:Nat):Int)=_;rw[bQ];simp
  rw[this];exact b2
 .have p3:zL h0.size N g.ps (g.qs.map (·.1)):=G.own f2.op λx m ⟨b,hb,e⟩=>(f2.pd x m).2.2.2.2 (e ▸ f2.t.za b hb)
  have p4:zL h0.size O g.ps (g.qs.map (·.1)):=L.own p3 λx m e=>(f2.pd x m).2.2.2.2 (e ▸ f2.t.zp);exact H.own p4 λx m e=>(f2.pd x m).2.2.2.1 e
 .obtain⟨w1,w2,w3,w4,w5⟩:=f2.pd b hb
  have a8:b.block<u.size:=(f2.op.lt hb).2;exact⟨w1,w2,w3,w4,old b a8 w5⟩
 .rcases hi with hi|⟨b,hb,rfl⟩
  .exact f.zn i hi
  .rcases rz b hb with w|w
   .exact f.zn _ w
   .have:=j.c.1;have:=z.size;right;omega
 .have:=b6 q ((f.Cx q hq).1.oZ (aV.bD (F:=λ_=>False) z) λ_ _ x=>x)
  exact⟨A3.oZ this H λi hi e=>R (e ▸ hi),(f.Cx q hq).2⟩
 .show g.A++dA T.enc a=_
  rw[f.all,gX,dX];simp
 .show dR g.qs++(g.uY++[a]).flatMap (dA T.enc)=_
  rw[gX,gX,<-f.put,dX]
 .show cV T.enc g.qs++(g.uY++[a]).map (tk T.enc)=_
  rw[dP,dP,<-f.uv,dX]
 .intro b hb
  rcases dH.1 hb with hb|hb
  .exact f.fits b hb
  .rw[dE.1 hb];exact hf
 .show(g.uY++[a]).length<=128;rw[bQ];simp;omega
 .have a7:aV (λi=>(∃b,g.ad.aD=some b/\b.block=i)\/i=T.p.block\/i=a6.block) u U:=(G.mono λi _ e=>.inl e).trans ((L.mono λi _ e=>.inr (.inl e)).trans (H.mono λi _ e=>.inr (.inr e)) λi _ x=>x) λi _ x=>x
  refine(j.c.ext z).trans a7 λi hi m=>?_;rcases m with⟨b,hb,rfl⟩|rfl|rfl
  .rcases j.adc b hb with w|w
   .exact .inr ⟨b,w,rfl⟩
   .omega
  .exact .inl rfl
  .have:h0.size<=a6.block:=(f.o6.lt rfl).1;omega
 .rcases b3 b hb with w|w
  .exact j.adc b w
  .have:=j.c.1;have:=z.size;right;omega
structure n_(S:cH)(n:Nat)(T:TX)(h0:aG)(l:bB)(h:aG)(g:FG):Prop where
 t:eQ S n h (T.at_ g)
 op:zL h0.size h g.ps (g.qs.map (·.1))
 pd:∀b,g.ps.aD=some b->¬g.Z b.block
 zn:∀i,g.Z i->T.Z i\/h0.size<=i
 zm:∀i,T.Z i->g.Z i
 Cx:∀q,q∈g.qs->A3 h (T.at_ g) q/\q.1.2.1 = -1
 all:g.A=T.A++l.flatMap (dA T.enc)
 put:dR g.qs=l.flatMap (dA T.enc)
 uv:cV T.enc g.qs=l.map (tk T.enc)
 adc:∀b,g.ad.aD=some b->T.ad.aD=some b\/h0.size<=b.block
theorem gl(M:kJ P S){n:Nat}{T:TX}{put:Sl}{l:bB}(t:eQ S n h T)(hn:n<=h.size)(hp:kW .i64 h put l)(hf:∀a,a∈l->0<bX T.enc a)(hA:T.A.length+4*l.length<=1099511627776)
  (E:l≠[]->∀a,put.aD=some a->¬T.Z a.block) :
  wp P (AE S (some T.p) put) h λtg z h'=>tg=0/\aV (rU T) h h'/\∃g:FG,z=[dN g.ps]/\n_ S n T h l h' g:=by
 unfold AE;have B:=hp.len;refine λU=>?_;have e1:Ext h (h.push (.cells [Value.pointer (some T.p)].toArray U)):=Ext.push ..;have o1:cA h.size 1 (h.push (.cells [Value.pointer (some T.p)].toArray U)) ⟨some ⟨h.size,0,none⟩,1,1⟩ [.pointer (some T.p)]:=bR rfl (by decide) (by decide);have y1:(h.push (.cells [Value.pointer (some T.p)].toArray U)).size=h.size+1:=by simp
 generalize h.push (.cells [Value.pointer (some T.p)].toArray U)=m at e1 o1 y1⊢;refine λV=>?_;have e2:Ext m (m.push (.cells [Value.slice none 0 0].toArray V)):=Ext.push ..;have o2:cA m.size 1 (m.push (.cells [Value.slice none 0 0].toArray V)) ⟨some ⟨m.size,0,none⟩,1,1⟩ [.slice none 0 0]:=bR rfl (by decide) (by decide);have y2:(m.push (.cells [Value.slice none 0 0].toArray V)).size=m.size+1:=by simp
 generalize m.push (.cells [Value.slice none 0 0].toArray V)=o at e2 o2 y2⊢;have t2:=t.ext (e1.trans e2);refine bC (b:=.ptr) ⟨h.size,0,none⟩ (some T.p) rfl (by have:=aI.1 (o1.ext e2).cells 0 _ rfl;rwa [add_zero']at this) (aL rfl (aL rfl (bC (b:=.sl) (T.p.add 3) T.ad rfl t2.c3 ?_)));have b9:T.ad.len=T.A.length:=t.ad.len;refine λW=>?_;have e3:Ext o (o.push (.cells [aH 0].toArray W)):=Ext.push ..;have o3:cA o.size 1 (o.push (.cells [aH 0].toArray W)) ⟨some ⟨o.size,0,none⟩,1,1⟩ [aH 0]:=bR rfl (by decide) (by decide);have y3:(o.push (.cells [aH 0].toArray W)).size=o.size+1:=by simp
 generalize o.push (.cells [aH 0].toArray W)=h3 at e3 o3 y3⊢;refine fR [aH (aQ T.ad.len)] o3 rfl (by intro v hv;rw[dE.1 hv];rfl) λw o4 u4=>?_;have a9:Ext o w:=jU.jQ e3 u4 (by intro x e;cases e;exact bM _);have y4:h3.size<=w.size:=u4.1;refine λao=>?_;have e5:Ext w (w.push (.cells [aH 0].toArray ao)):=Ext.push ..;have o5:cA w.size 1 (w.push (.cells [aH 0].toArray ao)) ⟨some ⟨w.size,0,none⟩,1,1⟩ [aH 0]:=bR rfl (by decide) (by decide);generalize w.push (.cells [aH 0].toArray ao)=h5 at e5 o5⊢;refine fR [aH 0] o5 rfl (by intro v hv;rw[dE.1 hv];rfl) λh6 o6 u6=>?_;have al:Ext w h6:=jU.jQ e5 u6 (by intro x e;cases e;exact bM _);have a8:Ext h h6:=((e1.trans e2).trans a9).trans al;have ba:Ext o h6:=a9.trans al;have lo:=t.lo;have J0:e_ S n T h ⟨h.size,0,none⟩ ⟨m.size,0,none⟩ ⟨o.size,0,none⟩ ⟨w.size,0,none⟩ [] h6 {ad:=T.ad,A:=T.A,Z:=T.Z,qs:=[],ps:=⟨none,0,0⟩,uY:=[]}:=by
  refine⟨⟨t.ext a8,o1.ext (e2.trans ba),(o2.ext ba).mono (by omega),?_,o6.mono (by omega),⟨by simp[cP],by simp,(by decide:0<2^63),rfl⟩,⟨by dsimp only;omega,by dsimp only;omega,by dsimp only;omega,by dsimp only;omega,by dsimp only;omega,by dsimp only;omega⟩,λb hb=>(by cases hb),⟨λE=>by have:h.size<h.size:=(lo _ E).2;omega,λE=>by have:m.size<h.size:=(lo _ E).2;omega,λE=>by have:o.size<h.size:=(lo _ E).2;omega,λE=>by have:w.size<h.size:=(lo _ E).2;omega⟩,λi hi=>.inl hi,λq hq=>(by cases hq),by simp,by simp[dR],by simp[cV],λa ha=>(by cases ha),by simp⟩,aV.bD a8,λi hi=>hi,λb hb=>.inl hb⟩;have:((T.A.length-(([]:bB).flatMap (dA T.enc)).length:Nat):Int)=aQ T.ad.len:=by rw[aN,b9];simp
  show cA h.size 1 h6 _ [aH _];rw[this];exact(o4.mono (by omega)).ext al
 have c7:(⟨h.size,0,none⟩:Addr).block=h.size:=rfl;generalize(⟨h.size,0,none⟩:Addr)=A1 at J0⊢;generalize(⟨m.size,0,none⟩:Addr)=H at J0⊢;generalize(⟨o.size,0,none⟩:Addr)=A5 at J0⊢;generalize(⟨w.size,0,none⟩:Addr)=K at J0⊢;have bp:∀{g:FG} {done:bB} {h':aG},VH S n T h.size A1 H A5 K done h' g->(∀a,a∈g.uY->iW a)->bJ T.enc (g.uY.flatMap (dA T.enc))=g.uY.map (tk T.enc):=λf O=>P4 t.enc λa ha=>⟨f.WG a ha,O a ha⟩;have D:∀{g:FG} {j:Nat} {h':aG},VH S n T h.size A1 H A5 K (l.take j) h' g->g.A.length<=1099511627776:=λ{g j h'} f=>by
  have m:=(HI (enc:=T.enc) (l:=l.take j) λa ha=>hf a (rW ha)).2;rw[f.all,bQ];rw[dJ]at m;omega
 have b0:∀{h':aG},aV (rU T) h h'->kW .i64 h' put l:=λc=>c.y9 hp λcg x e hw=>E cg x e (Jz t hw);refine bL (λ(s:Int×Unit) h'=>∃(j:Nat) (g:FG),s.1=j/\j<=l.length/\e_ S n T h A1 H A5 K (l.take j) h' g/\∀a,a∈g.uY->iW a) (λs _=>((l.length:Int)-s.1).toNat)
  (λtg z h'=>tg=2/\z=[]/\∃g,e_ S n T h A1 H A5 K l h' g/\∀a,a∈g.uY->iW a) ⟨0,_,rfl,cO _,J0,λa ha=>(by cases ha)⟩ ?_ ?_
 .rintro⟨(i':Int),u⟩ h7 ⟨j,g,hj,c8,J,O⟩
  dsimp only at hj⊢;subst hj;refine aE (λhc=>?_) λhc=>?_
  .rw[aU,aN,B]at hc
   have N:j<l.length:=by omega
   have bt:l.take (j+1)=l.take j++[l[j]]:=by rw[eN,cK N];rfl
   have X:=hf _ (CK N);refine cZ (λtg z h'=>tg=0/\z=[]/\∃g,e_ S n T h A1 H A5 K (l.take (j+1)) h' g/\∀a,a∈g.uY->iW a) ?_ ?_
   .refine qZ (b0 J.c) (by omega) (by omega) λY=>?_
    rw[show((j:Int)).toNat=j by omega]at Y⊢;have cc:l.getD j 0=l[j]:=by rw[gJ,cK N];rfl
    rw[cc]at Y⊢;generalize l[j]=a at bt X Y⊢;have hu:=(iK T.enc a).1 X;have B:(0<=a/\(a<55296\/57343<a))↔iW a:=by unfold iW;omega
    refine bZ (iW a) ?_ λpl h8 e8 hb=>?_
    .refine aE (λe=>aE (λhy=>aC ⟨rfl,Ext.refl _,true,rfl,?_⟩) λhy=>aC ⟨rfl,Ext.refl _,_,rfl,?_⟩) λe=>aC ⟨rfl,Ext.refl _,false,rfl,?_⟩
     .rw[dD]at e;rw[aU]at hy;rw[<-B];exact Iff.intro (λ_=>⟨e, .inl hy⟩) λ_=>rfl
     .rw[dD]at e;rw[aY]at hy;rw[dL,<-B];omega
     .rw[eS]at e;rw[<-B];exact Iff.intro (λh=>by cases h) λh=>by omega
    dsimp only;have L:=J.ext e8;have b6:=D L.f;refine cZ (λtg z h'=>tg=0/\z=[]/\∃g,e_ S n T h A1 H A5 K (l.take j) h' g/\(∀a,a∈g.uY->iW a)/\g.uY.length<128/\(¬iW a->g.uY=[])) ?_ ?_
    .refine bZ (¬iW a\/g.uY.length=128) ?_ λbb h9 e9 bd=>aE (λe=>?_) λe=>aC ⟨rfl,rfl,g,L.ext e9,O,?_,?_⟩
     .refine aE (λe=>aC ⟨rfl,Ext.refl _,true,rfl,?_⟩) λe=>bC (b:=bI) K _ rfl (by have:=aI.1 L.f.o6.cells 0 _ rfl;rwa [add_zero']at this) (aC ⟨rfl,Ext.refl _,_,rfl,?_⟩)
      .rw[dF]at e
       exact Iff.intro (λ_=>.inl λk=>by rw[hb.2 k]at e;cases e) λ_=>rfl
      .rw[eG]at e
       have:=hb.1 e;rw[cM];exact⟨λh=>.inr (by omega),λh=>by rcases h with h|h;exact absurd this h;omega⟩
     .have C:=L.ext e9
      refine US M C.f C.c.1 (bp C.f O) (by rw[dJ];omega) b6 λb4 g' a3 f10 R b2 F=>aC ⟨rfl,rfl,g',⟨f10,?_,?_,?_⟩,?_,?_,λ_=>R⟩
      .exact C.c.trans (G:=λi=>h.size<=i) ⟨a3.1,λi hi hn=>a3.2.1 i (by omega),a3.2.2⟩ λi hi hg=>by omega
      .rw[b2];exact C.zm
      .rw[F];exact C.adc
      .rw[R];intro a ha;cases ha
      .rw[R];simp
     .have:=L.f.Yq
      have:¬g.uY.length=128:=λk=>by rw[bd.2 (.inr k)]at e;cases e
      omega
     .intro k;rw[bd.2 (.inl k)]at e;cases e
    rintro tg z h9 ⟨rfl,rfl,g9,C,cr,cd,cf⟩;refine bG (bO ?_);have c6:=D C.f;refine qd M C hn X Y (by omega) cd λb4 aw r a0 c4=>?_;rw[<-bt]at r;refine aE (λe=>?_) λe=>aC ⟨rfl,rfl,aw,r,?_⟩
    .rw[dF]at e
     have bo:¬iW a:=λk=>by rw[hb.2 k]at e;cases e
     have a7:bJ T.enc (aw.uY.flatMap (dA T.enc))=aw.uY.map (tk T.enc):=by
      rw[a0,cf bo];have:=d_ t.enc X bo;simpa using this
     refine US M r.f r.c.1 a7 (by rw[dJ];omega) (D r.f) λc5 g' a4 f11 b1 b3 F=>aC ⟨rfl,rfl,g',⟨f11,?_,?_,?_⟩,?_⟩
     .exact r.c.trans (G:=λi=>h.size<=i) ⟨a4.1,λi hi hn=>a4.2.1 i (by omega),a4.2.2⟩ λi hi hg=>by omega
     .rw[b3];exact r.zm
     .rw[F];exact r.adc
     .rw[b1];intro a ha;cases ha
    .rw[eG]at e
     have ct:=hb.1 e;rw[a0];intro b hb;rcases dH.1 hb with hb|hb
     .exact cr b hb
     .rw[dE.1 hb];exact ct
   .rintro tg z h8 ⟨rfl,rfl,g8,L,ab⟩
    refine bG (bO ?_);rw[aW (by omega) (by omega)];exact aC ⟨λ_=>⟨((j:Int)+1,()),rfl,⟨j+1,g8,rfl,by omega,L,ab⟩,by dsimp only;omega⟩,λh=>absurd rfl h⟩
  .rw[aY,aN,B]at hc
   rw[iY (by omega)]at J;exact aC ⟨λh=>absurd h (by decide),λ_=>⟨rfl,rfl,g,J,O⟩⟩
 .rintro tg z h7 ⟨rfl,rfl,g,J,O⟩
  have b8:g.A.length<=1099511627776:=D (j:=l.length) (by rw[iY (bM _)];exact J.f);refine bG (bO (US M J.f J.c.1 (bp J.f O) (by omega) b8 λh8 g' k8 f8 ab cx F=>?_));refine bC (b:=.sl) H g'.ps rfl (by have:=aI.1 f8.o2.cells 0 _ rfl;rwa [add_zero']at this) (aC ⟨rfl,?_,g',rfl,⟨f8.t,f8.op,λb hb=>(f8.pd b hb).2.2.2.2,f8.zn,?_,f8.Cx,f8.all,?_,?_,?_⟩⟩)
  .exact J.c.trans (G:=λi=>h.size<=i) ⟨k8.1,λi hi hn=>k8.2.1 i (by omega),k8.2.2⟩ λi hi hg=>by omega
  .rw[cx];exact J.zm
  .have:=f8.put;rw[ab]at this;simpa using this
  .have:=f8.uv;rw[ab]at this;simpa using this
  .rw[F];exact J.adc
end
end Go.Sw.Piece
