
/- Steps. -/
import Derived.Test.YtncolficnfcdcaaGreatSwU5
import Derived.Test.YtncolficnfcdcaaGreatSwFab
import Derived.Test.YtncolficnfcdcaaGreatSwFcodec
import Derived.Test.YtncolficnfcdcaaGreatSwCC
import Derived.Test.YtncolficnfcdcaaGreatSwU4
set_option linter.unusedVariables false
set_option linter.unusedSimpArgs false
set_option maxRecDepth 100000
set_option maxHeartbeats 1000000
namespace Go.Sw.Any
section
structure gV where
  iB:List B
  sB:List B
  zi:Bs.den iB
  zs:Bs.den sB
  mF:Bs.den iB->aK
  aF:Bs.den sB->Bs.den sB->aK
  kF:Bs.den sB->Int->aK
  f1:FuncId
  f2:FuncId
  sg:Bs.den iB->Prop
  wt:Bs.den iB->Nat
  V:Nat->Bs.den sB->Prop
  Lh:Bs.den iB->Bs.den sB
  add:Bs.den sB->Bs.den sB->Bs.den sB
  key:Bs.den sB->Int->Int
  Z:Nat->Prop
abbrev gV.It(I:gV):Type:=Bs.den I.iB
abbrev gV.Su(I:gV):Type:=Bs.den I.sB
def gV.ni(I:gV):Nat:=I.iB.length
def gV.ns(I:gV):Nat:=I.sB.length
def yB(I:gV)(n:OA):aK:=
 aR (fI n)
 (.ret 0 [vI 0])<|
 bD (aJ n)<|
 bD (aJ n)<|
 .load tI (aB n (I.ni+2)) λ(n1:Int)=>
 .ret 0 [vI n1]
def sE(I:gV)(n:OA):aK:=
 aR (fI n)
 (.ret 0 [vI 0])<|
 bD (aJ n)<|
 bD (aJ n)<|
 .load tI (aB n (I.ni+3)) λ(n1:Int)=>
 .ret 0 [vI n1]
def GW(I:gV)(l:OA)(x:(Bs.den I.iB))(r:OA):aK:=
 .alloc (Bs.inj I.iB x) λ(a1:Addr)=>
 .load (Ty.agg I.iB) (some a1) λ(r2:Bs.den I.iB)=>
 .call (yB I l) [tI] λ(r3:Int×Unit)=>
 .check (some a1) (Bs.inj I.iB r2)<|
 .call (yB I r) [tI] λ(r4:Int×Unit)=>
 .check (some a1) (Bs.inj I.iB r2)<|
 .call (sE I l) [tI] λ(r5:Int×Unit)=>
 .check (some a1) (Bs.inj I.iB r2)<|
 .call (sE I r) [tI] λ(r6:Int×Unit)=>
 .check (some a1) (Bs.inj I.iB r2)<|
 .alloc ([vP l,vP r]++(Bs.inj I.iB r2++([vI (aT .i64 (aT .i64 r3.1 1) r4.1),vI (aT .i64 (CU r5.1 r6.1) 1)]++Bs.inj I.sB I.zs))) λ(a7:Addr)=>
 .load (Ty.agg I.iB) (some a1) λ(r8:Bs.den I.iB)=>
 .call (I.mF r8) [(Ty.agg I.sB)] λ(r9:((Bs.den I.sB)×Unit))=>
 .store (aB (some a7) (I.ni+4)) (Bs.inj I.sB r9.1)<|
 dX 0 [] (aR (cO (fI l))
 (bD (aJ l)<|
 bD (aJ l)<|
 .load (Ty.agg I.sB) (aB l (I.ni+4)) λ(r0:Bs.den I.sB)=>
 .load (Ty.agg I.sB) (aB (some a7) (I.ni+4)) λ(r1:Bs.den I.sB)=>
 .call (I.aF r0 r1) [(Ty.agg I.sB)] λ(r7:((Bs.den I.sB)×Unit))=>
 .store (aB (some a7) (I.ni+4)) (Bs.inj I.sB r7.1)<|
 .ret 0 [])<|
 .ret 0 []) λ(u0:Unit)=>
 dX 0 [] (aR (cO (fI r))
 (.load (Ty.agg I.sB) (aB (some a7) (I.ni+4)) λ(r10:Bs.den I.sB)=>
 bD (aJ r)<|
 bD (aJ r)<|
 .load (Ty.agg I.sB) (aB r (I.ni+4)) λ(r11:Bs.den I.sB)=>
 .call (I.aF r10 r11) [(Ty.agg I.sB)] λ(r12:((Bs.den I.sB)×Unit))=>
 .store (aB (some a7) (I.ni+4)) (Bs.inj I.sB r12.1)<|
 .ret 0 [])<|
 .ret 0 []) λ(u1:Unit)=>
 .ret 0 [vP (some a7)]
def Cs(fuelN:Nat)(I:gV)(items:Sl):aK:=
 match fuelN with
 |0=>.fail
 |fuelN+1=>
  aR (fU (aQ items.len) 0)
  (.ret 0 [vP none])<|
  bD (cO false)<|
  bD (wK (kV .i64 (aQ items.len) 2) items.cap)<|
  bD (bN (aJ items.aD) (eV (kV .i64 (aQ items.len) 2) items.len))<|
  .load (Ty.agg I.iB) (aB items.aD (bB (bP (kV .i64 (aQ items.len) 2)) I.ni)) λ(r1:Bs.den I.iB)=>
  bD (wK (aT .i64 (kV .i64 (aQ items.len) 2) 1) items.len)<|
  .call (Cs fuelN I (⟨(bF items.aD items.cap 0 I.ni),(cV (bP (kV .i64 (aQ items.len) 2)) 0),(cV items.cap 0)⟩)) [tP] λ(r2:OA×Unit)=>
  .check (aB items.aD (bB (bP (kV .i64 (aQ items.len) 2)) I.ni)) (Bs.inj I.iB r1)<|
  .call (Cs fuelN I (⟨(bF items.aD items.cap (bP (aT .i64 (kV .i64 (aQ items.len) 2) 1)) I.ni),(cV items.len (bP (aT .i64 (kV .i64 (aQ items.len) 2) 1))),(cV items.cap (bP (aT .i64 (kV .i64 (aQ items.len) 2) 1)))⟩)) [tP] λ(r3:OA×Unit)=>
  .check (aB items.aD (bB (bP (kV .i64 (aQ items.len) 2)) I.ni)) (Bs.inj I.iB r1)<|
  .call (GW I r2.1 r1 r3.1) [tP] λ(r4:OA×Unit)=>
  .ret 0 [vP r4.1]
def Ln(I:gV)(items:Sl):aK:=.ex λfuelN=>Cs fuelN I items
def ae(I:gV)(items:Sl):aK:=
 .alloc [vP none] λ(a1:Addr)=>
 .call (Ln I items) [tP] λ(r2:OA×Unit)=>
 .store (some a1) [vP r2.1]<|
 .load (Ty.agg [B.ptr]) (some a1) λ(r3:OA×Unit)=>
 .ret 0 [(Value.agg (#[vP r3.1]))]
def Pw(I:gV)(t:(OA×Unit)):aK:=
 .alloc [vP t.1] λ(a1:Addr)=>
 .load tP (aB (some a1) 0) λ(p2:OA)=>
 .call (yB I p2) [tI] λ(r3:Int×Unit)=>
 .ret 0 [vI r3.1]
def L8(I:gV)(l:OA)(x:(Bs.den I.iB))(r:OA):aK:=
 .alloc (Bs.inj I.iB x) λ(a1:Addr)=>
 .call (sE I l) [tI] λ(r2:Int×Unit)=>
 .call (sE I r) [tI] λ(r3:Int×Unit)=>
 aR (rY r2.1 (aT .i64 r3.1 1))
 (bQ tP l 0 λ(p4:OA)=>
 bQ tP l 1 λ(p5:OA)=>
 .call (sE I p4) [tI] λ(r6:Int×Unit)=>
 .check (aB l 1) [vP p5]<|
 .call (sE I p5) [tI] λ(r7:Int×Unit)=>
 aR (pV r6.1 r7.1)
 (bQ tP l 0 λ(p8:OA)=>
 bQ (Ty.agg I.iB) l 2 λ(r9:Bs.den I.iB)=>
 bQ tP l 1 λ(p0:OA)=>
 .load (Ty.agg I.iB) (some a1) λ(r0:Bs.den I.iB)=>
 .call (GW I p0 r0 r) [tP] λ(r1:OA×Unit)=>
 .check (aB l 2) (Bs.inj I.iB r9)<|
 .check (aB l 0) [vP p8]<|
 .call (GW I p8 r9 r1.1) [tP] λ(r4:OA×Unit)=>
 .ret 0 [vP r4.1])<|
 bQ tP l 1 λ(p1:OA)=>
 bQ tP l 0 λ(p2:OA)=>
 bQ (Ty.agg I.iB) l 2 λ(r5:Bs.den I.iB)=>
 bQ tP p1 0 λ(p3:OA)=>
 bQ (Ty.agg I.iB) p1 2 λ(r8:Bs.den I.iB)=>
 bQ tP p1 1 λ(p6:OA)=>
 .load (Ty.agg I.iB) (some a1) λ(r10:Bs.den I.iB)=>
 .call (GW I p2 r5 p3) [tP] λ(r14:OA×Unit)=>
 .check (some a1) (Bs.inj I.iB r10)<|
 .check (aB p1 1) [vP p6]<|
 .check (aB p1 2) (Bs.inj I.iB r8)<|
 .call (GW I p6 r10 r) [tP] λ(r15:OA×Unit)=>
 .check (aB p1 2) (Bs.inj I.iB r8)<|
 .call (GW I r14.1 r8 r15.1) [tP] λ(r17:OA×Unit)=>
 .ret 0 [vP r17.1])<|
 .call (sE I r) [tI] λ(r19:Int×Unit)=>
 .call (sE I l) [tI] λ(r26:Int×Unit)=>
 aR (rY r19.1 (aT .i64 r26.1 1))
 (bQ tP r 1 λ(p7:OA)=>
 bQ tP r 0 λ(p9:OA)=>
 .call (sE I p7) [tI] λ(r27:Int×Unit)=>
 .check (aB r 0) [vP p9]<|
 .call (sE I p9) [tI] λ(r31:Int×Unit)=>
 aR (pV r27.1 r31.1)
 (.load (Ty.agg I.iB) (some a1) λ(r33:Bs.den I.iB)=>
 bQ tP r 0 λ(p11:OA)=>
 bQ (Ty.agg I.iB) r 2 λ(r36:Bs.den I.iB)=>
 bQ tP r 1 λ(p12:OA)=>
 .call (GW I l r33 p11) [tP] λ(r38:OA×Unit)=>
 .check (aB r 1) [vP p12]<|
 .check (aB r 2) (Bs.inj I.iB r36)<|
 .call (GW I r38.1 r36 p12) [tP] λ(r40:OA×Unit)=>
 .ret 0 [vP r40.1])<|
 bQ tP r 0 λ(p13:OA)=>
 .load (Ty.agg I.iB) (some a1) λ(r42:Bs.den I.iB)=>
 bQ tP p13 0 λ(p16:OA)=>
 bQ (Ty.agg I.iB) p13 2 λ(r48:Bs.den I.iB)=>
 bQ tP p13 1 λ(p18:OA)=>
 bQ (Ty.agg I.iB) r 2 λ(r49:Bs.den I.iB)=>
 bQ tP r 1 λ(p20:OA)=>
 .call (GW I l r42 p16) [tP] λ(r50:OA×Unit)=>
 .check (aB r 1) [vP p20]<|
 .check (aB r 2) (Bs.inj I.iB r49)<|
 .check (aB p13 1) [vP p18]<|
 .check (aB p13 2) (Bs.inj I.iB r48)<|
 .call (GW I p18 r49 p20) [tP] λ(r51:OA×Unit)=>
 .check (aB p13 2) (Bs.inj I.iB r48)<|
 .call (GW I r50.1 r48 r51.1) [tP] λ(r52:OA×Unit)=>
 .ret 0 [vP r52.1])<|
 .load (Ty.agg I.iB) (some a1) λ(r53:Bs.den I.iB)=>
 .call (GW I l r53 r) [tP] λ(r54:OA×Unit)=>
 .ret 0 [vP r54.1]
def FR(fuelN:Nat)(I:gV)(l:OA)(x:(Bs.den I.iB))(r:OA):aK:=
 match fuelN with
 |0=>.fail
 |fuelN+1=>
  .alloc (Bs.inj I.iB x) λ(a1:Addr)=>
  .call (sE I l) [tI] λ(r2:Int×Unit)=>
  .call (sE I r) [tI] λ(r3:Int×Unit)=>
  aR (rY r2.1 (aT .i64 r3.1 1))
  (bQ tP l 0 λ(p4:OA)=>
  bQ (Ty.agg I.iB) l 2 λ(r5:Bs.den I.iB)=>
  bQ tP l 1 λ(p6:OA)=>
  .load (Ty.agg I.iB) (some a1) λ(r7:Bs.den I.iB)=>
  .call (FR fuelN I p6 r7 r) [tP] λ(r8:OA×Unit)=>
  .check (aB l 2) (Bs.inj I.iB r5)<|
  .check (aB l 0) [vP p4]<|
  .call (L8 I p4 r5 r8.1) [tP] λ(r9:OA×Unit)=>
  .ret 0 [vP r9.1])<|
  .call (sE I r) [tI] λ(r0:Int×Unit)=>
  .call (sE I l) [tI] λ(r1:Int×Unit)=>
  aR (rY r0.1 (aT .i64 r1.1 1))
  (.load (Ty.agg I.iB) (some a1) λ(r4:Bs.den I.iB)=>
  bQ tP r 0 λ(p0:OA)=>
  bQ (Ty.agg I.iB) r 2 λ(r6:Bs.den I.iB)=>
  bQ tP r 1 λ(p1:OA)=>
  .call (FR fuelN I l r4 p0) [tP] λ(r13:OA×Unit)=>
  .check (aB r 1) [vP p1]<|
  .check (aB r 2) (Bs.inj I.iB r6)<|
  .call (L8 I r13.1 r6 p1) [tP] λ(r15:OA×Unit)=>
  .ret 0 [vP r15.1])<|
  .load (Ty.agg I.iB) (some a1) λ(r20:Bs.den I.iB)=>
  .call (GW I l r20 r) [tP] λ(r21:OA×Unit)=>
  .ret 0 [vP r21.1]
def Jx(I:gV)(l:OA)(x:(Bs.den I.iB))(r:OA):aK:=.ex λfuelN=>FR fuelN I l x r
def Jy(fuelN:Nat)(I:gV)(n:OA)(i:Int):aK:=
 match fuelN with
 |0=>.fail
 |fuelN+1=>
  aR (fI n)
  (.ret 0 [vP none,vP none])<|
  bQ tP n 0 λ(p1:OA)=>
  .call (yB I p1) [tI] λ(r2:Int×Unit)=>
  aR (zV i r2.1)
  (bQ tP n 0 λ(p3:OA)=>
  .call (Jy fuelN I p3 i) [tP,tP] λ(r4:OA×OA×Unit)=>
  bQ (Ty.agg I.iB) n 2 λ(r5:Bs.den I.iB)=>
  bQ tP n 1 λ(p6:OA)=>
  .call (Jx I r4.2.1 r5 p6) [tP] λ(r7:OA×Unit)=>
  .ret 0 [vP r4.1,vP r7.1])<|
  bQ tP n 1 λ(p8:OA)=>
  .call (Jy fuelN I p8 (bJ .i64 (bJ .i64 i r2.1) 1)) [tP,tP] λ(r9:OA×OA×Unit)=>
  bQ tP n 0 λ(p0:OA)=>
  bQ (Ty.agg I.iB) n 2 λ(r0:Bs.den I.iB)=>
  .call (Jx I p0 r0 r9.1) [tP] λ(r1:OA×Unit)=>
  .ret 0 [vP r1.1,vP r9.2.1]
def U1(I:gV)(n:OA)(i:Int):aK:=.ex λfuelN=>Jy fuelN I n i
def Ew(fuelN:Nat)(I:gV)(n:OA):aK:=
 match fuelN with
 |0=>.fail
 |fuelN+1=>
  .alloc (Bs.inj I.iB I.zi) λ(a1:Addr)=>
  bQ tP n 0 λ(p2:OA)=>
  aR (fI p2)
  (bQ (Ty.agg I.iB) n 2 λ(r3:Bs.den I.iB)=>
  bQ tP n 1 λ(p4:OA)=>
  .store (some a1) (Bs.inj I.iB r3)<|
  .check (aB n 1) [vP p4]<|
  .load (Ty.agg I.iB) (some a1) λ(r5:Bs.den I.iB)=>
  .ret 0 [(Value.agg (Bs.inj I.iB r5).toArray),vP p4])<|
  bQ tP n 0 λ(p6:OA)=>
  .call (Ew fuelN I p6) [(Ty.agg I.iB),tP] λ(r7:((Bs.den I.iB)×OA×Unit))=>
  .alloc (Bs.inj I.iB I.zi) λ(a8:Addr)=>
  .store (some a8) (Bs.inj I.iB r7.1)<|
  .load (Ty.agg I.iB) (some a8) λ(r9:Bs.den I.iB)=>
  bQ (Ty.agg I.iB) n 2 λ(r0:Bs.den I.iB)=>
  bQ tP n 1 λ(p0:OA)=>
  .call (L8 I r7.2.1 r0 p0) [tP] λ(r1:OA×Unit)=>
  .check (some a8) (Bs.inj I.iB r9)<|
  .store (some a1) (Bs.inj I.iB r9)<|
  .load (Ty.agg I.iB) (some a1) λ(r2:Bs.den I.iB)=>
  .ret 0 [(Value.agg (Bs.inj I.iB r2).toArray),vP r1.1]
def U2(I:gV)(n:OA):aK:=.ex λfuelN=>Ew fuelN I n
def Jw(I:gV)(l:OA)(r:OA):aK:=
 aR (fI r)
 (.ret 0 [vP l])<|
 .call (U2 I r) [(Ty.agg I.iB),tP] λ(r1:((Bs.den I.iB)×OA×Unit))=>
 .alloc (Bs.inj I.iB I.zi) λ(a2:Addr)=>
 .store (some a2) (Bs.inj I.iB r1.1)<|
 .load (Ty.agg I.iB) (some a2) λ(r3:Bs.den I.iB)=>
 .call (Jx I l r3 r1.2.1) [tP] λ(r4:OA×Unit)=>
 .ret 0 [vP r4.1]
def FQ(I:gV)(t:(OA×Unit))(from_:Int)(to:Int)(items:Sl):aK:=
 .alloc [vP t.1] λ(a1:Addr)=>
 .alloc [vP none] λ(a2:Addr)=>
 dX 0 [tB] (aR (fE from_ 0)
 (.ret 0 [vB true])<|
 aR (rY from_ to)
 (.ret 0 [vB true])<|
 .load (Ty.agg [B.ptr]) (some a1) λ(r0:OA×Unit)=>
 .call (Pw I (r0.1,())) [tI] λ(r1:Int×Unit)=>
 .ret 0 [vB (rY to r1.1)]) λ(r2:Bool×Unit)=>
 aR r2.1
 (.store (some a2) [vP none]<|
 .load (Ty.agg [B.ptr]) (some a2) λ(r3:OA×Unit)=>
 .ret 0 [(Value.agg (#[vP r3.1])),(vI 1)])<|
 .load tP (aB (some a1) 0) λ(p0:OA)=>
 .call (U1 I p0 from_) [tP,tP] λ(r4:OA×OA×Unit)=>
 .load tP (aB (some a1) 0) λ(p1:OA)=>
 .call (U1 I p1 to) [tP,tP] λ(r5:OA×OA×Unit)=>
 .call (Ln I items) [tP] λ(r6:OA×Unit)=>
 .call (Jw I r4.1 r6.1) [tP] λ(r7:OA×Unit)=>
 .call (Jw I r7.1 r5.2.1) [tP] λ(r8:OA×Unit)=>
 .store (some a2) [vP r8.1]<|
 .load (Ty.agg [B.ptr]) (some a2) λ(r9:OA×Unit)=>
 .ret 0 [(Value.agg (#[vP r9.1])),(vI 0)]
def XD(I:gV)(t:(OA×Unit))(i:Int):aK:=
 .alloc [vP t.1] λ(a1:Addr)=>
 .alloc (Bs.inj I.sB I.zs) λ(a2:Addr)=>
 .alloc (Bs.inj I.sB I.zs) λ(a3:Addr)=>
 .load (Ty.agg [B.ptr]) (some a1) λ(r4:OA×Unit)=>
 .call (Pw I (r4.1,())) [tI] λ(r5:Int×Unit)=>
 .load tP (aB (some a1) 0) λ(p6:OA)=>
 dX 2 [] (.loop [tI,tP] ((Nk i r5.1),(p6,())) λ(r0:Int×OA×Unit)=>
 dX 0 [tB] (aR (cO (fI r0.2.1))
 (.ret 0 [vB (rY r0.1 0)])<|
 .ret 0 [vB false]) λ(r1:Bool×Unit)=>
 aR r1.1
 (bQ tP r0.2.1 0 λ(p0:OA)=>
 .call (yB I p0) [tI] λ(r2:Int×Unit)=>
 aR (zV r0.1 r2.1)
 (bQ tP r0.2.1 0 λ(p1:OA)=>
 .ret 0 [vI r0.1,vP p1])<|
 dX 0 [] (bQ tP r0.2.1 0 λ(p2:OA)=>
 aR (cO (fI p2))
 (.load (Ty.agg I.sB) (some a3) λ(r3:Bs.den I.sB)=>
 bQ tP r0.2.1 0 λ(p3:OA)=>
 bD (aJ p3)<|
 bD (aJ p3)<|
 .load (Ty.agg I.sB) (aB p3 (I.ni+4)) λ(r6:Bs.den I.sB)=>
 .call (I.aF r3 r6) [(Ty.agg I.sB)] λ(r7:((Bs.den I.sB)×Unit))=>
 .store (some a3) (Bs.inj I.sB r7.1)<|
 .ret 0 [])<|
 .ret 0 []) λ(u0:Unit)=>
 .load (Ty.agg I.sB) (some a3) λ(r8:Bs.den I.sB)=>
 bQ (Ty.agg I.iB) r0.2.1 2 λ(r9:Bs.den I.iB)=>
 .call (I.mF r9) [(Ty.agg I.sB)] λ(r10:((Bs.den I.sB)×Unit))=>
 .check (some a3) (Bs.inj I.sB r8)<|
 .call (I.aF r8 r10.1) [(Ty.agg I.sB)] λ(r11:((Bs.den I.sB)×Unit))=>
 .store (some a3) (Bs.inj I.sB r11.1)<|
 bQ tP r0.2.1 1 λ(p4:OA)=>
 .ret 0 [vI (bJ .i64 (bJ .i64 r0.1 r2.1) 1),vP p4])<|
 .ret 2 []) λ(u1:Unit)=>
 .load (Ty.agg I.sB) (some a3) λ(r12:Bs.den I.sB)=>
 .store (some a2) (Bs.inj I.sB r12)<|
 .load (Ty.agg I.sB) (some a2) λ(r13:Bs.den I.sB)=>
 .ret 0 [(Value.agg (Bs.inj I.sB r13).toArray)]
def aa(I:gV)(t:(OA×Unit))(i:Int):aK:=
 .alloc [vP t.1] λ(a1:Addr)=>
 .alloc (Bs.inj I.iB I.zi) λ(a2:Addr)=>
 .load tP (aB (some a1) 0) λ(p3:OA)=>
 .bind
 (.loop [tI,tP] (i,(p3,())) λ(r0:Int×OA×Unit)=>
 dX 0 [tB] (aR (cO (fI r0.2.1))
 (.ret 0 [vB (pV r0.1 0)])<|
 .ret 0 [vB false]) λ(r1:Bool×Unit)=>
 aR r1.1
 (bQ tP r0.2.1 0 λ(p0:OA)=>
 .call (yB I p0) [tI] λ(r2:Int×Unit)=>
 aR (fU r0.1 r2.1)
 (bQ (Ty.agg I.iB) r0.2.1 2 λ(r3:Bs.den I.iB)=>
 .store (some a2) (Bs.inj I.iB r3)<|
 .ret 1 [vP (some a2),vB true])<|
 aR (fE r0.1 r2.1)
 (bQ tP r0.2.1 0 λ(p1:OA)=>
 .ret 0 [vI r0.1,vP p1])<|
 bQ tP r0.2.1 1 λ(p2:OA)=>
 .ret 0 [vI (bJ .i64 (bJ .i64 r0.1 r2.1) 1),vP p2])<|
 .ret 2 []) λ(k0:Nat)=>
 λ(v0:bE)=>
 aR (jC k0 2)
 (.cast [] v0 λ(u0:Unit)=>
 .alloc (Bs.inj I.iB I.zi) λ(a0:Addr)=>
 .load (Ty.agg I.iB) (some a0) λ(r4:Bs.den I.iB)=>
 .store (some a2) (Bs.inj I.iB r4)<|
 .load (Ty.agg I.iB) (some a2) λ(r5:Bs.den I.iB)=>
 .ret 0 [(Value.agg (Bs.inj I.iB r5).toArray),vB false])<|
 aR (jC k0 1)
 (.cast [tP,tB] v0 λ(r6:OA×Bool×Unit)=>
 .load (Ty.agg I.iB) r6.1 λ(r7:Bs.den I.iB)=>
 .ret 0 [(Value.agg (Bs.inj I.iB r7).toArray),vB r6.2.1])<|
 .fail
def fx(I:gV)(t:(OA×Unit)):aK:=
 .alloc [vP t.1] λ(a1:Addr)=>
 .alloc (Bs.inj I.sB I.zs) λ(a2:Addr)=>
 .load tP (aB (some a1) 0) λ(p3:OA)=>
 aR (fI p3)
 (.alloc (Bs.inj I.sB I.zs) λ(a4:Addr)=>
 .load (Ty.agg I.sB) (some a4) λ(r5:Bs.den I.sB)=>
 .store (some a2) (Bs.inj I.sB r5)<|
 .load (Ty.agg I.sB) (some a2) λ(r6:Bs.den I.sB)=>
 .ret 0 [(Value.agg (Bs.inj I.sB r6).toArray)])<|
 .load tP (aB (some a1) 0) λ(p7:OA)=>
 bD (aJ p7)<|
 bD (aJ p7)<|
 .load (Ty.agg I.sB) (aB p7 (I.ni+4)) λ(r8:Bs.den I.sB)=>
 .store (some a2) (Bs.inj I.sB r8)<|
 .load (Ty.agg I.sB) (some a2) λ(r9:Bs.den I.sB)=>
 .ret 0 [(Value.agg (Bs.inj I.sB r9).toArray)]
def XC(I:gV)(t:(OA×Unit))(k:Int)(n:Int):aK:=
 .alloc [vP t.1] λ(a1:Addr)=>
 aR (zV n 0)
 (.ret 0 [vI 0])<|
 .alloc (Bs.inj I.sB I.zs) λ(a2:Addr)=>
 .load tP (aB (some a1) 0) λ(p3:OA)=>
 .bind
 (.loop [tI,tP] ((0:Int),(p3,())) λ(r0:Int×OA×Unit)=>
 aR (cO (fI r0.2.1))
 (.load (Ty.agg I.sB) (some a2) λ(r1:Bs.den I.sB)=>
 .alloc (Bs.inj I.sB I.zs) λ(a0:Addr)=>
 .store (some a0) (Bs.inj I.sB r1)<|
 dX 0 [] (bQ tP r0.2.1 0 λ(p0:OA)=>
 aR (cO (fI p0))
 (.load (Ty.agg I.sB) (some a2) λ(r2:Bs.den I.sB)=>
 bQ tP r0.2.1 0 λ(p1:OA)=>
 bD (aJ p1)<|
 bD (aJ p1)<|
 .load (Ty.agg I.sB) (aB p1 (I.ni+4)) λ(r3:Bs.den I.sB)=>
 .call (I.aF r2 r3) [(Ty.agg I.sB)] λ(r4:((Bs.den I.sB)×Unit))=>
 .store (some a0) (Bs.inj I.sB r4.1)<|
 .ret 0 [])<|
 .ret 0 []) λ(u0:Unit)=>
 .load (Ty.agg I.sB) (some a0) λ(r5:Bs.den I.sB)=>
 .call (I.kF r5 k) [tI] λ(r6:Int×Unit)=>
 aR (pV r6.1 n)
 (bQ tP r0.2.1 0 λ(p2:OA)=>
 .ret 0 [vI r0.1,vP p2])<|
 bQ tP r0.2.1 0 λ(p4:OA)=>
 .call (yB I p4) [tI] λ(r7:Int×Unit)=>
 .load (Ty.agg I.sB) (some a0) λ(r8:Bs.den I.sB)=>
 bQ (Ty.agg I.iB) r0.2.1 2 λ(r9:Bs.den I.iB)=>
 .call (I.mF r9) [(Ty.agg I.sB)] λ(r10:((Bs.den I.sB)×Unit))=>
 .check (some a0) (Bs.inj I.sB r8)<|
 .call (I.aF r8 r10.1) [(Ty.agg I.sB)] λ(r11:((Bs.den I.sB)×Unit))=>
 .store (some a2) (Bs.inj I.sB r11.1)<|
 .load (Ty.agg I.sB) (some a2) λ(r12:Bs.den I.sB)=>
 .call (I.kF r12 k) [tI] λ(r13:Int×Unit)=>
 aR (pV r13.1 n)
 (.ret 1 [vI (aT .i64 r0.1 (aT .i64 r7.1 1))])<|
 bQ tP r0.2.1 1 λ(p5:OA)=>
 .ret 0 [vI (aT .i64 r0.1 (aT .i64 r7.1 1)),vP p5])<|
 .ret 2 [vI r0.1]) λ(k0:Nat)=>
 λ(v0:bE)=>
 aR (jC k0 2)
 (.cast [tI] v0 λ(r14:Int×Unit)=>
 .ret 0 [vI (aT .i64 r14.1 1)])<|
 aR (jC k0 1)
 (.cast [tI] v0 λ(r15:Int×Unit)=>
 .ret 0 [vI r15.1])<|
 .fail
def RJ(I:gV)(yield:Value)(x1:OA)(x2:OA):aK:=
 bD (Sp yield)<|
 .alloc [yield] λ(a1:Addr)=>
 .alloc [Value.nilFunc] λ(a2:Addr)=>
 .store (some a2) [(Value.func (Fn.func I.f2) #[] (#[vP (some a2),vP (some a1)]))]<|
 .load (Ty.one B.any) (some a2) λ(c3:Value)=>
 bD (aJ x1)<|
 .load tP (aB x1 0) λ(p4:OA)=>
 .load tI x2 λ(n5:Int)=>
 .kO c3 [vP p4,vI (CU 0 n5)] [tB] λ(r6:Bool×Unit)=>
 .ret 0 []
def Px(I:gV)(n:OA)(from_:Int)(x2:OA)(x3:OA):aK:=
 dX 0 [tB] (aR (fI n)
 (.ret 0 [vB true])<|
 bD (aJ n)<|
 bD (aJ n)<|
 .load tI (aB n (I.ni+2)) λ(n0:Int)=>
 .ret 0 [vB (pV from_ n0)]) λ(r0:Bool×Unit)=>
 aR r0.1
 (.ret 0 [vB true])<|
 bQ tP n 0 λ(p0:OA)=>
 .call (yB I p0) [tI] λ(r1:Int×Unit)=>
 dX 0 [tB] (aR (fE from_ r1.1)
 (.load (Ty.one B.any) x2 λ(c0:Value)=>
 bQ tP n 0 λ(p1:OA)=>
 .kO c0 [vP p1,vI from_] [tB] λ(r2:Bool×Unit)=>
 .ret 0 [vB (cO r2.1)])<|
 .ret 0 [vB false]) λ(r3:Bool×Unit)=>
 aR r3.1
 (.ret 0 [vB false])<|
 dX 0 [tB] (aR (zV from_ r1.1)
 (.load (Ty.one B.any) x3 λ(c1:Value)=>
 bQ (Ty.agg I.iB) n 2 λ(r4:Bs.den I.iB)=>
 .kO c1 [(Value.agg (Bs.inj I.iB r4).toArray)] [tB] λ(r5:Bool×Unit)=>
 .ret 0 [vB (cO r5.1)])<|
 .ret 0 [vB false]) λ(r6:Bool×Unit)=>
 aR r6.1
 (.ret 0 [vB false])<|
 .load (Ty.one B.any) x2 λ(c2:Value)=>
 bQ tP n 1 λ(p2:OA)=>
 .kO c2 [vP p2,vI (CU 0 (bJ .i64 (bJ .i64 from_ r1.1) 1))] [tB] λ(r7:Bool×Unit)=>
 .ret 0 [vB r7.1]
end
section
open Go.Sw.Tree (iv fL jI jW nE pD Be wY dV least TR)
variable{P:Program}{I:gV}{h:aE}{Q:Nat->bE->aE->Prop}
variable{h':aE}{l:List I.It}{bs:List B}{d:Nat}{a:Addr}{s:Sl}{pr:OA}{x:I.It}
def oC(I:gV)(h:aE):Prop:=∀i,h.size<=i->I.Z i
theorem oC.ext{h:aE}(f:oC I h)(e:Ext h h'):oC I h':=λi hi=>f i (dI e.size hi)
structure gV.Ok(P:Program)(I:gV):Prop where
 i1:1<=I.ni/\I.ni<=100
 s1:1<=I.ns/\I.ns<=100
 fi:∀(x:I.It) v,v∈Bs.inj I.iB x->flat v=true
 fs:∀(x:I.Su) v,v∈Bs.inj I.sB x->flat v=true
 w1:∀x,1<=I.wt x
 v0:I.V 0 I.zs
 vm:∀x,I.sg x->I.V (I.wt x) (I.Lh x)
 va:∀n m s o,I.V n s->I.V m o->I.V (n+m) (I.add s o)
 mono:∀n m s,I.V n s->n<=m->I.V m s
 az:∀n s,I.V n s->I.add s I.zs=s
 za:∀n s,I.V n s->I.add I.zs s=s
 assoc:∀n m k x y z,I.V n x->I.V m y->I.V k z->I.add (I.add x y) z=I.add x (I.add y z)
 ri:∀k,I.key I.zs k=0
 rk:∀n m s o k,I.V n s->I.V m o->I.key s k<=I.key (I.add s o) k
 cm:∀(h:aE) x,I.sg x->aS P (I.mF x) [.agg I.sB] h λ(y:I.Su×Unit) _=>y.1=I.Lh x
 ca:∀(h:aE) n m s o,I.V n s->I.V m o->n+m<=4398046511104->aS P (I.aF s o) [.agg I.sB] h λ(y:I.Su×Unit) _=>y.1=I.add s o
 ck:∀(h:aE) n s k,I.V n s->n<=4398046511104->aS P (I.kF s k) [tI] h λ(y:Int×Unit) _=>y.1=I.key s k
def gV.sum(I:gV)(l:List I.It):I.Su:=l.foldl (λs r=>I.add s (I.Lh r)) I.zs
def gV.W(I:gV)(l:List I.It):Nat:=(l.map I.wt).sum
def gV.wf(I:gV)(l:List I.It):Prop:=∀r,r∈l->I.sg r
theorem pO(l m:List I.It):I.W (l++m)=I.W l+I.W m:=by simp[gV.W]
theorem Py(x:I.It)(l:List I.It):I.W (x::l)=I.wt x+I.W l:=by simp[gV.W]
theorem qF(O:I.Ok P)(l:List I.It):l.length<=I.W l:=by
 induction l with
 |nil=>exact bL _
 |cons x l b=>rw[Py];have:=O.w1 x;simp only[fF];omega
theorem TJ(l:List I.It)(n:Nat):I.W (l.take n)<=I.W l:=by
 have:=pO (l.take n) (l.drop n);rw[eX]at this;omega
theorem TI(l:List I.It)(n:Nat):I.W (l.drop n)<=I.W l:=by
 have:=pO (l.take n) (l.drop n);rw[eX]at this;omega
theorem V.fold(O:I.Ok P)(b:I.wf l):∀{n:Nat} {s:I.Su},I.V n s->I.V (n+I.W l) (l.foldl (λs r=>I.add s (I.Lh r)) s):=by
 induction l with
 |nil=>intro n s v;exact v
 |cons r l e=>
  intro n s v;have:=e (λx c=>b x (dZ _ c)) (O.va _ _ _ _ v (O.vm r (b r (cX ..))));exact O.mono _ _ _ this (by rw[Py];omega)
theorem V.sum(O:I.Ok P){l:List I.It}(b:I.wf l):I.V (I.W l) (I.sum l):=O.mono _ _ _ (V.fold O b O.v0) (by omega)
theorem fold_add(O:I.Ok P)(b:I.wf l):∀{n m:Nat} {s o:I.Su},I.V n s->I.V m o ->
  l.foldl (λs r=>I.add s (I.Lh r)) (I.add s o)=I.add s (l.foldl (λs r=>I.add s (I.Lh r)) o):=by
 induction l with
 |nil=>intros;rfl
 |cons r l f=>
  intro n m s o v w;have c:=O.vm r (b r (cX ..));simp only[Cj];rw[O.assoc _ _ _ _ _ _ v w c];exact f (λx e=>b x (dZ _ e)) v (O.va _ _ _ _ w c)
theorem sum_append(O:I.Ok P){m:List I.It}(b:I.wf l)(hm:I.wf m):I.sum (l++m)=I.add (I.sum l) (I.sum m):=by
 unfold gV.sum;rw[Ke];have:=fold_add O hm (V.sum O b) O.v0;rw[O.az _ _ (V.sum O b)]at this;exact this
theorem Fw(l:List I.It)(r:I.It):I.sum (l++[r])=I.add (I.sum l) (I.Lh r):=by unfold gV.sum;rw[Ke];rfl
theorem sum_nil:I.sum []=I.zs:=rfl
theorem kG:∀(bs:List B) (x:Bs.den bs),(Bs.inj bs x).length=bs.length:=by
 intro bs
 induction bs with
 |nil=>intro x;rfl
 |cons b bs c=>intro x;simp[Bs.inj,c]
theorem fV(x:Bs.den bs)(c:bs.length<=100){K:Addr->aK}(b:∀h',Ext h h'->cC h.size 1 h' ⟨some ⟨h.size,0,none⟩,bs.length,bs.length⟩ (Bs.inj bs x)->wp P (K ⟨h.size,0,none⟩) h' Q):wp P (.alloc (Bs.inj bs x) K) h Q:=
 λelem=>b _ (Ext.push ..) (bX (by rw[kG];omega) (by decide) (by omega))
theorem gJ{n c:Nat}{x:Bs.den bs}{K:Bs.den bs->aK}(e:cC n 1 h ⟨some a,c,d⟩ (Bs.inj bs x))(b:wp P (K x) h Q):wp P (.load (.agg bs) (some a) K) h Q:=⟨a,rfl,x,e.cells,b⟩
theorem Pj{n c:Nat}{x:Bs.den bs}{K:aK}(e:cC n 1 h ⟨some a,c,d⟩ (Bs.inj bs x))(b:wp P K h Q):wp P (.check (some a) (Bs.inj bs x) K) h Q:=Bd rfl e.cells b
theorem mJ{n c:Nat}{x:Bs.den bs}(y:Bs.den bs){K:aK}(f:cC n 1 h ⟨some a,c,d⟩ (Bs.inj bs x))(b:∀v,v∈Bs.inj bs y->flat v=true)
  (e:∀h',cC n 1 h' ⟨some a,c,d⟩ (Bs.inj bs y)->jE ⟨some a,c,d⟩ h h'->wp P K h' Q):wp P (.store (some a) (Bs.inj bs y) K) h Q:=fL (Bs.inj bs y) f (by rw[kG,kG]) b e
theorem Hs{z:Bs.den bs}(y:Bs.den bs)(g:bs.length<=100)(e:∀v,v∈Bs.inj bs y->flat v=true){K:Addr->aK}
  (f:∀h',Ext h h'->cC h.size 1 h' ⟨some ⟨h.size,0,none⟩,bs.length,bs.length⟩ (Bs.inj bs y)->wp P (K ⟨h.size,0,none⟩) h' Q):wp P (.alloc (Bs.inj bs z) λa=>.store (some a) (Bs.inj bs y) (K a)) h Q:=
 fV z g λk b o1=>mJ y o1 e λc o2 j=>f c (jE.jA b j (by intro a ha;cases ha;exact bL _)) o2
theorem yJ{n c:Nat}{x:Bs.den bs}(y:Bs.den bs){R:Nat->bE->aE->Prop}{h0:aE}(f:cC n 1 h ⟨some a,c,d⟩ (Bs.inj bs x))(k:h0.size<=n)(e:Ext h0 h)(j:∀v,v∈Bs.inj bs y->flat v=true)
  (m:∀h',Ext h0 h'->R 0 [.agg (Bs.inj bs y).toArray] h'):wp P (.store (some a) (Bs.inj bs y)<|.load (.agg bs) (some a) λr=>.ret 0 [.agg (Bs.inj bs r).toArray]) h R:=
 mJ y f j λg o1 o=>gJ o1 (aC (m g (jE.jA e o (by intro b hb;cases hb;have:=(f.lt rfl).1;exact dI k this))))
theorem Hi{n c g j:Nat}{b:Addr}{vs:bE}(o:cC n 1 h ⟨some a,c,d⟩ vs)(u:jE ⟨some b,g,j⟩ h h')(e:b.block≠a.block):cC n 1 h' ⟨some a,c,d⟩ vs:=
 o.aP λx f=>u.2.1 _ (o.lt f).2 λy k=>by cases f;cases k;exact e
def cI(I:gV)(l:List I.It):bE:=l.flatMap λr=>Bs.inj I.iB r
theorem je(l:List I.It):(cI I l).length=l.length*I.ni:=by
 unfold cI
 induction l with
 |nil=>simp
 |cons r l b=>rw[fY,bM,b,kG,fF,Co];unfold gV.ni;omega
theorem Lu(x:I.It)(l:List I.It):cI I (x::l)=Bs.inj I.iB x++cI I l:=by simp[cI]
theorem gd(l:List I.It):∀(j:Nat) (r:I.It),l[j]?=some r->∀(i:Nat) (v:Value),(Bs.inj I.iB r)[i]?=some v->(cI I l)[j*I.ni+i]?=some v:=by
 induction l with
 |nil=>intro j r h;simp at h
 |cons x l f=>
  intro j r h i v b;have e:=kG I.iB x;rw[Lu];cases j with
  |zero=>
   simp at h;subst h;have:=(eK.1 b).1;rw[lV (by omega)];simpa using b
  |succ j=>
   have:=f j r (by simpa using h) i v b;have g:(j+1)*I.ni=j*I.ni+I.ni:=FD ..;have c:(Bs.inj I.iB x).length=I.ni:=e;rw[jK (by omega),c,show(j+1)*I.ni+i-I.ni=j*I.ni+i by omega];exact this
theorem ar(l:List I.It)(n:Nat):(cI I l).take (n*I.ni)=cI I (l.take n):=by
 induction l generalizing n with
 |nil=>simp[cI]
 |cons x l e=>
  cases n with
  |zero=>simp[cI]
  |succ n=>
   have c:(Bs.inj I.iB x).length=I.ni:=kG _ _;have b:(n+1)*I.ni=I.ni+n*I.ni:=by rw[FD];omega
   rw[Lu,Jo,Lu,b,Jp,iF (by omega),c,Bj,e]
theorem aq(l:List I.It)(n:Nat):(cI I l).drop (n*I.ni)=cI I (l.drop n):=by
 induction l generalizing n with
 |nil=>simp[cI]
 |cons x l e=>
  cases n with
  |zero=>simp
  |succ n=>
   have c:(Bs.inj I.iB x).length=I.ni:=kG _ _;have b:(n+1)*I.ni=I.ni+n*I.ni:=by rw[FD];omega
   rw[Lu,List.drop_succ_cons,b,Rq,tY (by omega),c,Bj,e,Kc]
theorem Gf{m:List I.It}(a:I.wf l)(b:I.wf m):I.wf (l++m):=λr c=>(dD.1 c).elim (a r) (b r)
theorem LF(a:I.wf l)(n:Nat):I.wf (l.take n):=λr b=>a r (rG b)
theorem Q0(a:I.wf l)(n:Nat):I.wf (l.drop n):=λr b=>a r (Bi b)
structure OK(I:gV)(h:aE)(s:Sl)(l:List I.It):Prop where
 rd:Rd I.ni h s (cI I l)
 cap:s.len<=s.cap
 max:s.cap<2^63
 wf:I.wf l
theorem OK.len(O:I.Ok P){s:Sl}{l:List I.It}(r:OK I h s l):s.len=l.length:=by
 have:=r.rd.1;rw[je]at this;exact Nat.eq_of_mul_eq_mul_right O.i1.1 this
theorem OK.ext(r:OK I h s l)(e:Ext h h'):OK I h' s l:=⟨e.rd r.rd,r.cap,r.max,r.wf⟩
theorem OK.take(O:I.Ok P){s:Sl}{l:List I.It}(b:OK I h s l){n m:Nat}(e:n<=l.length)(hm:n<=m)(c:m<2^63):OK I h ⟨s.aD,n,m⟩ (l.take n):=
 ⟨by have:=Rd.take b.rd (n:=n) (by rw[b.len O];exact e) m;rw[ar]at this;exact this,hm,c,LF b.wf n⟩
theorem OK.drop(O:I.Ok P){s:Sl}{l:List I.It}(b:OK I h s l){i m:Nat}(hi:i<=l.length)(hm:s.len-i<=m)(c:m<2^63):OK I h ⟨bF s.aD s.cap i I.ni,s.len-i,m⟩ (l.drop i):=
 ⟨by have:=Rd.drop b.rd (i:=i) (by rw[b.len O];exact hi) b.cap m;rw[aq]at this;exact this,hm,c,Q0 b.wf i⟩
theorem O0{j:Nat}{r:I.It}(g:OK I h s l)(h1:1<=I.ni)(f:l[j]?=some r):∃a,s.aD=some a/\Cells h (a.add (j*I.ni)) (Bs.inj I.iB r):=by
 have n:(Bs.inj I.iB r).length=I.ni:=kG _ _;obtain⟨a,e,c⟩:=g.rd.2 _ _ (gd l j r f 0 _ (cM (by omega)));refine⟨a,e,aI.2 λi v hi=>?_⟩;obtain⟨m,b,k⟩:=g.rd.2 _ _ (gd l j r f i v hi);rw[e]at b;cases b;rw[add_add];exact k
theorem t_(O:I.Ok P){K:I.It->aK}{j:Int}(f:OK I h s l)(h0:0<=j)(h1:j<l.length)
  (g:∀r,l[j.toNat]?=some r->wp P (K r) h Q):wp P (bD (bN (aJ s.aD) (eV j s.len)) (.load (.agg I.iB) (aB s.aD (bB (bP j) I.ni)) K)) h Q:=by
 have b:l[j.toNat]?=some l[j.toNat]:=cM (by omega);obtain⟨a,e,c⟩:=O0 f O.i1.1 b;have:=f.len O;exact aL (fD.2 ⟨by simp[aJ,e],lR.2 ⟨h0,by omega⟩⟩) ⟨a.add (j.toNat*I.ni),by simp[aB,e,bB,bP],l[j.toNat],c,g _ b⟩
theorem VT(O:I.Ok P){K:aK}{j:Nat}{r:I.It}(g:OK I h s l)(b:l[j]?=some r)(f:wp P K h Q):wp P (.check (aB s.aD (bB j I.ni)) (Bs.inj I.iB r) K) h Q:=by
 obtain⟨a,e,c⟩:=O0 g O.i1.1 b;exact⟨⟨a.add (j*I.ni),by simp[aB,e,bB],c⟩,f⟩
inductive Bt(α:Type) where
 |nil
 |node (l:Bt α) (x:α) (r:Bt α)
def Bt.list{α:Type}:Bt α->List α
 |.nil=>[]
 |.node l x r=>l.list++x::r.list
def Bt.ht{α:Type}:Bt α->Nat
 |.nil=>0
 |.node l _ r=>max l.ht r.ht+1
theorem Bt.KG{α:Type}:∀t:Bt α,t.ht<=t.list.length
 |.nil=>bL _
 |.node l x r=>by have:=l.KG;have:=r.KG;simp only[Bt.ht,Bt.list,bM,fF];omega
theorem jV{α:Type}(l r:Bt α)(x:α):(Bt.node l x r).list.length=l.list.length+1+r.list.length:=by simp[Bt.list];omega
def CL(I:gV)(pl pr:OA)(t:Bt I.It)(x:I.It):bE:=[.pointer pl, .pointer pr]++(Bs.inj I.iB x++[iv t.list.length,iv t.ht])
theorem F3(pl pr:OA)(t:Bt I.It)(x:I.It):(CL I pl pr t x).length=I.ni+4:=by
 simp only[CL,bM,fF,LU,kG];unfold gV.ni;omega
def Gk(I:gV)(h:aE)(a:Addr)(pl pr:OA)(l:Bt I.It)(x:I.It)(r:Bt I.It):Prop:=Cells h a (CL I pl pr (.node l x r) x++Bs.inj I.sB (I.sum (Bt.node l x r).list))/\I.Z a.block/\a.off=0/\a.spot=none
def Nd(I:gV)(h:aE):OA->Bt I.It->Prop
 |p, .nil=>p=none
 |p, .node l x r=>∃a pl pr,p=some a/\Gk I h a pl pr l x r/\Nd I h pl l/\Nd I h pr r
theorem Gk.ext{pl:OA}{l r:Bt I.It}(c:Gk I h a pl pr l x r)(e:Ext h h'):Gk I h' a pl pr l x r:=⟨e.cells c.1,c.2⟩
theorem Nd.ext{h':aE}(e:Ext h h'):∀{t:Bt I.It} {p:OA},Nd I h p t->Nd I h' p t
 |.nil,_,n=>n
 |.node l x r,p,⟨a,pl,pr,b,c,f,g⟩=>⟨a,pl,pr,b,c.ext e,Nd.ext e f,Nd.ext e g⟩
theorem Nd.oQ{F:Nat->Prop}{h':aE}(e:aY F h h')(f:∀i,i<h.size->I.Z i->¬F i):∀{t:Bt I.It} {p:OA},Nd I h p t->Nd I h' p t
 |.nil,_,n=>n
 |.node l x r,p,⟨a,pl,pr,g,c,o,u⟩=>⟨a,pl,pr,g,⟨aI.2 λj v k=>by
   have q:=aI.1 c.1 j v k;have b:=BI q;have m:=c.2.1;rw[iA]at b;rw[yC (h:=h) (by rw[iA];exact e.2.1 _ b (f _ b m))];exact q,c.2⟩,Nd.oQ e f o,Nd.oQ e f u⟩
theorem B5{l r:Bt I.It}(w:I.wf (Bt.node l x r).list):I.wf l.list:=λy b=>w y (by simp[Bt.list,b])
theorem NS{l r:Bt I.It}(w:I.wf (Bt.node l x r).list):I.wf r.list:=λy b=>w y (by simp[Bt.list,b])
theorem Hx{l r:Bt I.It}(w:I.wf (Bt.node l x r).list):I.sg x:=w x (by simp[Bt.list])
theorem lC(l r:Bt I.It)(x:I.It):I.W (Bt.node l x r).list=I.W l.list+I.wt x+I.W r.list:=by simp only[Bt.list];rw[pO,Py];omega
theorem ZJ(O:I.Ok P){l r:Bt I.It}(w:I.wf (Bt.node l x r).list):I.sum (Bt.node l x r).list=I.add (I.add (I.sum l.list) (I.Lh x)) (I.sum r.list):=by
 have b:I.wf [x]:=λy c=>by rw[dE.1 c];exact Hx w
 rw[show(Bt.node l x r).list=(l.list++[x])++r.list by simp[Bt.list],sum_append O (Gf (B5 w) b) (NS w),Fw]
theorem CB{pre mid post:bE}{j:Nat}(c:Cells h a (pre++(mid++post)))(b:j=pre.length):Cells h (a.add j) mid:=
 aI.2 λi v hi=>by
  rw[add_add];refine aI.1 c (j+i) v ?_;rw[jK (by omega),show j+i-pre.length=i by omega,lV (eK.1 hi).1];exact hi
theorem Gk.item{pl:OA}{l r:Bt I.It}(c:Gk I h a pl pr l x r):Cells h (a.add 2) (Bs.inj I.iB x):=by
 replace c:=c.1;unfold CL at c;rw[eC,eC]at c;exact CB c rfl
theorem Gk.sum{a:Addr}{pl pr:OA}{l r:Bt I.It}{x:I.It}(c:Gk I h a pl pr l x r):Cells h (a.add (I.ni+4)) (Bs.inj I.sB (I.sum (Bt.node l x r).list)):=
 CB (post:=[]) (by rw[jX];exact c.1) (F3 ..).symm
theorem Gk.Bq{pl:OA}{l r:Bt I.It}(c:Gk I h a pl pr l x r):Sw.cell h (a.add (I.ni+2))=some (iv (Bt.node l x r).list.length)/\Sw.cell h (a.add (I.ni+3))=some (iv (Bt.node l x r).ht):=by
 replace c:=c.1;unfold CL at c;rw[<-eC [Value.pointer pl,Value.pointer pr] (Bs.inj I.iB x),eC]at c;have:=CB (j:=I.ni+2) c (by simp only[bM,fF,LU,kG];unfold gV.ni;omega);have h0:=aI.1 this 0 _ rfl;have b:=aI.1 this 1 _ rfl;rw[add_zero']at h0;rw[add_add]at b;exact⟨h0,b⟩
theorem Gk.left{pl:OA}{l r:Bt I.It}(c:Gk I h a pl pr l x r):Sw.cell h (a.add 0)=some (.pointer pl):=aI.1 c.1 0 _ rfl
theorem Gk.right{pl:OA}{l r:Bt I.It}(c:Gk I h a pl pr l x r):Sw.cell h (a.add 1)=some (.pointer pr):=aI.1 c.1 1 _ rfl
theorem nD{pl:OA}{l r:Bt I.It}{K:OA->aK}(c:Gk I h a pl pr l x r)(e:wp P (K pl) h Q):wp P (bD (aJ (some a))<|bD (aJ (some a))<|.load (tP) (aB (some a) 0) K) h Q:=
 aL rfl (aL rfl (aX (b:=.ptr) (a.add 0) pl rfl c.left e))
theorem lY{pl:OA}{l r:Bt I.It}{K:OA->aK}(c:Gk I h a pl pr l x r)(e:wp P (K pr) h Q):wp P (bD (aJ (some a))<|bD (aJ (some a))<|.load (tP) (aB (some a) 1) K) h Q:=
 aL rfl (aL rfl (aX (b:=.ptr) (a.add 1) pr rfl c.right e))
theorem tW{pl:OA}{l r:Bt I.It}{K:I.It->aK}(c:Gk I h a pl pr l x r)(b:wp P (K x) h Q):wp P (bD (aJ (some a))<|bD (aJ (some a))<|.load (.agg I.iB) (aB (some a) 2) K) h Q:=
 aL rfl (aL rfl ⟨a.add 2,rfl,x,c.item,b⟩)
theorem VL{pl:OA}{l r:Bt I.It}{K:I.Su->aK}(c:Gk I h a pl pr l x r)(b:wp P (K (I.sum (Bt.node l x r).list)) h Q):wp P (bD (aJ (some a))<|bD (aJ (some a))<|.load (.agg I.sB) (aB (some a) (I.ni+4)) K) h Q:=
 aL rfl (aL rfl ⟨a.add (I.ni+4),rfl,_,c.sum,b⟩)
theorem Zj{pl:OA}{l r:Bt I.It}{K:aK}(c:Gk I h a pl pr l x r)(b:wp P K h Q):wp P (.check (aB (some a) 0) [.pointer pl] K) h Q:=
 Bd rfl (aI.2 λi v hi=>by match i,hi with|0,hi=>simp at hi;subst hi;rw[add_zero'];exact c.left|i+1,hi=>simp at hi) b
theorem Nx{pl:OA}{l r:Bt I.It}{K:aK}(c:Gk I h a pl pr l x r)(b:wp P K h Q):wp P (.check (aB (some a) 1) [.pointer pr] K) h Q:=
 Bd rfl (aI.2 λi v hi=>by match i,hi with|0,hi=>simp at hi;subst hi;rw[add_zero'];exact c.right|i+1,hi=>simp at hi) b
theorem IX{pl:OA}{l r:Bt I.It}{K:aK}(c:Gk I h a pl pr l x r)(b:wp P K h Q):wp P (.check (aB (some a) 2) (Bs.inj I.iB x) K) h Q:=
 Bd rfl c.item b
theorem Av{p:OA}{t:Bt I.It}(ht:Nd I h p t):aS P (yB I p) [tI] h λ(x:Int×Unit) _=>x.1=t.list.length:=by
 unfold yB aS;cases t with
 |nil=>obtain rfl:=ht;exact mI (aC ⟨rfl,Ext.refl _,(0,()),rfl,rfl⟩)
 |node l x r=>
  obtain⟨a,pl,pr,rfl,c,_,_⟩:=ht;exact lI (aL rfl (aL rfl (aX (b:=bI) (a.add (I.ni+2)) _ rfl c.Bq.1 (aC ⟨rfl,Ext.refl _,(((Bt.node l x r).list.length:Nat),()),rfl,rfl⟩))))
theorem vK{p:OA}{t:Bt I.It}(ht:Nd I h p t):aS P (sE I p) [tI] h λ(x:Int×Unit) _=>x.1=t.ht:=by
 unfold sE aS;cases t with
 |nil=>obtain rfl:=ht;exact mI (aC ⟨rfl,Ext.refl _,(0,()),rfl,rfl⟩)
 |node l x r=>
  obtain⟨a,pl,pr,rfl,c,_,_⟩:=ht;exact lI (aL rfl (aL rfl (aX (b:=bI) (a.add (I.ni+3)) _ rfl c.Bq.2 (aC ⟨rfl,Ext.refl _,(((Bt.node l x r).ht:Nat),()),rfl,rfl⟩))))
theorem NA{n m c j:Nat}{pre:bE}{x:Bs.den bs}{K:Bs.den bs->aK}(f:cC n 1 h ⟨some a,m,c⟩ (pre++Bs.inj bs x))(b:j=pre.length)(e:wp P (K x) h Q):wp P (.load (.agg bs) (aB (some a) j) K) h Q:=
 ⟨a.add j,rfl,x,CB (post:=[]) (by rw[jX];exact f.cells) b,e⟩
theorem ED(O:I.Ok P){pl:OA}{l r:Bt I.It}(nl:Nd I h pl l)(nr:Nd I h pr r)(hw:I.wf (Bt.node l x r).list)(a7:I.W (Bt.node l x r).list<=4398046511104)(ab:oC I h:=by repeat (first|assumption|refine oC.ext ?_ (by assumption))) :
  aS P (GW I pl x pr) [tP] h λ(y:OA×Unit) h'=>Nd I h' y.1 (.node l x r):=by
 have hx:=Hx hw;have hl:=jV l r x;have a9:=qF O (Bt.node l x r).list;have ba:=lC l r x;have u:=ZJ O hw;have T:=V.sum O (B5 hw);have vr:=V.sum O (NS hw);have vm:=O.vm x hx;have g1:=l.KG;have g2:=r.KG;unfold GW aS;refine fV x O.i1.2 λh1 o o1=>gJ o1 ?_;have ck:∀{h'} {K:aK} {Q:Nat->bE->aE->Prop},Ext h1 h'->wp P K h' Q->wp P (.check (some ⟨h.size,0,none⟩) (Bs.inj I.iB x) K) h' Q:=λe hk=>Pj (o1.ext e) hk;refine aM (Av (nl.ext o)) λy h2 g hy=>ck g (aM (Av (nr.ext (o.trans g))) λz h3 n hz=>ck (g.trans n) (aM (vK (nl.ext ((o.trans g).trans n))) λA h4 C ao=>
  ck ((g.trans n).trans C) (aM (vK (nr.ext (((o.trans g).trans n).trans C))) λB b U aw=>ck (((g.trans n).trans C).trans U) ?_)))
 obtain⟨(y:Int),w1⟩:=y;obtain⟨(z:Int),w2⟩:=z;obtain⟨(A:Int),w3⟩:=A;obtain⟨(B:Int),w4⟩:=B;dsimp only at hy hz ao aw⊢;have F:=((g.trans n).trans C).trans U;have M:aT .i64 (aT .i64 y 1) z=(((Bt.node l x r).list.length:Nat):Int):=by
  rw[bG (a:=y) (by omega) (by omega),bG (by omega) (by omega)];omega
 have al:aT .i64 (CU A B) 1=(((Bt.node l x r).ht:Nat):Int):=by
  have:CU A B=max A B:=by unfold CU;split<;>omega
  rw[this,bG (by omega) (by omega)];simp only[Bt.ht];omega
 have D:([Value.pointer pl,Value.pointer pr]++(Bs.inj I.iB x++([iv ((Bt.node l x r).list.length:Nat),iv ((Bt.node l x r).ht:Nat)]++Bs.inj I.sB I.zs)))=CL I pl pr (.node l x r) x++Bs.inj I.sB I.zs:=by
  simp only[CL,eC]
 rw[M,al,D];intro elem;have j:=F3 pl pr (Bt.node l x r) x;have i1:=O.i1;have s1:=O.s1;have bd:(Bs.inj I.sB I.zs).length=I.ns:=kG _ _;have o6:cC b.size 1 (b.push (.cells (CL I pl pr (.node l x r) x++Bs.inj I.sB I.zs).toArray elem)) ⟨some ⟨b.size,0,none⟩,I.ni+4+I.ns,I.ni+4+I.ns⟩ (CL I pl pr (.node l x r) x++Bs.inj I.sB I.zs):=
  bX (by rw[bM];omega) (by decide) (by omega)
 have L:Ext b (b.push (.cells (CL I pl pr (.node l x r) x++Bs.inj I.sB I.zs).toArray elem)):=Ext.push ..;generalize(b.push (.cells (CL I pl pr (.node l x r) x++Bs.inj I.sB I.zs).toArray elem))=h6 at o6 L⊢;have f:Ext h b:=o.trans F;refine gJ (o1.ext (F.trans L)) (aM (O.cm _ x hx) λm h7 X hm=>?_);obtain⟨m,w5⟩:=m;dsimp only at hm;subst hm;refine C1 (Bs.inj I.sB (I.Lh x)) (o6.ext X) j.symm (by rw[kG,kG]) (O.fs _) λh8 o8 u8=>?_;have k:Ext b h8:=jE.jA (L.trans X) u8 (by intro a ha;cases ha;exact bL _);have H:=nl.ext (f.trans k);have bb:=nr.ext (f.trans k);refine eN (λt w h'=>t=0/\w=[]/\Ext b h'/\cC b.size 1 h' ⟨some ⟨b.size,0,none⟩,I.ni+4+I.ns,I.ni+4+I.ns⟩ (CL I pl pr (.node l x r) x++Bs.inj I.sB (I.add (I.sum l.list) (I.Lh x)))) ?_ ?_
 .cases l with
  |nil=>
   obtain rfl:=H;refine lI (aC ⟨rfl,rfl,k,?_⟩);rw[show I.sum (Bt.nil:Bt I.It).list=I.zs from rfl,O.za _ _ vm];exact o8
  |node ll lx N=>
   obtain⟨a,ql,qr,rfl,c,_,_⟩:=H;refine mI (VL c (NA o8 j.symm (aM (O.ca _ _ _ _ _ T vm (by omega)) λm h9 Y hm=>?_)));obtain⟨m,w6⟩:=m;dsimp only at hm;subst hm;refine C1 (Bs.inj I.sB (I.add (I.sum (Bt.node ll lx N).list) (I.Lh x))) (o8.ext Y) j.symm (by rw[kG,kG]) (O.fs _) λG v a3=>aC ⟨rfl,rfl,jE.jA (k.trans Y) a3 (by intro a ha;cases ha;exact bL _),v⟩
 .rintro t w h9 ⟨rfl,rfl,p,R⟩
  have J:=nr.ext (f.trans p);refine bK (bV ?_);refine eN (λt w h'=>t=0/\w=[]/\Ext b h'/\cC b.size 1 h' ⟨some ⟨b.size,0,none⟩,I.ni+4+I.ns,I.ni+4+I.ns⟩ (CL I pl pr (.node l x r) x++Bs.inj I.sB (I.sum (Bt.node l x r).list))) ?_ ?_
  .cases r with
   |nil=>
    obtain rfl:=J;refine lI (aC ⟨rfl,rfl,p,?_⟩);rw[u,show I.sum (Bt.nil:Bt I.It).list=I.zs from rfl,O.az _ _ (O.va _ _ _ _ T vm)];exact R
   |node ll lx N=>
    obtain⟨a,ql,qr,rfl,c,_,_⟩:=J;refine mI (NA R j.symm (VL c (aM (O.ca _ _ _ _ _ (O.va _ _ _ _ T vm) vr (by omega)) λm G E hm=>?_)));obtain⟨m,w6⟩:=m;dsimp only at hm;rw[<-u]at hm;subst hm;refine C1 (Bs.inj I.sB (I.sum (Bt.node l x (.node ll lx N)).list)) (R.ext E) j.symm (by rw[kG,kG]) (O.fs _) λa8 a0 a4=>aC ⟨rfl,rfl,jE.jA (p.trans E) a4 (by intro a ha;cases ha;exact bL _),a0⟩
  .rintro t w G ⟨rfl,rfl,q,v⟩
   exact bK (bV (aC ⟨rfl,f.trans q,(some ⟨b.size,0,none⟩,()),rfl,⟨b.size,0,none⟩,pl,pr,rfl,⟨v.cells,ab _ f.size,rfl,rfl⟩,nl.ext (f.trans q),nr.ext (f.trans q)⟩))
theorem Nd.GV{n m c:Nat}{ws:bE}{b:Addr}{h h':aE}(u:jE ⟨some b,m,c⟩ h h')(g:cC n 1 h ⟨some b,m,c⟩ ws)(f:c<I.ni+4+I.ns):∀{t:Bt I.It} {p:OA},Nd I h p t->Nd I h' p t
 |.nil,_,n=>n
 |.node l x r,p,⟨a,pl,pr,j,e,k,o⟩=>⟨a,pl,pr,j,⟨wY u e.1 (Be g e.1 (by rw[bM,F3,kG];exact f)),e.2⟩,Nd.GV u g f k,Nd.GV u g f o⟩
theorem Nd.US{s:Sl}{h h':aE}(u:jE s h h')(g:∀b,s.aD=some b->∃k x,Sw.cell h ⟨b.block,0,none⟩=some (.int k x)):∀{t:Bt I.It} {p:OA},Nd I h p t->Nd I h' p t
 |.nil,_,n=>n
 |.node l x r,p,⟨a,pl,pr,A,c,D,E⟩=>⟨a,pl,pr,A,⟨aI.2 λj v B=>by
   have q:=aI.1 c.1 j v B;have f:=BI q;rw[iA]at f;have w:∀b,s.aD=some b->b.block≠a.block:=λb hb e=>by
    obtain⟨k,z,C⟩:=g b hb;have h0:=c.left;have ha:a=⟨b.block,0,none⟩:=by
     obtain⟨F,G,sp⟩:=a;have m:=c.2.2.1;have o:=c.2.2.2;dsimp only at m o e;subst m;subst o;rw[e]
    rw[add_zero',ha,C]at h0;cases h0
   rw[yC (h:=h) (by rw[iA];exact u.2.1 _ f w)];exact q,c.2⟩,Nd.US u g D,Nd.US u g E⟩
end
section
open Go.Sw.Tree (iv fL jI jW nE pD Be wY dV least TR lA kT sG)
variable{P:Program}{I:gV}{h:aE}{Q:Nat->bE->aE->Prop}
variable{x lx mx rx:I.It}{pr:OA}
def Bt.Jv{α:Type}:Bt α->Prop
 |.nil=>True
 |.node l _ r=>l.Jv/\r.Jv/\l.ht<=r.ht+1/\r.ht<=l.ht+1
def Bt.Full{α:Type}(t:Bt α):Prop:=t.list.length<2^t.ht/\(2^t.ht<=2*t.list.length\/t.ht=0)/\t.Jv
theorem YD:(Bt.nil:Bt I.It).Full:=⟨by simp[Bt.list,Bt.ht], .inr rfl,trivial⟩
theorem WR{l r:Bt I.It}(j:l.Full)(k:r.Full)(h1:r.list.length<=l.list.length)(n:l.list.length<=r.list.length+1):(Bt.node l x r).Full:=by
 obtain⟨a1,a2,f⟩:=j;obtain⟨m,b,g⟩:=k;have e:=jV l r x;have c1:r.ht<=l.ht:=by
  rcases b with b|b
  .have:2^r.ht<2 ^ (l.ht+1):=by rw[LV];omega
   have:=(Nat.pow_lt_pow_iff_right (by decide:1<2)).1 this;omega
  .omega
 have c2:l.ht<=r.ht+1:=by
  rcases a2 with a2|a2
  .have:2^l.ht<=2 ^ (r.ht+1):=by rw[LV];omega
   exact(Nat.pow_le_pow_iff_right (by decide:1<2)).1 this
  .omega
 have c:(Bt.node l x r).ht=l.ht+1:=by simp only[Bt.ht];omega
 refine⟨?_, .inl ?_,f,g,c2,by omega⟩
 .rw[c,e,LV];omega
 .rw[c,e,LV]
  rcases a2 with a2|a2
  .omega
  .rw[a2];omega
def RF(l:Bt I.It)(x:I.It)(r t:Bt I.It):Prop:=t.list=l.list++x::r.list /\
 (l.Jv->r.Jv->l.ht<=r.ht+2->r.ht<=l.ht+2->t.Jv/\max l.ht r.ht<=t.ht/\t.ht<=max l.ht r.ht+1/\(l.ht<=r.ht+1->r.ht<=l.ht+1->t.ht=max l.ht r.ht+1))
def TG(l:Bt I.It)(x:I.It)(r t:Bt I.It):Prop:=t.list=l.list++x::r.list/\(l.Jv->r.Jv->t.Jv/\max l.ht r.ht<=t.ht/\t.ht<=max l.ht r.ht+1)
theorem kf{ll b r:Bt I.It}(h1:r.ht+1<(Bt.node ll lx b).ht)(g:b.ht<=ll.ht):RF (.node ll lx b) x r (.node ll lx (.node b x r)):=by
 refine⟨by simp[Bt.list],λ⟨a1,a2,c,e⟩ a5 a6 f=>?_⟩;simp only[Bt.ht,Bt.Jv]at *;refine⟨⟨a1,⟨a2,a5,?_,?_⟩,?_,?_⟩,?_,?_,?_⟩<;>omega
theorem kg{ll m1 m2 r:Bt I.It}(h1:r.ht+1<(Bt.node ll lx (.node m1 mx m2)).ht)(m:ll.ht<(Bt.node m1 mx m2).ht):RF (.node ll lx (.node m1 mx m2)) x r (.node (.node ll lx m1) mx (.node m2 x r)):=by
 refine⟨by simp[Bt.list],λ⟨a1,⟨b,c,j,k⟩,e,f⟩ a5 a6 g=>?_⟩;simp only[Bt.ht,Bt.Jv]at *;refine⟨⟨⟨a1,b,?_,?_⟩,⟨c,a5,?_,?_⟩,?_,?_⟩,?_,?_,?_⟩<;>omega
theorem kh{l rl rr:Bt I.It}(h1:l.ht+1<(Bt.node rl rx rr).ht)(f:rl.ht<=rr.ht):RF l x (.node rl rx rr) (.node (.node l x rl) rx rr):=by
 refine⟨by simp[Bt.list],λa5 ⟨a1,a2,b,c⟩ a6 e=>?_⟩;simp only[Bt.ht,Bt.Jv]at *;refine⟨⟨⟨a5,a1,?_,?_⟩,a2,?_,?_⟩,?_,?_,?_⟩<;>omega
theorem ki{l m1 m2 rr:Bt I.It}(h1:l.ht+1<(Bt.node (.node m1 mx m2) rx rr).ht)(m:rr.ht<(Bt.node m1 mx m2).ht):RF l x (.node (.node m1 mx m2) rx rr) (.node (.node l x m1) mx (.node m2 rx rr)):=by
 refine⟨by simp[Bt.list],λa5 ⟨⟨b,c,j,k⟩,a2,e,f⟩ a6 g=>?_⟩;simp only[Bt.ht,Bt.Jv]at *;refine⟨⟨⟨a5,b,?_,?_⟩,⟨c,a2,?_,?_⟩,?_,?_⟩,?_,?_,?_⟩<;>omega
theorem kj{l r:Bt I.It}(h1:l.ht<=r.ht+1)(c:r.ht<=l.ht+1):RF l x r (.node l x r):=by
 refine⟨by simp[Bt.list],λa b _ _=>?_⟩;simp only[Bt.ht,Bt.Jv]at *;refine⟨⟨a,b,?_,?_⟩,?_,?_,?_⟩<;>first|omega|(intros;first|trivial|omega)
theorem kx{ll b r t1 t:Bt I.It}(h1:r.ht+1<(Bt.node ll lx b).ht)(j:TG b x r t1)(e:RF ll lx t1 t):TG (.node ll lx b) x r t:=by
 refine⟨by rw[e.1,j.1];simp[Bt.list],λ⟨a1,a2,n,o⟩ a5=>?_⟩;obtain⟨m,u,v⟩:=j.2 a2 a5;simp only[Bt.ht]at *;obtain⟨c,p,q,f⟩:=e.2 a1 m (by omega) (by omega);refine⟨c,?_,?_⟩<;>(by_cases g:ll.ht<=t1.ht+1<;>by_cases k:t1.ht<=ll.ht+1<;>first|(have:=f g k;omega)|omega)
theorem l_{l rl rr t1 t:Bt I.It}(h1:l.ht+1<(Bt.node rl rx rr).ht)(j:TG l x rl t1)(e:RF t1 rx rr t):TG l x (.node rl rx rr) t:=by
 refine⟨by rw[e.1,j.1];simp[Bt.list],λa5 ⟨a1,a2,m,n⟩=>?_⟩;obtain⟨k,q,r⟩:=j.2 a5 a1;simp only[Bt.ht]at *;obtain⟨b,o,p,c⟩:=e.2 k a2 (by omega) (by omega);refine⟨b,?_,?_⟩<;>(by_cases f:t1.ht<=rr.ht+1<;>by_cases g:rr.ht<=t1.ht+1<;>first|(have:=c f g;omega)|omega)
theorem lf{l r:Bt I.It}(h1:l.ht<=r.ht+1)(c:r.ht<=l.ht+1):TG l x r (.node l x r):=by
 refine⟨by simp[Bt.list],λa b=>?_⟩;simp only[Bt.ht,Bt.Jv]at *;refine⟨⟨a,b,?_,?_⟩,?_,?_⟩<;>omega
theorem FC{L M:List I.It}(w:I.wf L)(hm:∀y,y∈M->y∈L):I.wf M:=λy b=>w y (hm y b)
theorem T5(O:I.Ok P){pl:OA}{l r:Bt I.It}(nl:Nd I h pl l)(nr:Nd I h pr r)(hw:I.wf (Bt.node l x r).list)(q:I.W (Bt.node l x r).list<=4398046511104)(b4:oC I h:=by repeat (first|assumption|refine oC.ext ?_ (by assumption))) :
  aS P (L8 I pl x pr) [tP] h λ(y:OA×Unit) h'=>∃t,Nd I h' y.1 t/\RF l x r t:=by
 have hx:=Hx hw;have hl:=jV l r x;have b6:=lC (I:=I) l r x;have bo:=qF O (Bt.node l x r).list;have g1:=l.KG;have g2:=r.KG;unfold L8 aS;refine fV x O.i1.2 λh1 H o1=>?_;have X:∀{h'} {K:I.It->aK} {Q:Nat->bE->aE->Prop},Ext h1 h'->wp P (K x) h' Q->wp P (.load (.agg I.iB) (some ⟨h.size,0,none⟩) K) h' Q:=λe hk=>gJ (o1.ext e) hk;have ck:∀{h'} {K:aK} {Q:Nat->bE->aE->Prop},Ext h1 h'->wp P K h' Q->wp P (.check (some ⟨h.size,0,none⟩) (Bs.inj I.iB x) K) h' Q:=λe hk=>Pj (o1.ext e) hk;have a4:=nl.ext H;have a9:=nr.ext H;refine aM (vK a4) λy h2 e2 f=>aM (vK (a9.ext e2)) λz h3 e3 u=>?_;obtain⟨(y:Int),w1⟩:=y;obtain⟨(z:Int),w2⟩:=z;dsimp only at f u⊢;subst f;subst u;have M:=e2.trans e3;have ab:=a4.ext M;have al:=a9.ext M;rw[bG (by omega) (by omega)];refine aG (λhc=>?_) λhc=>?_
 .rw[dQ]at hc
  cases l with
  |nil=>simp only[Bt.ht]at hc;omega
  |node ll lx T=>
   have bo:=jV ll T lx;have b0:=lC (I:=I) ll T lx;have bt:=qF O (Bt.node ll lx T).list;obtain⟨a,ql,qr,rfl,c,Y,n2⟩:=ab;have c:Gk I h3 a ql qr ll lx T:=c;refine nD c (lY c (aM (vK Y) λy h4 R f=>Nx (c.ext R) (aM (vK (n2.ext R)) λz h5 e5 u=>?_)));obtain⟨(y:Int),w1⟩:=y;obtain⟨(z:Int),w2⟩:=z;dsimp only at f u⊢;subst f;subst u;have o:=R.trans e5;have D:=c.ext o;have ao:=Y.ext o;have a0:=n2.ext o;have G:=al.ext o;have n:=M.trans o;refine aG (λC=>?_) λC=>?_
   .rw[dT]at C
    refine nD D (tW D (lY D (X n (aM (ED O (x:=x) a0 G (FC hw (by intro y f;simp only[Bt.list,dD,eJ]at f⊢;grind)) (by rw[lC];omega)) λp h6 g k=>?_))));obtain⟨(p:OA),w3⟩:=p;dsimp only at k⊢;have b:=kf (x:=x) (r:=r) (lx:=lx) (by omega) (show T.ht<=ll.ht by omega);refine IX (D.ext g) (Zj (D.ext g) (aM (ED O (x:=lx) (ao.ext g) k (by rw[b.1];exact hw) (by rw[b.1];exact q)) λp h7 J k=>?_));obtain⟨(p:OA),w4⟩:=p;exact aC ⟨rfl,H.trans ((n.trans g).trans J),(p,()),rfl,_,k,b⟩
   .rw[fC]at C
    cases T with
    |nil=>simp only[Bt.ht]at C;omega
    |node v mx w=>
     have bp:=jV v w mx;have bb:=lC (I:=I) v w mx;have ba:=qF O (Bt.node v mx w).list;obtain⟨a',ml,mr,rfl,j,k1,k2⟩:=a0;have j:Gk I h5 a' ml mr v mx w:=j;have b:=kg (x:=x) (r:=r) (lx:=lx) (ll:=ll) (m1:=v) (mx:=mx) (m2:=w) (by omega) (by omega);refine lY D (nD D (tW D (nD j (tW j (lY j (X n (aM (ED O (x:=lx) ao k1 (FC hw (by intro y f;simp only[Bt.list,dD,eJ]at f⊢;grind)) (by rw[lC];omega)) λp h6 g k=>?_)))))));obtain⟨(p:OA),w3⟩:=p;dsimp only at k⊢;refine ck (n.trans g) (Nx (j.ext g) (IX (j.ext g) (aM (ED O (x:=x) (k2.ext g) (G.ext g) (FC hw (by intro y f;simp only[Bt.list,dD,eJ]at f⊢;grind)) (by rw[lC];omega)) λp' h7 J F=>?_)));obtain⟨(p':OA),w4⟩:=p';dsimp only at F⊢;refine IX (j.ext (g.trans J)) (aM (ED O (x:=mx) (k.ext J) F (by rw[b.1];exact hw) (by rw[b.1];exact q)) λA h8 m L=>?_);obtain⟨(A:OA),w5⟩:=A;exact aC ⟨rfl,H.trans (((n.trans g).trans J).trans m),(A,()),rfl,_,L,b⟩
 .rw[gC]at hc
  refine aM (vK al) λy h4 R f=>aM (vK (ab.ext R)) λz h5 e5 u=>?_;obtain⟨(y:Int),w1⟩:=y;obtain⟨(z:Int),w2⟩:=z;dsimp only at f u⊢;subst f;subst u;have o:=R.trans e5;have a7:=ab.ext o;have G:=al.ext o;have n:=M.trans o;rw[bG (by omega) (by omega)];refine aG (λhd=>?_) λhd=>?_
  .rw[dQ]at hd
   cases r with
   |nil=>simp only[Bt.ht]at hd;omega
   |node U rx rr=>
    have b8:=jV U rr rx;have b2:=lC (I:=I) U rr rx;have b1:=qF O (Bt.node U rx rr).list;obtain⟨a,ql,qr,rfl,c,Y,n2⟩:=G;have c:Gk I h5 a ql qr U rx rr:=c;refine lY c (nD c (aM (vK n2) λy h6 g f=>Zj (c.ext g) (aM (vK (Y.ext g)) λz h7 J u=>?_)));obtain⟨(y:Int),w1⟩:=y;obtain⟨(z:Int),w2⟩:=z;dsimp only at f u⊢;subst f;subst u;have E:=g.trans J;have B:=c.ext E;have aw:=Y.ext E;have a3:=n2.ext E;have a8:=a7.ext E;have N:=n.trans E;refine aG (λC=>?_) λC=>?_
    .rw[dT]at C
     refine X N (nD B (tW B (lY B (aM (ED O (x:=x) a8 aw (FC hw (by intro y f;simp only[Bt.list,dD,eJ]at f⊢;grind)) (by rw[lC];omega)) λp h8 m k=>?_))));obtain⟨(p:OA),w3⟩:=p;dsimp only at k⊢;have b:=kh (x:=x) (l:=l) (rx:=rx) (rl:=U) (rr:=rr) (by omega) (by omega);refine Nx (B.ext m) (IX (B.ext m) (aM (ED O (x:=rx) k (a3.ext m) (by rw[b.1];exact hw) (by rw[b.1];exact q)) λp h9 V k=>?_));obtain⟨(p:OA),w4⟩:=p;exact aC ⟨rfl,H.trans ((N.trans m).trans V),(p,()),rfl,_,k,b⟩
    .rw[fC]at C
     cases U with
     |nil=>simp only[Bt.ht]at C;omega
     |node v mx w=>
      have bp:=jV v w mx;have bb:=lC (I:=I) v w mx;have ba:=qF O (Bt.node v mx w).list;obtain⟨a',ml,mr,rfl,j,k1,k2⟩:=aw;have j:Gk I h7 a' ml mr v mx w:=j;have b:=ki (x:=x) (l:=l) (rx:=rx) (m1:=v) (mx:=mx) (m2:=w) (rr:=rr) (by omega) (by omega);refine nD B (X N (nD j (tW j (lY j (tW B (lY B (aM (ED O (x:=x) a8 k1 (FC hw (by intro y f;simp only[Bt.list,dD,eJ]at f⊢;grind)) (by rw[lC];omega)) λp h8 m k=>?_)))))));obtain⟨(p:OA),w3⟩:=p;dsimp only at k⊢;refine Nx (B.ext m) (IX (B.ext m) (Nx (j.ext m) (IX (j.ext m) (aM (ED O (x:=rx) (k2.ext m) (a3.ext m) (FC hw (by intro y f;simp only[Bt.list,dD,eJ]at f⊢;grind)) (by rw[lC];omega)) λp' h9 V F=>?_))));obtain⟨(p':OA),w4⟩:=p';dsimp only at F⊢;refine IX (j.ext (m.trans V)) (aM (ED O (x:=mx) (k.ext V) F (by rw[b.1];exact hw) (by rw[b.1];exact q)) λA b3 bd L=>?_);obtain⟨(A:OA),w5⟩:=A;exact aC ⟨rfl,H.trans (((N.trans m).trans V).trans bd),(A,()),rfl,_,L,b⟩
  .rw[gC]at hd
   refine X n (aM (ED O (x:=x) a7 G hw q) λp h6 g k=>?_);obtain⟨(p:OA),w3⟩:=p;exact aC ⟨rfl,H.trans (n.trans g),(p,()),rfl,_,k,kj (by omega) (by omega)⟩
theorem bq(O:I.Ok P):∀(fuel:Nat) {h:aE} {pl pr:OA} {l r:Bt I.It} {x:I.It},l.list.length+r.list.length<fuel->Nd I h pl l->Nd I h pr r->I.wf (Bt.node l x r).list->I.W (Bt.node l x r).list<=4398046511104->(Y:oC I h:=by repeat (first|assumption|refine oC.ext ?_ (by assumption))) ->
  aS P (FR fuel I pl x pr) [tP] h λ(y:OA×Unit) h'=>∃t,Nd I h' y.1 t/\TG l x r t:=by
 intro fuel
 induction fuel with
 |zero=>intro h pl pr l r x hf;omega
 |succ fuel ih=>
  intro h pl pr l r x hf nl nr hw g Y;have hx:=Hx hw;have hl:=jV l r x;have a3:=lC (I:=I) l r x;have ab:=qF O (Bt.node l x r).list;have g1:=l.KG;have g2:=r.KG;unfold FR aS;refine fV x O.i1.2 λh1 u o1=>?_;have N:∀{h'} {K:I.It->aK} {Q:Nat->bE->aE->Prop},Ext h1 h'->wp P (K x) h' Q->wp P (.load (.agg I.iB) (some ⟨h.size,0,none⟩) K) h' Q:=λe hk=>gJ (o1.ext e) hk;have G:=nl.ext u;have J:=nr.ext u;refine aM (vK G) λy h2 V j=>aM (vK (J.ext V)) λz h3 e3 w=>?_;obtain⟨(y:Int),w1⟩:=y;obtain⟨(z:Int),w2⟩:=z;dsimp only at j w⊢;subst j;subst w;have k:=V.trans e3;have B:=G.ext k;have C:=J.ext k;rw[bG (by omega) (by omega)];refine aG (λE=>?_) λE=>?_
  .rw[dQ]at E
   cases l with
   |nil=>simp only[Bt.ht]at E;omega
   |node ll lx A=>
    have ab:=jV ll A lx;have ao:=lC (I:=I) ll A lx;have al:=qF O (Bt.node ll lx A).list;obtain⟨a,U,qr,rfl,c,R,T⟩:=B;have c:Gk I h3 a U qr ll lx A:=c;refine nD c (tW c (lY c (N k (aM (ih (x:=x) (by omega) T C (FC hw (by intro y j;simp only[Bt.list,dD,eJ]at j⊢;grind)) (by rw[lC];omega)) λp h4 m f=>?_))));obtain⟨(p:OA),w3⟩:=p;obtain⟨t1,np,n⟩:=f;dsimp only at np n⊢;have b:(Bt.node ll lx t1).list=(Bt.node (.node ll lx A) x r).list:=by simp only[Bt.list];rw[n.1];simp
    refine IX (c.ext m) (Zj (c.ext m) (aM (T5 O (x:=lx) (R.ext m) np (by rw[b];exact hw) (by rw[b];exact g)) λp X M f=>?_));obtain⟨(p:OA),w4⟩:=p;obtain⟨t2,np,he⟩:=f;exact aC ⟨rfl,u.trans ((k.trans m).trans M),(p,()),rfl,t2,np,kx (by omega) n he⟩
  .rw[gC]at E
   refine aM (vK C) λy h4 m j=>aM (vK (B.ext m)) λz X M w=>?_;obtain⟨(y:Int),w1⟩:=y;obtain⟨(z:Int),w2⟩:=z;dsimp only at j w⊢;subst j;subst w;have v:=m.trans M;have H:=B.ext v;have L:=C.ext v;have o:=k.trans v;rw[bG (by omega) (by omega)];refine aG (λF=>?_) λF=>?_
   .rw[dQ]at F
    cases r with
    |nil=>simp only[Bt.ht]at F;omega
    |node D rx rr=>
     have a4:=jV D rr rx;have a0:=lC (I:=I) D rr rx;have aw:=qF O (Bt.node D rx rr).list;obtain⟨a,U,qr,rfl,c,R,T⟩:=L;have c:Gk I X a U qr D rx rr:=c;refine N o (nD c (tW c (lY c (aM (ih (x:=x) (by omega) H R (FC hw (by intro y j;simp only[Bt.list,dD,eJ]at j⊢;grind)) (by rw[lC];omega)) λp h6 q f=>?_))));obtain⟨(p:OA),w3⟩:=p;obtain⟨t1,np,n⟩:=f;dsimp only at np n⊢;have b:(Bt.node t1 rx rr).list=(Bt.node l x (.node D rx rr)).list:=by simp only[Bt.list];rw[n.1];simp
     refine Nx (c.ext q) (IX (c.ext q) (aM (T5 O (x:=rx) np (T.ext q) (by rw[b];exact hw) (by rw[b];exact g)) λp h7 e7 f=>?_));obtain⟨(p:OA),w4⟩:=p;obtain⟨t2,np,he⟩:=f;exact aC ⟨rfl,u.trans ((o.trans q).trans e7),(p,()),rfl,t2,np,l_ (by omega) n he⟩
   .rw[gC]at F
    refine N o (aM (ED O (x:=x) H L hw g) λp h6 q f=>?_);obtain⟨(p:OA),w3⟩:=p;exact aC ⟨rfl,u.trans (o.trans q),(p,()),rfl,_,f,lf (by omega) (by omega)⟩
theorem T7(O:I.Ok P){pl:OA}{l r:Bt I.It}(nl:Nd I h pl l)(nr:Nd I h pr r)(hw:I.wf (Bt.node l x r).list)(b:I.W (Bt.node l x r).list<=4398046511104)(c:oC I h:=by repeat (first|assumption|refine oC.ext ?_ (by assumption))) :
  aS P (Jx I pl x pr) [tP] h λ(y:OA×Unit) h'=>∃t,Nd I h' y.1 t/\TG l x r t:=
 ⟨l.list.length+r.list.length+1,bq O _ (Kb _) nl nr hw b⟩
theorem jo(O:I.Ok P):∀(fuel:Nat) {h:aE} {p:OA} {t:Bt I.It} {i:Int},t.list.length<fuel->Nd I h p t->I.wf t.list->I.W t.list<=4398046511104 -> -4398046511104<=i->i<=9223372036854775807->(G:oC I h:=by repeat (first|assumption|refine oC.ext ?_ (by assumption))) ->
  aS P (Jy fuel I p i) [tP, tP] h λ(y:OA×OA×Unit) h'=>∃a b,Nd I h' y.1 a/\Nd I h' y.2.1 b/\a.list=t.list.take i.toNat/\b.list=t.list.drop i.toNat/\(t.Jv->a.Jv/\b.Jv):=by
 intro fuel
 induction fuel with
 |zero=>intro h p t i V;omega
 |succ fuel K=>
  intro h p t i V M hw n H J G;unfold Jy aS;cases t with
  |nil=>
   obtain rfl:=M;exact mI (aC ⟨rfl,Ext.refl _,(none,none,()),rfl, .nil, .nil,rfl,rfl,by simp[Bt.list],by simp[Bt.list],λ_=>⟨trivial,trivial⟩⟩)
  |node l x r=>
   have hl:=jV l r x;have al:=lC (I:=I) l r x;have ab:=qF O (Bt.node l x r).list;obtain⟨a,X,qr,rfl,c,B,L⟩:=M;have c:Gk I h a X qr l x r:=c;refine lI (nD c (aM (Av B) λy h1 k f=>?_));obtain⟨(y:Int),w1⟩:=y;dsimp only at f⊢;subst f;have c1:=c.ext k;refine aG (λA=>?_) λA=>?_
   .rw[gD]at A
    refine nD c1 (aM (K (by omega) (B.ext k) (B5 hw) (by omega) H J) λy T g f=>?_);obtain⟨(N:OA),(R:OA),Y⟩:=y;obtain⟨D,E,u,v,la,lb,j⟩:=f;dsimp only at u v⊢;have e:(Bt.node E x r).list=(Bt.node l x r).list.drop i.toNat:=by
     simp only[Bt.list];rw[lb,Rr (by omega)]
    refine tW (c1.ext g) (lY (c1.ext g) (aM (T7 O (x:=x) v (L.ext (k.trans g)) (by rw[e];exact Q0 hw _) (by rw[e];exact dI (TI _ _) n)) λy U o f=>?_));obtain⟨(C:OA),w3⟩:=y;obtain⟨t2,nc,q⟩:=f;refine aC ⟨rfl,(k.trans g).trans o,(N,C,()),rfl,D,t2,u.ext o,nc,?_,?_,λm=>⟨(j m.1).1,(q.2 (j m.1).2 m.2.1).1⟩⟩
    .rw[la];simp only[Bt.list];rw[Aa (by omega)]
    .rw[q.1,<-e];rfl
   .rw[nQ]at A
    rw[cY (a:=i) (by omega) (by omega),cY (by omega) (by omega)];refine lY c1 (aM (K (i:=i-l.list.length-1) (by omega) (L.ext k) (NS hw) (by omega) (by omega) (by omega)) λy T g f=>?_);obtain⟨(N:OA),(R:OA),Y⟩:=y;obtain⟨D,E,u,v,la,lb,j⟩:=f;dsimp only at u v⊢;obtain⟨d,hd⟩:∃d:Nat,i=l.list.length+1+d:=⟨(i-l.list.length-1).toNat,by omega⟩;have w:i.toNat=(l.list++[x]).length+d:=by simp;omega
    have F:(i-l.list.length-1).toNat=d:=by omega
    rw[F]at la lb;have z:(Bt.node l x r).list=(l.list++[x])++r.list:=by simp[Bt.list]
    have e:(Bt.node l x D).list=(Bt.node l x r).list.take i.toNat:=by
     rw[z,w,Jp,iF (by omega),Bj,<-la];simp[Bt.list]
    refine nD (c1.ext g) (tW (c1.ext g) (aM (T7 O (x:=x) (B.ext (k.trans g)) u (by rw[e];exact LF hw _) (by rw[e];exact dI (TJ _ _) n)) λy U o f=>?_));obtain⟨(C:OA),w3⟩:=y;obtain⟨t2,nc,q⟩:=f;refine aC ⟨rfl,(k.trans g).trans o,(C,R,()),rfl,t2,E,nc,v.ext o,?_,?_,λm=>⟨(q.2 m.1 (j m.2.1).1).1,(j m.2.1).2⟩⟩
    .rw[q.1,<-e];rfl
    .rw[lb,z,w,Rq,tY (show(l.list++[x]).length<=(l.list++[x]).length+d from DS ..),Bj,Kc]
theorem Vh(O:I.Ok P){p:OA}{t:Bt I.It}{i:Int}(e:Nd I h p t)(hw:I.wf t.list)(c:I.W t.list<=4398046511104)(hi:0<=i)(g:i<=t.list.length)(f:oC I h:=by repeat (first|assumption|refine oC.ext ?_ (by assumption))) :
  aS P (U1 I p i) [tP, tP] h λ(y:OA×OA×Unit) h'=>∃a b,Nd I h' y.1 a/\Nd I h' y.2.1 b/\a.list=t.list.take i.toNat/\b.list=t.list.drop i.toNat/\(t.Jv->a.Jv/\b.Jv):=
 ⟨t.list.length+1,jo O _ (Kb _) e hw c (by omega) (by have:=qF O t.list;omega)⟩
def fu(t:Bt I.It)(x:I.It)(t':Bt I.It):Prop:=t.list=x::t'.list/\(t.Jv->t'.Jv/\t'.ht<=t.ht/\t.ht<=t'.ht+1)
theorem X4(O:I.Ok P):∀(fuel:Nat) {h:aE} {p:OA} {t:Bt I.It},t.list.length<fuel->Nd I h p t->t ≠ .nil->I.wf t.list->I.W t.list<=4398046511104->(D:oC I h:=by repeat (first|assumption|refine oC.ext ?_ (by assumption))) ->
  aS P (Ew fuel I p) [(.agg I.iB), tP] h λ(y:I.It×OA×Unit) h'=>∃K,Nd I h' y.2.1 K/\fu t y.1 K:=by
 intro fuel
 induction fuel with
 |zero=>intro h p t T;omega
 |succ fuel ih=>
  intro h p t T nt E hw N D;cases t with
  |nil=>exact absurd rfl E
  |node l x r=>
   have hl:=jV l r x;have al:=lC (I:=I) l r x;have ab:=qF O (Bt.node l x r).list;have U:=Hx hw;obtain⟨a,J,qr,rfl,c,w,F⟩:=nt;have c:Gk I h a J qr l x r:=c;unfold Ew aS;refine fV I.zi O.i1.2 λC g o1=>?_;have i1:=O.i1;have ao:I.iB.length=I.ni:=rfl;have c1:=c.ext g;refine nD c1 ?_;cases l with
   |nil=>
    obtain rfl:=w;refine mI (tW c1 (lY c1 (mJ x o1 (O.fi _) λv o2 L=>?_)));have c2:Gk I v a none qr .nil x r:=⟨wY L c1.1 (Be o1 c1.1 (by rw[bM,F3,kG];omega)),c1.2⟩;have q:Ext h v:=jE.jA g L (by intro a ha;cases ha;exact bL _);exact Nx c2 (gJ o2 (aC ⟨rfl,q,(x,qr,()),rfl,r,F.ext q,by simp[Bt.list],λ⟨_,b,c,d⟩=>by simp only[Bt.ht]at *;exact⟨b,by omega,by omega⟩⟩))
   |node ll lx o=>
    have V:∃a,J=some a:=by obtain⟨a,_,_,C,_⟩:=w;exact⟨a,C⟩
    obtain⟨la,rfl⟩:=V;refine lI (nD c1 (aM (ih (by omega) (w.ext g) (by simp) (B5 hw) (by omega)) λy v q n=>?_));obtain⟨u,(pq:OA),w2⟩:=y;obtain⟨t1,G,f⟩:=n;dsimp only at G f⊢;refine Hs u O.i1.2 (O.fi _) λh3 A H=>gJ H ?_;have j:=q.trans A;have c3:=c1.ext j;have e:(Bt.node (.node ll lx o) x r).list=u::(Bt.node t1 x r).list:=by
     rw[show(Bt.node (.node ll lx o) x r).list=(Bt.node ll lx o).list++x::r.list from rfl,f.1];simp[Bt.list]
    have hlen:=congrArg I.W e;rw[Py]at hlen;refine tW c3 (lY c3 (aM (T5 O (x:=x) (G.ext A) (F.ext (g.trans j)) (λz Y=>hw z (by rw[e];exact dZ _ Y)) (by omega)) λy h4 B n=>?_));obtain⟨(pe:OA),w3⟩:=y;obtain⟨t2,ne,m⟩:=n;dsimp only at ne m⊢;have k:=j.trans B;refine Pj (H.ext B) (mJ u (o1.ext k) (O.fi _) λh5 o5 M=>gJ o5 (aC ⟨rfl,jE.jA (g.trans k) M (by intro a ha;cases ha;exact bL _),(u,pe,()),rfl,t2,ne.GV M (o1.ext k) (by omega),?_,?_⟩))
    .rw[e,m.1];rfl
    .intro⟨a1,a2,a3,a4⟩
     obtain⟨R,g2,g3⟩:=f.2 a1;obtain⟨k1,k2,k3,k4⟩:=m.2 R a2 (by omega) (by omega);rw[show(Bt.node (.node ll lx o) x r).ht=max (Bt.node ll lx o).ht r.ht+1 from rfl];refine⟨k1,?_,?_⟩<;>(by_cases X:t1.ht<=r.ht+1<;>by_cases n:r.ht<=t1.ht+1<;>first|(have:=k4 X n;omega)|omega)
theorem XX(O:I.Ok P){pl:OA}{l r:Bt I.It}(nl:Nd I h pl l)(nr:Nd I h pr r)(hw:I.wf (l.list++r.list))(f:I.W (l.list++r.list)<=4398046511104)(C:oC I h:=by repeat (first|assumption|refine oC.ext ?_ (by assumption))) :
  aS P (Jw I pl pr) [tP] h λ(y:OA×Unit) h'=>∃t,Nd I h' y.1 t/\t.list=l.list++r.list/\(l.Jv->r.Jv->t.Jv):=by
 have hlen:=pO (I:=I) l.list r.list;unfold Jw aS;cases r with
 |nil=>
  obtain rfl:=nr;exact mI (aC ⟨rfl,Ext.refl _,(pl,()),rfl,l,nl,by simp[Bt.list],λa _=>a⟩)
 |node k rx rr=>
  have w:∃a,pr=some a:=by obtain⟨a,_,_,o,_⟩:=nr;exact⟨a,o⟩
  obtain⟨la,rfl⟩:=w;refine lI (aM (R:=λ(y:I.It×OA×Unit) h'=>∃u,Nd I h' y.2.1 u/\fu (.node k rx rr) y.1 u) ⟨(Bt.node k rx rr).list.length+1,X4 O _ (Kb _) nr (by simp) (λz A=>hw z (pZ _ A)) (by omega)⟩ λy o n j=>?_);obtain⟨m,(F:OA),G⟩:=y;obtain⟨t1,q,e⟩:=j;dsimp only at q e⊢;have c:(Bt.node l m t1).list=l.list++(Bt.node k rx rr).list:=by rw[e.1];rfl
  refine Hs m O.i1.2 (O.fi _) λD g o2=>gJ o2 (aM (T7 O (x:=m) (nl.ext (n.trans g)) (q.ext g) (by rw[c];exact hw) (by rw[c];exact f)) λy E v j=>?_);obtain⟨(B:OA),H⟩:=y;obtain⟨t2,ne,p⟩:=j;exact aC ⟨rfl,(n.trans g).trans v,(B,()),rfl,t2,ne,by rw[p.1,<-c];rfl,λa b=>(p.2 a (e.2 b).1).1⟩
end
section
open Go.Sw.Tree (iv fL jI jW nE pD Be wY dV least TR lA kT sG)
variable{P:Program}{I:gV}{h:aE}{Q:Nat->bE->aE->Prop}
variable{items:Sl}{i:Int}
theorem RW(O:I.Ok P):∀(fuel:Nat) {h:aE} {items:Sl} {l:List I.It},l.length<fuel->OK I h items l->I.W l<=4398046511104->(r:oC I h:=by repeat (first|assumption|refine oC.ext ?_ (by assumption))) ->
  aS P (Cs fuel I items) [tP] h λ(y:OA×Unit) h'=>∃t:Bt I.It,Nd I h' y.1 t/\t.list=l/\t.Full:=by
 intro fuel
 induction fuel with
 |zero=>intro h items l E;omega
 |succ fuel w=>
  intro h items l E c e r;have hlen:=c.len O;have J:=qF O l;have D:=c.cap;have n:=c.max;unfold Cs aS;refine aG (λj=>?_) λj=>?_
  .rw[cJ,aN,hlen]at j
   exact aC ⟨rfl,Ext.refl _,(none,()),rfl, .nil,rfl,by cases l;rfl;simp at j;omega,YD⟩
  .rw[dM,aN,hlen]at j
   have F:kV .i64 (aQ items.len) 2=((l.length / 2:Nat):Int):=by
    rw[aN,hlen,mq (by omega) (by omega) (by omega)];omega
   have u:l.length / 2<l.length:=by omega
   have N:l[l.length / 2]?=some l[l.length / 2]:=cM u;rw[F,bG (by omega) (by omega)];have ht:bP ((l.length / 2:Nat):Int)=l.length / 2:=by rw[eR];omega
   have v:bP (((l.length / 2:Nat):Int)+1)=l.length / 2+1:=by rw[eR];omega
   rw[v,show cV items.cap 0=items.cap from rfl,eQ,show cV (bP ((l.length / 2:Nat):Int)) 0=l.length / 2 by rw[ht];rfl];refine Ag (sD (iQ (by omega) (by omega)) (t_ O c (by omega) (by omega) λx k=>sD (iQ (by omega) (by omega)) ?_));rw[show((l.length / 2:Nat):Int).toNat=l.length / 2 by omega]at k;refine aM (w (l:=l.take (l.length / 2)) (by rw[dJ];omega) (c.take O (by omega) (by omega) n) (dI (TJ _ _) e)) λy K g f=>?_;obtain⟨(pl:OA),R⟩:=y;obtain⟨G,z,o,C⟩:=f;dsimp only at z⊢;rw[ht];refine VT O (c.ext g) k ?_;refine aM (w (l:=l.drop (l.length / 2+1)) (by rw[cZ];omega) ((c.ext g).drop O (by omega) (by unfold cV;omega) (by unfold cV;omega)) (dI (TI _ _) e)) λy L m f=>?_;obtain⟨(pr:OA),T⟩:=y;obtain⟨H,A,q,fr⟩:=f;dsimp only at A⊢;refine VT O (c.ext (g.trans m)) k ?_;have b:(Bt.node G x H).list=l:=by
    simp only[Bt.list];rw[o,q];have:=eK.1 k;obtain⟨_,rfl⟩:=this;rw[<-gK u,eX]
   refine aM (ED O (x:=x) (z.ext m) A (by rw[b];exact c.wf) (by rw[b];exact e)) λy M B f=>?_;obtain⟨(p:OA),U⟩:=y;exact aC ⟨rfl,(g.trans m).trans B,(p,()),rfl,_,f,b,WR C fr (by rw[o,q,dJ,cZ];omega) (by rw[o,q,dJ,cZ];omega)⟩
theorem vc(O:I.Ok P){l:List I.It}(m:OK I h items l)(c:I.W l<=4398046511104)(r:oC I h:=by repeat (first|assumption|refine oC.ext ?_ (by assumption))):aS P (ae I items) [.agg [.ptr]] h λ(y:TR×Unit) h'=>∃t:Bt I.It,Nd I h' y.1.1 t/\t.list=l/\t.Full:=by
 unfold ae aS;refine jI none λv g o1=>?_;refine aM (R:=λ(y:OA×Unit) h'=>∃t:Bt I.It,Nd I h' y.1 t/\t.list=l/\t.Full) ⟨l.length+1,RW O _ (Kb _) (m.ext g) c⟩ λy w f o=>?_;obtain⟨(p:OA),u⟩:=y;obtain⟨t,n,k,b⟩:=o;dsimp only at n⊢;refine pD p (o1.ext f) λz q j=>nE q (aC ?_);have e:=jE.jA (g.trans f) j (by intro a ha;cases ha;exact bL _);exact⟨rfl,e,((p,()),()),rfl,t,n.GV j (o1.ext f) (by omega),k,b⟩
theorem GY{p:OA}{t:Bt I.It}(ht:Nd I h p t):aS P (Pw I (p,())) [tI] h λ(x:Int×Unit) _=>x.1=t.list.length:=by
 unfold Pw aS;refine jI p λf b o1=>jW o1 (aM (Av (ht.ext b)) λx g c e=>?_);exact aC ⟨rfl,b.trans c,(x.1,()),rfl,e⟩
theorem qi(O:I.Ok P){p:OA}{t:Bt I.It}(ht:Nd I h p t)(hw:I.wf t.list)(j:I.W t.list<=4398046511104):aS P (fx I (p,())) [(.agg I.sB)] h λ(x:I.Su×Unit) _=>x.1=I.sum t.list:=by
 unfold fx aS;refine jI p λm b o1=>fV I.zs O.s1.2 λn f o2=>jW (o1.ext f) ?_;cases t with
 |nil=>
  obtain rfl:=ht;exact mI (fV I.zs O.s1.2 λo g k=>gJ k (yJ I.zs (o2.ext g) b.size ((b.trans f).trans g) (O.fs _) λh' e=>⟨rfl,e,(I.zs,()),rfl,rfl⟩))
 |node l x r=>
  obtain⟨a,q,qr,rfl,c,_,_⟩:=ht;exact lI (jW (o1.ext f) (VL (c.ext (b.trans f)) (yJ (I.sum (Bt.node l x r).list) o2 b.size (b.trans f) (O.fs _) λh' e=>⟨rfl,e,(_,()),rfl,rfl⟩)))
theorem qb(l:List I.It){i j:Nat}(h:i<=j):I.W (l.take i)+I.W (l.drop j)<=I.W l:=by
 have b:=pO (l.take i) (l.drop i);rw[eX]at b;have c:=TI (l.drop i) (j-i);rw[FK,show i+(j-i)=j by omega]at c;omega
theorem Wj(O:I.Ok P){p:OA}{t:Bt I.It}{e:List I.It}{j:Int}(H:Nd I h p t)(F:OK I h items e)(hw:I.wf t.list)(h0:0<=i)(h1:i<=j)(h2:j<=t.list.length)(ab:I.W t.list+I.W e<=4398046511104)(al:oC I h:=by repeat (first|assumption|refine oC.ext ?_ (by assumption))) :
  aS P (FQ I (p,()) i j items) [.agg [.ptr], tI] h λ(y:TR×Int×Unit) h'=>y.2.1=0/\∃J,Nd I h' y.1.1 J/\J.list=t.list.take i.toNat++e++t.list.drop j.toNat/\(t.Jv->J.Jv):=by
 unfold FQ aS;refine jI p λk1 L o1=>jI none λk2 M o2=>?_;have f:=L.trans M;have r:=o1.ext M;refine bW False ?_ λb k3 k hb=>?_
 .refine aG (λn=>?_) λn=>aG (λc=>?_) λc=>nE r (aM (GY (H.ext f)) λy k3 k c=>?_)
  .rw[aV]at n;omega
  .rw[dQ]at c;omega
  .obtain⟨(y:Int),w⟩:=y
   dsimp only at c⊢;refine aC ⟨rfl,k,rY j y,rfl,Iff.intro (λhx=>?_) False.elim⟩;rw[dQ]at hx;omega
 have U:b=false:=by cases b;rfl;exact(hb.1 rfl).elim
 subst U;dsimp only;have u:=r.ext k;have g:=f.trans k;have l1:=TJ t.list i.toNat;have l3:=qb t.list (i:=i.toNat) (j:=j.toNat) (by omega);refine lI (jW u (aM (Vh O (H.ext g) hw (by omega) h0 (by omega)) λy k4 m c=>jW (u.ext m) (aM (Vh O (H.ext (g.trans m)) hw (by omega) (by omega) h2) λz k5 A n=>?_)));obtain⟨(pa:OA),(pb:OA),w1⟩:=y;obtain⟨ta,tb,X,nb,la,lb,T⟩:=c;obtain⟨(pc:OA),(pd:OA),w2⟩:=z;obtain⟨tc,td,nc,nd,lc,G,C⟩:=n;dsimp only at X nb nc nd⊢;have K:=(g.trans m).trans A;refine aM (R:=λ(y:OA×Unit) h'=>∃t:Bt I.It,Nd I h' y.1 t/\t.list=e/\t.Full) ⟨e.length+1,RW O _ (Kb _) (F.ext K) (by omega)⟩ λy k6 B c=>?_;obtain⟨(pm:OA),w3⟩:=y;obtain⟨tm,nm,lm,fm⟩:=c;dsimp only at nm⊢;refine aM (XX O ((X.ext A).ext B) nm (by rw[la,lm];exact Gf (LF hw _) F.wf) (by rw[la,lm,pO];omega)) λy k7 N c=>?_;obtain⟨(pn:OA),w4⟩:=y;obtain⟨tn,Y,o,D⟩:=c;dsimp only at Y⊢;rw[la,lm]at o;refine aM (XX O Y ((nd.ext B).ext N) (by rw[o,G];exact Gf (Gf (LF hw _) F.wf) (Q0 hw _)) (by rw[o,G,pO,pO];omega)) λy k8 e8 c=>?_;obtain⟨(pz:OA),w5⟩:=y;obtain⟨tz,nz,lz,E⟩:=c;dsimp only at nz⊢;have q:=(((((k.trans m).trans A).trans B).trans N).trans e8);have v:=o2.ext q;refine pD pz v λk9 o9 u9=>nE o9 (aC ⟨rfl,jE.jA (f.trans q) u9 (by intro a ha;cases ha;exact L.size),((pz,()),0,()),rfl,rfl,tz,nz.GV u9 v (by omega),by rw[lz,o,G],λV=>E (D (T V).1 fm.2.2) (C V).2⟩)
theorem jg(O:I.Ok P){p:OA}{t:Bt I.It}{x:I.It}(nt:Nd I h p t)(hw:I.wf t.list)(C:I.W t.list<=4398046511104)(h0:0<=i)(V:t.list[i.toNat]?=some x) :
  aS P (aa I (p,()) i) [(.agg I.iB), tB] h λ(y:I.It×Bool×Unit) h'=>y.1=x/\y.2.1=true:=by
 have hi:=(eK.1 V).1;unfold aa aS;refine jI p λm F o1=>fV I.zi O.i1.2 λh2 H o2=>jW (o1.ext H) ?_;refine dV (G:=Bt I.It) (λg (s:Int×OA×Unit) h'=>Ext h h'/\Nd I h' s.2.1 g/\0<=s.1/\s.1<g.list.length/\I.W g.list<=4398046511104/\g.list[s.1.toNat]?=some x/\cC m.size 1 h' ⟨some ⟨m.size,0,none⟩,I.iB.length,I.iB.length⟩ (Bs.inj I.iB I.zi)) (λg=>g.list.length)
  (λt' vs h'=>t'=1/\vs=[.pointer (some ⟨m.size,0,none⟩), .bool true]/\Ext h h'/\cC m.size 1 h' ⟨some ⟨m.size,0,none⟩,I.iB.length,I.iB.length⟩ (Bs.inj I.iB x))
  t ⟨F.trans H,nt.ext (F.trans H),h0,by first|omega|(dsimp only;omega),C,V,o2⟩ ?_ ?_
 .rintro g ⟨(j:Int),(q:OA),u⟩ T ⟨J,nq,z,D,hg,e,L⟩
  dsimp only at nq z D e⊢;cases g with
  |nil=>simp[Bt.list]at D;omega
  |node l y r=>
   have hl:=jV l r y;have ao:=lC (I:=I) l r y;have al:=qF O (Bt.node l y r).list;obtain⟨a,ql,qr,rfl,c,Y,n2⟩:=nq;have c:Gk I T a ql qr l y r:=c;refine bW True (mI (aC ⟨rfl,Ext.refl _,pV j 0,rfl,by rw[dT];exact Iff.intro (λ_=>trivial) (λ_=>z)⟩)) λb h4 f hb=>?_;have v:b=true:=hb.2 trivial;subst v;dsimp only;have M:=c.ext f;have N:=J.trans f;refine mI (nD M (aM (Av (Y.ext f)) λk h5 o U=>?_));obtain⟨(k:Int),w⟩:=k;dsimp only at U⊢;subst U;have E:=M.ext o;have A:=(L.ext f).ext o;have n:=N.trans o;have v:(Bt.node l y r).list=l.list++y::r.list:=rfl;rw[v]at e;refine aG (λK=>?_) λK=>aG (λB=>?_) λB=>?_
   .rw[cJ]at K
    have X:y=x:=by
     rw[jK (by omega),show j.toNat-l.list.length=0 by omega]at e;simpa using e
    subst X;exact tW E (mJ y A (O.fi _) λh6 o6 u6=>aC ⟨λh=>absurd h (by decide),λ_=>⟨rfl,rfl,jE.jA n u6 (by intro a ha;cases ha;exact F.size),o6⟩⟩)
   .rw[aV]at B
    rw[lV (by omega)]at e;exact nD E (aC ⟨λ_=>⟨l,(j,ql,()),rfl,⟨n,(Y.ext f).ext o,z,B,by omega,e,A⟩,by first|omega|(dsimp only;omega)⟩,λh=>absurd rfl h⟩)
   .rw[dM]at K
    rw[aZ]at B;rw[cY (a:=j) (by omega) (by omega),cY (by omega) (by omega)];obtain⟨d,ab⟩:∃d:Nat,j=l.list.length+1+d:=⟨(j-l.list.length-1).toNat,by omega⟩;have R:(j-l.list.length-1).toNat=d:=by omega
    rw[jK (by omega),show j.toNat-l.list.length=d+1 by omega,Rt]at e;exact lY E (aC ⟨λ_=>⟨r,(j-l.list.length-1,qr,()),rfl,⟨n,(n2.ext f).ext o,by first|omega|(dsimp only;omega),by first|omega|(dsimp only;omega),by omega,by rw[R];exact e,A⟩,by first|omega|(dsimp only;omega)⟩,λh=>absurd rfl h⟩)
 .rintro tg vs T ⟨rfl,rfl,J,L⟩
  exact pY (by decide) (bK ⟨(some ⟨m.size,0,none⟩,true,()),rfl,gJ L (aC ⟨rfl,J,(x,true,()),rfl,rfl,rfl⟩)⟩)
theorem TO(O:I.Ok P){p:OA}{t:Bt I.It}(nt:Nd I h p t)(v:I.W t.list<=4398046511104)(Y:i<=9223372036854775807)(R:i<0\/(t.list.length:Int)<=i) :
  aS P (aa I (p,()) i) [(.agg I.iB), tB] h λ(y:I.It×Bool×Unit) h'=>y.1=I.zi/\y.2.1=false:=by
 unfold aa aS;refine jI p λo A o1=>fV I.zi O.i1.2 λh2 B o2=>jW (o1.ext B) ?_;refine dV (G:=Bt I.It) (λg (s:Int×OA×Unit) h'=>Ext h h'/\Nd I h' s.2.1 g/\(s.1<0\/(g.list.length:Int)<=s.1)/\s.1<=9223372036854775807/\I.W g.list<=4398046511104/\cC o.size 1 h' ⟨some ⟨o.size,0,none⟩,I.iB.length,I.iB.length⟩ (Bs.inj I.iB I.zi)) (λg=>g.list.length)
  (λt' U h'=>t'=2/\U=[]/\Ext h h'/\cC o.size 1 h' ⟨some ⟨o.size,0,none⟩,I.iB.length,I.iB.length⟩ (Bs.inj I.iB I.zi))
  t ⟨A.trans B,nt.ext (A.trans B),R,Y,v,o2⟩ ?_ ?_
 .rintro g ⟨(j:Int),(q:OA),u⟩ F ⟨m,C,L,M,hg,f⟩
  dsimp only at C L M⊢;cases g with
  |nil=>
   obtain rfl:=C;refine bW False (lI (aC ⟨rfl,Ext.refl _,false,rfl,Iff.intro (λx=>by cases x) False.elim⟩)) λb H e hb=>?_;have J:b=false:=by cases b;rfl;exact(hb.1 rfl).elim
   subst J;exact lI (aC ⟨λh=>absurd h (by decide),λ_=>⟨rfl,rfl,m.trans e,f.ext e⟩⟩)
  |node l y r=>
   have hl:=jV l r y;have al:=lC (I:=I) l r y;have ab:=qF O (Bt.node l y r).list;obtain⟨a,ql,qr,rfl,c,n1,n2⟩:=C;have c:Gk I F a ql qr l y r:=c;refine bW (0<=j) (mI (aC ⟨rfl,Ext.refl _,pV j 0,rfl,dT⟩)) λb H e hb=>?_;have D:=c.ext e;have z:=m.trans e;dsimp only;refine aG (λK=>?_) λK=>aC ⟨λh=>absurd h (by decide),λ_=>⟨rfl,rfl,z,f.ext e⟩⟩;have h0:=hb.1 K;refine nD D (aM (Av (n1.ext e)) λk X n N=>?_);obtain⟨(k:Int),w⟩:=k;dsimp only at N⊢;subst N;have V:=D.ext n;have T:=(f.ext e).ext n;have E:=z.trans n;rw[show fU j (l.list.length:Int)=false from dM.2 (by omega),show fE j (l.list.length:Int)=false from aZ.2 (by omega)];rw[cY (a:=j) (by omega) (by omega),cY (by omega) (by omega)];exact lI (lI (lY V (aC ⟨λ_=>⟨r,(j-l.list.length-1,qr,()),rfl,⟨E,(n2.ext e).ext n,by dsimp only;omega,by dsimp only;omega,by omega,T⟩,by omega⟩,λh=>absurd rfl h⟩)))
 .rintro tg U F ⟨rfl,rfl,m,f⟩
  refine bK (bV (fV I.zi O.i1.2 λH e oz=>gJ oz (mJ I.zi (f.ext e) (O.fi _) λX o5 u5=>gJ o5 (aC ⟨rfl,jE.jA (m.trans e) u5 (by intro a ha;cases ha;exact A.size),(I.zi,false,()),rfl,rfl,rfl⟩))))
end
section
open Go.Sw.Tree (iv fL jI jW nE pD Be wY dV least TR lA kT sG)
variable{P:Program}{I:gV}{h:aE}{Q:Nat->bE->aE->Prop}
variable{l:Bt I.It}{x:I.It}
theorem Ft{p:OA}{r:Bt I.It}{K:OA->aK}(ht:Nd I h p (.node l x r))(b:∀q,Nd I h q l->wp P (K q) h Q):wp P (bD (aJ p)<|bD (aJ p)<|.load (tP) (aB p 0) K) h Q:=by
 obtain⟨a,pl,pr,rfl,c,e,f⟩:=ht;exact nD c (b pl e)
theorem VR{p:OA}{r:Bt I.It}{K:OA->aK}(ht:Nd I h p (.node l x r))(b:∀q,Nd I h q r->wp P (K q) h Q):wp P (bD (aJ p)<|bD (aJ p)<|.load (tP) (aB p 1) K) h Q:=by
 obtain⟨a,pl,pr,rfl,c,f,e⟩:=ht;exact lY c (b pr e)
theorem Zu{p:OA}{r:Bt I.It}{K:I.It->aK}(ht:Nd I h p (.node l x r))(b:wp P (K x) h Q):wp P (bD (aJ p)<|bD (aJ p)<|.load (.agg I.iB) (aB p 2) K) h Q:=by
 obtain⟨a,pl,pr,rfl,c,e,f⟩:=ht;exact tW c b
theorem ig{p:OA}{r:Bt I.It}{K:I.Su->aK}(ht:Nd I h p (.node l x r))(b:wp P (K (I.sum (Bt.node l x r).list)) h Q):wp P (bD (aJ p)<|bD (aJ p)<|.load (.agg I.sB) (aB p (I.ni+4)) K) h Q:=by
 obtain⟨a,pl,pr,rfl,c,e,f⟩:=ht;exact VL c b
def Found(I:gV)(l:List I.It)(k n i:Int):Prop:=
 (i=0/\n<=0)\/(1<=i/\i<=l.length/\n<=I.key (I.sum (l.take i.toNat)) k/\I.key (I.sum (l.take (i.toNat-1))) k<n)\/(i=l.length+1/\I.key (I.sum l) k<n)
theorem ji(O:I.Ok P){p:OA}{t:Bt I.It}{k n:Int}(ht:Nd I h p t)(hw:I.wf t.list)(b3:I.W t.list<4398046511104) :
  aS P (XC I (p,()) k n) [tI] h λ(x:Int×Unit) _=>Found I t.list k n x.1:=by
 have cd:=qF O t.list;have cr:I.sB.length=I.ns:=rfl;unfold XC aS;refine jI p λf e1 o1=>aG (λT=>?_) λT=>?_
 .rw[gD]at T
  exact aC ⟨rfl,e1,(0,()),rfl, .inl ⟨rfl,T⟩⟩
 rw[nQ]at T;refine fV I.zs O.s1.2 λh2 e2 o2=>jW (o1.ext e2) ?_;refine dV (G:=Bt I.It×List I.It×List I.It) (λg (s:Int×OA×Unit) h'=>Ext f h'/\Nd I h' s.2.1 g.1/\t.list=g.2.1++g.1.list++g.2.2/\s.1=g.2.1.length/\cC f.size 1 h' ⟨some ⟨f.size,0,none⟩,I.sB.length,I.sB.length⟩ (Bs.inj I.sB (I.sum g.2.1))/\I.key (I.sum g.2.1) k<n /\
   (g.2.2=[]\/n<=I.key (I.sum (g.2.1++g.1.list)) k)) (λg=>g.1.list.length)
  (λA L h'=>Ext f h'/\((A=2/\∃x:Int×Unit,L=Ts.inj [tI] x/\x.1=t.list.length/\I.key (I.sum t.list) k<n)\/(A=1/\∃x:Int×Unit,L=Ts.inj [tI] x/\Found I t.list k n x.1)))
  (t,[],[]) ⟨e2,ht.ext (e1.trans e2),by simp,rfl,o2,by rw[show I.sum []=I.zs from rfl,O.ri];exact T, .inl rfl⟩ ?_ ?_
 .rintro⟨A,pre,post⟩ ⟨(at_:Int),(q:OA),u⟩ K ⟨F,v,j,R,e,B,b⟩
  dsimp only at v j R e B b⊢;have a9:I.wf (pre++A.list++post):=j ▸ hw;have ba:I.wf pre:=λy o=>a9 y (by simp[o]);have Y:I.wf A.list:=λy o=>a9 y (by simp[o]);have ao:t.list.length=pre.length+A.list.length+post.length:=by rw[j];simp[Bg]
  have cc:I.W t.list=I.W pre+I.W A.list+I.W post:=by rw[j,pO,pO]
  have b2:=qF O t.list;cases A with
  |nil=>
   obtain rfl:=v;refine lI (aC ⟨λh=>absurd h (by decide),λ_=>⟨F, .inl ⟨rfl,(at_,()),rfl,?_,?_⟩⟩⟩)
   .rcases b with rfl|b
    .rw[ao,R];simp[Bt.list]
    .simp only[Bt.list,jX]at b;omega
   .rcases b with rfl|b
    .rw[j];simpa[Bt.list] using B
    .simp only[Bt.list,jX]at b;omega
  |node l x r=>
   have hq:∃a,q=some a:=by obtain⟨a,_,_,f,_⟩:=v;exact⟨a,f⟩
   obtain⟨qa,rfl⟩:=hq;have cg:=jV l r x;have b6:=lC (I:=I) l r x;have b4:=qF O (Bt.node l x r).list;have C:=Hx Y;have vp:=V.sum O ba;have vl:=V.sum O (B5 Y);have vm:=O.vm x C;have E:I.sum (pre++l.list)=I.add (I.sum pre) (I.sum l.list):=sum_append O ba (B5 Y);have al:=O.va _ _ _ _ vp vl;refine mI (gJ e (Hs (I.sum pre) O.s1.2 (O.fs _) λh4 M ob=>?_));have e:=e.ext M;have v:=v.ext M;have b8:=F.trans M;have cf:=(e.lt rfl).2;refine eN (λt L h'=>t=0/\L=[]/\Ext K h'/\cC K.size 1 h' ⟨some ⟨K.size,0,none⟩,I.sB.length,I.sB.length⟩ (Bs.inj I.sB (I.sum (pre++l.list)))) ?_ ?_
   .refine Ft v λpl nl=>?_
    cases l with
    |nil=>
     obtain rfl:=nl;exact lI (aC ⟨rfl,rfl,M,by simpa[Bt.list] using ob⟩)
    |node ll lx lr=>
     have X:∃a,pl=some a:=by obtain⟨a,_,_,f,_⟩:=nl;exact⟨a,f⟩
     obtain⟨la,rfl⟩:=X;refine mI (gJ e (Ft v λpl nl=>ig nl (aM (O.ca _ _ _ _ _ vp vl (by omega)) λm h5 H hm=>?_)));obtain⟨m,w5⟩:=m;dsimp only at hm;rw[<-E]at hm;subst hm;refine mJ (I.sum (pre++(Bt.node ll lx lr).list)) (ob.ext H) (O.fs _) λh6 o6 u6=>aC ⟨rfl,rfl,jE.jA (M.trans H) u6 (by intro a ha;cases ha;exact bL _),o6⟩
   .rintro tg L h5 ⟨rfl,rfl,H,ob⟩
    have e:=(‹cC f.size 1 K ⟨some ⟨f.size,0,none⟩,I.sB.length,I.sB.length⟩ (Bs.inj I.sB (I.sum pre))›).ext H;have v:=(‹Nd I K (some qa) (.node l x r)›).ext H;have a4:=F.trans H;refine bK (bV (gJ ob (aM (O.ck _ _ _ _ (E ▸ al) (by omega)) λy h6 J o=>?_)));obtain⟨(y:Int),w6⟩:=y;dsimp only at o⊢;subst o;have ab:=v.ext J;refine aG (λU=>?_) λU=>?_
    .rw[dT]at U
     refine Ft ab λpl nl=>aC ⟨λ_=>⟨(l,pre,x::r.list++post),(at_,pl,()),rfl,⟨a4.trans J,nl,by rw[j];simp[Bt.list],R,e.ext J,B, .inr U⟩,by dsimp only;omega⟩,λh=>absurd rfl h⟩
    .rw[fC]at U
     refine Ft ab λpl nl=>aM (Av nl) λc h7 e7 a8=>?_;obtain⟨(c:Int),w7⟩:=c;dsimp only at a8⊢;subst a8;have bb:=ab.ext e7;have bo:=ob.ext (J.trans e7);have bd:=e.ext (J.trans e7);refine gJ bo (Zu bb (aM (O.cm _ x C) λm h8 N hm=>?_));obtain⟨m,w8⟩:=m;dsimp only at hm;subst hm;refine Pj (bo.ext N) (aM (O.ca _ _ _ _ _ (E ▸ al) vm (by omega)) λm h9 e9 hm=>?_);obtain⟨m,w9⟩:=m;dsimp only at hm;rw[<-Fw]at hm;subst hm;have vq:I.V (I.W pre+I.W l.list+I.wt x) (I.sum (pre++l.list++[x])):=by rw[Fw,E];exact O.va _ _ _ _ al vm
     refine mJ (I.sum (pre++l.list++[x])) ((bd.ext N).ext e9) (O.fs _) λa7 b1 bp=>?_;have a3:Ext f a7:=jE.jA ((((a4.trans J).trans e7).trans N).trans e9) bp (by intro a ha;cases ha;exact bL _);have b0:Nd I a7 (some qa) (.node l x r):=((bb.ext N).ext e9).GV bp ((bd.ext N).ext e9) (by omega);have e:=b1;refine gJ e (aM (O.ck _ _ _ _ vq (by omega)) λy b9 D o=>?_);obtain⟨(y:Int),ct⟩:=y;dsimp only at o⊢;subst o;have a0:aT .i64 at_ (aT .i64 ((l.list.length:Nat):Int) 1)=((pre.length+l.list.length+1:Nat):Int):=by
      rw[bG (a:=((l.list.length:Nat):Int)) (by omega) (by omega),bG (by omega) (by omega)];omega
     rw[a0];have bt:t.list.take (pre.length+l.list.length+1)=pre++l.list++[x]:=by
      rw[show t.list=(pre++l.list++[x])++(r.list++post) by rw[j];simp[Bt.list]];exact Rp (by simp[Bg])
     have aw:t.list.take (pre.length+l.list.length)=pre++l.list:=by
      rw[show t.list=(pre++l.list)++(x::r.list++post) by rw[j];simp[Bt.list]];exact Rp (by simp)
     refine aG (λz=>?_) λz=>?_
     .rw[dT]at z
      refine aC ⟨λh=>absurd h (by decide),λ_=>⟨a3.trans D, .inr ⟨rfl,(((pre.length+l.list.length+1:Nat):Int),()),rfl, .inr (.inl ⟨by dsimp only;omega,by dsimp only;omega,?_,?_⟩)⟩⟩⟩
      .dsimp only;rw[cN,bt];exact z
      .dsimp only;rw[cN,Nat.add_sub_cancel,aw];exact U
     .rw[fC]at z
      refine VR (b0.ext D) λpr nr=>aC ⟨λ_=>⟨(r,pre++l.list++[x],post),(((pre.length+l.list.length+1:Nat):Int),pr,()),rfl,⟨a3.trans D,nr,by rw[j];simp[Bt.list],by simp;omega,e.ext D,z,?_⟩,by dsimp only;omega⟩,λh=>absurd rfl h⟩;rcases b with X|X
      .exact .inl X
      .refine .inr ?_
       dsimp only;rw[show pre++l.list++[x]++r.list=pre++(Bt.node l x r).list by simp[Bt.list]];exact X
 .rintro tg L K ⟨F,⟨rfl,x,rfl,C,hk⟩|⟨rfl,x,rfl,C⟩⟩
  .obtain⟨(x:Int),w⟩:=x
   dsimp only at C;refine bK ⟨(x,()),rfl,?_⟩;dsimp only;subst C;rw[bG (by omega) (by omega)];exact aC ⟨rfl,e1.trans F,(_,()),rfl, .inr (.inr ⟨rfl,hk⟩)⟩
  .obtain⟨(x:Int),w⟩:=x
   exact pY (by decide) (bK ⟨(x,()),rfl,aC ⟨rfl,e1.trans F,(x,()),rfl,C⟩⟩)
theorem Vf(O:I.Ok P){p:OA}{t:Bt I.It}{i:Int}(ht:Nd I h p t)(hw:I.wf t.list)(b6:I.W t.list<4398046511104) :
  aS P (XD I (p,()) i) [(.agg I.sB)] h λ(x:I.Su×Unit) _=>x.1=I.sum (t.list.take i.toNat):=by
 have cg:=qF O t.list;have ct:I.sB.length=I.ns:=rfl;unfold XD aS;refine jI p λw e1 o1=>fV I.zs O.s1.2 λF R o2=>fV I.zs O.s1.2 λh3 K o3=>nE ((o1.ext R).ext K) (aM (GY (ht.ext ((e1.trans R).trans K))) λy h4 T J=>jW (((o1.ext R).ext K).ext T) ?_);obtain⟨(y:Int),w1⟩:=y;dsimp only at J⊢;subst J;have b2:=(o2.lt rfl).2;have b1:=(o1.lt rfl).2;dsimp only at b1 b2;have ab:Ext h h4:=(((e1.trans R).trans K).trans T);refine dV (G:=Bt I.It×List I.It×List I.It) (λg (s:Int×OA×Unit) h'=>Ext h h'/\Nd I h' s.2.1 g.1/\t.list=g.2.1++g.1.list++g.2.2/\t.list.take i.toNat=g.2.1++g.1.list.take s.1.toNat/\s.1<=g.1.list.length /\
   cC w.size 1 h' ⟨some ⟨w.size,0,none⟩,I.sB.length,I.sB.length⟩ (Bs.inj I.sB I.zs)/\cC F.size 1 h' ⟨some ⟨F.size,0,none⟩,I.sB.length,I.sB.length⟩ (Bs.inj I.sB (I.sum g.2.1))) (λg=>g.1.list.length)
  (λo N h'=>o=2/\N=[]/\Ext h h'/\cC w.size 1 h' ⟨some ⟨w.size,0,none⟩,I.sB.length,I.sB.length⟩ (Bs.inj I.sB I.zs)/\cC F.size 1 h' ⟨some ⟨F.size,0,none⟩,I.sB.length,I.sB.length⟩ (Bs.inj I.sB (I.sum (t.list.take i.toNat))))
  (t,[],[]) ⟨ab,ht.ext ab,by simp,?_,?_,(o2.ext K).ext T,o3.ext T⟩ ?_ ?_
 .dsimp only
  rw[Kc];have:Nk i ((t.list.length:Nat):Int)=min i (t.list.length:Int):=lA ..;rw[this];by_cases hi:i<=(t.list.length:Int)
  .rw[show min i (t.list.length:Int)=i by omega]
  .rw[show min i (t.list.length:Int)=(t.list.length:Int) by omega,iF (by omega),cN,fA]
 .dsimp only
  rw[lA];omega
 .rintro⟨o,pre,post⟩ ⟨(j:Int),(q:OA),u⟩ h5 ⟨e5,nq,H,k,hj,oz,oa⟩
  dsimp only at nq H k hj oz oa⊢;have a0:I.wf (pre++o.list++post):=H ▸ hw;have a3:I.wf pre:=λy J=>a0 y (by simp[J]);have L:I.wf o.list:=λy J=>a0 y (by simp[J]);have b4:t.list.length=pre.length+o.list.length+post.length:=by rw[H];simp[Bg]
  have cf:I.W t.list=I.W pre+I.W o.list+I.W post:=by rw[H,pO,pO]
  have b3:=qF O t.list;refine bW (o ≠ .nil/\0<j) ?_ λb h6 U hb=>?_
  .cases o with
   |nil=>obtain rfl:=nq;exact lI (aC ⟨rfl,Ext.refl _,false,rfl,Iff.intro (λx=>by cases x) (λx=>absurd rfl x.1)⟩)
   |node l x r=>
    obtain⟨a,_,_,rfl,_⟩:=nq;exact mI (aC ⟨rfl,Ext.refl _,rY j 0,rfl,by rw[dQ];exact Iff.intro (λx=>⟨by simp,x⟩) (λx=>x.2)⟩)
  have B:=e5.trans U;have a4:=nq.ext U;have D:=oz.ext U;have n:=oa.ext U;dsimp only;refine aG (λX=>?_) λX=>?_
  .obtain⟨bo,ao⟩:=hb.1 X
   cases o with
   |nil=>exact absurd rfl bo
   |node l x r=>
    have cr:=jV l r x;have b9:=lC (I:=I) l r x;have b8:=qF O (Bt.node l x r).list;have hx:=Hx L;have vp:=V.sum O a3;have vl:=V.sum O (B5 L);have vm:=O.vm x hx;have aw:I.sum (pre++l.list)=I.add (I.sum pre) (I.sum l.list):=sum_append O a3 (B5 L);have a8:I.V (I.W pre+I.W l.list) (I.sum (pre++l.list)):=aw ▸ O.va _ _ _ _ vp vl;refine Ft a4 λpl nl=>aM (Av nl) λc h7 f al=>?_;obtain⟨(c:Int),w7⟩:=c;dsimp only at al⊢;subst al;have z:=a4.ext f;refine aG (λY=>?_) λY=>?_
    .rw[gD]at Y
     refine Ft z λpl nl=>aC ⟨λ_=>⟨(l,pre,x::r.list++post),(j,pl,()),rfl,⟨B.trans f,nl,by rw[H];simp[Bt.list],?_,Y,D.ext f,n.ext f⟩,by dsimp only;omega⟩,λh=>absurd rfl h⟩;dsimp only;rw[k];simp only[Bt.list];rw[Aa (by omega)]
    .rw[nQ]at Y
     refine eN (λt N h'=>t=0/\N=[]/\Ext h h'/\Nd I h' q (.node l x r)/\cC w.size 1 h' ⟨some ⟨w.size,0,none⟩,I.sB.length,I.sB.length⟩ (Bs.inj I.sB I.zs)/\cC F.size 1 h' ⟨some ⟨F.size,0,none⟩,I.sB.length,I.sB.length⟩ (Bs.inj I.sB (I.sum (pre++l.list)))) ?_ ?_
     .refine Ft z λpl nl=>?_
      cases l with
      |nil=>
       obtain rfl:=nl;exact lI (aC ⟨rfl,rfl,B.trans f,z,D.ext f,by simpa[Bt.list] using n.ext f⟩)
      |node ll lx lr=>
       have hp:∃a,pl=some a:=by obtain⟨a,_,_,w,_⟩:=nl;exact⟨a,w⟩
       obtain⟨la,rfl⟩:=hp;refine mI (gJ (n.ext f) (Ft z λpl nl=>ig nl (aM (O.ca _ _ _ _ _ vp vl (by omega)) λm h8 A hm=>?_)));obtain⟨m,w5⟩:=m;dsimp only at hm;rw[<-aw]at hm;subst hm;refine mJ (I.sum (pre++(Bt.node ll lx lr).list)) ((n.ext f).ext A) (O.fs _) λh9 o9 u9=>aC ⟨rfl,rfl,jE.jA ((B.trans f).trans A) u9 (by intro a ha;cases ha;dsimp only;omega),
        (z.ext A).GV u9 ((n.ext f).ext A) (by omega),Hi ((D.ext f).ext A) u9 (by dsimp only;omega),o9⟩
     .rintro tg N h8 ⟨rfl,rfl,A,a7,b0,C⟩
      refine bK (bV (gJ C (Zu a7 (aM (O.cm _ x hx) λm h9 E hm=>?_))));obtain⟨m,w9⟩:=m;dsimp only at hm;subst hm;refine Pj (C.ext E) (aM (O.ca _ _ _ _ _ a8 vm (by omega)) λm cc v hm=>?_);obtain⟨m,cx⟩:=m;dsimp only at hm;rw[<-Fw]at hm;subst hm;have vq:I.V (I.W pre+I.W l.list+I.wt x) (I.sum (pre++l.list++[x])):=by rw[Fw];exact O.va _ _ _ _ a8 vm
      refine mJ (I.sum (pre++l.list++[x])) ((C.ext E).ext v) (O.fs _) λcd bt M=>?_;have ba:=((a7.ext E).ext v).GV M ((C.ext E).ext v) (by omega);have a9:bJ .i64 (bJ .i64 j ((l.list.length:Nat):Int)) 1=j-l.list.length-1:=by
       rw[cY (a:=j) (by omega) (by omega),cY (by omega) (by omega)]
      rw[a9];refine VR ba λpr nr=>aC ⟨λ_=>⟨(r,pre++l.list++[x],post),(j-l.list.length-1,pr,()),rfl,⟨jE.jA ((A.trans E).trans v) M (by intro a ha;cases ha;dsimp only;omega),nr,by rw[H];simp[Bt.list],?_,by dsimp only;omega,
       Hi ((b0.ext E).ext v) M (by dsimp only;omega),bt⟩,by dsimp only;omega⟩,λh=>absurd rfl h⟩
      dsimp only;rw[k];obtain⟨d,hd⟩:∃d:Nat,j=l.list.length+1+d:=⟨(j-l.list.length-1).toNat,by omega⟩;have bb:j.toNat=(l.list++[x]).length+d:=by simp;omega
      have bd:(j-l.list.length-1).toNat=d:=by omega
      rw[bb,bd,show(Bt.node l x r).list=(l.list++[x])++r.list by simp[Bt.list],Jp,iF (by omega),Bj];simp
  .have bp:¬(o ≠ .nil/\0<j):=λx=>by rw[hb.2 x]at X;cases X
   refine aC ⟨λh=>absurd h (by decide),λ_=>⟨rfl,rfl,B,D,?_⟩⟩;rw[k];by_cases hn:o = .nil
   .subst hn;simpa[Bt.list] using n
   .have ao:j.toNat=0:=by have:¬0<j:=λx=>bp ⟨hn,x⟩;omega
    rw[ao,Ru,jX];exact n
 .rintro tg N h5 ⟨rfl,rfl,e5,oz,oa⟩
  exact bK (bV (gJ oa (yJ (I.sum (t.list.take i.toNat)) oz e1.size e5 (O.fs _) λh' e=>⟨rfl,e,(_,()),rfl,rfl⟩)))
end
section
open Go.Sw.Tree (iv fL jI jW nE pD Be wY dV least TR lA kT sG kP)
variable{P:Program}{I:gV}{h:aE}{Q:Nat->bE->aE->Prop}
variable{m':Nat}{y:Value}{a:Addr}
abbrev ag(I:gV)(r:I.It):Value:=.agg (Bs.inj I.iB r).toArray
abbrev Yv(I:gV)(a b:OA):Value:=.func (.func I.f1) #[] #[.pointer a, .pointer b]
abbrev Vr(I:gV)(a b:OA):Value:=.func (.func I.f2) #[] #[.pointer a, .pointer b]
structure iw(P:Program)(I:gV):Prop where
 it:∀(y:Value) (a b:OA),ZY P (Yv I a b) [y] (RJ I y a b)
 wk:∀(p:OA) (i:Int) (a b:OA),ZY P (Vr I a b) [.pointer p,iv i] (Px I p i a b)
theorem Nd.held{h':aE}(e:gU I.Z h h'):∀{t:Bt I.It} {p:OA},Nd I h p t->Nd I h' p t
 |.nil,_,n=>n
 |.node l x r,p,⟨a,pl,pr,b,c,g,k⟩=>⟨a,pl,pr,b,⟨aI.2 λj v f=>e.cell (aI.1 c.1 j v f) (by rw[iA];exact c.2.1),c.2⟩,Nd.held e g,Nd.held e k⟩
structure St(h0:aE)(m':Nat)(y:Value)(I:gV)(h:aE):Prop where
 held:gU I.Z h0 h
 le:h0.size<=m'
 sz:m'+2<=h.size
 cy:Sw.cell h ⟨m',0,none⟩=some y
 cw:Sw.cell h ⟨m'+1,0,none⟩=some (Vr I (some ⟨m'+1,0,none⟩) (some ⟨m',0,none⟩))
theorem St.step{h0 h h':aE}{m':Nat}{y:Value}(s:St h0 m' y I h)(f:gU (λi=>own m' 2 i\/(I.Z i/\i<h0.size)) h h'):St h0 m' y I h' where
 held:=s.held.step f λi hi b=>.inr ⟨b,hi⟩
 le:=s.le
 sz:=dI s.sz f.1
 cy:=f.cell s.cy (.inl ⟨bL _,by dsimp only;omega⟩)
 cw:=f.cell s.cw (.inl ⟨by dsimp only;omega,by dsimp only;omega⟩)
theorem St.more{h0 h h':aE}(s:St h0 m' y I h)(e:Ext h h'):St h0 m' y I h':=s.step (gU.bH e)
theorem VN{v:Value}{K:Value->aK}(c:Sw.cell h a=some v)(e:wp P (K v) h Q):wp P (.load (.one .any) (some a) K) h Q:=aX (b:=.any) a v rfl c e
theorem jw(O:I.Ok P)(D:iw P I){h0:aE}{L:List I.It}{J:Nat->aE->Prop}{F:aE->Prop}(sJ:∀k a b,J k a->aY (own m' 2) a b->J k b)
  (hY:∀k r u,L[k]?=some r->J k u->m'+2<=u.size->gU I.Z h0 u->N1 P y [ag I r] u λm H=>∃b:Bool,m=[.bool b]/\gU (λi=>own m' 2 i\/(I.Z i/\i<h0.size)) u H/\(b=true->J (k+1) H)/\(b=false->F H)) :
  ∀(t:Bt I.It) {p:OA} {i:Int} {k:Nat} {h:aE},Nd I h0 p t->I.W t.list<=4398046511104->0<=i->i<=9223372036854775807->(∀(j:Nat) (r:I.It),t.list[j]?=some r->i.toNat<=j->L[k+(j-i.toNat)]?=some r)->St h0 m' y I h->J k h ->
  wp P (Px I p i (some ⟨m'+1,0,none⟩) (some ⟨m',0,none⟩)) h λtag m h'=>tag=0/\∃b:Bool,m=[.bool b]/\St h0 m' y I h'/\(b=true->J (k+(t.list.length-i.toNat)) h')/\(b=false->F h'):=by
 have X:∀k a b,J k a->Ext a b->J k b:=λk a b j e=>sJ k a b j (aY.bH e);intro t
 induction t with
 |nil=>
  intro p i k h N M R u K st q;obtain rfl:=N;unfold Px;refine bW True (mI (aC ⟨rfl,Ext.refl _,true,rfl,Iff.intro (λ_=>trivial) λ_=>rfl⟩)) λb H G hb=>?_;have ab:b=true:=hb.2 trivial;subst ab;exact mI (aC ⟨rfl,true,rfl,st.more G,λ_=>by simpa[Bt.list] using X _ _ _ q G,λh=>by cases h⟩)
 |node l x r a4 a7=>
  intro p i k h N M R u K st q;have hl:=jV l r x;have bb:=lC (I:=I) l r x;have a9:=qF O (Bt.node l x r).list;have o:∀{h'},St h0 m' y I h'->Nd I h' p (.node l x r):=λs=>Nd.held s.held N;obtain⟨a,ql,qr,rfl,c,n1,n2⟩:=N;have o:∀{h'},St h0 m' y I h'->Gk I h' a ql qr l x r:=λs=>⟨aI.2 λj v q=>s.held.cell (aI.1 c.1 j v q) (by rw[iA];exact c.2.1),c.2⟩;have aw:∀(j:Nat) (v:I.It),l.list[j]?=some v->(Bt.node l x r).list[j]?=some v:=λj v z=>by
   show(l.list++x::r.list)[j]?=_;rw[lV (eK.1 z).1];exact z
  have a0:(Bt.node l x r).list[l.list.length]?=some x:=by
   show(l.list++x::r.list)[_]?=_;rw[jK (bL _)];simp
  have a3:∀(j:Nat) (v:I.It),r.list[j]?=some v->(Bt.node l x r).list[l.list.length+1+j]?=some v:=λj v z=>by
   show(l.list++x::r.list)[_]?=_;rw[jK (by omega),show l.list.length+1+j-l.list.length=j+1 by omega,Rt];exact z
  unfold Px;refine bW (((Bt.node l x r).list.length:Int)<=i) ?_ λb H G hb=>?_
  .exact lI (aL rfl (aL rfl (aX (b:=bI) (a.add (I.ni+2)) _ rfl (o st).Bq.1 (aC ⟨rfl,Ext.refl _,_,rfl,dT⟩))))
  have B:=st.more G;have T:=X _ _ _ q G;dsimp only;refine aG (λg=>aC ⟨rfl,true,rfl,B,λ_=>?_,λh=>by cases h⟩) λg=>?_
  .have:=hb.1 g
   rw[show(Bt.node l x r).list.length-i.toNat=0 by omega];exact T
  have ba:i<((Bt.node l x r).list.length:Int):=by
   by_cases hx:((Bt.node l x r).list.length:Int)<=i
   .rw[hb.2 hx]at g;cases g
   .omega
  refine nD (o B) (aM (Av (Nd.held B.held n1)) λn h3 Y hn=>?_);obtain⟨(n:Int),w⟩:=n;dsimp only at hn⊢;subst hn;have C:=B.more Y;have U:=X _ _ _ T Y;refine eN (λtg m h'=>tg=0/\∃b:Bool,m=[.bool b]/\St h0 m' y I h'/\(b=true->F h')/\(b=false->J (k+(l.list.length-i.toNat)) h')) ?_ ?_
  .refine aG (λA=>?_) λA=>?_
   .rw[aV]at A
    refine VN C.cw (nD (o C) (NU (D.wk _ _ _ _) (cU _ ?_ (a4 (k:=k) n1 (by omega) R u (λj v z q=>K j v (aw j v z) q) C U))));rintro tg m h4 ⟨rfl,b,rfl,f,t4,f4⟩;refine⟨rfl,(b,()),rfl,aC ⟨rfl,cO b,rfl,f,λhb=>f4 (dN.1 hb),λhb=>t4 (eI.1 hb)⟩⟩
   .rw[aZ]at A
    refine aC ⟨rfl,false,rfl,C,λh=>(by cases h),λ_=>?_⟩;rw[show l.list.length-i.toNat=0 by omega];exact U
  rintro tg m h4 ⟨rfl,b,rfl,f,f4,t4⟩;refine bK (jQ (aG (λg=>aC ⟨rfl,false,rfl,f,λh=>(by cases h),λ_=>f4 g⟩) λg=>?_));have V:=t4 g;refine eN (λtg m h'=>tg=0/\∃b:Bool,m=[.bool b]/\St h0 m' y I h'/\(b=true->F h')/\(b=false->J (k+(l.list.length+1-i.toNat)) h')) ?_ ?_
  .refine aG (λA=>?_) λA=>?_
   .rw[gD]at A
    refine VN f.cy (tW (o f) (ZT ((hY _ x h4 (K _ x a0 (by omega)) V f.sz f.held).mono ?_)));rintro m h5 ⟨b,rfl,fr,t5,f5⟩;refine⟨(b,()),rfl,aC ⟨rfl,cO b,rfl,f.step fr,λhb=>f5 (dN.1 hb),λhb=>?_⟩⟩;have:=t5 (eI.1 hb);rw[show k+(l.list.length+1-i.toNat)=k+(l.list.length-i.toNat)+1 by omega];exact this
   .rw[nQ]at A
    refine aC ⟨rfl,false,rfl,f,λh=>(by cases h),λ_=>?_⟩;rw[show l.list.length+1-i.toNat=l.list.length-i.toNat by omega];exact V
  rintro tg m h5 ⟨rfl,b,rfl,E,f5,t5⟩;refine bK (jQ (aG (λg=>aC ⟨rfl,false,rfl,E,λh=>(by cases h),λ_=>f5 g⟩) λg=>?_));have al:=t5 g;rw[cY (a:=i) (by omega) (by omega),cY (by omega) (by omega)];have ao:CU 0 (i-l.list.length-1)=((i.toNat-(l.list.length+1):Nat):Int):=by unfold CU;split<;>omega
  rw[ao];refine VN E.cw (lY (o E) (NU (D.wk _ _ _ _) (cU _ ?_ (a7 (k:=k+(l.list.length+1-i.toNat)) n2 (by omega) (by omega) (by omega) (λj v z q=>?_) E al))))
  .rintro tg m h6 ⟨rfl,b,rfl,a8,t6,f6⟩
   refine⟨rfl,(b,()),rfl,aC ⟨rfl,b,rfl,a8,λhb=>?_,f6⟩⟩;have:=t6 hb;rw[cN]at this;rw[show k+((Bt.node l x r).list.length-i.toNat)=k+(l.list.length+1-i.toNat)+(r.list.length-(i.toNat-(l.list.length+1))) by omega];exact this
  .rw[cN]at q⊢
   have:=K _ v (a3 j v z) (by omega);rw[show k+(l.list.length+1-i.toNat)+(j-(i.toNat-(l.list.length+1)))=k+(l.list.length+1+j-i.toNat) by omega];exact this
def AL(I:gV)(L:List I.It)(k:Nat)(hp h1:aE)(args:bE):Prop:=∃r,L[k]?=some r/\args=[ag I r]
theorem Un(O:I.Ok P)(D:iw P I){h0:aE}{p:OA}{t:Bt I.It}{b:Addr}{i:Int}(nt:Nd I h0 p t)(o:I.W t.list<=4398046511104)(hi:cR .i64 i)(ca:Sw.cell h0 a=some (.pointer p))(cb:Sw.cell h0 b=some (iv i))(za:I.Z a.block)(zb:I.Z b.block) :
  fz P (Yv I (some a) (some b)) (t.list.drop i.toNat).length (AL I (t.list.drop i.toNat)) I.Z 2 h0:=by
 intro h y J F hs hz X U sF Y m;rw[eO]at hi;refine D.it _ _ _ h _ ?_;unfold RJ;refine aL (by cases y<;>first|rfl|cases X) λe=>?_;have C:Ext h (h.push (.cells [y].toArray e)):=Ext.push ..;have R:cC h.size 1 (h.push (.cells [y].toArray e)) ⟨some ⟨h.size,0,none⟩,1,1⟩ [y]:=bX rfl (by decide) (by decide);have z:(h.push (.cells [y].toArray e)).size=h.size+1:=by simp
 generalize(h.push (.cells [y].toArray e))=c at C R z⊢;intro g;have E:Ext c (c.push (.cells [.nilFunc].toArray g)):=Ext.push ..;have w:cC c.size 1 (c.push (.cells [.nilFunc].toArray g)) ⟨some ⟨c.size,0,none⟩,1,1⟩ [.nilFunc]:=bX rfl (by decide) (by decide);generalize(c.push (.cells [.nilFunc].toArray g))=h2 at E w⊢;rw[z]at w⊢;refine fL [Vr I (some ⟨h.size+1,0,none⟩) (some ⟨h.size,0,none⟩)] w rfl (by intro v hv;rw[dE.1 hv];rfl) λf T u3=>?_;have q:Ext c f:=jE.jA E u3 (λx hx=>by cases hx;exact Nat.le_of_eq z);have G:Ext h f:=C.trans q;have A:=(T.lt rfl).2;dsimp only at A;have c3:Sw.cell f ⟨h.size+1,0,none⟩=some (Vr I (some ⟨h.size+1,0,none⟩) (some ⟨h.size,0,none⟩)):=by have:=aI.1 T.cells 0 _ rfl;rwa [add_zero']at this
 have B:Sw.cell f ⟨h.size,0,none⟩=some y:=by have:=aI.1 (R.ext q).cells 0 _ rfl;rwa [add_zero']at this
 have n:gU I.Z h0 f:=hz.step (V:=λ_=>True) (gU.bH G) λ_ _ _=>trivial;have st:St h0 h.size y I f:=⟨n,hs,A,B,c3⟩;refine VN c3 (aL rfl (aX (b:=.ptr) (a.add 0) p rfl (by rw[add_zero'];exact n.cell ca za) (aX (b:=bI) b i rfl (n.cell cb zb) (NU (D.wk _ _ _ _) ?_))));have K:CU 0 i=(i.toNat:Int):=by unfold CU;split<;>omega
 rw[K];refine cU _ ?_ (jw O D (L:=t.list.drop i.toNat) U (λk r c H m M N=>Y k c c [ag I r] (eK.1 H).1 m (by omega) (aY.refl _ _) M N ⟨r,H,rfl⟩) t (k:=0) nt o (by omega) (by omega) (λj r hr m=>?_) st (U _ _ _ m (aY.bH G)))
 .rintro tg vs h4 ⟨rfl,b,rfl,u,t4,f4⟩
  have s4:=u.sz;refine⟨rfl,(b,()),rfl,aC ⟨rfl,rfl,by omega,u.held,?_⟩⟩;cases b with
  |true=>left;have:=t4 rfl;rw[cN,Jm]at this;rw[cZ];exact this
  |false=>exact .inr (f4 rfl)
 .rw[cN]at m⊢
  rw[DO,Jm,show i.toNat+(j-i.toNat)=j by omega];exact hr
end
end Go.Sw.Any
namespace Go.Sw.Piece
open Go.Sw.Any
open Go.Sw.Tree (iv fL jI jW nE pD kT sG kP)
section
variable{P:Program}{S:cG}{h:aE}{Q:Nat->bE->aE->Prop}
abbrev PB:List B:=[.sl, .int .i64, .int .i64, .int .i64, .int .i64, .bool, .bool]
abbrev SB:List B:=[.int .i64, .int .i64, .int .i64, .bool, .bool]
abbrev Part:=Sl×Int×Int×Int×Int×Bool×Bool×Unit
abbrev oO:=Int×Int×Int×Bool×Bool×Unit
def zS:oO:=(0,0,0,false,false,())
def zP:Part:=(⟨none,0,0⟩,0,0,0,0,false,false,())
def I5(p:Part):oO:=(p.2.2.1,p.2.2.2.1,p.2.2.2.2.1,p.2.2.2.2.2.1,p.2.2.2.2.2.2.1,())
def NX(s o:oO):Int:=if s.2.2.2.2.1=true/\o.2.2.2.1=true then 1 else 0
def jO(s o:oO):oO:=if s.1=0 then o else if o.1=0 then s else (s.1+o.1,s.2.1+o.2.1,s.2.2.1+o.2.2.1-NX s o,s.2.2.2.1,o.2.2.2.2.1,())
def G8(s:oO)(k:Int):Int:=if k=0 then s.1 else if k=1 then s.2.2.1 else 0
def VS(n:Nat)(s:oO):Prop:=0<=s.1/\s.1<=n/\0<=s.2.1/\s.2.1<=4*n/\0<=s.2.2.1/\s.2.2.1<=n/\(s.1=0->s=zS)/\(s.2.2.2.1=true->1<=s.2.2.1)
def VZ(p:Part):Nat:=max 1 p.2.2.1.toNat
theorem Ee(s:oO):∀v,v∈Bs.inj SB s->flat v=true:=by
 intro v b;simp only[SB,Bs.inj,eJ,lU,or_false]at b;rcases b with rfl|rfl|rfl|rfl|rfl<;>rfl
theorem wN(s:Part):∀v,v∈Bs.inj PB s->flat v=true:=by
 intro v b;simp only[PB,Bs.inj,eJ,lU,or_false]at b;rcases b with rfl|rfl|rfl|rfl|rfl|rfl|rfl<;>rfl
theorem XM(s o:oO):0<=NX s o/\NX s o<=1/\(NX s o=1->o.2.2.2.1=true):=by
 unfold NX;split
 .rename_i b;exact⟨by omega,by omega,λ_=>b.2⟩
 .exact⟨by omega,by omega,λh=>by omega⟩
theorem Mg(o:oO):jO zS o=o:=by unfold jO;rw[if_pos (show zS.1=0 from rfl)]
theorem U5{x o:oO}(h:x.1=0):jO x o=o:=by unfold jO;rw[if_pos h]
theorem DU{n:Nat}{s:oO}(v:VS n s):jO s zS=s:=by
 unfold jO;by_cases h0:s.1=0
 .rw[if_pos h0];exact(v.2.2.2.2.2.2.1 h0).symm
 .rw[if_neg h0,if_pos (show zS.1=0 from rfl)]
theorem VS.mono{n m:Nat}{s:oO}(v:VS n s)(h:n<=m):VS m s:=by
 obtain⟨a,b,c,d,e,f,g,i⟩:=v;exact⟨a,by omega,c,by omega,e,by omega,g,i⟩
theorem VS.add{n m:Nat}{s o:oO}(v:VS n s)(w:VS m o):VS (n+m) (jO s o):=by
 unfold jO;by_cases h0:s.1=0
 .rw[if_pos h0];exact w.mono (by omega)
 .rw[if_neg h0]
  by_cases j:o.1=0
  .rw[if_pos j];exact v.mono (by omega)
  .rw[if_neg j]
   obtain⟨a,b,c,d,e,f,g,i⟩:=v;obtain⟨r,t,u,z,A,B,C,p⟩:=w;obtain⟨k1,k2,q⟩:=XM s o;have D:NX s o<=o.2.2.1:=by
    by_cases k:NX s o=1
    .have:=p (q k);omega
    .omega
   refine⟨by dsimp only;omega,by dsimp only;omega,by dsimp only;omega,by dsimp only;omega,by dsimp only;omega,by dsimp only;omega,λh=>by dsimp only at h;omega,λh=>?_⟩;have:=i h;dsimp only;omega
theorem Mf{n m k:Nat}{x y z:oO}(j:VS n x)(o:VS m y)(u:VS k z):jO (jO x y) z=jO x (jO y z):=by
 by_cases b:x.1=0
 .rw[U5 b,U5 b]
 by_cases c:y.1=0
 .have f:jO x y=x:=by unfold jO;rw[if_neg b,if_pos c]
  have g:jO y z=z:=by unfold jO;rw[if_pos c]
  rw[f,g]
 by_cases e:z.1=0
 .have f:jO y z=y:=by unfold jO;rw[if_neg c,if_pos e]
  have g:∀w:oO,w.1≠0->jO w z=w:=λw hw=>by unfold jO;rw[if_neg hw,if_pos e]
  rw[f];refine g _ ?_;have:=j.1;have:=o.1;unfold jO;rw[if_neg b,if_neg c];dsimp only;omega
 have r:jO x y=(x.1+y.1,x.2.1+y.2.1,x.2.2.1+y.2.2.1-NX x y,x.2.2.2.1,y.2.2.2.2.1,()):=by unfold jO;rw[if_neg b,if_neg c]
 have t:jO y z=(y.1+z.1,y.2.1+z.2.1,y.2.2.1+z.2.2.1-NX y z,y.2.2.2.1,z.2.2.2.2.1,()):=by unfold jO;rw[if_neg c,if_neg e]
 have:=j.1;have:=o.1;have:=u.1;rw[r,t];unfold jO;dsimp only;rw[if_neg (by omega),if_neg e,if_neg b,if_neg (by omega)];have p:NX (x.1+y.1,x.2.1+y.2.1,x.2.2.1+y.2.2.1-NX x y,x.2.2.2.1,y.2.2.2.2.1,()) z=NX y z:=rfl;have q:NX x (y.1+z.1,y.2.1+z.2.1,y.2.2.1+z.2.2.1-NX y z,y.2.2.2.1,z.2.2.2.2.1,())=NX x y:=rfl;rw[p,q]
 congr 1
 .omega
 .congr 1
  .omega
  .congr 1;omega
theorem WT{n m:Nat}{s o:oO}(v:VS n s)(w:VS m o)(k:Int):G8 s k<=G8 (jO s o) k:=by
 obtain⟨a,b,c,d,e,f,g,i⟩:=v;obtain⟨t,u,z,A,B,C,D,q⟩:=w;unfold jO;by_cases h0:s.1=0
 .rw[if_pos h0,g h0]
  unfold G8 zS
  (repeat' split)<;>first|omega|(dsimp only;omega)
 .rw[if_neg h0]
  by_cases j:o.1=0
  .rw[if_pos j];exact nJ _
  .rw[if_neg j]
   obtain⟨k1,k2,r⟩:=XM s o;have E:NX s o<=o.2.2.1:=by
    by_cases p:NX s o=1
    .have:=q (r p);omega
    .omega
   unfold G8
   (repeat' split)<;>first|omega|(dsimp only;omega)
theorem Wh{x:Part}:aS P (lM S x) [.agg SB] h λ(y:oO×Unit) _=>y.1=I5 x:=by
 unfold lM aS;refine fV (bs:=PB) x (by decide) λg c o1=>fV (bs:=SB) zS (by decide) λk f o2=>?_;refine⟨(⟨h.size,0,none⟩:Addr).add 2,rfl,I5 x,aI.2 λj v b=>?_,?_⟩
 .rw[add_add]
  refine aI.1 (o1.ext f).cells _ _ ?_
  match j,b with
  |0,b=>exact b
  |1,b=>exact b
  |2,b=>exact b
  |3,b=>exact b
  |4,b=>exact b
  |j+5,b=>simp[Ty.cells,Bs.inj]at b
 .exact yJ (bs:=SB) (I5 x) o2 c.size (c.trans f) (Ee _) λh' e=>⟨rfl,e,(I5 x,()),rfl,rfl⟩
theorem qh{n:Nat}{s:oO}{k:Int}:aS P (wV S s k) [tI] h λ(y:Int×Unit) _=>y.1=G8 s k:=by
 unfold wV aS G8;refine fV (bs:=SB) s (by decide) λg f o1=>aG (λc=>?_) λc=>aG (λe=>?_) λe=>?_
 .rw[cJ]at c;rw[if_pos c]
  exact aX (b:=bI) _ s.1 rfl (aI.1 o1.cells 0 _ rfl) (aC ⟨rfl,f,(s.1,()),rfl,rfl⟩)
 .rw[dM]at c;rw[cJ]at e;rw[if_neg c,if_pos e]
  exact aX (b:=bI) _ s.2.2.1 rfl (aI.1 o1.cells 2 _ rfl) (aC ⟨rfl,f,(s.2.2.1,()),rfl,rfl⟩)
 .rw[dM]at c e;rw[if_neg c,if_neg e]
  exact aC ⟨rfl,f,(0,()),rfl,rfl⟩
theorem XO{n m:Nat}{s o:oO}(v:VS n s)(w:VS m o)(hn:n+m<=4398046511104):aS P (kI S s o) [.agg SB] h λ(y:oO×Unit) _=>y.1=jO s o:=by
 obtain⟨a,b,c,d,e,f,g,i⟩:=id v;obtain⟨Y,b',c',d',e',f',g',i'⟩:=id w;unfold kI aS;refine fV (bs:=SB) s (by decide) λV u o1=>fV (bs:=SB) o (by decide) λh2 J o2=>fV (bs:=SB) zS (by decide) λE M R=>?_;have q:=J.trans M;have C:∀{h'} {b:B} {j:Nat} {x:b.den} {K:b.den->aK} {Q:Nat->bE->aE->Prop},Ext E h'->(Bs.inj SB s)[j]?=some (b.inj x)->wp P (K x) h' Q->wp P (.load (.one b) (aB (some ⟨h.size,0,none⟩) j) K) h' Q:=λe N O=>aX _ _ rfl (aI.1 (o1.ext (q.trans e)).cells _ _ N) O;have D:∀{h'} {b:B} {j:Nat} {x:b.den} {K:b.den->aK} {Q:Nat->bE->aE->Prop},Ext E h'->(Bs.inj SB o)[j]?=some (b.inj x)->wp P (K x) h' Q->wp P (.load (.one b) (aB (some ⟨V.size,0,none⟩) j) K) h' Q:=λe N O=>aX _ _ rfl (aI.1 (o2.ext (M.trans e)).cells _ _ N) O;refine C (b:=bI) (x:=s.1) (Ext.refl _) rfl (aG (λA=>?_) λA=>?_)
 .rw[cJ]at A
  refine gJ (bs:=SB) (o2.ext M) (yJ (bs:=SB) o R (dI u.size J.size) (u.trans q) (Ee _) λh' e=>⟨rfl,e,(o,()),rfl,?_⟩);unfold jO;rw[if_pos A]
 rw[dM]at A;refine D (b:=bI) (x:=o.1) (Ext.refl _) rfl (aG (λH=>?_) λH=>?_)
 .rw[cJ]at H
  refine gJ (bs:=SB) (o1.ext q) (yJ (bs:=SB) s R (dI u.size J.size) (u.trans q) (Ee _) λh' e=>⟨rfl,e,(s,()),rfl,?_⟩);unfold jO;rw[if_neg A,if_pos H]
 rw[dM]at H;refine C (b:=bI) (x:=s.1) (Ext.refl _) rfl (D (b:=bI) (x:=o.1) (Ext.refl _) rfl (C (b:=bI) (x:=s.2.1) (Ext.refl _) rfl (D (b:=bI) (x:=o.2.1) (Ext.refl _) rfl
  (C (b:=bI) (x:=s.2.2.1) (Ext.refl _) rfl (D (b:=bI) (x:=o.2.2.1) (Ext.refl _) rfl (C (b:=.bool) (x:=s.2.2.2.1) (Ext.refl _) rfl (D (b:=.bool) (x:=o.2.2.2.2.1) (Ext.refl _) rfl ?_)))))))
 rw[bG (a:=s.1) (by omega) (by omega),bG (a:=s.2.1) (by omega) (by omega),bG (a:=s.2.2.1) (by omega) (by omega)];refine Hs (bs:=SB) (z:=zS) (s.1+o.1,s.2.1+o.2.1,s.2.2.1+o.2.2.1,s.2.2.2.1,o.2.2.2.2.1,()) (by decide) (Ee _) λh4 L T=>?_;have F:jO s o=(s.1+o.1,s.2.1+o.2.1,s.2.2.1+o.2.2.1-NX s o,s.2.2.2.1,o.2.2.2.2.1,()):=by unfold jO;rw[if_neg A,if_neg H]
 refine eN (λt U h'=>t=0/\U=[]/\Ext E h'/\cC E.size 1 h' ⟨some ⟨E.size,0,none⟩,5,5⟩ (Bs.inj SB (jO s o))) ?_ ?_
 .refine bW (s.2.2.2.2.1=true/\o.2.2.2.1=true) ?_ λbb W r hb=>aG (λp=>?_) λp=>?_
  .refine C (b:=.bool) (x:=s.2.2.2.2.1) L rfl (aG (λp=>?_) λp=>aC ⟨rfl,Ext.refl _,false,rfl,Iff.intro (λh=>by cases h) λh=>by rw[h.1]at p;cases p⟩)
   exact D (b:=.bool) (x:=o.2.2.2.1) L rfl (aC ⟨rfl,Ext.refl _,_,rfl,λh=>⟨p,h⟩,λh=>h.2⟩)
  .have G:NX s o=1:=by unfold NX;rw[if_pos (hb.1 p)]
   refine aX (b:=bI) _ (s.2.2.1+o.2.2.1) rfl (aI.1 (T.ext r).cells 2 _ rfl) ?_;rw[cY (by omega) (by omega)];refine eW (vs:=Bs.inj SB (s.1+o.1,s.2.1+o.2.1,s.2.2.1+o.2.2.1,s.2.2.2.1,o.2.2.2.2.1,())) (iv (s.2.2.1+o.2.2.1-1)) (T.ext r) (by simp[Bs.inj]) rfl λh6 o6 X=>aC ⟨rfl,rfl,?_,?_⟩
   .exact jE.jA (L.trans r) X (by intro x p;cases p;exact bL _)
   .rw[F,G];exact o6
  .refine aC ⟨rfl,rfl,L.trans r,?_⟩
   have G:NX s o=0:=by unfold NX;rw[if_neg λk=>by rw[hb.2 k]at p;cases p]
   rw[F,G,Int.sub_zero];exact T.ext r
 .rintro t U W ⟨rfl,rfl,r,o5⟩
  exact bK (bV (gJ (bs:=SB) o5 (yJ (bs:=SB) (jO s o) (R.ext r) (dI u.size J.size) ((u.trans q).trans r) (Ee _) λh' e=>⟨rfl,e,(jO s o,()),rfl,rfl⟩)))
theorem VS.zero:VS 0 zS:=⟨by decide,by decide,by decide,by decide,by decide,by decide,λ_=>rfl,λh=>by cases h⟩
def part(S:cG)(Z:Nat->Prop):gV where
 iB:=PB
 sB:=SB
 zi:=zP
 zs:=zS
 mF:=lM S
 aF:=kI S
 kF:=wV S
 f1:=S.iT
 f2:=S.lW
 sg:=λp=>VS (VZ p) (I5 p)
 wt:=VZ
 V:=VS
 Lh:=I5
 add:=jO
 key:=G8
 Z:=Z
theorem B1(S:cG)(Z:Nat->Prop):(part S Z).Ok P where
 i1:=(by decide:1<=7/\7<=100)
 s1:=(by decide:1<=5/\5<=100)
 fi:=wN
 fs:=Ee
 w1:=λx=>by show 1<=VZ x;unfold VZ;omega
 v0:=VS.zero
 vm:=λx h=>h
 va:=λn m s o v w=>v.add w
 mono:=λn m s v h=>v.mono h
 az:=λn s v=>DU v
 za:=λn s v=>Mg s
 assoc:=λn m k x y z a b c=>Mf a b c
 ri:=λk=>by show G8 zS k=0;unfold G8 zS;(repeat' split)<;>rfl
 rk:=λn m s o k v w=>WT v w k
 cm:=λh x _=>Wh (S:=S)
 ca:=λh n m s o v w e=>XO (S:=S) v w e
 ck:=λh n s k v _=>qh (S:=S) (n:=n)
variable{Z:Nat->Prop}
theorem P2(S:cG)(Z:Nat->Prop):∀n,gN n S=Cs n (part S Z)
 |0=>rfl
 |n+1=>by
  funext items
  show gN (n+1) S items=_;unfold gN;rw[P2 S Z n];rfl
theorem YF(S:cG)(Z:Nat->Prop):∀n,hS n S=FR n (part S Z)
 |0=>rfl
 |n+1=>by
  funext l x r
  show hS (n+1) S l x r=_;unfold hS;rw[YF S Z n];rfl
theorem Vv(S:cG)(Z:Nat->Prop):lJ S=Jx (part S Z):=by
 funext l x r
 unfold lJ Jx;simp only[YF S Z]
theorem gj(S:cG)(Z:Nat->Prop):∀n,iV n S=Jy n (part S Z)
 |0=>rfl
 |n+1=>by
  funext p i
  show iV (n+1) S p i=_;unfold iV;rw[gj S Z n,Vv S Z];rfl
theorem Vu(S:cG)(Z:Nat->Prop):∀n,iN n S=Ew n (part S Z)
 |0=>rfl
 |n+1=>by
  funext p
  show iN (n+1) S p=_;unfold iN;rw[Vu S Z n];rfl
theorem km(S:cG)(Z:Nat->Prop):nZ S=Jw (part S Z):=by
 funext l r
 unfold nZ Jw uZ U2;rw[Vv S Z];simp only[Vu S Z];rfl
theorem vg(S:cG)(Z:Nat->Prop)(s:Sl):vH S s=ae (part S Z) s:=by
 unfold vH ae mQ Ln;simp only[P2 S Z]
theorem WS(S:cG)(Z:Nat->Prop)(t:OA×Unit)(i j:Int)(s:Sl):nP S t i j s=FQ (part S Z) t i j s:=by
 unfold nP FQ mQ Ln tG U1;rw[km S Z];simp only[P2 S Z,gj S Z];rfl
end
section
open Go.Sw.Codec
variable{l:aW}{ts:List (Int×Int)}
def KV(enc:Int):Nat->aW->List (Int×Int)
 |0,_=>[]
 |n+1,l=>if l.length=0 then [] else eH enc l::KV enc n (l.drop (eH enc l).2.toNat)
def bC(enc:Int)(l:aW):List (Int×Int):=KV enc l.length l
theorem I9{enc:Int}:∀(n m:Nat) (l:aW),cA l->l.length<=n->l.length<=m->KV enc n l=KV enc m l:=by
 intro n
 induction n with
 |zero=>
  intro m l hb c hm;cases m with
  |zero=>rfl
  |succ m=>simp only[KV];rw[if_pos (by omega)]
 |succ n e=>
  intro m l hb c hm;cases m with
  |zero=>simp only[KV];rw[if_pos (by omega)]
  |succ m=>
   simp only[KV];by_cases b:l.length=0
   .rw[if_pos b,if_pos b]
   .rw[if_neg b,if_neg b]
    have:=iW (enc:=enc) (l:=l) (by omega) hb;rw[e m _ (hb.drop _) (by rw[cZ];omega) (by rw[cZ];omega)]
theorem lT{enc:Int}(h:l.length=0):bC enc l=[]:=by unfold bC;rw[h];rfl
theorem jJ{enc:Int}(hb:cA l)(h:0<l.length):bC enc l=eH enc l::bC enc (l.drop (eH enc l).2.toNat):=by
 have:=iW (enc:=enc) h hb;unfold bC;rw[I9 l.length (l.length-1+1) l hb (by omega) (by omega)];simp only[KV];rw[if_neg (by omega),I9 (l.length-1) (l.drop (eH enc l).2.toNat).length _ (hb.drop _) (by rw[cZ];omega) (by omega)]
theorem FU{enc:Int}{M:aW->Prop}(h0:∀l,l.length=0->M l)(h1:∀l,cA l->0<l.length->M (l.drop (eH enc l).2.toNat)->M l):∀l,cA l->M l:=by
 have:∀(n:Nat) (l:aW),l.length=n->cA l->M l:=by
  intro n
  induction n using Nat.strongRecOn with
  |ind n c=>
   intro l e hb;by_cases b:l.length=0
   .exact h0 l b
   .have f:=iW (enc:=enc) (l:=l) (by omega) hb
    exact h1 l hb (by omega) (c _ (by rw[cZ];omega) _ rfl (hb.drop _))
 exact λl hb=>this _ l rfl hb
def dF(ts:List (Int×Int)):Nat:=(ts.map λt=>t.2.toNat).sum
theorem Fq:dF []=0:=rfl
theorem mM(t:Int×Int)(ts:List (Int×Int)):dF (t::ts)=t.2.toNat+dF ts:=by simp[dF]
theorem iY(a b:List (Int×Int)):dF (a++b)=dF a+dF b:=by simp[dF]
theorem Gc{enc:Int}(hb:cA l):dF (bC enc l)=l.length:=by
 refine FU (enc:=enc) (M:=λl=>dF (bC enc l)=l.length) (λl c=>?_) (λl hb b e=>?_) l hb
 .rw[lT c,c];rfl
 .have f:=iW (enc:=enc) b hb
  rw[jJ hb b,mM,e,cZ];omega
theorem J3{enc:Int}(hb:cA l):∀t,t∈bC enc l->1<=t.2/\t.2<=4:=by
 refine FU (enc:=enc) (M:=λl=>∀t,t∈bC enc l->1<=t.2/\t.2<=4) (λl e t ht=>?_) (λl hb b f t ht=>?_) l hb
 .rw[lT e]at ht;cases ht
 .have c:=iW (enc:=enc) b hb
  rw[jJ hb b]at ht;rcases eJ.1 ht with rfl|ht
  .exact⟨c.1,c.2.1⟩
  .exact f t ht
theorem Pq{enc:Int}(hb:cA l):∀t,t∈bC enc l->cR .i64 t.1:=by
 refine FU (enc:=enc) (M:=λl=>∀t,t∈bC enc l->cR .i64 t.1) (λl c t ht=>?_) (λl hb b e t ht=>?_) l hb
 .rw[lT c]at ht;cases ht
 .rw[jJ hb b]at ht
  rcases eJ.1 ht with rfl|ht
  .exact So hb
  .exact e t ht
theorem zG{enc:Int}(hb:cA l):(bC enc l).length<=l.length/\(0<l.length->0<(bC enc l).length)/\l.length<=4*(bC enc l).length:=by
 refine FU (enc:=enc) (M:=λl=>(bC enc l).length<=l.length/\(0<l.length->0<(bC enc l).length)/\l.length<=4*(bC enc l).length) (λl c=>?_) (λl hb b e=>?_) l hb
 .rw[lT c];simp[c]
 .have g:=iW (enc:=enc) b hb
  have:=e.1;have f:=e.2.2;rw[cZ]at this f;rw[jJ hb b];simp only[fF];exact⟨by omega,λ_=>by omega,by omega⟩
theorem pG{enc:Int}(hb:cA l):∀n,n<=(bC enc l).length->TC enc l (dF ((bC enc l).take n))/\bC enc (l.drop (dF ((bC enc l).take n)))=(bC enc l).drop n:=by
 intro n
 induction n with
 |zero=>intro _;rw[Ru,Fq,DR,DR];exact⟨.zero,rfl⟩
 |succ n o=>
  intro p;obtain⟨f,b⟩:=o (by omega);have g:(bC enc l).drop n=(bC enc l)[n]::(bC enc l).drop (n+1):=gK (by omega);generalize j:dF ((bC enc l).take n)=k at f b;have c:0<(l.drop k).length:=by
   by_cases m:(l.drop k).length=0
   .rw[lT m,g]at b;cases b
   .omega
  have e:=jJ (enc:=enc) (hb.drop k) c;rw[b,g,Jq]at e;have ht:(bC enc l).take (n+1)=(bC enc l).take n++[(bC enc l)[n]]:=by rw[eG,cM (by omega)];rfl
  rw[ht,iY,mM,Fq,FI,j,e.1];rw[cZ]at c;exact⟨f.step (by omega),by rw[<-FK,<-e.2]⟩
theorem Gd{enc:Int}(hb:cA l):∀n,n<=(bC enc l).length->bC enc (l.take (dF ((bC enc l).take n)))=(bC enc l).take n:=by
 refine FU (enc:=enc) (M:=λl=>∀n,n<=(bC enc l).length->bC enc (l.take (dF ((bC enc l).take n)))=(bC enc l).take n) (λl k n b=>?_) (λl hb f m n b=>?_) l hb
 .rw[lT k];simp[dF];exact lT rfl
 .cases n with
  |zero=>simp[dF];exact lT rfl
  |succ n=>
   have hm:=(pG hb (n+1) b).1;have o:=iW (enc:=enc) f hb;have e:=jJ (enc:=enc) hb f;rw[e]at hm b⊢;rw[Jo,mM]at hm⊢;rw[fF]at b;have g:=hm.le hb;generalize j:dF ((bC enc (l.drop (eH enc l).2.toNat)).take n)=m' at hm g⊢;have c:=Oi hb hm .zero (by omega);rw[DR,DR]at c;rw[jJ (hb.take _) (by rw[dJ];omega),c,LS,Bj,<-j,m n (by omega)]
def Br(t:Int×Int):oO:=(1,t.2,if t.1=10\/t.1=13 then 1 else 0,decide (t.1=10),decide (t.1=13),())
def qN(ts:List (Int×Int)):oO:=ts.foldl (λs t=>jO s (Br t)) zS
theorem VS.one{t:Int×Int}(h:1<=t.2/\t.2<=4):VS 1 (Br t):=by
 unfold Br;refine⟨by dsimp only;omega,by dsimp only;omega,by dsimp only;omega,by dsimp only;omega,?_,?_,(λh=>by cases h),λh=>?_⟩
 .dsimp only;split<;>omega
 .dsimp only;split<;>omega
 .dsimp only at h⊢
  rw[decide_eq_true_eq]at h;rw[if_pos (.inl h)];omega
def S1(ts:List (Int×Int)):Prop:=∀t,t∈ts->1<=t.2/\t.2<=4
theorem S1.take{a:List (Int×Int)}(h:S1 a)(n:Nat):S1 (a.take n):=λt ht=>h t (rG ht)
theorem S1.drop{a:List (Int×Int)}(h:S1 a)(n:Nat):S1 (a.drop n):=λt ht=>h t (Bi ht)
theorem r_(h:S1 ts):∀{n:Nat} {s:oO},VS n s->VS (n+ts.length) (ts.foldl (λs t=>jO s (Br t)) s):=by
 induction ts with
 |nil=>intro n s v;exact v
 |cons t ts c=>
  intro n s v;have:=c (λx b=>h x (dZ _ b)) (v.add (VS.one (h t (cX ..))));exact this.mono (by simp only[fF];omega)
theorem VS.qN{ts:List (Int×Int)}(h:S1 ts):VS ts.length (qN ts):=(r_ h VS.zero).mono (by omega)
theorem WO(h:S1 ts):∀{n m:Nat} {s o:oO},VS n s->VS m o->ts.foldl (λs t=>jO s (Br t)) (jO s o)=jO s (ts.foldl (λs t=>jO s (Br t)) o):=by
 induction ts with
 |nil=>intros;rfl
 |cons t ts c=>
  intro n m s o v w;have ht:=VS.one (h t (cX ..));simp only[Cj];rw[Mf v w ht];exact c (λx b=>h x (dZ _ b)) v (w.add ht)
theorem KU{a b:List (Int×Int)}(ha:S1 a)(hb:S1 b):qN (a++b)=jO (qN a) (qN b):=by
 unfold Piece.qN;rw[Ke];have:=WO hb (VS.qN ha) VS.zero;rw[DU (VS.qN ha)]at this;exact this
theorem Xg(a:List (Int×Int))(t:Int×Int):qN (a++[t])=jO (qN a) (Br t):=by unfold qN;rw[Ke];rfl
theorem cp(h:S1 ts):∀{n:Nat} {s:oO},VS n s->(ts.foldl (λs t=>jO s (Br t)) s).1=s.1+ts.length/\(ts.foldl (λs t=>jO s (Br t)) s).2.1=s.2.1+dF ts:=by
 induction ts with
 |nil=>intro n s v;simp[dF]
 |cons t ts g=>
  intro n s v;have ht:=h t (cX ..);have b:=g (λx e=>h x (dZ _ e)) (v.add (VS.one ht));have c:(jO s (Br t)).1=s.1+1/\(jO s (Br t)).2.1=s.2.1+t.2:=by
   unfold jO;by_cases h0:s.1=0
   .rw[if_pos h0]
    have f:=v.2.2.2.2.2.2.1 h0;rw[f];exact⟨rfl,by show t.2=(0:Int)+t.2;omega⟩
   .rw[if_neg h0,if_neg (show(Br t).1≠0 by show(1:Int)≠0;decide)];exact⟨rfl,rfl⟩
  rw[Cj,b.1,b.2,c.1,c.2,mM,fF];omega
theorem DJ(h:S1 ts):(qN ts).1=ts.length/\(qN ts).2.1=dF ts:=by
 have b:=cp h VS.zero;have e:zS.1=0/\zS.2.1=0:=⟨rfl,rfl⟩;rw[e.1,e.2]at b;unfold qN;omega
end
section
open Go.Sw.Any Go.Sw.Codec
open Go.Sw.Tree (iv fL jI jW nE pD kT sG kP dV)
variable{P:Program}{S:cG}{h:aE}{Q:Nat->bE->aE->Prop}
variable{l:aW}
theorem Vp(a b:Int):fU a b=decide (a=b):=by
 by_cases h:a=b
 .rw[cJ.2 h,decide_eq_true h]
 .rw[dM.2 h,decide_eq_false h]
theorem Yc{atom size:Int}:aS P (vC S atom size) [.agg SB] h λ(y:oO×Unit) _=>y.1=Br (atom,size):=by
 unfold vC aS;refine fV (bs:=SB) zS (by decide) λg o o1=>?_;rw[Vp,Vp];refine Hs (bs:=SB) (z:=zS) (1,size,0,decide (atom=10),decide (atom=13),()) (by decide) (Ee _) λu j o2=>?_;refine eN (λt n h'=>t=0/\n=[]/\Ext g h'/\cC g.size 1 h' ⟨some ⟨g.size,0,none⟩,5,5⟩ (Bs.inj SB (Br (atom,size)))) ?_ ?_
 .refine bW (atom=10\/atom=13) ?_ λr p f hb=>aG (λc=>?_) λc=>?_
  .refine aX (b:=.bool) _ (decide (atom=10)) rfl (aI.1 o2.cells 3 _ rfl) (aG (λc=>aC ⟨rfl,Ext.refl _,true,rfl,Iff.intro (λ_=>.inl (of_decide_eq_true c)) λ_=>rfl⟩) λc=>?_)
   have m:=of_decide_eq_false c;exact aX (b:=.bool) _ (decide (atom=13)) rfl (aI.1 o2.cells 4 _ rfl) (aC ⟨rfl,Ext.refl _,_,rfl,λh=>.inr (of_decide_eq_true h),λh=>decide_eq_true (h.resolve_left m)⟩)
  .refine eW (vs:=Bs.inj SB (1,size,0,decide (atom=10),decide (atom=13),())) (iv 1) (o2.ext f) (by simp[Bs.inj]) rfl λv o6 q=>aC ⟨rfl,rfl,jE.jA (j.trans f) q (by intro x c;cases c;exact bL _),?_⟩
   have:Br (atom,size)=(1,size,1,decide (atom=10),decide (atom=13),()):=by unfold Br;dsimp only;rw[if_pos (hb.1 c)]
   rw[this];exact o6
  .refine aC ⟨rfl,rfl,j.trans f,?_⟩
   have:Br (atom,size)=(1,size,0,decide (atom=10),decide (atom=13),()):=by unfold Br;dsimp only;rw[if_neg λk=>by rw[hb.2 k]at c;cases c]
   rw[this];exact o2.ext f
 .rintro t n p ⟨rfl,rfl,f,o5⟩
  exact bK (bV (gJ (bs:=SB) o5 (yJ (bs:=SB) (Br (atom,size)) (o1.ext f) (bL _) (o.trans f) (Ee _) λh' e=>⟨rfl,e,(Br (atom,size),()),rfl,rfl⟩)))
def xa(b:Sl)(tag:Int)(s:oO):Part:=(b,tag,s.1,s.2.1,s.2.2.1,s.2.2.2.1,s.2.2.2.2.1,())
def WY(b:Sl)(tag:Int)(ts:List (Int×Int)):Part:=xa b tag (qN ts)
theorem oH{enc:Int}(hb:cA l):S1 (bC enc l):=J3 hb
theorem FX(M:jM P S){enc:Int}(he:eE enc){b:Sl}{tag:Int}(hb:kB .u8 h b l)(hl:l.length<=1099511627776) :
  aS P (kH S enc b tag) [.agg PB] h λ(y:Part×Unit) _=>y.1=WY b tag (bC enc l):=by
 have f:cA l:=hb.wf;have C:=hb.len;have D:=oH (enc:=enc) f;unfold kH aS;refine fV (bs:=PB) zP (by decide) λj J o1=>Hs (bs:=PB) (z:=zP) (xa b tag zS) (by decide) (wN _) λF W o2=>?_;refine dV (G:=Nat) (λn (r:Int×Unit) h'=>n<=(bC enc l).length/\r.1=dF ((bC enc l).take n)/\Ext j h'/\cC j.size 1 h' ⟨some ⟨j.size,0,none⟩,7,7⟩ ([.slice b.aD b.len b.cap,iv tag]++Bs.inj SB (qN ((bC enc l).take n)))) (λn=>(bC enc l).length-n)
  (λt V h'=>t=2/\V=[]/\Ext j h'/\cC j.size 1 h' ⟨some ⟨j.size,0,none⟩,7,7⟩ (Bs.inj PB (WY b tag (bC enc l)))) 0 ⟨cS _,rfl,W,o2⟩ ?_ ?_
 .rintro n ⟨(r:Int),u⟩ X ⟨hn,T,q,v⟩
  dsimp only at T⊢;subst T;obtain⟨B,A⟩:=pG (enc:=enc) f n hn;have hle:=B.le f;generalize Y:dF ((bC enc l).take n)=k at B A hle⊢;refine aG (λH=>?_) λH=>?_
  .rw[aV,aN,C]at H
   have N:k<l.length:=by omega
   have g:=jJ (enc:=enc) (f.drop k) (by rw[cZ];omega);rw[A]at g;have w:n<(bC enc l).length:=by
    by_cases c:n<(bC enc l).length
    .exact c
    .rw[tY (by omega)]at g;cases g
   rw[gK w,Jq]at g;have U:=D _ (Cp w);have p:(bC enc l).take (n+1)=(bC enc l).take n++[(bC enc l)[n]]:=by rw[eG,cM w];rfl
   refine aM (PI M (hb.ext (J.trans q))) λ⟨(a:Int),(sz:Int),_⟩ h4 E c=>?_;have c:(a,sz)=eH enc (l.drop k):=by
    rcases c with⟨R,_,_⟩|⟨_,_,_,c⟩
    .rcases R with h|h|h
     .exact absurd he h
     .omega
     .omega
    .rw[cN]at c;exact c
   rw[<-g.1]at c;dsimp only;refine NA (v.ext E) rfl (aM Yc λ⟨(o:oO),_⟩ h5 K m=>?_);have m:o=Br (a,sz):=m;subst m;dsimp only;have o5:=(v.ext E).ext K;refine Bd (a:=(⟨j.size,0,none⟩:Addr).add 2) rfl (CB (post:=[]) (by rw[jX];exact o5.cells) rfl) ?_;rw[c];have v1:=VS.qN (D.take n);have v2:=VS.one U;have hlen:=zG (enc:=enc) f;refine aM (XO v1 v2 (by rw[dJ];omega)) λ⟨(o:oO),_⟩ h6 L m=>?_;have m:o=_:=m;subst m;dsimp only;refine C1 (Bs.inj SB (jO (qN ((bC enc l).take n)) (Br ((bC enc l)[n])))) (o5.ext L) rfl rfl (Ee _) λh7 o7 u7=>?_;have ab:sz=(bC enc l)[n].2:=congrArg Prod.snd c;rw[bG (by omega) (by omega)];refine aC ⟨λ_=>⟨n+1,((k:Int)+sz,()),rfl,⟨by omega,?_,jE.jA (((q.trans E).trans K).trans L) u7 (by intro x c;cases c;exact bL _),?_⟩,by omega⟩,λh=>absurd rfl h⟩
   .dsimp only
    rw[p,iY,mM,Fq,Y];omega
   .rw[p,Xg];exact o7
  .rw[aZ,aN,C]at H
   have N:k=l.length:=by omega
   have O:(bC enc l).take n=bC enc l:=by
    have:(bC enc l).drop n=[]:=by rw[<-A];exact lT (by rw[cZ];omega)
    have F:=eX n (bC enc l);rw[this,jX]at F;exact F
   rw[O]at v;exact aC ⟨λh=>absurd h (by decide),λ_=>⟨rfl,rfl,q,v⟩⟩
 .rintro t V X ⟨rfl,rfl,q,v⟩
  exact bK (bV (gJ (bs:=PB) v (yJ (bs:=PB) (WY b tag (bC enc l)) (o1.ext q) (bL _) (J.trans q) (wN _) λh' e=>⟨rfl,e,(_,()),rfl,rfl⟩)))
def JZ(tag:Int)(k:Nat):Int:=if 0<=tag then tag+k else tag
def Fc(enc:Int)(p:Part)(l:aW)(n:Nat):Part:=WY ⟨p.1.aD,dF ((bC enc l).take n),dF ((bC enc l).take n)⟩ p.2.1 ((bC enc l).take n)
def GS(enc:Int)(p:Part)(l:aW)(n:Nat):Part:=
 WY ⟨bF p.1.aD p.1.cap (dF ((bC enc l).take n)) 1,p.1.len-dF ((bC enc l).take n),p.1.cap-dF ((bC enc l).take n)⟩ (JZ p.2.1 (dF ((bC enc l).take n))) ((bC enc l).drop n)
theorem Vh(M:jM P S){enc:Int}(he:eE enc){p:Part}{n:Int}(hb:kB .u8 h p.1 l)(hl:l.length<=1099511627776)(h0:0<=n)(hn:n<=(bC enc l).length)(ht : -1<=p.2.1/\p.2.1<=1099511627776) :
  aS P (dO S p enc n) [.agg PB, .agg PB] h λ(y:Part×Part×Unit) _=>y.1=Fc enc p l n.toNat/\y.2.1=GS enc p l n.toNat:=by
 have f:cA l:=hb.wf;have ao:=hb.len;have a7:=hb.cap;have a8:=hb.max;have a4:=oH (enc:=enc) f;have hlen:=zG (enc:=enc) f;unfold dO aS;refine fV (bs:=PB) p (by decide) λh1 e1 o1=>fV (bs:=PB) zP (by decide) λh2 e2 o2=>fV (bs:=PB) zP (by decide) λR e3 o3=>?_;have E:=e1.trans (e2.trans e3);have O:=o1.ext (e2.trans e3);have C:∀{h'} {K:Sl->aK} {Q:Nat->bE->aE->Prop},Ext R h'->wp P (K p.1) h' Q->wp P (.load (tS) (aB (some ⟨h.size,0,none⟩) 0) K) h' Q:=λe z=>aX (b:=.sl) _ p.1 rfl (aI.1 (O.ext e).cells 0 _ rfl) z;have ab:∀{h'} {K:Int->aK} {Q:Nat->bE->aE->Prop},Ext R h'->wp P (K p.2.1) h' Q->wp P (.load (tI) (aB (some ⟨h.size,0,none⟩) 1) K) h' Q:=λe z=>aX (b:=bI) _ p.2.1 rfl (aI.1 (O.ext e).cells 1 _ rfl) z;have J:=(pG (enc:=enc) f n.toNat (by omega)).1.le f;refine dV (G:=Nat) (λm (r:Int×Int×Unit) h'=>m<=n.toNat/\r.1=n-m/\r.2.1=dF ((bC enc l).take m)/\Ext R h') (λm=>n.toNat-m)
  (λt vs h'=>t=2/\vs=[iv (dF ((bC enc l).take n.toNat))]/\Ext R h') 0 ⟨cS _,by dsimp only;omega,rfl,Ext.refl _⟩ ?_ ?_
 .rintro m ⟨(r:Int),(at_:Int),u⟩ h4 ⟨hm,hr,U,o⟩
  dsimp only at hr U⊢;subst hr;subst U;obtain⟨V,B⟩:=pG (enc:=enc) f m (by omega);have hle:=V.le f;generalize z:dF ((bC enc l).take m)=k at V B hle⊢;refine bW (m<n.toNat) ?_ λbb h5 D v=>aG (λc=>?_) λc=>?_
  .refine aG (λw=>C o (aC ⟨rfl,Ext.refl _,_,rfl,?_⟩)) λw=>aC ⟨rfl,Ext.refl _,false,rfl,?_⟩
   .rw[dQ]at w
    rw[aV,aN,ao];refine⟨λ_=>by omega,λ_=>?_⟩;have A:m<(bC enc l).length:=by omega
    by_cases c:(k:Int)<l.length
    .exact c
    .have:(bC enc l).drop m=[]:=by rw[<-B];exact lT (by rw[cZ];omega)
     rw[Rv]at this;omega
   .rw[gC]at w
    exact Iff.intro (λh=>by cases h) λh=>by omega
  .have bd:=v.1 c
   have A:m<(bC enc l).length:=by omega
   have T:(bC enc l).take (m+1)=(bC enc l).take m++[(bC enc l)[m]]:=by rw[eG,cM A];rfl
   have ba:k<l.length:=by
    by_cases c:k<l.length
    .exact c
    .have:(bC enc l).drop m=[]:=by rw[<-B];exact lT (by rw[cZ];omega)
     rw[Rv]at this;omega
   have X:=jJ (enc:=enc) (f.drop k) (by rw[cZ];omega);rw[B,gK A,Jq]at X;have bo:=a4 _ (Cp A);refine C (o.trans D) (aM (PI M (hb.ext (E.trans (o.trans D)))) λ⟨(a:Int),(sz:Int),_⟩ h6 H c=>?_);have c:(a,sz)=eH enc (l.drop k):=by
    rcases c with⟨aw,_,_⟩|⟨_,_,_,c⟩
    .rcases aw with h|h|h
     .exact absurd he h
     .omega
     .omega
    .rw[cN]at c;exact c
   rw[<-X.1]at c;have a9:sz=(bC enc l)[m].2:=congrArg Prod.snd c;dsimp only;rw[bG (by omega) (by omega),cY (by omega) (by omega)];refine aC ⟨λ_=>⟨m+1,(n-m-1,(k:Int)+sz,()),rfl,⟨by omega,by dsimp only;omega,?_,(o.trans D).trans H⟩,by omega⟩,λh=>absurd rfl h⟩;dsimp only;rw[T,iY,mM,Fq,z];omega
  .have:¬m<n.toNat:=λh=>by rw[v.2 h]at c;cases c
   have:m=n.toNat:=by omega
   subst this;exact aC ⟨λh=>absurd h (by decide),λ_=>⟨rfl,by rw[z],o.trans D⟩⟩
 .rintro t vs h4 ⟨rfl,rfl,o⟩
  unfold Fc GS;have W:=Gd (enc:=enc) f n.toNat (by omega);have Y:=(pG (enc:=enc) f n.toNat (by omega)).2;generalize z:dF ((bC enc l).take n.toNat)=k at J W Y⊢;refine bK (gZ (ab o ?_));refine iO (tys:=[tI]) (λ(x:Int×Unit) _=>x.1=JZ p.2.1 k) ?_ λ⟨(tg:Int),_⟩ h5 D c=>?_
  .unfold JZ
   refine aG (λw=>?_) λw=>?_
   .rw[dT]at w
    rw[bG (by omega) (by omega),if_pos w];exact aC ⟨rfl,Ext.refl _,(_,()),rfl,rfl⟩
   .rw[fC]at w
    rw[if_neg (by omega)];exact aC ⟨rfl,Ext.refl _,(_,()),rfl,rfl⟩
  have c:tg=_:=c;subst c;dsimp only;have g:=o.trans D;have al:bP (k:Int)=k:=by rw[eR];omega
  refine C g (sD (fD.2 ⟨iQ (by omega) (by omega),iQ (by omega) (by omega)⟩) (ab g (C g (sD (iQ (by omega) (by omega)) ?_))));rw[al,show cV k 0=k from rfl,eQ];have v:=hb.ext (E.trans g);refine aM (FX M he (tag:=p.2.1) (v.take (n:=k) (m:=k) J (bL _) (by omega)) (by rw[dJ];omega)) λ⟨(y1:Part),_⟩ h6 H L=>?_;have L:y1=_:=L;subst L;dsimp only;refine sC (q:=⟨h.size,0,none⟩) (j:=0) (aI.1 (O.ext (g.trans H)).cells 0 _ rfl) ?_;refine aM (FX M he (tag:=JZ p.2.1 k) ((v.ext H).tail (i:=k) J) (by rw[cZ];omega)) λ⟨(y2:Part),_⟩ h7 e7 N=>?_;have N:y2=_:=N;subst N;dsimp only;have F:=(g.trans H).trans e7;rw[W,Y];refine mJ (bs:=PB) (WY ⟨p.1.aD,k,k⟩ p.2.1 ((bC enc l).take n.toNat)) ((o2.ext e3).ext F) (wN _) λh8 o8 u8=>?_;have b1:=(o1.lt rfl).2;have b2:=(o2.lt rfl).2;dsimp only at b1 b2;have a0:=Hi (o3.ext F) u8 (by dsimp only;omega);refine mJ (bs:=PB) (WY ⟨bF p.1.aD p.1.cap k 1,p.1.len-k,p.1.cap-k⟩ (JZ p.2.1 k) ((bC enc l).drop n.toNat)) a0 (wN _) λh9 o9 u9=>?_;have a3:=Hi o8 u9 (by dsimp only;omega);refine gJ (bs:=PB) a3 (gJ (bs:=PB) o9 (aC ⟨rfl,?_,(_,_,()),rfl,rfl,rfl⟩));exact jE.jA (jE.jA (E.trans F) u8 (by intro x c;cases c;dsimp only;have:=e1.size;omega)) u9 (by intro x c;cases c;dsimp only;have:=e1.size;have:=e2.size;omega)
end
section
open Go.Sw.Any Go.Sw.Codec
open Go.Sw.Tree (iv fL jI jW nE pD kT sG kP dV lA)
variable{P:Program}{S:cG}{h:aE}{Q:Nat->bE->aE->Prop}
variable{h':aE}
abbrev aH(x:Int):Value:=.int .i64 x
abbrev dG(s:Sl):Value:=.slice s.aD s.len s.cap
def gT(tag:Int):Nat->List (Int×Int)->List (Int×Int)
 |_,[]=>[]
 |o,t::ts=>(t.1,if tag<0 then -1 else tag+o)::gT tag (o+t.2.toNat) ts
theorem E6(tag:Int):∀(ts:List (Int×Int)) (o:Nat),(gT tag o ts).length=ts.length
 |[],_=>rfl
 |t::ts,o=>by simp only[gT,fF,E6 tag ts]
theorem OW(tag:Int):∀(ts:List (Int×Int)) (o n:Nat),(gT tag o ts).take n=gT tag o (ts.take n)
 |[],o,n=>by simp[gT]
 |t::ts,o,0=>by simp[gT]
 |t::ts,o,n+1=>by simp only[gT,Jo,OW tag ts]
theorem JD(tag:Int):∀(ts:List (Int×Int)) (o n:Nat),(gT tag o ts).drop n=gT tag (o+dF (ts.take n)) (ts.drop n)
 |[],o,n=>by simp[gT]
 |t::ts,o,0=>by simp[dF]
 |t::ts,o,n+1=>by simp only[gT,List.drop_succ_cons,Jo,JD tag ts,mM,Bg]
theorem MD{tag:Int}(k:Nat):∀(ts:List (Int×Int)) (o:Nat),gT (JZ tag k) o ts=gT tag (o+k) ts
 |[],o=>rfl
 |t::ts,o=>by
  simp only[gT,MD k ts];rw[show o+t.2.toNat+k=o+k+t.2.toNat by omega]
  congr 1
  unfold JZ;by_cases h:0<=tag
  .rw[if_pos h,if_neg (by omega),if_neg (by omega)];congr 1;omega
  .rw[if_neg h,if_pos (by omega),if_pos (by omega)]
abbrev Pc:=Part×aW
def yV(enc:Int)(q:Pc):List (Int×Int):=gT q.1.2.1 0 (bC enc q.2)
def gS(enc:Int)(ps:List Pc):List (Int×Int):=ps.flatMap (yV enc)
def cK(enc:Int)(ps:List Pc):List (Int×Int):=ps.flatMap λq=>bC enc q.2
def dK(ps:List Pc):aW:=ps.flatMap λq=>q.2
theorem yE(enc:Int)(ps:List Pc):(gS enc ps).length=(cK enc ps).length:=by
 induction ps with
 |nil=>rfl
 |cons q ps b=>
  unfold gS cK at b⊢;rw[fY,fY,bM,bM,b];unfold yV;rw[E6]
structure St where
 root:OA
 t:Bt Part
 ps:List Pc
structure TX where
 p:Addr
 enc:Int
 limit:Int
 cur:St
 kept:List St
 ad:Sl
 A:aW
 Z:Nat->Prop
structure AH(h:aE)(T:TX)(q:Pc):Prop where
 kZ:kB .u8 h q.1.1 q.2
 ne:0<q.2.length
 is:q.1=WY q.1.1 q.1.2.1 (bC T.enc q.2)
 tag : -1<=q.1.2.1/\q.1.2.1+q.2.length<=65536
 len:q.2.length<=65536
 Ml:∀a,q.1.1.aD=some a->T.Z a.block/\a.block≠T.p.block/\∀b,T.ad.aD=some b->a.block=b.block->a.spot=none/\a.off+q.2.length<=T.A.length
structure K1(S:cG)(h:aE)(T:TX)(s:St):Prop where
 nd:Nd (part S T.Z) h s.root s.t
 ls:s.t.list=s.ps.map (·.1)
 Cf:∀q,q∈s.ps->AH h T q
 small:(dK s.ps).length<=1099511627776
structure eM(S:cG)(n:Nat)(h:aE)(T:TX):Prop where
 enc:eE T.enc
 Bp:0<=T.limit/\T.limit<=65536
 ob:cC n 1 h ⟨some T.p,4,4⟩ [aH T.enc,aH T.limit, .pointer T.cur.root,dG T.ad]
 ad:bR n .u8 h T.ad T.A
 Z0:∀b,T.ad.aD=some b->b.block≠T.p.block
 ph:∀b,T.ad.aD=some b->0<T.A.length
 cur:K1 S h T T.cur
 kept:∀s,s∈T.kept->K1 S h T s
 zp:T.Z T.p.block
 za:∀b,T.ad.aD=some b->T.Z b.block
 lo:∀i,T.Z i->n<=i/\i<h.size
theorem AH.oQ{F:Nat->Prop}{T:TX}{q:Pc}(r:AH h T q)(c:aY F h h')(b:∀i,T.Z i->¬F i):AH h' T q:=
 ⟨c.kZ r.kZ λa ha=>b _ (r.Ml a ha).1,r.ne,r.is,r.tag,r.len,r.Ml⟩
theorem K1.oQ{F:Nat->Prop}{h':aE}{T:TX}{s:St}(r:K1 S h T s)(c:aY F h h')(b:∀i,T.Z i->¬F i):K1 S h' T s:=
 ⟨r.nd.oQ c λi _ f=>b i f,r.ls,λq e=>(r.Cf q e).oQ c b,r.small⟩
theorem eM.oQ{F:Nat->Prop}{n:Nat}{h':aE}{T:TX}(r:eM S n h T)(c:aY F h h')(b:∀i,T.Z i->¬F i):eM S n h' T where
 enc:=r.enc
 Bp:=r.Bp
 ob:=c.own r.ob λx e=>by cases e;exact b _ r.zp
 ad:=c.pW r.ad λx e=>b _ (r.za x e)
 Z0:=r.Z0
 ph:=r.ph
 cur:=r.cur.oQ c b
 kept:=λs f=>(r.kept s f).oQ c b
 zp:=r.zp
 za:=r.za
 lo:=λi hi=>⟨(r.lo i hi).1,pI (r.lo i hi).2 c.1⟩
theorem eM.ext{n:Nat}{T:TX}(r:eM S n h T)(e:Ext h h'):eM S n h' T:=r.oQ (aY.bH (F:=λ_=>False) e) λ_ _ x=>x
theorem eM.c0{n:Nat}{T:TX}(r:eM S n h T):Sw.cell h (T.p.add 0)=some (aH T.enc):=aI.1 r.ob.cells 0 _ rfl
theorem eM.c1{n:Nat}{T:TX}(r:eM S n h T):Sw.cell h (T.p.add 1)=some (aH T.limit):=aI.1 r.ob.cells 1 _ rfl
theorem eM.c2{n:Nat}{T:TX}(r:eM S n h T):Sw.cell h (T.p.add 2)=some (.pointer T.cur.root):=aI.1 r.ob.cells 2 _ rfl
theorem eM.c3{n:Nat}{T:TX}(r:eM S n h T):Sw.cell h (T.p.add 3)=some (dG T.ad):=aI.1 r.ob.cells 3 _ rfl
theorem AH.bytes{T:TX}{q:Pc}(r:AH h T q):cA q.2:=r.kZ.wf
theorem AH.sum{T:TX}{q:Pc}(r:AH h T q):I5 q.1=qN (bC T.enc q.2):=by rw[r.is];rfl
theorem AH.wt{T:TX}{q:Pc}(r:AH h T q):VZ q.1=(bC T.enc q.2).length/\VS (VZ q.1) (I5 q.1):=by
 have c:=DJ (oH (enc:=T.enc) r.bytes);have f:=(zG (enc:=T.enc) r.bytes).2.1 r.ne;have e:q.1.2.2.1=(qN (bC T.enc q.2)).1:=congrArg Prod.fst r.sum;have b:VZ q.1=(bC T.enc q.2).length:=by unfold VZ;rw[e,c.1];omega
 exact⟨b,by rw[b,r.sum];exact VS.qN (oH r.bytes)⟩
theorem K1.wf{T:TX}{s:St}(r:K1 S h T s):(part S T.Z).wf s.t.list:=by
 intro x b;rw[r.ls]at b;obtain⟨q,c,rfl⟩:=dC.1 b;exact(r.Cf q c).wt.2
theorem xK{enc:Int}{ps:List Pc}(hb:∀q,q∈ps->cA q.2):S1 (cK enc ps):=by
 intro t ht;obtain⟨q,b,ht⟩:=Kd.1 ht;exact oH (hb q b) t ht
def I6(l:List Part):oO:=l.foldl (λs r=>jO s (I5 r)) zS
theorem UL{T:TX}:∀{ps:List Pc},(∀q,q∈ps->AH h T q)->I6 (ps.map (·.1))=qN (cK T.enc ps):=by
 intro ps;have gen:∀(qs pre:List Pc),(∀q,q∈pre++qs->AH h T q)->(qs.map (·.1)).foldl (λs r=>jO s (I5 r)) (qN (cK T.enc pre))=qN (cK T.enc (pre++qs)):=by
  intro qs
  induction qs with
  |nil=>intro pre b;simp
  |cons q qs g=>
   intro pre b;have c:=b q (by simp);have hb:∀q,q∈pre->cA q.2:=λq f=>(b q (by simp[f])).bytes;have e:jO (qN (cK T.enc pre)) (I5 q.1)=qN (cK T.enc (pre++[q])):=by
    have:cK T.enc (pre++[q])=cK T.enc pre++bC T.enc q.2:=by simp[cK]
    rw[this,KU (xK hb) (oH c.bytes),c.sum]
   rw[fK,Cj,e,g (pre++[q]) (by simpa using b)];simp
 intro b;exact gen ps [] (by simpa using b)
theorem ja{T:TX}:∀{ps:List Pc},(∀q,q∈ps->AH h T q)->((ps.map (·.1)).map VZ).sum=(cK T.enc ps).length:=by
 intro ps
 induction ps with
 |nil=>intro _;rfl
 |cons q ps e=>
  intro b;rw[fK,fK,DQ,e (λx c=>b x (dZ _ c)),(b q (cX ..)).wt.1];simp[cK]
theorem FB{enc:Int}:∀{ps:List Pc},(∀q,q∈ps->cA q.2)->(cK enc ps).length<=(dK ps).length/\dF (cK enc ps)=(dK ps).length:=by
 intro ps
 induction ps with
 |nil=>intro _;exact⟨bL _,rfl⟩
 |cons q ps f=>
  intro b;have g:=zG (enc:=enc) (b q (cX ..));have j:=Gc (enc:=enc) (b q (cX ..));have c:=f λx e=>b x (dZ _ e);unfold cK dK at c⊢;rw[fY,fY,bM,bM,iY];omega
theorem K1.bytes{T:TX}{s:St}(r:K1 S h T s):∀q,q∈s.ps->cA q.2:=λq b=>(r.Cf q b).bytes
theorem K1.W{T:TX}{s:St}(r:K1 S h T s):(part S T.Z).W s.t.list=(cK T.enc s.ps).length:=by
 show(List.map VZ s.t.list).sum=_;rw[r.ls,ja r.Cf]
theorem K1.sum{T:TX}{s:St}(r:K1 S h T s):(part S T.Z).sum s.t.list=qN (cK T.enc s.ps):=by
 show I6 s.t.list=_;rw[r.ls,UL r.Cf]
theorem K1.Xx{T:TX}{s:St}(r:K1 S h T s)(e:T.limit<=65536):(cK T.enc s.ps).length<=1099511627776/\(part S T.Z).W s.t.list<=1099511627776:=by
 have b:=r.small;have c:=(FB (enc:=T.enc) r.bytes).1;rw[r.W];omega
theorem K1.room{T:TX}{s:St}(r:K1 S h T s)(b:T.limit<=65536):(part S T.Z).W s.t.list<4398046511104:=Rl (r.Xx b).2 (by decide)
abbrev TR:=OA×Unit
theorem tX{n:Nat}{T:TX}{K:TR->aK}(r:eM S n h T)(c:wp P (K (T.cur.root,())) h Q):wp P (bD (aJ (some T.p))<|bD (aJ (some T.p))<|.load (.agg [.ptr]) (aB (some T.p) 2) K) h Q:=
 aL rfl (aL rfl ⟨T.p.add 2,rfl,(T.cur.root,()),aI.2 λj v b=>by
  match j,b with
  |0,b=>simp[Ty.cells,Bs.inj]at b;subst b;rw[add_zero'];exact r.c2
  |j+1,b=>simp[Ty.cells,Bs.inj]at b,c⟩)
theorem Zr{n:Nat}{T:TX}{K:Int->aK}(r:eM S n h T)(c:wp P (K T.enc) h Q):wp P (bD (aJ (some T.p))<|bD (aJ (some T.p))<|.load (tI) (aB (some T.p) 0) K) h Q:=
 aL rfl (aL rfl (aX (b:=bI) _ T.enc rfl r.c0 c))
theorem XV{n:Nat}{T:TX}(r:eM S n h T):aS P (tF S (T.cur.root,())) [.agg SB] h λ(x:oO×Unit) _=>x.1=qN (cK T.enc T.cur.ps):=by
 have c:=r.cur.Xx r.Bp.2;have:=qi (B1 S T.Z (P:=P)) r.cur.nd r.cur.wf (rH (r.cur.room r.Bp.2));exact aS.mono this λx h' e b=>b.trans r.cur.sum
theorem Vd{n:Nat}{T:TX}(r:eM S n h T):aS P (tT S (some T.p)) [tI] h λ(x:Int×Unit) _=>x.1=(gS T.enc T.cur.ps).length:=by
 unfold tT aS;refine tX r (aM (XV r) λx e c b=>aC ⟨rfl,c,(_,()),rfl,?_⟩);have b:x.1=_:=b;show x.1.1=_;rw[b,(DJ (xK r.cur.bytes)).1,yE]
theorem GY{n:Nat}{T:TX}(r:eM S n h T):aS P (Bv S (some T.p)) [tI] h λ(x:Int×Unit) _=>x.1=(dK T.cur.ps).length:=by
 unfold Bv aS;refine tX r (aM (XV r) λx e c b=>aC ⟨rfl,c,(_,()),rfl,?_⟩);have b:x.1=_:=b;show x.1.2.1=_;rw[b,(DJ (xK r.cur.bytes)).2,(FB r.cur.bytes).2]
def RH(enc:Int)(ps:List Pc)(at_:Int)(i n:Nat):Prop:=
 i<=ps.length/\(at_:Int)=(cK enc (ps.take i)).length+n/\(at_=0->i=0/\n=0)/\(0<at_->∃q,ps[i]?=some q/\0<n/\n<=(bC enc q.2).length)
theorem GU{enc:Int}(ps:List Pc)(i:Nat):(cK enc (ps.take i)).length<=(cK enc ps).length:=by
 have:cK enc ps=cK enc (ps.take i)++cK enc (ps.drop i):=by unfold cK;rw[<-hQ,eX]
 rw[this,bM];omega
theorem Hw{enc:Int}{ps:List Pc}{i:Nat}{q:Pc}(b:ps[i]?=some q):cK enc (ps.take (i+1))=cK enc (ps.take i)++bC enc q.2:=by
 rw[eG,b];simp[cK]
theorem Up{T:TX}{ps:List Pc}(e:∀q,q∈ps->AH h T q)(i:Nat):G8 (I6 ((ps.map (·.1)).take i)) 0=(cK T.enc (ps.take i)).length:=by
 have c:(ps.map (·.1)).take i=(ps.take i).map (·.1):=DP.symm;have b:∀q,q∈ps.take i->AH h T q:=λq h=>e q (rG h);rw[c,UL b];unfold G8;rw[if_pos rfl,(DJ (xK λq h=>(b q h).bytes)).1]
theorem PJ{n:Nat}{T:TX}{at_:Int}(r:eM S n h T)(h0:0<=at_)(h1:at_<=(cK T.enc T.cur.ps).length) :
  aS P (qR S (some T.p) at_) [tI, tI] h λ(x:Int×Int×Unit) _=>∃i n:Nat,x.1=i/\x.2.1=n/\RH T.enc T.cur.ps at_ i n:=by
 unfold qR aS;have A:=r.cur.Xx r.Bp.2;refine aG (λg=>?_) λg=>?_
 .rw[gD]at g
  have:at_=0:=by omega
  subst this;exact aC ⟨rfl,Ext.refl _,(0,0,()),rfl,0,0,rfl,rfl,cS _,rfl,λ_=>⟨rfl,rfl⟩,λh=>absurd h (by decide)⟩
 rw[nQ]at g;refine tX r ?_;refine aM (R:=λ(x:Int×Unit) _=>Any.Found (part S T.Z) T.cur.t.list 0 at_ x.1) (ji (B1 S T.Z (P:=P)) r.cur.nd r.cur.wf (r.cur.room r.Bp.2)) λ⟨(f:Int),_⟩ o m b=>?_;have b:(f=0/\at_<=0)\/(1<=f/\f<=T.cur.t.list.length/\at_<=G8 (I6 (T.cur.t.list.take f.toNat)) 0/\G8 (I6 (T.cur.t.list.take (f.toNat-1))) 0<at_)\/(f=T.cur.t.list.length+1/\G8 (I6 T.cur.t.list) 0<at_):=b;dsimp only;have c:=r.ext m;have hlen:T.cur.t.list.length=T.cur.ps.length:=by rw[r.cur.ls,cD]
 have B:T.cur.ps.length<=1099511627776:=by have h1:=qF (B1 S T.Z (P:=P)) T.cur.t.list;have o:=dI h1 A.2;rw[<-hlen];exact o
 rw[r.cur.ls]at b;simp only[Up r.cur.Cf]at b;rw[cD]at b;have k:G8 (I6 (T.cur.ps.map (·.1))) 0=(cK T.enc T.cur.ps).length:=by
  have:=Up r.cur.Cf T.cur.ps.length
  rwa [iF (by simp),iF (bL _)]at this
 rw[k]at b;obtain⟨C,D,z,E⟩:1<=f/\f<=T.cur.ps.length/\at_<=(cK T.enc (T.cur.ps.take f.toNat)).length/\((cK T.enc (T.cur.ps.take (f.toNat-1))).length:Int)<at_:=by
  rcases b with⟨_,b⟩|b|⟨_,b⟩
  .omega
  .exact b
  .omega
 refine tX c ?_;rw[cY (by omega) (by omega)];refine aM (R:=λ(x:oO×Unit) _=>x.1=I6 (T.cur.t.list.take (f-1).toNat)) (Vf (B1 S T.Z (P:=P)) c.cur.nd c.cur.wf (c.cur.room c.Bp.2)) λ⟨(s:oO),_⟩ F w j=>?_;have j:s=_:=j;dsimp only;have hi:(f-1).toNat=f.toNat-1:=by omega
 have v:s.1=(cK T.enc (T.cur.ps.take (f.toNat-1))).length:=by
  have:=Up r.cur.Cf (f.toNat-1);rw[j,hi,r.cur.ls,<-this];rfl
 obtain⟨q,u⟩:∃q,T.cur.ps[f.toNat-1]?=some q:=⟨T.cur.ps[f.toNat-1]'(by omega),cM (by omega)⟩;have e:=Hw (enc:=T.enc) u;rw[show f.toNat-1+1=f.toNat by omega]at e;rw[e,bM]at z;rw[v,cY (by omega) (by omega)];refine aC ⟨rfl,m.trans w,(_,_,()),rfl,f.toNat-1,(at_-(cK T.enc (T.cur.ps.take (f.toNat-1))).length).toNat,?_,?_,by omega,by omega,λh=>by omega,λ_=>⟨q,u,by omega,by omega⟩⟩
 .show f-1=_;omega
 .show at_-_=_;omega
end
section
open Go.Sw.Any Go.Sw.Codec
open Go.Sw.Tree (iv fL jI jW nE pD kT sG kP dV lA)
variable{P:Program}{S:cG}{h:aE}{Q:Nat->bE->aE->Prop}
def qp(S:cG)(t:OA)(a:Addr)(m:Int)(fin:Addr->Addr->aK):aK:=
 .both (.load (.agg PB) (some a) λ(r:Part)=>bD (aJ t)<|bD (aJ t)<|.load (tI) (aB t 0) λ(n:Int)=>
  .call (dO S r n m) [.agg PB, .agg PB] λ(c:Part×Part×Unit)=>
  .alloc (Bs.inj PB zP) λA=>.check (aB t 0) [aH n]<|.check (some a) (Bs.inj PB r)<|
  .alloc (Bs.inj PB zP) λB=>.check (aB t 0) [aH n]<|.check (some a) (Bs.inj PB r)<|
  .store (some A) (Bs.inj PB c.1)<|.store (some B) (Bs.inj PB c.2.1)<|fin A B)<|
 .both (.load (.agg PB) (some a) λ(r:Part)=>bD (aJ t)<|bD (aJ t)<|.load (tI) (aB t 0) λ(n:Int)=>
  .call (dO S r n m) [.agg PB, .agg PB] λ(c:Part×Part×Unit)=>
  .alloc (Bs.inj PB zP) λA=>.check (aB t 0) [aH n]<|.check (some a) (Bs.inj PB r)<|
  .alloc (Bs.inj PB zP) λB=>.check (aB t 0) [aH n]<|.check (some a) (Bs.inj PB r)<|
  .store (some B) (Bs.inj PB c.1)<|.store (some A) (Bs.inj PB c.2.1)<|fin B A)<|
 .both (.load (.agg PB) (some a) λ(r:Part)=>bD (aJ t)<|bD (aJ t)<|.load (tI) (aB t 0) λ(n:Int)=>
  .alloc (Bs.inj PB zP) λA=>.check (aB t 0) [aH n]<|.check (some a) (Bs.inj PB r)<|
  .call (dO S r n m) [.agg PB, .agg PB] λ(c:Part×Part×Unit)=>
  .alloc (Bs.inj PB zP) λB=>.check (aB t 0) [aH n]<|.check (some a) (Bs.inj PB r)<|
  .store (some A) (Bs.inj PB c.1)<|.store (some B) (Bs.inj PB c.2.1)<|fin A B)<|
 .both (.load (.agg PB) (some a) λ(r:Part)=>bD (aJ t)<|bD (aJ t)<|.load (tI) (aB t 0) λ(n:Int)=>
  .alloc (Bs.inj PB zP) λA=>.check (aB t 0) [aH n]<|.check (some a) (Bs.inj PB r)<|
  .alloc (Bs.inj PB zP) λB=>.check (aB t 0) [aH n]<|.check (some a) (Bs.inj PB r)<|
  .call (dO S r n m) [.agg PB, .agg PB] λ(c:Part×Part×Unit)=>
  .store (some A) (Bs.inj PB c.1)<|.store (some B) (Bs.inj PB c.2.1)<|fin A B)<|
 .both (.load (.agg PB) (some a) λ(r:Part)=>bD (aJ t)<|bD (aJ t)<|.load (tI) (aB t 0) λ(n:Int)=>
  .alloc (Bs.inj PB zP) λA=>.check (aB t 0) [aH n]<|.check (some a) (Bs.inj PB r)<|
  .call (dO S r n m) [.agg PB, .agg PB] λ(c:Part×Part×Unit)=>
  .alloc (Bs.inj PB zP) λB=>.check (aB t 0) [aH n]<|.check (some a) (Bs.inj PB r)<|
  .store (some B) (Bs.inj PB c.1)<|.store (some A) (Bs.inj PB c.2.1)<|fin B A)<|
 (.load (.agg PB) (some a) λ(r:Part)=>bD (aJ t)<|bD (aJ t)<|.load (tI) (aB t 0) λ(n:Int)=>
  .alloc (Bs.inj PB zP) λA=>.check (aB t 0) [aH n]<|.check (some a) (Bs.inj PB r)<|
  .alloc (Bs.inj PB zP) λB=>.check (aB t 0) [aH n]<|.check (some a) (Bs.inj PB r)<|
  .call (dO S r n m) [.agg PB, .agg PB] λ(c:Part×Part×Unit)=>
  .store (some B) (Bs.inj PB c.1)<|.store (some A) (Bs.inj PB c.2.1)<|fin B A)
abbrev Eo(n:Nat)(h:aE)(a:Addr)(x:Part):Prop:=cC n 1 h ⟨some a,7,7⟩ (Bs.inj PB x)
theorem TZ(M:jM P S){V W:Nat}{T:TX}{a:Addr}{x:Part}{bs:aW}{m:Int}{fin:Addr->Addr->aK}(r:eM S V h T)(q:AH h T (x,bs))(o:Eo W h a x)(h0:0<=m)(hm:m<=(bC T.enc bs).length)
  (u:∀h' A B,Ext h h'->Eo h.size h' A (Fc T.enc x bs m.toNat)->Eo h.size h' B (GS T.enc x bs m.toNat)->wp P (fin A B) h' Q):wp P (qp S (some T.p) a m fin) h Q:=by
 have j:∀{h':aE} {K:Addr->aK},Ext h h'->(∀k,Ext h' k->Eo h'.size k ⟨h'.size,0,none⟩ zP->wp P (K ⟨h'.size,0,none⟩) k Q) ->
   wp P (.alloc (Bs.inj PB zP) λA=>.check (aB (some T.p) 0) [aH T.enc]<|.check (some a) (Bs.inj PB x)<|K A) h' Q:=λ{h' K} e u=>
  fV (bs:=PB) zP (by decide) λg b o2=>sC (r.ext (e.trans b)).c0 (Pj (bs:=PB) (o.ext (e.trans b)) (u g b o2))
 have fs:∀{h':aE} {A B:Addr} {mA H:Nat},Ext h h'->h.size<=mA->h.size<=H->A.block≠B.block->Eo mA h' A zP->Eo H h' B zP ->
   wp P (.store (some A) (Bs.inj PB (Fc T.enc x bs m.toNat))<|.store (some B) (Bs.inj PB (GS T.enc x bs m.toNat))<|fin A B) h' Q:=λ{h' A B mA H} e J L F N O=>
  mJ (bs:=PB) _ N (wN _) λt o1 R=>mJ (bs:=PB) _ (Hi O R F) (wN _) λg o2 U=>
   u g A B (jE.jA (jE.jA e R (by intro z G;cases G;have:=(N.lt rfl).1;exact dI J this)) U (by intro z G;cases G;have:=(O.lt rfl).1;exact dI L this)) ((Hi o1 U F.symm).mono J) (o2.mono L)
 have w:∀{h':aE} {K:Part×Part×Unit->aK},Ext h h'->(∀k,Ext h' k->wp P (K (Fc T.enc x bs m.toNat,GS T.enc x bs m.toNat,())) k Q)->wp P (.call (dO S x T.enc m) [.agg PB, .agg PB] K) h' Q:=λ{h' K} e u=>
  aM (Vh M r.enc (q.kZ.ext e) (show bs.length<=_ from dI q.len (by decide)) h0 hm (by have:=q.tag;dsimp only at this⊢;omega)) λ⟨(X:Part),(Y:Part),_⟩ g b ⟨D,E⟩=>by
   have D:X=_:=D;have E:Y=_:=E;subst D;subst E;exact u g b
 have st:∀{K:Part->Int->aK},wp P (K x T.enc) h Q->wp P (.load (.agg PB) (some a) λ(r:Part)=>bD (aJ (some T.p))<|bD (aJ (some T.p))<|.load (tI) (aB (some T.p) 0) λ(n:Int)=>K r n) h Q:=λu=>gJ (bs:=PB) o (Zr r u);have E0:=Ext.refl h;unfold qp;refine⟨?_,?_,?_,?_,?_,?_⟩
 .exact st (w E0 λt c=>j c λg b o2=>j (c.trans b) λC f v=>fs ((c.trans b).trans f) (by have:=c.size;omega) (by have:=c.size;have:=b.size;omega) (by have:=(o2.lt rfl).2;dsimp only at this⊢;omega) (o2.ext f) v)
 .exact st (w E0 λt c=>j c λg b o2=>j (c.trans b) λC f v=>fs ((c.trans b).trans f) (by have:=c.size;have:=b.size;omega) (by have:=c.size;omega) (by have:=(o2.lt rfl).2;dsimp only at this⊢;omega) v (o2.ext f))
 .exact st (j E0 λt c o1=>w c λg b=>j (c.trans b) λC f v=>fs ((c.trans b).trans f) (by omega) (by have:=c.size;have:=b.size;omega) (by have:h.size<t.size:=(o1.lt rfl).2;have:=b.size;show h.size≠g.size;omega) (o1.ext (b.trans f)) v)
 .exact st (j E0 λt c o1=>j c λg b o2=>w (c.trans b) λC f=>fs ((c.trans b).trans f) (by omega) (by have:=c.size;omega) (by have:=(o1.lt rfl).2;dsimp only at this⊢;omega) (o1.ext (b.trans f)) (o2.ext f))
 .exact st (j E0 λt c o1=>w c λg b=>j (c.trans b) λC f v=>fs ((c.trans b).trans f) (by have:=c.size;have:=b.size;omega) (by omega) (by have:h.size<t.size:=(o1.lt rfl).2;have:=b.size;show g.size≠h.size;omega) v (o1.ext (b.trans f)))
 .exact st (j E0 λt c o1=>j c λg b o2=>w (c.trans b) λC f=>fs ((c.trans b).trans f) (by have:=c.size;omega) (by omega) (by have:=(o1.lt rfl).2;dsimp only at this⊢;omega) (o2.ext f) (o1.ext (b.trans f)))
theorem WK{enc:Int}{ps:List Pc}{at_:Int}{i n:Nat}(f:RH enc ps at_ i n)(h0:0<=at_):(ps[i]?=none/\n=0/\ps=[]/\(cK enc ps).take at_.toNat=cK enc (ps.take i)) \/
  ∃q,ps[i]?=some q/\n<=(bC enc q.2).length/\(cK enc ps).take at_.toNat=cK enc (ps.take i)++(bC enc q.2).take n:=by
 obtain⟨f1,f2,f3,f4⟩:=f;have b:∀q,ps[i]?=some q->n<=(bC enc q.2).length->(cK enc ps).take at_.toNat=cK enc (ps.take i)++(bC enc q.2).take n:=λq c m=>by
  have g:cK enc ps=cK enc (ps.take i)++(bC enc q.2++cK enc (ps.drop (i+1))):=by
   have j:=Hw (enc:=enc) c;rw[<-eC,<-j];unfold cK;rw[<-hQ,eX]
  have k:at_.toNat=(cK enc (ps.take i)).length+n:=by omega
  rw[k,g,Jp,iF (by omega),Bj,Aa m]
 by_cases h:0<at_
 .obtain⟨q,c,o,e⟩:=f4 h
  exact .inr ⟨q,c,e,b q c e⟩
 .obtain⟨rfl,rfl⟩:=f3 (by omega)
  cases ps with
  |nil=>exact .inl ⟨rfl,rfl,rfl,by simp[cK]⟩
  |cons q ps=>exact .inr ⟨q,rfl,cS _,b q rfl (cS _)⟩
theorem Vg(M:jM P S){n:Nat}{T:TX}{at_:Int}(r:eM S n h T)(h0:0<=at_)(h1:at_<=(cK T.enc T.cur.ps).length) :
  aS P (uR S (some T.p) at_) [.agg SB] h λ(x:oO×Unit) _=>x.1=qN ((cK T.enc T.cur.ps).take at_.toNat):=by
 unfold uR aS;have hf:=r.cur.Xx r.Bp.2;have O:=B1 S T.Z (P:=P);refine fV (bs:=SB) zS (by decide) λha ea oa=>?_;have ra:=r.ext ea;refine aM (PJ ra h0 h1) λ⟨(i':Int),(m':Int),_⟩ h2 e2 ⟨i,m,hi,hm,f⟩=>?_;have hi:i'=i:=hi;have hm:m'=m:=hm;subst hi;subst hm;dsimp only;have E:=ra.ext e2;have a9:T.cur.ps.length<=1099511627776:=by
  have hlen:T.cur.t.list.length=T.cur.ps.length:=by rw[r.cur.ls,cD]
  have h1:=qF O T.cur.t.list;have h2:=dI h1 hf.2;rw[<-hlen];exact h2
 have a4:=f.1;refine tX E (aM (R:=λ(x:oO×Unit) _=>x.1=I6 (T.cur.t.list.take ((i:Int)).toNat)) (Vf O E.cur.nd E.cur.wf (E.cur.room E.Bp.2)) λ⟨(s:oO),_⟩ G e3 H=>?_);have H:s=qN (cK T.enc (T.cur.ps.take i)):=by
  have H:s=_:=H;rw[H,cN,r.cur.ls,<-DP,UL λq u=>r.cur.Cf q (rG u)]
 subst H;dsimp only;refine Hs (bs:=SB) (z:=zS) (qN (cK T.enc (T.cur.ps.take i))) (by decide) (Ee _) λh4 L o4=>?_;have g:=(E.ext e3).ext L;have w:∀q,q∈T.cur.ps->cA q.2:=r.cur.bytes;refine eN (λt K h'=>t=0/\K=[]/\Ext G h'/\cC G.size 1 h' ⟨some ⟨G.size,0,none⟩,5,5⟩ (Bs.inj SB (qN ((cK T.enc T.cur.ps).take at_.toNat)))) ?_ ?_
 .rcases WK f h0 with⟨u,rfl,ao,J⟩|⟨q,u,hn,J⟩
  .refine tX g (aM (R:=λ(y:Part×Bool×Unit) _=>y.1=zP/\y.2.1=false) (TO O g.cur.nd (rH (g.cur.room g.Bp.2)) (by omega) (.inr ?_)) λ⟨(y:Part),(ok:Bool),_⟩ h5 k ⟨W,c⟩=>?_)
   .have:T.cur.t.list=[]:=by rw[r.cur.ls,ao];rfl
    show((List.length T.cur.t.list:Nat):Int)<=_;rw[this];simp
   .have c:ok=false:=c
    subst c;dsimp only;refine fV (bs:=PB) zP (by decide) λh6 N o6=>mJ (bs:=PB) y o6 (wN _) λV o7 Y=>lI (aC ⟨rfl,rfl,?_,?_⟩)
    .exact jE.jA ((L.trans k).trans N) Y (by intro x C;cases C;have:=L.size;have:=k.size;dsimp only;omega)
    .rw[J]
     exact Hi ((o4.ext k).ext N) Y (by have:G.size<h4.size:=(o4.lt rfl).2;have:=k.size;show h5.size≠G.size;omega)
  .have C:T.cur.t.list[((i:Int)).toNat]?=some q.1:=by rw[cN,r.cur.ls,fX,u];rfl
   refine tX g (aM (R:=λ(y:Part×Bool×Unit) _=>y.1=q.1/\y.2.1=true) (jg O g.cur.nd g.cur.wf (rH (g.cur.room g.Bp.2)) (by omega) C) λ⟨(y:Part),(ok:Bool),_⟩ h5 k ⟨W,c⟩=>?_);have c:ok=true:=c;have W:y=q.1:=W;subst c;subst W;dsimp only;refine fV (bs:=PB) zP (by decide) λh6 N o6=>mJ (bs:=PB) q.1 o6 (wN _) λV o7 Y=>mI ?_;have F:Ext h4 V:=jE.jA (k.trans N) Y (by intro x C;cases C;have:=k.size;dsimp only;omega);have r7:=g.ext F;have D:=eL u;have pc:=r7.cur.Cf q D;refine eN (λt K h'=>t=0/\Ext V h'/\∃A:Addr,K=[.pointer (some A)]/\Eo V.size h' A (Fc T.enc q.1 q.2 m)) ?_ ?_
   .refine TZ M (fin:=λA B=>.ret 0 [.pointer (some A)]) r7 (x:=q.1) (bs:=q.2) pc o7 (by omega) (by omega) λh8 A B U X oB=>aC ⟨rfl,U,A,rfl,?_⟩
    rw[cN]at X;exact X
   .rintro t K h8 ⟨rfl,U,A,rfl,X⟩
    refine bK (B6 (tys:=[tP]) (some A,()) rfl ?_);dsimp only;have al:=(o4.ext F).ext U;refine gJ (bs:=SB) al (aL rfl ?_);refine⟨A.add 2,rfl,qN ((bC T.enc q.2).take m),aI.2 λj v b=>?_,?_⟩
    .rw[add_add]
     refine aI.1 X.cells _ _ ?_
     match j,b with
     |0,b=>exact b
     |1,b=>exact b
     |2,b=>exact b
     |3,b=>exact b
     |4,b=>exact b
     |j+5,b=>simp[Ty.cells,Bs.inj]at b
    .have v1:=VS.qN (xK (enc:=T.enc) (ps:=T.cur.ps.take i) λq u=>w q (rG u))
     have v2:=VS.qN ((oH (enc:=T.enc) (w q D)).take m);have a7:=GU (enc:=T.enc) T.cur.ps i;have a8:=zG (enc:=T.enc) (w q D);have:=pc.len;refine aM (XO v1 v2 (by rw[dJ];omega)) λ⟨(o:oO),_⟩ h9 e9 ho=>?_;have ho:o=_:=ho;subst ho;dsimp only;refine mJ (bs:=SB) _ (al.ext e9) (Ee _) λa3 aw a0=>aC ⟨rfl,rfl,jE.jA (((L.trans F).trans U).trans e9) a0 (by intro x C;cases C;exact bL _),?_⟩;rw[J,KU (xK λq u=>w q (rG u)) ((oH (w q D)).take m)];exact aw
 .rintro t K h5 ⟨rfl,rfl,k,o5⟩
  have ab:=(e2.trans e3).trans k;exact bK (bV (gJ (bs:=SB) o5 (yJ (bs:=SB) _ (oa.ext ab) (bL _) (ea.trans ab) (Ee _) λh' e=>⟨rfl,e,(_,()),rfl,rfl⟩)))
end
section
open Go.Sw.Any Go.Sw.Codec
open Go.Sw.Tree (iv fL jI jW nE pD kT sG kP dV lA)
variable{P:Program}{S:cG}{h:aE}{Q:Nat->bE->aE->Prop}
variable{i:Nat}{ts:List (Int×Int)}
abbrev jD:Sh:=.str (.pair (.int .i64) (.pair (.int .i64) (.pair (.list (.int .i64)) .unit)))
abbrev gY:=Int×Int×(Sl×aW)×Unit
abbrev Gr:=Sl×List gY
def aU(es:List gY):aW:=es.flatMap λe=>e.2.2.1.2
theorem DD{x:Gr}{e:gY}{j:Nat}{K:Addr->aK}(m:(Sh.list jD).ok h x)(g:x.2[j]?=some e)
  (k:∀a h',Ext h h'->h.size<=a.block->cC h.size 1 h' ⟨some a,3,3⟩ [aH e.1,aH e.2.1,dG e.2.2.1.1]->wp P (K a) h' Q) :
  wp P (bD (bN (aJ x.1.aD) (eV (j:Int) x.1.len))<|.load (.agg [.int .i64, .int .i64, .sl]) (aB x.1.aD (bB (bP (j:Int)) 3)) λ(r:Int×Int×Sl×Unit)=>
   .alloc [aH 0,aH 0, .slice none 0 0] λa=>.store (some a) [aH r.1,aH r.2.1,dG r.2.2.1] (K a)) h Q:=by
 refine QQ (e:=jD) (x:=x) m (by omega) (by simpa using g) rfl (z:=(e.1,e.2.1,e.2.2.1.1,())) rfl ?_;dsimp only;refine λelem=>?_;have b:Ext h (h.push (.cells [aH 0,aH 0, .slice none 0 0].toArray elem)):=Ext.push ..;have o1:cC h.size 1 (h.push (.cells [aH 0,aH 0, .slice none 0 0].toArray elem)) ⟨some ⟨h.size,0,none⟩,3,3⟩ [aH 0,aH 0, .slice none 0 0]:=bX rfl (by decide) (by decide);generalize h.push (.cells [aH 0,aH 0, .slice none 0 0].toArray elem)=p at b o1⊢;exact DE [aH e.1,aH e.2.1,dG e.2.2.1.1] o1 rfl (by intro v c;simp only[eJ,lU,or_false]at c;rcases c with rfl|rfl|rfl<;>rfl) λf o2 o q=>
  k _ f (jE.jA b o (by intro x n;cases n;exact bL _)) (bL _) o2
def uE(len:Int):Int->List gY->Prop
 |_,[]=>True
 |at_,e::es=>at_<=e.1/\e.1<=e.2.1/\e.2.1<=len/\uE len e.2.1 es
def dB:Int->List gY->Int
 |at_,[]=>at_
 |_,e::es=>dB e.2.1 es
theorem uE.append{len:Int}:∀{xs:List gY} {at_:Int} {f:List gY},uE len at_ (xs++f)↔uE len at_ xs/\uE len (dB at_ xs) f
 |[],at_,f=>by simp[uE,dB]
 |x::xs,at_,f=>by
  simp only[DN,uE,dB,uE.append (xs:=xs)];exact⟨λ⟨a,b,c,d,e⟩=>⟨⟨a,b,c,d⟩,e⟩,λ⟨⟨a,b,c,d⟩,e⟩=>⟨a,b,c,d,e⟩⟩
theorem zA:∀{xs:List gY} {at_:Int} {e:gY},dB at_ (xs++[e])=e.2.1
 |[],_,_=>rfl
 |x::xs,at_,e=>zA (xs:=xs)
theorem uE.at{len:Int}{es:List gY}{at_:Int}(h:uE len at_ es){i:Nat}{e:gY}(hi:es[i]?=some e):dB at_ (es.take i)<=e.1/\e.1<=e.2.1/\e.2.1<=len:=by
 have c:es=es.take i++(e::es.drop (i+1)):=by
  have b:=(eK.1 hi).1;have:=(eK.1 hi).2;rw[<-this,<-gK b,eX]
 rw[c,uE.append]at h;exact⟨h.2.1,h.2.2.1,h.2.2.2.1⟩
theorem CS{len:Int}:∀{es:List gY} {at_:Int},uE len at_ es->at_<=dB at_ es
 |[],_,_=>nJ _
 |e::es,at_,⟨a,b,_,d⟩=>by have:=CS d;simp only[dB];omega
theorem uE.take{len:Int}{es:List gY}{at_:Int}(h:uE len at_ es)(i:Nat):uE len at_ (es.take i):=by
 have b:=eX i es;rw[<-b,uE.append]at h;exact h.1
def eZ(enc:Int)(l:aW):Int:=(l.map (bU enc)).sum
theorem mY(enc:Int)(l m:aW):eZ enc (l++m)=eZ enc l+eZ enc m:=by simp[eZ]
theorem zF(enc:Int)(l:aW):0<=eZ enc l/\eZ enc l<=4*l.length:=by
 induction l with
 |nil=>simp[eZ]
 |cons a l e=>
  have b:=C3 enc a;have c:=zE enc a;have:eZ enc (a::l)=bU enc a+eZ enc l:=by simp[eZ]
  rw[this,fF];omega
def wP(ts:List (Int×Int))(es:List gY):Int:=(es.map λe=>(dF (ts.take e.2.1.toNat):Int)-dF (ts.take e.1.toNat)).sum
def jF(enc:Int)(l:aW):Prop:=∀a,a∈l->0<bU enc a
inductive KZ(enc limit:Int)(ts:List (Int×Int))(es:List gY):Int->Prop where
 |many:70000<es.length->KZ enc limit ts es 3
 |place:es.length<=70000->¬uE ts.length 0 es->KZ enc limit ts es 2
 |fit:es.length<=70000->uE ts.length 0 es->¬jF enc (aU es)->KZ enc limit ts es 11
 |full:es.length<=70000->uE ts.length 0 es->jF enc (aU es)->limit<dF ts+eZ enc (aU es)-wP ts es->KZ enc limit ts es 50
 |ok:es.length<=70000->uE ts.length 0 es->jF enc (aU es)->dF ts+eZ enc (aU es)-wP ts es<=limit->KZ enc limit ts es 0
theorem uI{es:List gY}{e:gY}(hi:es[i]?=some e):aU (es.take (i+1))=aU (es.take i)++e.2.2.1.2:=by
 rw[eG,hi];simp[aU]
theorem CX(es:List gY)(i:Nat):(aU (es.take i)).length<=(aU es).length:=by
 have:aU es=aU (es.take i)++aU (es.drop i):=by unfold aU;rw[<-hQ,eX]
 rw[this,bM];omega
theorem Ul{es:List gY}{e:gY}(hi:es[i]?=some e):wP ts (es.take (i+1))=wP ts (es.take i)+((dF (ts.take e.2.1.toNat):Int)-dF (ts.take e.1.toNat)):=by
 rw[eG,hi];simp[wP]
theorem vZ(ts:List (Int×Int))(n:Nat):dF (ts.take n)<=dF ts:=by
 have:=iY (ts.take n) (ts.drop n);rw[eX]at this;omega
theorem YG(es:List gY) : -(dF ts:Int)*es.length<=wP ts es/\wP ts es<=dF ts*es.length:=by
 induction es with
 |nil=>simp[wP]
 |cons e es j=>
  have f:=vZ ts e.2.1.toNat;have g:=vZ ts e.1.toNat;have:wP ts (e::es)=((dF (ts.take e.2.1.toNat):Int)-dF (ts.take e.1.toNat))+wP ts es:=by simp[wP]
  rw[this,fF];have b : -(dF ts:Int)*((es.length+1:Nat):Int) = -(dF ts:Int)*es.length + -(dF ts:Int):=by push_cast;rw[Int.mul_add,Int.mul_one]
  have c:(dF ts:Int)*((es.length+1:Nat):Int)=(dF ts:Int)*es.length+(dF ts:Int):=by push_cast;rw[Int.mul_add,Int.mul_one]
  rw[b,c];omega
theorem Yb(M:jM P S){n:Nat}{T:TX}{x:Gr}(r:eM S n h T)(J:(Sh.list jD).ok h x)(c4:(aU x.2).length<=1099511627776)(b6:(dK T.cur.ps).length<=T.limit) :
  aS P (xV S (some T.p) x.1) [tI] h λ(y:Int×Unit) _=>KZ T.enc T.limit (cK T.enc T.cur.ps) x.2 y.1:=by
 have m:=J.len;have b9:=J.2.1;have cg:=J.2.2.1;have hf:=r.cur.Xx r.Bp.2;have cf:=r.Bp;have ao:=(FB (enc:=T.enc) r.cur.bytes).2;unfold xV aS;refine aG (λc=>aC ⟨rfl,Ext.refl _,(3,()),rfl, .many ?_⟩) λc=>?_
 .rw[dQ,aN,m]at c;omega
 rw[gC,aN,m]at c;have B:x.2.length<=70000:=by omega
 refine aM (Vd r) λ⟨(L:Int),_⟩ h1 e1 hL=>?_;have hL:L=(cK T.enc T.cur.ps).length:=by have hL:L=_:=hL;rw[hL,yE]
 subst hL;dsimp only;generalize W:cK T.enc T.cur.ps=ts at *;refine bO (λ(s:Int×Int×Unit) h'=>Ext h h'/\∃i:Nat,s.2.1=i/\i<=x.2.length/\uE ts.length 0 (x.2.take i)/\s.1=dB 0 (x.2.take i)) (λs _=>((x.2.length:Int)-s.2.1).toNat)
  (λt k h'=>Ext h h'/\((t=2/\k=[]/\uE ts.length 0 x.2)\/(t=1/\k=[aH 2]/\¬uE ts.length 0 x.2))) ⟨e1,0,rfl,cS _,trivial,rfl⟩ ?_ ?_
 .rintro⟨(at_:Int),i',u⟩ h2 ⟨D,i,hi,a0,N,ha⟩
  dsimp only at hi ha⊢;subst hi;subst ha;refine aG (λc=>?_) λc=>?_
  .rw[aV,aN,m]at c
   obtain⟨e,f⟩:∃e,x.2[i]?=some e:=⟨x.2[i]'(by omega),cM (by omega)⟩;refine DD (J.ext D) f λa h3 e3 _ o3=>?_;have l0:∀{K:Int->aK} {Q:Nat->bE->aE->Prop} {h'},Ext h3 h'->wp P (K e.1) h' Q->wp P (.load (tI) (aB (some a) 0) K) h' Q:=λq H=>aX (b:=bI) _ e.1 rfl (aI.1 (o3.ext q).cells 0 _ rfl) H;have l1:∀{K:Int->aK} {Q:Nat->bE->aE->Prop} {h'},Ext h3 h'->wp P (K e.2.1) h' Q->wp P (.load (tI) (aB (some a) 1) K) h' Q:=λq H=>aX (b:=bI) _ e.2.1 rfl (aI.1 (o3.ext q).cells 1 _ rfl) H;have F:x.2.take (i+1)=x.2.take i++[e]:=by rw[eG,f];rfl
   refine bW (¬(dB 0 (x.2.take i)<=e.1/\e.1<=e.2.1/\e.2.1<=ts.length)) ?_ λbb h4 w hb=>aG (λc=>?_) λc=>?_
   .refine l0 (Ext.refl _) (aG (λc=>aC ⟨rfl,Ext.refl _,true,rfl,?_⟩) λc=>l1 (Ext.refl _) (l0 (Ext.refl _) (aG (λo=>aC ⟨rfl,Ext.refl _,true,rfl,?_⟩) λo=>l1 (Ext.refl _) (aC ⟨rfl,Ext.refl _,_,rfl,?_⟩))))
    .rw[aV]at c;exact Iff.intro (λ_=>by omega) λ_=>rfl
    .rw[aV]at o;exact Iff.intro (λ_=>by omega) λ_=>rfl
    .rw[aZ]at c o;rw[dQ];omega
   .refine aC ⟨λh=>absurd h (by decide),λ_=>⟨(D.trans e3).trans w, .inr ⟨rfl,rfl,λv=>hb.1 c (v.at f)⟩⟩⟩
   .have al:dB 0 (x.2.take i)<=e.1/\e.1<=e.2.1/\e.2.1<=ts.length:=by
     by_cases hx:dB 0 (x.2.take i)<=e.1/\e.1<=e.2.1/\e.2.1<=ts.length
     .exact hx
     .rw[hb.2 hx]at c;cases c
    refine l1 w ?_;rw[bG (a:=(i:Int)) (by omega) (by omega)];refine aC ⟨λ_=>⟨(e.2.1,(i:Int)+1,()),rfl,⟨(D.trans e3).trans w,i+1,rfl,by omega,?_,?_⟩,by dsimp only;omega⟩,λh=>absurd rfl h⟩
    .rw[F,uE.append];exact⟨N,al.1,al.2.1,al.2.2,trivial⟩
    .rw[F,zA]
  .rw[aZ,aN,m]at c
   rw[iF (by omega)]at N;exact aC ⟨λh=>absurd h (by decide),λ_=>⟨D, .inl ⟨rfl,rfl,N⟩⟩⟩
 rintro t k h2 ⟨D,⟨rfl,rfl,v⟩|⟨rfl,rfl,b4⟩⟩
 .refine bK (bV (aM (GY (r.ext D)) λ⟨(sz:Int),_⟩ h3 e3 V=>?_))
  have V:sz=(dK T.cur.ps).length:=V;rw[<-ao]at V b6;subst V;dsimp only;have bo:=D.trans e3;refine bO (λ(s:Int×Int×Unit) h'=>Ext h h'/\∃i:Nat,s.2.1=i/\i<=x.2.length/\jF T.enc (aU (x.2.take i))/\s.1=dF ts+eZ T.enc (aU (x.2.take i))) (λs _=>((x.2.length:Int)-s.2.1).toNat)
   (λt k h'=>Ext h h'/\((t=4/\k=[aH (dF ts+eZ T.enc (aU x.2))]/\jF T.enc (aU x.2))\/(t=1/\k=[aH 11]/\¬jF T.enc (aU x.2)))) ⟨bo,0,rfl,cS _,(λa ha=>by simp[aU]at ha),by simp[aU,eZ]⟩ ?_ ?_
  .rintro⟨(bs:Int),i',u⟩ h4 ⟨w,i,hi,a0,N,ha⟩
   dsimp only at hi ha⊢;subst hi;subst ha;refine aG (λc=>?_) λc=>?_
   .rw[aV,aN,m]at c
    obtain⟨e,f⟩:∃e,x.2[i]?=some e:=⟨x.2[i]'(by omega),cM (by omega)⟩;refine DD (J.ext w) f λa h5 z _ o5=>?_;have ab:kB .i64 h e.2.2.1.1 e.2.2.1.2:=Sh.kZ (J.el f).2.2.1;have a3:=ab.len;have bp:=w.trans z;have C:=uI f;have a9:=CX x.2 (i+1);rw[C,bM]at a9;have a7:∀a,a∈e.2.2.1.2->a∈aU x.2:=λa ha=>by
     unfold aU;exact Kd.2 ⟨e,eL f,ha⟩
    refine aX (b:=.sl) _ e.2.2.1.1 rfl (aI.1 o5.cells 2 _ rfl) ?_;refine bO (λ(s:Int×Int×Unit) h'=>Ext h h'/\∃j:Nat,s.2.1=j/\j<=e.2.2.1.2.length/\jF T.enc (e.2.2.1.2.take j)/\s.1=dF ts+eZ T.enc (aU (x.2.take i))+eZ T.enc (e.2.2.1.2.take j)) (λs _=>((e.2.2.1.2.length:Int)-s.2.1).toNat)
     (λt k h'=>Ext h h'/\((t=6/\k=[aH (dF ts+eZ T.enc (aU (x.2.take i))+eZ T.enc e.2.2.1.2)]/\jF T.enc e.2.2.1.2)\/(t=1/\k=[aH 11]/\¬jF T.enc e.2.2.1.2))) ⟨bp,0,rfl,cS _,(λa ha=>by simp at ha),by simp[eZ]⟩ ?_ ?_
    .rintro⟨(bs:Int),j',u⟩ Y ⟨g,j,hj,c6,O,hb⟩
     dsimp only at hj hb⊢;subst hj;subst hb;have ct:=zF T.enc (aU (x.2.take i));have bd:=zF T.enc (e.2.2.1.2.take j);rw[dJ]at bd;refine aG (λo=>?_) λo=>?_
     .rw[aV,aN,a3]at o
      have G:j<e.2.2.1.2.length:=by omega
      refine qM (ab.ext g) (by omega) (by omega) λcc=>Zr (r.ext g) ?_;rw[show((j:Int)).toNat=j by omega];have b0:e.2.2.1.2.getD j 0=e.2.2.1.2[j]:=by rw[gF,cM G];rfl
      rw[b0];refine aM (Codec.GY M.ua T.enc (e.2.2.1.2[j])) λ⟨(sz:Int),_⟩ h7 X hs=>?_;have hs:sz=bU T.enc (e.2.2.1.2[j]):=hs;subst hs;have cr:=C3 T.enc (e.2.2.1.2[j]);have cd:=zE T.enc (e.2.2.1.2[j]);dsimp only;refine aG (λhz=>?_) λhz=>?_
      .rw[cJ]at hz
       refine aC ⟨λh=>absurd h (by decide),λ_=>⟨g.trans X, .inr ⟨rfl,rfl,λA=>?_⟩⟩⟩;have:=A _ (Cp G);omega
      .rw[dM]at hz
       have F:e.2.2.1.2.take (j+1)=e.2.2.1.2.take j++[e.2.2.1.2[j]]:=by rw[eG,cM G];rfl
       have ba:eZ T.enc [e.2.2.1.2[j]]=bU T.enc (e.2.2.1.2[j]):=by simp[eZ]
       rw[bG (a:=(j:Int)) (by omega) (by omega),bG (by omega) (by omega)];refine aC ⟨λ_=>⟨(_,(j:Int)+1,()),rfl,⟨g.trans X,j+1,rfl,by omega,?_,?_⟩,by dsimp only;omega⟩,λh=>absurd rfl h⟩
       .rw[F]
        intro a ha;rcases dD.1 ha with ha|ha
        .exact O a ha
        .rw[dE.1 ha];omega
       .dsimp only;rw[F,mY,ba];omega
     .rw[aZ,aN,a3]at o
      have b8:e.2.2.1.2.take j=e.2.2.1.2:=iF (by omega);rw[b8]at O⊢;exact aC ⟨λh=>absurd h (by decide),λ_=>⟨g, .inl ⟨rfl,rfl,O⟩⟩⟩
    .rintro t k Y ⟨g,⟨rfl,rfl,O⟩|⟨rfl,rfl,O⟩⟩
     .refine bK (gZ ?_)
      rw[bG (a:=(i:Int)) (by omega) (by omega)];refine aC ⟨λ_=>⟨(_,(i:Int)+1,()),rfl,⟨g,i+1,rfl,by omega,?_,?_⟩,by dsimp only;omega⟩,λh=>absurd rfl h⟩
      .rw[C]
       intro a ha;exact(dD.1 ha).elim (N a) (O a)
      .dsimp only;rw[C,mY];omega
     .refine pY (by decide) (bK (gZ (aC ⟨λh=>absurd h (by decide),λ_=>⟨g, .inr ⟨rfl,rfl,λA=>O λa ha=>A a (a7 a ha)⟩⟩⟩)))
   .rw[aZ,aN,m]at c
    rw[iF (by omega)]at N⊢;exact aC ⟨λh=>absurd h (by decide),λ_=>⟨w, .inl ⟨rfl,rfl,N⟩⟩⟩
  .rintro t k h4 ⟨w,⟨rfl,rfl,A⟩|⟨rfl,rfl,b3⟩⟩
   .refine bK (gZ ?_)
    have cx:=zF T.enc (aU x.2);refine bO (λ(s:Int×Int×Unit) h'=>Ext h h'/\∃i:Nat,s.2.1=i/\i<=x.2.length/\s.1=dF ts+eZ T.enc (aU x.2)-wP ts (x.2.take i)) (λs _=>((x.2.length:Int)-s.2.1).toNat)
     (λt k h'=>Ext h h'/\t=8/\k=[aH (dF ts+eZ T.enc (aU x.2)-wP ts x.2)]) ⟨w,0,rfl,cS _,by simp[wP]⟩ ?_ ?_
    .rintro⟨(bs:Int),i',u⟩ h5 ⟨z,i,hi,a0,ha⟩
     dsimp only at hi ha⊢;subst hi;subst ha;refine aG (λc=>?_) λc=>?_
     .rw[aV,aN,m]at c
      obtain⟨e,f⟩:∃e,x.2[i]?=some e:=⟨x.2[i]'(by omega),cM (by omega)⟩;have c8:=v.at f;have c7:=CS (v.take i);have hg:=YG (ts:=ts) (x.2.take i);have c5:(dF ts:Int)*((x.2.take i).length:Nat)<=65536*70000:=Int.mul_le_mul (by omega) (by rw[dJ];omega) (by omega) (by decide);have a8 : -(dF ts:Int)*((x.2.take i).length:Nat) = -((dF ts:Int)*((x.2.take i).length:Nat)):=Int.neg_mul ..;rw[a8]at hg;have aw:=Ul (ts:=ts) f;refine iO (tys:=[tI]) (λ(y:Int×Unit) _=>y.1=dF ts+eZ T.enc (aU x.2)-wP ts (x.2.take (i+1))) ?_ λ⟨(y:Int),_⟩ Y g hy=>?_
      .refine DD (J.ext z) f λa Y g _ o6=>?_
       have l0:∀{K:Int->aK} {Q:Nat->bE->aE->Prop} {h'},Ext Y h'->wp P (K e.1) h' Q->wp P (.load (tI) (aB (some a) 0) K) h' Q:=λq H=>aX (b:=bI) _ e.1 rfl (aI.1 (o6.ext q).cells 0 _ rfl) H;have l1:∀{K:Int->aK} {Q:Nat->bE->aE->Prop} {h'},Ext Y h'->wp P (K e.2.1) h' Q->wp P (.load (tI) (aB (some a) 1) K) h' Q:=λq H=>aX (b:=bI) _ e.2.1 rfl (aI.1 (o6.ext q).cells 1 _ rfl) H;have E:=Ext.refl Y;have r6:=r.ext (z.trans g);refine l1 E (l0 E (aG (λo=>?_) λo=>?_))
       .rw[dQ]at o
        refine l1 E (l0 E (aM (Vg M r6 (at_:=e.2.1) (by omega) (by rw[W];omega)) λ⟨(s1:oO),_⟩ h7 X R=>sC (q:=a) (j:=0) (aI.1 (o6.ext X).cells 0 _ rfl) (aM (Vg M (r6.ext X) (at_:=e.1) (by omega) (by rw[W];omega)) λ⟨(s2:oO),_⟩ h8 e8 U=>?_)));have R:s1=_:=R;have U:s2=_:=U;rw[W]at R U;have a4:S1 ts:=by rw[<-W];exact xK r.cur.bytes
        have b1:s1.2.1=dF (ts.take e.2.1.toNat):=by rw[R];exact(DJ (a4.take _)).2
        have b2:s2.2.1=dF (ts.take e.1.toNat):=by rw[U];exact(DJ (a4.take _)).2
        have k1:=vZ ts e.2.1.toNat;have k2:=vZ ts e.1.toNat;dsimp only;rw[b1,b2,cY (a:=((dF (ts.take e.2.1.toNat):Nat):Int)) (by omega) (by omega),cY (by omega) (by omega)];exact aC ⟨rfl,(g.trans X).trans e8,(_,()),rfl,by show _=_;rw[aw];omega⟩
       .rw[gC]at o
        have bt:e.1=e.2.1:=by omega
        exact aC ⟨rfl,g,(_,()),rfl,by show _=_;rw[aw,bt];omega⟩
      .have hy:y=_:=hy
       subst hy;dsimp only;rw[bG (a:=(i:Int)) (by omega) (by omega)];exact aC ⟨λ_=>⟨(_,(i:Int)+1,()),rfl,⟨z.trans g,i+1,rfl,by omega,rfl⟩,by dsimp only;omega⟩,λh=>absurd rfl h⟩
     .rw[aZ,aN,m]at c
      rw[iF (by omega)];exact aC ⟨λh=>absurd h (by decide),λ_=>⟨z,rfl,rfl⟩⟩
    .rintro t k h5 ⟨z,rfl,rfl⟩
     refine bK (gZ (aL rfl (aL rfl (aX (b:=bI) _ T.limit rfl (r.ext z).c1 (aG (λc=>?_) λc=>?_)))))
     .rw[dQ]at c
      exact aC ⟨rfl,z,(50,()),rfl, .full B v A c⟩
     .rw[gC]at c
      exact aC ⟨rfl,z,(0,()),rfl, .ok B v A c⟩
   .exact pY (by decide) (bK (gZ (aC ⟨rfl,w,(11,()),rfl, .fit B v b3⟩)))
 .exact pY (by decide) (bK (gZ (aC ⟨rfl,D,(2,()),rfl, .place B b4⟩)))
end
section
open Go.Sw.Any Go.Sw.Codec
open Go.Sw.Tree (iv fL jI jW nE pD kT sG kP dV lA)
variable{P:Program}{S:cG}{h:aE}{Q:Nat->bE->aE->Prop}
variable{l:aW}
theorem UJ{enc:Int}(he:eE enc)(hb:cA l)(e:0<l.length):0<bU enc (eH enc l).1/\(eH enc l).2=bU enc (eH enc l).1/\cW enc (eH enc l).1=l.take (eH enc l).2.toNat:=by
 obtain⟨b,c⟩:=WL he hb e;have f:=oJ b;have g:=iW (enc:=enc) e hb;rw[c,dJ]at f;exact⟨b,by omega,c⟩
theorem VX{enc:Int}(he:eE enc)(hb:cA l):(∀t,t∈bC enc l->0<bU enc t.1/\t.2=bU enc t.1)/\(bC enc l).flatMap (λt=>cW enc t.1)=l:=by
 refine FU (enc:=enc) (M:=λl=>(∀t,t∈bC enc l->0<bU enc t.1/\t.2=bU enc t.1)/\(bC enc l).flatMap (λt=>cW enc t.1)=l) (λl c=>?_) (λl hb b e=>?_) l hb
 .rw[lT c];exact⟨λt ht=>(by cases ht),(Ab c).symm⟩
 .obtain⟨f,g,j⟩:=UJ he hb b
  rw[jJ hb b];refine⟨λt ht=>?_,?_⟩
  .rcases eJ.1 ht with rfl|ht
   .exact⟨f,g⟩
   .exact e.1 t ht
  .rw[fY,e.2,j,eX]
abbrev tk(enc a:Int):Int×Int:=(a,bU enc a)
theorem Pr{enc:Int}(he:eE enc):∀{l:aW},(∀a,a∈l->0<bU enc a/\iD a)->bC enc (l.flatMap (cW enc))=l.map (tk enc)
 |[],_=>lT rfl
 |a::l,h=>by
  have ha:=h a (cX ..);have f:=λx c=>h x (dZ _ c);have b:=TN (enc:=enc) (l:=l) λx c=>(f x c).1;have e:=PY he ha.1 ha.2 b;have hlen:=oJ ha.1;rw[fY,jJ (HS (FV ha.1) b) (by rw[bM];omega),e];dsimp only;rw[LW (by omega),Pr he f];rfl
theorem ZM{enc a:Int}(he:eE enc)(g:0<bU enc a)(k:¬iD a):bC enc (cW enc a)=[tk enc a]:=by
 have hb:=FV g;have hlen:=oJ g;have hu:=(gW enc a).1 g;have e:eH enc (cW enc a)=(a,bU enc a):=by
  unfold iD at k;rcases rA he with rfl|f|f|rfl
  .have ha : -256<=a/\a <= -129:=by omega
   have b:cW 1 a=[-1-a]:=by unfold cW;rw[if_pos (by omega)]
   have c:bU 1 a=1:=by rw[b]at hlen;exact hlen.symm
   rw[b]at hb⊢;unfold eH;rw[if_pos rfl,LC hb (by simp) λm o p hm n=>?_,c]
   .simp;omega
   .have j:m=1:=by simp at hm;omega
    subst j;have h0:=hb.at 0;have:=(JV (x1:=0) (x2:=0) (x3:=0) h0.1 h0.2 1 (by decide)).1 n;simp[pQ]at this;omega
  .subst f
   by_cases h0:a<0
   .have b:cW 2 a=[-1-a]:=by unfold cW;rw[if_pos h0]
    have c:bU 2 a=1:=by rw[b]at hlen;exact hlen.symm
    rw[b,c];unfold eH gB;simp;omega
   .have b:cW 2 a=[a % 256,a / 256]:=by unfold cW fM;rw[if_neg h0,if_neg (by decide),if_neg (by decide),if_neg (by omega),if_pos rfl]
    have c:bU 2 a=2:=by rw[b]at hlen;exact hlen.symm
    rw[b,c];unfold eH gB cB;simp;omega
  .subst f
   by_cases h0:a<0
   .have b:cW 3 a=[-1-a]:=by unfold cW;rw[if_pos h0]
    have c:bU 3 a=1:=by rw[b]at hlen;exact hlen.symm
    rw[b,c];unfold eH gB;simp;omega
   .have b:cW 3 a=[a / 256,a % 256]:=by unfold cW fM;rw[if_neg h0,if_neg (by decide),if_neg (by decide),if_neg (by omega),if_neg (by decide)]
    have c:bU 3 a=2:=by rw[b]at hlen;exact hlen.symm
    rw[b,c];unfold eH gB cB;simp;omega
  .omega
 rw[jJ hb (by omega),e];dsimp only;rw[tY (by omega),lT rfl]
theorem Nd.mono{I:gV}{e:Nat->Prop}(b:∀i,i<h.size->I.Z i->e i):∀{t:Bt I.It} {p:OA},Nd I h p t->Nd {I with Z:=e} h p t
 |.nil,_,n=>n
 |.node l x r,p,⟨a,pl,pr,f,c,g,j⟩=>⟨a,pl,pr,f,⟨c.1,b _ (by have:=BI (aI.1 c.1 0 _ rfl);rwa [iA]at this) c.2.1,c.2.2⟩,Nd.mono b g,Nd.mono b j⟩
theorem xL{Z b:Nat->Prop}{t:Bt Part}{p:OA}(n:Nd (part S Z) h p t)(c:∀i,i<h.size->Z i->b i):Nd (part S b) h p t:=Nd.mono (I:=part S Z) c n
def jb(Z:Nat->Prop)(s:Sl)(i:Nat):Prop:=Z i\/∃b,s.aD=some b/\b.block=i
theorem YU{k:IntKind}{n:Nat}{h h':aE}{s r:Sl}{A B:aW}{x:Sl}{a b:Addr}(F:bR n k h s A)(p:bR n k h' r (A++B))(hb:s.aD=some b)(G:r.aD=some b)(f:kB k h x l)(ha:x.aD=some a)(K5:a.block=b.block)(q:a.spot=none)(E:a.off+l.length<=A.length):kB k h' x l:=by
 obtain⟨_,_,_,t⟩:=F.own;rw[hb]at t;obtain⟨e0,M,_,cs,elem,w,N,z⟩:=t;obtain⟨_,_,_,g⟩:=p.own;rw[G]at g;obtain⟨_,_,_,H,u,j,J,m⟩:=g;refine⟨⟨f.rd.1,λi v hi=>?_⟩,f.cap,f.max,f.wf⟩;obtain⟨K,ea,c⟩:=f.rd.2 i v hi;rw[ha]at ea;cases ea;refine⟨a,ha,?_⟩;have o:=(eK.1 hi).1;rw[cD]at o;obtain⟨L,e,sp⟩:=a;dsimp only at K5 q E;subst q;subst K5;rw[pA]at c⊢;unfold Sw.cell at c⊢;dsimp only at c⊢;rw[w]at c;rw[j];have C:=z (e+i) (.int k (A.getD (e+i) 0)) (by rw[fX,cM (by omega)];simp[List.getD,cM (show e+i<A.length by omega)]);have D:=m (e+i) (.int k (A.getD (e+i) 0)) (by rw[fX,lV (by omega),cM (by omega)];simp[List.getD,cM (show e+i<A.length by omega)]);simp at c⊢;rw[C]at c;rw[D];exact c
theorem ZL{n:Nat}{T:TX}{B:aW}{r:Sl}{h1 j:aE}(t:eM S n h T)(hn:n<=h.size)(hB:0<B.length)(o1:bR n .u8 h1 r (T.A++B))(v:jE T.ad h h1)(H:∀a,r.aD=some a->T.ad.aD=some a\/h.size<=a.block)(c1:r.aD=T.ad.aD\/Ext h h1)
  (o2:cC n 1 j ⟨some T.p,4,4⟩ [aH T.enc,aH T.limit, .pointer T.cur.root,dG r]) (w:jE ⟨some T.p,4,4⟩ h1 j):eM S n j {T with ad:=r,A:=T.A++B,Z:=jb T.Z r}/\∀q,AH h T q->AH j {T with ad:=r,A:=T.A++B,Z:=jb T.Z r} q:=by
 have O:T.p.block<h.size:=(t.lo _ t.zp).2;have C:∀b,r.aD=some b->b.block≠T.p.block:=λb hb=>by
  rcases H b hb with g|g
  .exact t.Z0 b g
  .omega
 have L:∀{q},AH h T q->AH j {T with ad:=r,A:=T.A++B,Z:=jb T.Z r} q:=λ{q} f=>by
  have D:∀a,q.1.1.aD=some a->a.block<h.size:=λa ha=>(t.lo _ (f.Ml a ha).1).2;have U:kB .u8 h1 q.1.1 q.2:=by
   rcases c1 with E|E
   .cases ha:q.1.1.aD with
    |none=>exact f.kZ.blocks λa g=>by rw[ha]at g;cases g
    |some a=>
     cases hb:T.ad.aD with
     |none=>exact f.kZ.blocks λa g o=>v.2.1 _ o λb k=>by rw[hb]at k;cases k
     |some b=>
      by_cases K5:a.block=b.block
      .obtain⟨_,_,R⟩:=f.Ml a ha
       obtain⟨G,K⟩:=R b hb K5;exact YU t.ad o1 hb (E.trans hb) f.kZ ha K5 G K
      .exact f.kZ.blocks λY g o=>v.2.1 _ o λM k=>by rw[ha]at g;cases g;rw[hb]at k;cases k;exact λe=>K5 e.symm
   .exact f.kZ.ext E
  refine⟨U.blocks λa ha o=>w.2.1 _ o λb hb=>by cases hb;exact λe=>(f.Ml a ha).2.1 e.symm,f.ne,f.is,f.tag,f.len,λa ha=>⟨.inl (f.Ml a ha).1,(f.Ml a ha).2.1,λb hb K5=>?_⟩⟩;rcases H b hb with g|g
  .obtain⟨G,K⟩:=(f.Ml a ha).2.2 b g K5
   refine⟨G,?_⟩;show _<=(T.A++B).length;rw[bM];omega
  .have:=D a ha;omega
 have nd:∀{s},K1 S h T s->Nd (part S (jb T.Z r)) j s.root s.t:=λ{s} m=>by
  have V:Nd (part S T.Z) h1 s.root s.t:=m.nd.US v λb hb=>by
   have N:=t.ph b hb;have o:kB .u8 h T.ad T.A:=t.ad.kZ;obtain⟨M,e,c⟩:=o.rd.at (i:=0) N;rw[hb]at e;cases e;obtain⟨_,_,_,u⟩:=t.ad.own;rw[hb]at u;obtain⟨bb,bo,X⟩:=b;have e0:=u.1;have z:=u.2.1;dsimp only at e0 z;subst e0;subst z;rw[add_zero']at c;exact⟨_,_,c⟩
  have W:Nd (part S T.Z) j s.root s.t:=V.US w λb hb=>by
   cases hb;obtain⟨_,_,_,u⟩:=t.ob;have c:=aI.1 (t.ob.cells) 0 _ rfl;have c1:Sw.cell h1 (T.p.add 0)=some (aH T.enc):=by
    rw[yC (h:=h) (by rw[iA];exact v.2.1 _ O λb hb=>t.Z0 b hb)];exact c
   rw[add_zero']at c1;obtain⟨e0,z,_⟩:=u;have J:(⟨T.p.block,0,none⟩:Addr)=T.p:=by
    show(⟨T.p.block,0,none⟩:Addr)=⟨T.p.block,T.p.off,T.p.spot⟩;rw[e0,z]
   rw[J];exact⟨_,_,c1⟩
  exact xL W λi _ hi=>.inl hi
 have st:∀{s},K1 S h T s->K1 S j {T with ad:=r,A:=T.A++B,Z:=jb T.Z r} s:=λ{s} m=>⟨nd m,m.ls,λq F=>L (m.Cf q F),m.small⟩;refine⟨⟨t.enc,t.Bp,o2,?_,C,λb hb=>by show 0<(T.A++B).length;rw[bM];omega,st t.cur,λs m=>st (t.kept s m), .inl t.zp,λb hb=>.inr ⟨b,hb,rfl⟩,λi hi=>?_⟩,λq F=>L F⟩
 .exact o1.GV w λa b ha hb=>by cases hb;exact λe=>C a ha e.symm
 .rcases hi with hi|⟨b,hb,rfl⟩
  .have:=t.lo i hi;have:=v.1;have:=w.1;omega
  .have:=(o1.own.lt hb);have:=w.1;omega
end
section
open Go.Sw.Any Go.Sw.Codec
open Go.Sw.Tree (iv fL jI jW nE pD kT sG kP dV lA)
variable{P:Program}{S:cG}{h:aE}{Q:Nat->bE->aE->Prop}
variable{a1 a2 a5 a6:Addr}{d:Nat}{h':aE}
def cP(l:List Part):bE:=l.flatMap λr=>Bs.inj PB r
theorem FW(l m:List Part):cP (l++m)=cP l++cP m:=by simp[cP]
theorem PG(x:Part):cP [x]=Bs.inj PB x:=by simp[cP]
theorem jf(l:List Part):(cP l).length=l.length*7:=by
 induction l with
 |nil=>rfl
 |cons x l b=>unfold cP at b⊢;rw[fY,bM,b,kG,fF];simp;omega
theorem Vb(l:List Part):∀v,v∈cP l->flat v=true:=λv b=>by
 obtain⟨x,_,c⟩:=Kd.1 b;exact wN x v c
abbrev yT(n:Nat)(h:aE)(s:Sl)(l:List Part):Prop:=cC n 7 h s (cP l)
theorem yT.len{n:Nat}{s:Sl}{l:List Part}(o:yT n h s l):s.len=l.length:=by
 have:=o.1;rw[jf]at this;omega
structure FG where
 ad:Sl
 A:aW
 Z:Nat->Prop
 qs:List Pc
 ps:Sl
 uM:aW
def TX.at_(T:TX)(g:FG):TX:={T with ad:=g.ad,A:=g.A,Z:=g.Z}
structure U0(S:cG)(n:Nat)(T:TX)(m:Nat)(a1 a2 a5 a6:Addr)(done:aW)(h:aE)(g:FG):Prop where
 t:eM S n h (T.at_ g)
 o1:cC m 1 h ⟨some a1,1,1⟩ [.pointer (some T.p)]
 o2:cC m 1 h ⟨some a2,1,1⟩ [dG g.ps]
 o5:cC m 1 h ⟨some a5,1,1⟩ [aH (g.A.length-(g.uM.flatMap (cW T.enc)).length:Nat)]
 o6:cC m 1 h ⟨some a6,1,1⟩ [aH g.uM.length]
 op:yT m h g.ps (g.qs.map (·.1))
 dj:a1.block≠a2.block/\a1.block≠a5.block/\a1.block≠a6.block/\a2.block≠a5.block/\a2.block≠a6.block/\a5.block≠a6.block
 pd:∀b,g.ps.aD=some b->b.block≠a1.block/\b.block≠a2.block/\b.block≠a5.block/\b.block≠a6.block/\¬g.Z b.block
 zd:¬g.Z a1.block/\¬g.Z a2.block/\¬g.Z a5.block/\¬g.Z a6.block
 zn:∀i,g.Z i->T.Z i\/m<=i
 Cf:∀q,q∈g.qs->AH h (T.at_ g) q/\q.1.2.1 = -1
 all:g.A=T.A++done.flatMap (cW T.enc)
 put:dK g.qs++g.uM.flatMap (cW T.enc)=done.flatMap (cW T.enc)
 oi:cK T.enc g.qs++g.uM.map (tk T.enc)=done.map (tk T.enc)
 fits:∀a,a∈done->0<bU T.enc a
 Xx:g.uM.length<=128
theorem U0.ZC{n m:Nat}{T:TX}{done:aW}{g:FG}(f:U0 S n T m a1 a2 a5 a6 done h g):(g.uM.flatMap (cW T.enc)).length<=g.A.length:=by
 rw[f.all,bM,<-f.put,bM];omega
theorem U0.drop{n m:Nat}{T:TX}{a1 a2 a5 a6:Addr}{done:aW}{g:FG}(f:U0 S n T m a1 a2 a5 a6 done h g):g.A.drop (g.A.length-(g.uM.flatMap (cW T.enc)).length)=g.uM.flatMap (cW T.enc):=by
 have b:g.A=(T.A++dK g.qs)++g.uM.flatMap (cW T.enc):=by rw[f.all,<-f.put,eC]
 have c:g.A.length-(g.uM.flatMap (cW T.enc)).length=(T.A++dK g.qs).length:=by
  have:=congrArg List.length b;rw[bM (bs:=g.uM.flatMap _)]at this;omega
 rw[c];conv=>lhs;rw[b]
 rw[LW rfl]
theorem U0.VU{n m:Nat}{T:TX}{done:aW}{g:FG}(f:U0 S n T m a1 a2 a5 a6 done h g):∀a,a∈g.uM->0<bU T.enc a:=λa ha=>by
 have c:tk T.enc a∈done.map (tk T.enc):=by rw[<-f.oi];exact pZ _ (dC.2 ⟨a,ha,rfl⟩)
 obtain⟨b,hb,e⟩:=dC.1 c;have:b=a:=congrArg Prod.fst e;rw[<-this];exact f.fits b hb
theorem U0.ext{n m:Nat}{T:TX}{a1 a2 a5 a6:Addr}{done:aW}{g:FG}{h':aE}(f:U0 S n T m a1 a2 a5 a6 done h g)(e:Ext h h'):U0 S n T m a1 a2 a5 a6 done h' g:=
 {f with t:=f.t.ext e,o1:=f.o1.ext e,o2:=f.o2.ext e,o5:=f.o5.ext e,o6:=f.o6.ext e,op:=f.op.ext e,Cf:=λq b=>⟨(f.Cf q b).1.oQ (aY.bH (F:=λ_=>False) e) λ_ _ x=>x,(f.Cf q b).2⟩}
theorem Hl{enc:Int}{l:aW}(b:∀a,a∈l->0<bU enc a):l.length<=(l.flatMap (cW enc)).length/\(l.flatMap (cW enc)).length<=4*l.length:=by
 induction l with
 |nil=>simp
 |cons a l e=>
  have f:=e λx c=>b x (dZ _ c);have g:=oJ (b a (cX ..));have j:=zE enc a;have k:=b a (cX ..);rw[fY,bM,fF];omega
theorem qK{n size c:Nat}{s:Sl}{b:Addr}{vs:bE}(o:cC n size h s vs)(u:jE ⟨some b,c,d⟩ h h')(e:∀a,s.aD=some a->b.block≠a.block):cC n size h' s vs:=
 o.aP λx f=>u.2.1 _ (o.lt f).2 λy g=>by cases g;exact e x f
theorem pH{c:Nat}{b:Addr}(u:jE ⟨some b,c,d⟩ h h'):aY (λi=>i=b.block) h h':=aY.dP u λx e _=>by cases e;rfl
theorem Ua(M:jM P S){n m:Nat}{T:TX}{done:aW}{g:FG}{K:Unit->aK}(f:U0 S n T m a1 a2 a5 a6 done h g)(hm:m<=h.size)(W:bC T.enc (g.uM.flatMap (cW T.enc))=g.uM.map (tk T.enc))
  (hd:done.length<=1099511627776) (hA:g.A.length<=1099511627776)
  (w:∀h' g',gG m h h'->U0 S n T m a1 a2 a5 a6 done h' g'->g'.uM=[]->g'.Z=g.Z->g'.ad=g.ad->wp P (K ()) h' Q):wp P (.call (lL S (some a1) (some a5) (some a2) (some a6)) [] K) h Q:=by
 have he:eE T.enc:=f.t.enc;have hle:=f.ZC;have hlen:g.ad.len=g.A.length:=f.t.ad.len;have cc:=Hl f.VU;show wp P (lL S (some a1) (some a5) (some a2) (some a6)) h _;unfold lL;have c1:Sw.cell h (a1.add 0)=some (.pointer (some T.p)):=aI.1 f.o1.cells 0 _ rfl;have c2:∀{h'},Ext h h'->Sw.cell h' (a2.add 0)=some (dG g.ps):=λe=>aI.1 (f.o2.ext e).cells 0 _ rfl;have c5:Sw.cell h (a5.add 0)=some (aH (g.A.length-(g.uM.flatMap (cW T.enc)).length:Nat)):=aI.1 f.o5.cells 0 _ rfl;rw[add_zero']at c1 c5;have lp:∀{K:OA->aK} {Q:Nat->bE->aE->Prop},wp P (K (some T.p)) h Q->wp P (.load (tP) (some a1) K) h Q:=λw=>aX (b:=.ptr) a1 (some T.p) rfl c1 w;have ao:∀{K:Sl->aK} {Q:Nat->bE->aE->Prop},wp P (K g.ad) h Q->wp P (bD (aJ (some T.p))<|bD (aJ (some T.p))<|.load (tS) (aB (some T.p) 3) K) h Q:=λw=>aL rfl (aL rfl (aX (b:=.sl) (T.p.add 3) g.ad rfl f.t.c3 w));have aw:∀{K:Int->aK} {Q:Nat->bE->aE->Prop},wp P (K ((g.A.length-(g.uM.flatMap (cW T.enc)).length:Nat):Int)) h Q->wp P (.load (tI) (some a5) K) h Q:=λw=>aX (b:=bI) a5 _ rfl c5 w;have l2:∀{K:Sl->aK} {Q:Nat->bE->aE->Prop},wp P (K g.ps) h Q->wp P (.load (tS) (some a2) K) h Q:=λw=>aX (b:=.sl) a2 g.ps rfl (by have:=c2 (Ext.refl h);rwa [add_zero']at this) w;refine lp (ao (aw (aG (λhc=>?_) λhc=>aC ⟨rfl,(),rfl,?_⟩)))
 .rw[dQ,aN,hlen]at hc
  have V:0<(g.uM.flatMap (cW T.enc)).length:=by omega
  generalize a9:g.A.length-(g.uM.flatMap (cW T.enc)).length=fr at *;have H:=f.drop;rw[a9]at H;have X:bP (aQ g.ad.len)=g.A.length:=by rw[aN,eR,hlen];omega
  have a4:bP ((fr:Nat):Int)=fr:=by rw[eR];omega
  have b2:g.ad.len<=g.ad.cap:=f.t.ad.kZ.cap;have b4:g.ad.cap<2^63:=f.t.ad.kZ.max;refine l2 (lp (aL rfl (aL rfl (aX (b:=bI) (T.p.add 0) T.enc rfl f.t.c0 (lp (ao (aw (sD (fD.2 ⟨iQ (by rw[aN];omega) (by rw[aN];omega),fD.2 ⟨iQ (by rw[aN];omega) (by rw[X,aN];omega),iQ (by omega) (by rw[X];omega)⟩⟩) ?_))))))));rw[X,a4];have ba:kB .u8 h ⟨g.ad.aD,g.A.length,g.A.length⟩ g.A:=by
   have:=(show bR n .u8 h g.ad g.A from f.t.ad).kZ.take (n:=g.A.length) (m:=g.A.length) (bL _) (bL _) (by omega);rw[iF (bL _)]at this;exact this
  have J:=ba.tail (i:=fr) (by omega);dsimp only at J;rw[H]at J;refine aM (FX M he (tag:=Int.negSucc 0) J (by omega)) λ⟨(y:Part),_⟩ h1 e1 G=>?_;have G:y=_:=G;rw[W]at G;dsimp only;have ck:∀{h'} {K:aK} {Q:Nat->bE->aE->Prop},Ext h h'->wp P K h' Q->wp P (.check (some a2) [dG g.ps] K) h' Q:=λe w=>Bd rfl (aI.2 λj v hj=>by
   cases j with
   |zero=>simp at hj;subst hj;exact c2 e
   |succ j=>simp at hj) w
  refine ck e1 (fV (bs:=PB) y (by decide) λC e2 o2=>ck (e1.trans e2) ?_);have D:=e1.trans e2;have f2:=f.ext D;have a7:Rd 7 C ⟨some ⟨h1.size,0,none⟩,1,1⟩ (cP [y]):=by
   rw[PG];exact⟨by simp[Bs.inj],λi v hi=>⟨_,rfl,aI.1 o2.cells i v hi⟩⟩
  have b9:g.qs.length<=done.length:=by
   have h1:=congrArg List.length f.oi;rw[bM,cD,cD]at h1;have:∀qs:List Pc,(∀q,q∈qs->AH h (T.at_ g) q)->qs.length<=(cK T.enc qs).length:=λqs=>by
    induction qs with
    |nil=>intro _;exact bL _
    |cons q qs ih=>
     intro B;have E:=ih λx u=>B x (dZ _ u);have h4:=B q (cX ..);have h5:=(zG (enc:=T.enc) h4.bytes).2.1 h4.ne;unfold cK at E⊢;rw[fY,bM,fF];omega
   have:=this g.qs λq B=>(f.Cf q B).1;omega
  have bb:=yT.len f2.op;rw[cD]at bb;refine Gh f2.op (by have:=D.size;omega) a7 (Vb _) rfl (by show(g.ps.len+1)*64<=_;omega) (by show g.ps.len+1<_;omega) λr E a3 b3 u3 d3=>?_;rw[<-FW]at a3;have k3:gG m h E:=gG.trans (D.aP hm) (jE.aP f2.op (by have:=D.size;omega) u3);have a8:=f2.t.lo;have s3:∀i,i<C.size->(∀b,g.ps.aD=some b->b.block≠i)->E[i]?=C[i]? := u3.2.1;have O:aY (λi=>∃b,g.ps.aD=some b/\b.block=i) C E:=aY.dP u3 λx u _=>⟨x,u,rfl⟩;have t3:eM S n E (T.at_ g):=f2.t.oQ O λi hi ⟨b,hb,e⟩=>(f2.pd b hb).2.2.2.2 (e ▸ hi);have k1:∀{c:Addr} {vs:bE},cC m 1 C ⟨some c,1,1⟩ vs->(∀b,g.ps.aD=some b->b.block≠c.block)->cC m 1 E ⟨some c,1,1⟩ vs:=λo V=>O.own o λx u ⟨b,hb,e⟩=>by cases u;exact V b hb e
  have bd:=k1 f2.o1 λb hb=>(f2.pd b hb).1;have bo:=k1 f2.o2 λb hb=>(f2.pd b hb).2.1;have bt:=k1 f2.o5 λb hb=>(f2.pd b hb).2.2.1;have b0:=k1 f2.o6 λb hb=>(f2.pd b hb).2.2.2.1;obtain⟨d1,d2,d4,d5,d6,d7⟩:=f.dj;have L:∀b,r.aD=some b->b.block≠a1.block/\b.block≠a2.block/\b.block≠a5.block/\b.block≠a6.block/\¬g.Z b.block:=λb hb=>by
   rcases d3 b hb with u|u
   .exact f2.pd b u
   .have q1:=(f2.o1.lt rfl).2;have q2:=(f2.o2.lt rfl).2;have q5:=(f2.o5.lt rfl).2;have q6:=(f2.o6.lt rfl).2
    replace q1:a1.block<C.size:=q1;replace q2:a2.block<C.size:=q2;replace q5:a5.block<C.size:=q5;replace q6:a6.block<C.size:=q6;exact⟨by omega,by omega,by omega,by omega,λhz=>by have:b.block<C.size:=(a8 _ hz).2;omega⟩
  refine fL [dG r] bo rfl (by intro v Y;rw[dE.1 Y];rfl) λh4 bp u4=>fL [aH (aQ g.ad.len)] (qK bt u4 λa ha=>by cases ha;exact d5) rfl (by intro v Y;rw[dE.1 Y];rfl) λh5 a0 u5=>fL [aH 0] (qK (qK b0 u4 λa ha=>by cases ha;exact d6) u5 λa ha=>by cases ha;exact d7) rfl (by intro v Y;rw[dE.1 Y];rfl) λR b1 u6=>aC ⟨rfl,(),rfl,?_⟩;have z:aY (λi=>i=a2.block\/i=a5.block\/i=a6.block) E R:=((pH u4).mono λi _ e=>.inl e).trans (((pH u5).mono λi _ e=>.inr (.inl e)).trans ((pH u6).mono λi _ e=>.inr (.inr e)) λi _ x=>x) λi _ x=>x;have ma:m<=a2.block/\m<=a5.block/\m<=a6.block:=⟨(f.o2.lt rfl).1,(f.o5.lt rfl).1,(f.o6.lt rfl).1⟩;obtain⟨z1,z2,z5,z6⟩:=f.zd;have t6:eM S n R (T.at_ g):=t3.oQ z λi hi e=>by rcases e with rfl|rfl|rfl<;>first|exact z2 hi|exact z5 hi|exact z6 hi
  have N:aY (λi=>¬g.Z i) h R:=((aY.bH (F:=λi=>¬g.Z i) D).trans (O.mono λi _ ⟨b,hb,e⟩ hz=>(f2.pd b hb).2.2.2.2 (e ▸ hz)) λi _ x=>x).trans (z.mono λi _ e hi=>by rcases e with rfl|rfl|rfl<;>first|exact z2 hi|exact z5 hi|exact z6 hi) λi _ x=>x;refine w R {g with qs:=g.qs++[(y,g.uM.flatMap (cW T.enc))],ps:=r,uM:=[]} (gG.trans k3 (z.aP (by have:=k3.1;omega) λi hi e=>by rcases e with rfl|rfl|rfl<;>omega)) ⟨t6,?_,?_,?_,b1,?_,f.dj,L,f.zd,f.zn,?_,f.all,?_,?_,f.fits,by simp⟩ rfl rfl rfl
  .exact z.own bd λx u e=>by cases u;rcases e with e|e|e<;>first|exact d1 e|exact d2 e|exact d4 e
  .exact qK (qK bp u5 λa ha=>by cases ha;exact d5.symm) u6 λa ha=>by cases ha;exact d6.symm
  .have:aQ g.ad.len=((g.A.length-(([]:aW).flatMap (cW T.enc)).length:Nat):Int):=by rw[aN,hlen];simp
   rw[this]at a0;exact qK a0 u6 λa ha=>by cases ha;exact d7.symm
  .rw[dL]
   exact z.own a3 λx u e=>by rcases e with e|e|e<;>first|exact(L x u).2.1 e|exact(L x u).2.2.1 e|exact(L x u).2.2.2.1 e
  .intro q B
   rcases dD.1 B with B|B
   .exact⟨(f.Cf q B).1.oQ N λi hi hn=>hn hi,(f.Cf q B).2⟩
   .rw[dE.1 B]
    have ab:∃b,g.ad.aD=some b:=by
     cases hb:g.ad.aD with
     |some b=>exact⟨b,rfl⟩
     |none=>
      obtain⟨_,b8,_,k⟩:=f.t.ad.own;have k:match g.ad.aD with|none=>g.ad.cap=0|some a=>_:=k
      rw[hb]at k;have k:g.ad.cap=0:=k;omega
    obtain⟨b,hb⟩:=ab;have al:b.off=0/\b.spot=none:=by
     obtain⟨_,_,_,k⟩:=f.t.ad.own;have k:match g.ad.aD with|none=>g.ad.cap=0|some a=>a.off=0/\a.spot=none/\_:=k
     rw[hb]at k;exact⟨k.1,k.2.1⟩
    have U:bF g.ad.aD g.A.length fr 1=some (b.add fr):=by
     unfold bF;rw[if_neg (by omega),hb];simp
    refine⟨⟨?_,V,?_,?_,?_,λa ha=>?_⟩,by rw[G];rfl⟩
    .rw[G]
     have:(WY (⟨bF g.ad.aD g.A.length fr 1,cV g.A.length fr,cV g.A.length fr⟩) (Int.negSucc 0) (List.map (tk T.enc) g.uM)).1=⟨bF g.ad.aD g.A.length fr 1,cV g.A.length fr,cV g.A.length fr⟩:=rfl;show kB .u8 R (WY _ _ _).1 _;rw[this];refine N.kZ J λx u hn=>hn ?_;rw[U]at u;cases u;rw[iA];exact f.t.za b hb
    .show y=WY y.1 y.2.1 (bC T.enc _)
     rw[G,W];rfl
    .rw[G];have:=f.Xx;show(-1:Int)<=Int.negSucc 0/\Int.negSucc 0+((g.uM.flatMap (cW T.enc)).length:Nat)<=65536;omega
    .have:=f.Xx
     show(g.uM.flatMap (cW T.enc)).length<=_;omega
    .have ha:bF g.ad.aD g.A.length fr 1=some a:=by rw[G]at ha;exact ha
     rw[U]at ha;cases ha;refine⟨by rw[iA];exact f.t.za b hb,by rw[iA];exact f.t.Z0 b hb,λb' b6 _=>?_⟩;refine⟨Mh al.2 _,?_⟩;rw[U6,al.1];show 0+fr+(g.uM.flatMap (cW T.enc)).length<=g.A.length;omega
  .have:dK (g.qs++[(y,g.uM.flatMap (cW T.enc))])=dK g.qs++g.uM.flatMap (cW T.enc):=by simp[dK]
   rw[this,<-f.put];simp
  .have:cK T.enc (g.qs++[(y,g.uM.flatMap (cW T.enc))])=cK T.enc g.qs++g.uM.map (tk T.enc):=by rw[<-W];simp[cK]
   rw[this,<-f.oi];simp
 .rw[gC,aN,hlen]at hc
  have h0:(g.uM.flatMap (cW T.enc)).length=0:=by omega
  have hs:g.uM=[]:=Ab (by omega);exact w h g (gG.refl _ _) f hs rfl rfl
end
section
open Go.Sw.Any Go.Sw.Codec
open Go.Sw.Tree (iv fL jI jW nE pD kT sG kP dV lA)
variable{P:Program}{S:cG}{h:aE}{Q:Nat->bE->aE->Prop}
def rF(T:TX)(i:Nat):Prop:=i=T.p.block\/∃b,T.ad.aD=some b/\b.block=i
theorem Jb{n:Nat}{T:TX}(t:eM S n h T){i:Nat}(hi:rF T i):T.Z i:=by
 rcases hi with rfl|⟨b,hb,rfl⟩
 .exact t.zp
 .exact t.za b hb
structure ZZ(S:cG)(n:Nat)(T:TX)(h0:aE)(a1 a2 a5 a6:Addr)(done:aW)(h:aE)(g:FG):Prop where
 f:U0 S n T h0.size a1 a2 a5 a6 done h g
 c:aY (rF T) h0 h
 zm:∀i,T.Z i->g.Z i
 adc:∀b,g.ad.aD=some b->T.ad.aD=some b\/h0.size<=b.block
theorem ZZ.ext{n:Nat}{T:TX}{h0 h':aE}{a1 a2 a5 a6:Addr}{done:aW}{g:FG}(j:ZZ S n T h0 a1 a2 a5 a6 done h g)(e:Ext h h'):ZZ S n T h0 a1 a2 a5 a6 done h' g:=⟨j.f.ext e,j.c.ext e,j.zm,j.adc⟩
theorem ju(M:jM P S){n:Nat}{T:TX}{h0:aE}{a1 a2 a5 a6:Addr}{done:aW}{g:FG}{a:Int}{K:aK}(j:ZZ S n T h0 a1 a2 a5 a6 done h g)(hn:n<=h0.size)(hf:0<bU T.enc a)(a9:cR .i64 a)(hA:g.A.length+4<=1099511627780)(b9:g.uM.length<128)
  (hk:∀h' B,ZZ S n T h0 a1 a2 a5 a6 (done++[a]) h' B->B.uM=g.uM++[a]->B.A.length<=g.A.length+4->wp P K h' Q) :
  wp P (.load (tP) (some a1) λ(D:OA)=>bD (aJ D)<|bD (aJ D)<|.load (tI) (aB D 0) λ(a0:Int)=>
   .alloc [aH a] λ(al:Addr)=>.call (qS S a0 ⟨some al,1,1⟩) [tS, tI, tI] λ(a4:Sl×Int×Int×Unit)=>
   .load (tP) (some a1) λ(C:OA)=>.load (tP) (some a1) λ(E:OA)=>bD (aJ E)<|bD (aJ E)<|.load (tS) (aB E 3) λ(ao:Sl)=>
   .append 1 1 [.int .u8 0] ao a4.1 λ(aw:Sl)=>.check (some a1) [.pointer C]<|bD (aJ C)<|bD (aJ C)<|.store (aB C 3) [dG aw]<|
   .load (tI) (some a6) λ(a3:Int)=>.store (some a6) [aH (aT .i64 a3 1)] K) h Q:=by
 have f:=j.f;have he:eE T.enc:=f.t.enc;have hlen:=oJ hf;have O:=zE T.enc a;have lp:∀{h'} {K:OA->aK} {Q:Nat->bE->aE->Prop},Ext h h'->wp P (K (some T.p)) h' Q->wp P (.load (tP) (some a1) K) h' Q:=λe hk=>aX (b:=.ptr) a1 (some T.p) rfl (by have:=aI.1 (f.o1.ext e).cells 0 _ rfl;rwa [add_zero']at this) hk;refine lp (Ext.refl h) (aL rfl (aL rfl (aX (b:=bI) (T.p.add 0) T.enc rfl f.t.c0 ?_)));refine jG (k:=.i64) [a] (by intro x m;rw[dE.1 m];exact a9) (by simp) λh1 e1 o1=>?_;refine aM (XR M o1.kZ (by simp)) λ⟨(y:Sl),(at_:Int),(er:Int),_⟩ u e2 w=>?_;obtain⟨oy,_,_⟩:=Z9.fits he (by intro b hb;rw[dE.1 hb];exact hf) w;have oy:bR h1.size .u8 u y (cW T.enc a):=by simpa using oy
 dsimp only;have z:=e1.trans e2;have f2:=f.ext z;refine lp z (lp z (aL rfl (aL rfl (aX (b:=.sl) (T.p.add 3) g.ad rfl f2.t.c3 ?_))));have X:n<=u.size:=dI hn (dI j.c.1 z.size);refine uJ (show bR n .u8 u g.ad g.A from f2.t.ad) X oy.kZ (by omega) (by omega) λr N k3 o3 u3 b3 c3=>?_;have lo:=f2.t.lo;have bb:∀c:Addr,¬g.Z c.block->∀b,g.ad.aD=some b->b.block≠c.block:=λc V b hb e=>V (e ▸ f2.t.za b hb);obtain⟨z1,z2,z5,z6⟩:=f.zd;obtain⟨d1,d2,d4,d5,d6,d7⟩:=f.dj;have G:aY (λi=>∃b,g.ad.aD=some b/\b.block=i) u N:=aY.dP u3 λx m _=>⟨x,m,rfl⟩;have k1:∀{c:Addr} {vs:bE},cC h0.size 1 u ⟨some c,1,1⟩ vs->¬g.Z c.block->cC h0.size 1 N ⟨some c,1,1⟩ vs:=λo ba=>G.own o λx m ⟨b,hb,e⟩=>by cases m;exact bb _ ba b hb e
 have Y:=k1 f2.o1 z1;have bo:=k1 f2.o2 z2;have bt:=k1 f2.o5 z5;have b1:=k1 f2.o6 z6;have cc:T.p.block<u.size:=(lo _ f2.t.zp).2;have b4:cC n 1 N ⟨some T.p,4,4⟩ [aH T.enc,aH T.limit, .pointer T.cur.root,dG g.ad]:=G.own (show cC n 1 u ⟨some T.p,4,4⟩ [aH T.enc,aH T.limit, .pointer T.cur.root,dG g.ad] from f2.t.ob) λx m ⟨b,hb,e⟩=>by cases m;exact f2.t.Z0 b hb e
 refine Bd rfl (aI.2 λi v hi=>by
  cases i with
  |zero=>simp at hi;subst hi;exact aI.1 Y.cells 0 _ rfl
  |succ i=>simp at hi) (aL rfl (aL rfl (eW (dG r) b4 (by simp) rfl λO o4 J=>?_)))
 have o4:cC n 1 O ⟨some T.p,4,4⟩ [aH T.enc,aH T.limit, .pointer T.cur.root,dG r]:=o4;obtain⟨t4,b6⟩:=ZL f2.t X (by omega) o3 u3 b3 c3 o4 J;have zp:∀c:Addr,¬g.Z c.block->T.p.block≠c.block:=λc V e=>V (e ▸ f.t.zp);have bd:=qK Y J λx m=>by cases m;exact zp _ z1
 have bp:=qK bo J λx m=>by cases m;exact zp _ z2
 have b0:=qK bt J λx m=>by cases m;exact zp _ z5
 have ab:=qK b1 J λx m=>by cases m;exact zp _ z6
 have b8:=f.Xx;refine aX (b:=bI) a6 _ rfl (by have:=aI.1 ab.cells 0 _ rfl;rwa [add_zero']at this) ?_;rw[bG (by omega) (by omega)];refine fL [aH ((g.uM.length:Int)+1)] ab rfl (by intro v hv;rw[dE.1 hv];rfl) λU b2 W=>?_;have rz:∀b,r.aD=some b->g.Z b.block\/u.size<=b.block:=λb hb=>(b3 b hb).imp (λm=>f2.t.za b m) id;have old:∀c:Addr,c.block<u.size->¬g.Z c.block->¬jb g.Z r c.block:=λc V hz m=>by
  rcases m with m|⟨b,hb,e⟩
  .exact hz m
  .rcases rz b hb with w|w
   .exact hz (e ▸ w)
   .omega
 have q1:a1.block<u.size:=(f2.o1.lt rfl).2;have q2:a2.block<u.size:=(f2.o2.lt rfl).2;have q5:a5.block<u.size:=(f2.o5.lt rfl).2;have q6:a6.block<u.size:=(f2.o6.lt rfl).2;have R:=old a6 q6 z6;have H:aY (λi=>i=a6.block) O U:=pH W
 let B:FG:={ad:=r,A:=g.A++cW T.enc a,Z:=jb g.Z r,qs:=g.qs,ps:=g.ps,uM:=g.uM++[a]}
 have t5:eM S n U (T.at_ B):=t4.oQ H λi hi e=>R (e ▸ hi);have cd:=f.ZC;have L:aY (λi=>i=T.p.block) N O:=pH J;refine hk U B ⟨⟨t5,?_,?_,?_,?_,?_,f.dj,λb hb=>?_,⟨old _ q1 z1,old _ q2 z2,old _ q5 z5,R⟩,λi hi=>?_,λq hq=>?_,?_,?_,?_,?_,?_⟩,?_,λi hi=>.inl (j.zm i hi),λb hb=>?_⟩ rfl (by show(g.A++cW T.enc a).length<=_;rw[bM];omega)
 .exact qK bd W λx m=>by cases m;exact d4.symm
 .exact qK bp W λx m=>by cases m;exact d6.symm
 .have:((B.A.length-(B.uM.flatMap (cW T.enc)).length:Nat))=g.A.length-(g.uM.flatMap (cW T.enc)).length:=by
   show(g.A++cW T.enc a).length-((g.uM++[a]).flatMap (cW T.enc)).length=_;rw[hQ,bM,bM];simp;omega
  rw[this];exact qK b0 W λx m=>by cases m;exact d7.symm
 .have:((B.uM.length:Nat):Int)=(g.uM.length:Int)+1:=by show(((g.uM++[a]).length:Nat):Int)=_;rw[bM];simp
  rw[this];exact b2
 .have p3:yT h0.size N g.ps (g.qs.map (·.1)):=G.own f2.op λx m ⟨b,hb,e⟩=>(f2.pd x m).2.2.2.2 (e ▸ f2.t.za b hb)
  have p4:yT h0.size O g.ps (g.qs.map (·.1)):=L.own p3 λx m e=>(f2.pd x m).2.2.2.2 (e ▸ f2.t.zp);exact H.own p4 λx m e=>(f2.pd x m).2.2.2.1 e
 .obtain⟨w1,w2,w3,w4,w5⟩:=f2.pd b hb
  have a8:b.block<u.size:=(f2.op.lt hb).2;exact⟨w1,w2,w3,w4,old b a8 w5⟩
 .rcases hi with hi|⟨b,hb,rfl⟩
  .exact f.zn i hi
  .rcases rz b hb with w|w
   .exact f.zn _ w
   .have:=j.c.1;have:=z.size;right;omega
 .have:=b6 q ((f.Cf q hq).1.oQ (aY.bH (F:=λ_=>False) z) λ_ _ x=>x)
  exact⟨AH.oQ this H λi hi e=>R (e ▸ hi),(f.Cf q hq).2⟩
 .show g.A++cW T.enc a=_
  rw[f.all,hQ,eC];simp
 .show dK g.qs++(g.uM++[a]).flatMap (cW T.enc)=_
  rw[hQ,hQ,<-f.put,eC]
 .show cK T.enc g.qs++(g.uM++[a]).map (tk T.enc)=_
  rw[dL,dL,<-f.oi,eC]
 .intro b hb
  rcases dD.1 hb with hb|hb
  .exact f.fits b hb
  .rw[dE.1 hb];exact hf
 .show(g.uM++[a]).length<=128;rw[bM];simp;omega
 .have a7:aY (λi=>(∃b,g.ad.aD=some b/\b.block=i)\/i=T.p.block\/i=a6.block) u U:=(G.mono λi _ e=>.inl e).trans ((L.mono λi _ e=>.inr (.inl e)).trans (H.mono λi _ e=>.inr (.inr e)) λi _ x=>x) λi _ x=>x
  refine(j.c.ext z).trans a7 λi hi m=>?_;rcases m with⟨b,hb,rfl⟩|rfl|rfl
  .rcases j.adc b hb with w|w
   .exact .inr ⟨b,w,rfl⟩
   .omega
  .exact .inl rfl
  .have:h0.size<=a6.block:=(f.o6.lt rfl).1;omega
 .rcases b3 b hb with w|w
  .exact j.adc b w
  .have:=j.c.1;have:=z.size;right;omega
structure iy(S:cG)(n:Nat)(T:TX)(h0:aE)(l:aW)(h:aE)(g:FG):Prop where
 t:eM S n h (T.at_ g)
 op:yT h0.size h g.ps (g.qs.map (·.1))
 pd:∀b,g.ps.aD=some b->¬g.Z b.block
 zn:∀i,g.Z i->T.Z i\/h0.size<=i
 zm:∀i,T.Z i->g.Z i
 Cf:∀q,q∈g.qs->AH h (T.at_ g) q/\q.1.2.1 = -1
 all:g.A=T.A++l.flatMap (cW T.enc)
 put:dK g.qs=l.flatMap (cW T.enc)
 oi:cK T.enc g.qs=l.map (tk T.enc)
 adc:∀b,g.ad.aD=some b->T.ad.aD=some b\/h0.size<=b.block
theorem bm(M:jM P S){n:Nat}{T:TX}{put:Sl}{l:aW}(t:eM S n h T)(hn:n<=h.size)(hp:kB .i64 h put l)(hf:∀a,a∈l->0<bU T.enc a)(hA:T.A.length+4*l.length<=1099511627776)
  (E:l≠[]->∀a,put.aD=some a->¬T.Z a.block) :
  wp P (Aj S (some T.p) put) h λtg z h'=>tg=0/\aY (rF T) h h'/\∃g:FG,z=[dG g.ps]/\iy S n T h l h' g:=by
 unfold Aj;have B:=hp.len;refine λU=>?_;have e1:Ext h (h.push (.cells [Value.pointer (some T.p)].toArray U)):=Ext.push ..;have o1:cC h.size 1 (h.push (.cells [Value.pointer (some T.p)].toArray U)) ⟨some ⟨h.size,0,none⟩,1,1⟩ [.pointer (some T.p)]:=bX rfl (by decide) (by decide);have y1:(h.push (.cells [Value.pointer (some T.p)].toArray U)).size=h.size+1:=by simp
 generalize h.push (.cells [Value.pointer (some T.p)].toArray U)=m at e1 o1 y1⊢;refine λV=>?_;have e2:Ext m (m.push (.cells [Value.slice none 0 0].toArray V)):=Ext.push ..;have o2:cC m.size 1 (m.push (.cells [Value.slice none 0 0].toArray V)) ⟨some ⟨m.size,0,none⟩,1,1⟩ [.slice none 0 0]:=bX rfl (by decide) (by decide);have y2:(m.push (.cells [Value.slice none 0 0].toArray V)).size=m.size+1:=by simp
 generalize m.push (.cells [Value.slice none 0 0].toArray V)=o at e2 o2 y2⊢;have t2:=t.ext (e1.trans e2);refine aX (b:=.ptr) ⟨h.size,0,none⟩ (some T.p) rfl (by have:=aI.1 (o1.ext e2).cells 0 _ rfl;rwa [add_zero']at this) (aL rfl (aL rfl (aX (b:=.sl) (T.p.add 3) T.ad rfl t2.c3 ?_)));have b9:T.ad.len=T.A.length:=t.ad.len;refine λW=>?_;have e3:Ext o (o.push (.cells [aH 0].toArray W)):=Ext.push ..;have o3:cC o.size 1 (o.push (.cells [aH 0].toArray W)) ⟨some ⟨o.size,0,none⟩,1,1⟩ [aH 0]:=bX rfl (by decide) (by decide);have y3:(o.push (.cells [aH 0].toArray W)).size=o.size+1:=by simp
 generalize o.push (.cells [aH 0].toArray W)=h3 at e3 o3 y3⊢;refine fL [aH (aQ T.ad.len)] o3 rfl (by intro v hv;rw[dE.1 hv];rfl) λw o4 u4=>?_;have a9:Ext o w:=jE.jA e3 u4 (by intro x e;cases e;exact bL _);have y4:h3.size<=w.size:=u4.1;refine λao=>?_;have e5:Ext w (w.push (.cells [aH 0].toArray ao)):=Ext.push ..;have o5:cC w.size 1 (w.push (.cells [aH 0].toArray ao)) ⟨some ⟨w.size,0,none⟩,1,1⟩ [aH 0]:=bX rfl (by decide) (by decide);generalize w.push (.cells [aH 0].toArray ao)=h5 at e5 o5⊢;refine fL [aH 0] o5 rfl (by intro v hv;rw[dE.1 hv];rfl) λh6 o6 u6=>?_;have al:Ext w h6:=jE.jA e5 u6 (by intro x e;cases e;exact bL _);have a8:Ext h h6:=((e1.trans e2).trans a9).trans al;have ba:Ext o h6:=a9.trans al;have lo:=t.lo;have J0:ZZ S n T h ⟨h.size,0,none⟩ ⟨m.size,0,none⟩ ⟨o.size,0,none⟩ ⟨w.size,0,none⟩ [] h6 {ad:=T.ad,A:=T.A,Z:=T.Z,qs:=[],ps:=⟨none,0,0⟩,uM:=[]}:=by
  refine⟨⟨t.ext a8,o1.ext (e2.trans ba),(o2.ext ba).mono (by omega),?_,o6.mono (by omega),⟨by simp[cP],by simp,(by decide:0<2^63),rfl⟩,⟨by dsimp only;omega,by dsimp only;omega,by dsimp only;omega,by dsimp only;omega,by dsimp only;omega,by dsimp only;omega⟩,λb hb=>(by cases hb),⟨λE=>by have:h.size<h.size:=(lo _ E).2;omega,λE=>by have:m.size<h.size:=(lo _ E).2;omega,λE=>by have:o.size<h.size:=(lo _ E).2;omega,λE=>by have:w.size<h.size:=(lo _ E).2;omega⟩,λi hi=>.inl hi,λq hq=>(by cases hq),by simp,by simp[dK],by simp[cK],λa ha=>(by cases ha),by simp⟩,aY.bH a8,λi hi=>hi,λb hb=>.inl hb⟩;have:((T.A.length-(([]:aW).flatMap (cW T.enc)).length:Nat):Int)=aQ T.ad.len:=by rw[aN,b9];simp
  show cC h.size 1 h6 _ [aH _];rw[this];exact(o4.mono (by omega)).ext al
 have c7:(⟨h.size,0,none⟩:Addr).block=h.size:=rfl;generalize(⟨h.size,0,none⟩:Addr)=A1 at J0⊢;generalize(⟨m.size,0,none⟩:Addr)=H at J0⊢;generalize(⟨o.size,0,none⟩:Addr)=A5 at J0⊢;generalize(⟨w.size,0,none⟩:Addr)=K at J0⊢;have bp:∀{g:FG} {done:aW} {h':aE},U0 S n T h.size A1 H A5 K done h' g->(∀a,a∈g.uM->iD a)->bC T.enc (g.uM.flatMap (cW T.enc))=g.uM.map (tk T.enc):=λf O=>Pr t.enc λa ha=>⟨f.VU a ha,O a ha⟩;have D:∀{g:FG} {j:Nat} {h':aE},U0 S n T h.size A1 H A5 K (l.take j) h' g->g.A.length<=1099511627776:=λ{g j h'} f=>by
  have m:=(Hl (enc:=T.enc) (l:=l.take j) λa ha=>hf a (rG ha)).2;rw[f.all,bM];rw[dJ]at m;omega
 have b0:∀{h':aE},aY (rF T) h h'->kB .i64 h' put l:=λc=>c.vk hp λcg x e hw=>E cg x e (Jb t hw);refine bO (λ(s:Int×Unit) h'=>∃(j:Nat) (g:FG),s.1=j/\j<=l.length/\ZZ S n T h A1 H A5 K (l.take j) h' g/\∀a,a∈g.uM->iD a) (λs _=>((l.length:Int)-s.1).toNat)
  (λtg z h'=>tg=2/\z=[]/\∃g,ZZ S n T h A1 H A5 K l h' g/\∀a,a∈g.uM->iD a) ⟨0,_,rfl,cS _,J0,λa ha=>(by cases ha)⟩ ?_ ?_
 .rintro⟨(i':Int),u⟩ h7 ⟨j,g,hj,c8,J,O⟩
  dsimp only at hj⊢;subst hj;refine aG (λhc=>?_) λhc=>?_
  .rw[aV,aN,B]at hc
   have N:j<l.length:=by omega
   have bt:l.take (j+1)=l.take j++[l[j]]:=by rw[eG,cM N];rfl
   have X:=hf _ (Cp N);refine eN (λtg z h'=>tg=0/\z=[]/\∃g,ZZ S n T h A1 H A5 K (l.take (j+1)) h' g/\∀a,a∈g.uM->iD a) ?_ ?_
   .refine qM (b0 J.c) (by omega) (by omega) λY=>?_
    rw[show((j:Int)).toNat=j by omega]at Y⊢;have cc:l.getD j 0=l[j]:=by rw[gF,cM N];rfl
    rw[cc]at Y⊢;generalize l[j]=a at bt X Y⊢;have hu:=(gW T.enc a).1 X;have B:(0<=a/\(a<55296\/57343<a))↔iD a:=by unfold iD;omega
    refine bW (iD a) ?_ λpl h8 e8 hb=>?_
    .refine aG (λe=>aG (λhy=>aC ⟨rfl,Ext.refl _,true,rfl,?_⟩) λhy=>aC ⟨rfl,Ext.refl _,_,rfl,?_⟩) λe=>aC ⟨rfl,Ext.refl _,false,rfl,?_⟩
     .rw[dT]at e;rw[aV]at hy;rw[<-B];exact Iff.intro (λ_=>⟨e, .inl hy⟩) λ_=>rfl
     .rw[dT]at e;rw[aZ]at hy;rw[dQ,<-B];omega
     .rw[fC]at e;rw[<-B];exact Iff.intro (λh=>by cases h) λh=>by omega
    dsimp only;have L:=J.ext e8;have b6:=D L.f;refine eN (λtg z h'=>tg=0/\z=[]/\∃g,ZZ S n T h A1 H A5 K (l.take j) h' g/\(∀a,a∈g.uM->iD a)/\g.uM.length<128/\(¬iD a->g.uM=[])) ?_ ?_
    .refine bW (¬iD a\/g.uM.length=128) ?_ λbb h9 e9 bd=>aG (λe=>?_) λe=>aC ⟨rfl,rfl,g,L.ext e9,O,?_,?_⟩
     .refine aG (λe=>aC ⟨rfl,Ext.refl _,true,rfl,?_⟩) λe=>aX (b:=bI) K _ rfl (by have:=aI.1 L.f.o6.cells 0 _ rfl;rwa [add_zero']at this) (aC ⟨rfl,Ext.refl _,_,rfl,?_⟩)
      .rw[dN]at e
       exact Iff.intro (λ_=>.inl λk=>by rw[hb.2 k]at e;cases e) λ_=>rfl
      .rw[eI]at e
       have:=hb.1 e;rw[cJ];exact⟨λh=>.inr (by omega),λh=>by rcases h with h|h;exact absurd this h;omega⟩
     .have C:=L.ext e9
      refine Ua M C.f C.c.1 (bp C.f O) (by rw[dJ];omega) b6 λb4 g' a3 f10 R b2 F=>aC ⟨rfl,rfl,g',⟨f10,?_,?_,?_⟩,?_,?_,λ_=>R⟩
      .exact C.c.trans (G:=λi=>h.size<=i) ⟨a3.1,λi hi hn=>a3.2.1 i (by omega),a3.2.2⟩ λi hi hg=>by omega
      .rw[b2];exact C.zm
      .rw[F];exact C.adc
      .rw[R];intro a ha;cases ha
      .rw[R];simp
     .have:=L.f.Xx
      have:¬g.uM.length=128:=λk=>by rw[bd.2 (.inr k)]at e;cases e
      omega
     .intro k;rw[bd.2 (.inl k)]at e;cases e
    rintro tg z h9 ⟨rfl,rfl,g9,C,cr,cd,cf⟩;refine bK (bV ?_);have c6:=D C.f;refine ju M C hn X Y (by omega) cd λb4 aw r a0 c4=>?_;rw[<-bt]at r;refine aG (λe=>?_) λe=>aC ⟨rfl,rfl,aw,r,?_⟩
    .rw[dN]at e
     have bo:¬iD a:=λk=>by rw[hb.2 k]at e;cases e
     have a7:bC T.enc (aw.uM.flatMap (cW T.enc))=aw.uM.map (tk T.enc):=by
      rw[a0,cf bo];have:=ZM t.enc X bo;simpa using this
     refine Ua M r.f r.c.1 a7 (by rw[dJ];omega) (D r.f) λc5 g' a4 f11 b1 b3 F=>aC ⟨rfl,rfl,g',⟨f11,?_,?_,?_⟩,?_⟩
     .exact r.c.trans (G:=λi=>h.size<=i) ⟨a4.1,λi hi hn=>a4.2.1 i (by omega),a4.2.2⟩ λi hi hg=>by omega
     .rw[b3];exact r.zm
     .rw[F];exact r.adc
     .rw[b1];intro a ha;cases ha
    .rw[eI]at e
     have ct:=hb.1 e;rw[a0];intro b hb;rcases dD.1 hb with hb|hb
     .exact cr b hb
     .rw[dE.1 hb];exact ct
   .rintro tg z h8 ⟨rfl,rfl,g8,L,ab⟩
    refine bK (bV ?_);rw[bG (by omega) (by omega)];exact aC ⟨λ_=>⟨((j:Int)+1,()),rfl,⟨j+1,g8,rfl,by omega,L,ab⟩,by dsimp only;omega⟩,λh=>absurd rfl h⟩
  .rw[aZ,aN,B]at hc
   rw[iF (by omega)]at J;exact aC ⟨λh=>absurd h (by decide),λ_=>⟨rfl,rfl,g,J,O⟩⟩
 .rintro tg z h7 ⟨rfl,rfl,g,J,O⟩
  have b8:g.A.length<=1099511627776:=D (j:=l.length) (by rw[iF (bL _)];exact J.f);refine bK (bV (Ua M J.f J.c.1 (bp J.f O) (by omega) b8 λh8 g' k8 f8 ab cx F=>?_));refine aX (b:=.sl) H g'.ps rfl (by have:=aI.1 f8.o2.cells 0 _ rfl;rwa [add_zero']at this) (aC ⟨rfl,?_,g',rfl,⟨f8.t,f8.op,λb hb=>(f8.pd b hb).2.2.2.2,f8.zn,?_,f8.Cf,f8.all,?_,?_,?_⟩⟩)
  .exact J.c.trans (G:=λi=>h.size<=i) ⟨k8.1,λi hi hn=>k8.2.1 i (by omega),k8.2.2⟩ λi hi hg=>by omega
  .rw[cx];exact J.zm
  .have:=f8.put;rw[ab]at this;simpa using this
  .have:=f8.oi;rw[ab]at this;simpa using this
  .rw[F];exact J.adc
end
end Go.Sw.Piece
