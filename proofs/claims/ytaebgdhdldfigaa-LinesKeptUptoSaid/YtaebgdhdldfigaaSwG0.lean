/-
  The tree's programs over any kind of things.
-/
import Derived.Test.YtaebgdhdldfigaaSwU5
import Derived.Test.YtaebgdhdldfigaaSwFab
import Derived.Test.YtaebgdhdldfigaaSwFcodec
import Derived.Test.YtaebgdhdldfigaaSwCC
import Derived.Test.YtaebgdhdldfigaaSwU4
import Derived.Test.YtaebgdhdldfigaaSwCD
set_option linter.unusedVariables false
set_option linter.unusedSimpArgs false
set_option maxRecDepth 100000
namespace Go.Sw.Any
structure Inst where
  iB : List B
  sB : List B
  zi : Bs.den iB
  zs : Bs.den sB
  mF : Bs.den iB → Prog
  aF : Bs.den sB → Bs.den sB → Prog
  kF : Bs.den sB → Int → Prog
  f1 : FuncId
  f2 : FuncId
  okI : Bs.den iB → Prop
  wt : Bs.den iB → Nat
  V : Nat → Bs.den sB → Prop
  meas : Bs.den iB → Bs.den sB
  add : Bs.den sB → Bs.den sB → Bs.den sB
  key : Bs.den sB → Int → Int
  Z : Nat → Prop
abbrev Inst.It (I : Inst) : Type := Bs.den I.iB
abbrev Inst.Su (I : Inst) : Type := Bs.den I.sB
def Inst.ni (I : Inst) : Nat := I.iB.length
def Inst.ns (I : Inst) : Nat := I.sB.length
def G_count (I : Inst) (n : OA) : Prog :=
 ifB (noneB n)
 (.ret 0 [vI 0]) <|
 grd (someB n) <|
 grd (someB n) <|
 .load tI (shiftTo n (I.ni + 2)) fun (n1 : Int) =>
 .ret 0 [vI n1]
def G_tall (I : Inst) (n : OA) : Prog :=
 ifB (noneB n)
 (.ret 0 [vI 0]) <|
 grd (someB n) <|
 grd (someB n) <|
 .load tI (shiftTo n (I.ni + 3)) fun (n1 : Int) =>
 .ret 0 [vI n1]
def G_of (I : Inst) (l : OA) (x : (Bs.den I.iB)) (r : OA) : Prog :=
 .alloc (Bs.inj I.iB x) fun (a1 : Addr) =>
 .load (Ty.agg I.iB) (some a1) fun (r2 : Bs.den I.iB) =>
 .call (G_count I l) [tI] fun (r3 : Int × Unit) =>
 .check (some a1) (Bs.inj I.iB r2) <|
 .call (G_count I r) [tI] fun (r4 : Int × Unit) =>
 .check (some a1) (Bs.inj I.iB r2) <|
 .call (G_tall I l) [tI] fun (r5 : Int × Unit) =>
 .check (some a1) (Bs.inj I.iB r2) <|
 .call (G_tall I r) [tI] fun (r6 : Int × Unit) =>
 .check (some a1) (Bs.inj I.iB r2) <|
 .alloc ([vP l, vP r] ++ (Bs.inj I.iB r2 ++ ([vI (addI .i64 (addI .i64 r3.1 1) r4.1), vI (addI .i64 (maxI r5.1 r6.1) 1)] ++ Bs.inj I.sB I.zs))) fun (a7 : Addr) =>
 .load (Ty.agg I.iB) (some a1) fun (r8 : Bs.den I.iB) =>
 .call (I.mF r8) [(Ty.agg I.sB)] fun (r9 : ((Bs.den I.sB) × Unit)) =>
 .store (shiftTo (some a7) (I.ni + 4)) (Bs.inj I.sB r9.1) <|
 thn 0 [] (ifB (notB (noneB l))
 (grd (someB l) <|
 grd (someB l) <|
 .load (Ty.agg I.sB) (shiftTo l (I.ni + 4)) fun (r0 : Bs.den I.sB) =>
 .load (Ty.agg I.sB) (shiftTo (some a7) (I.ni + 4)) fun (r1 : Bs.den I.sB) =>
 .call (I.aF r0 r1) [(Ty.agg I.sB)] fun (r7 : ((Bs.den I.sB) × Unit)) =>
 .store (shiftTo (some a7) (I.ni + 4)) (Bs.inj I.sB r7.1) <|
 .ret 0 []) <|
 .ret 0 []) fun (u0 : Unit) =>
 thn 0 [] (ifB (notB (noneB r))
 (.load (Ty.agg I.sB) (shiftTo (some a7) (I.ni + 4)) fun (r10 : Bs.den I.sB) =>
 grd (someB r) <|
 grd (someB r) <|
 .load (Ty.agg I.sB) (shiftTo r (I.ni + 4)) fun (r11 : Bs.den I.sB) =>
 .call (I.aF r10 r11) [(Ty.agg I.sB)] fun (r12 : ((Bs.den I.sB) × Unit)) =>
 .store (shiftTo (some a7) (I.ni + 4)) (Bs.inj I.sB r12.1) <|
 .ret 0 []) <|
 .ret 0 []) fun (u1 : Unit) =>
 .ret 0 [vP (some a7)]
def Gr_build (fuelN : Nat) (I : Inst) (items : Sl) : Prog :=
 match fuelN with
 | 0 => .fail
 | fuelN + 1 =>
  ifB (eqI (natI items.len) 0)
  (.ret 0 [vP none]) <|
  grd (notB false) <|
  grd (leB (quoI .i64 (natI items.len) 2) items.cap) <|
  grd (andB (someB items.base) (inB (quoI .i64 (natI items.len) 2) items.len)) <|
  .load (Ty.agg I.iB) (shiftTo items.base (mulN (toN (quoI .i64 (natI items.len) 2)) I.ni)) fun (r1 : Bs.den I.iB) =>
  grd (leB (addI .i64 (quoI .i64 (natI items.len) 2) 1) items.len) <|
  .call (Gr_build fuelN I (⟨(cutBase items.base items.cap 0 I.ni), (subN (toN (quoI .i64 (natI items.len) 2)) 0), (subN items.cap 0)⟩)) [tP] fun (r2 : OA × Unit) =>
  .check (shiftTo items.base (mulN (toN (quoI .i64 (natI items.len) 2)) I.ni)) (Bs.inj I.iB r1) <|
  .call (Gr_build fuelN I (⟨(cutBase items.base items.cap (toN (addI .i64 (quoI .i64 (natI items.len) 2) 1)) I.ni), (subN items.len (toN (addI .i64 (quoI .i64 (natI items.len) 2) 1))), (subN items.cap (toN (addI .i64 (quoI .i64 (natI items.len) 2) 1)))⟩)) [tP] fun (r3 : OA × Unit) =>
  .check (shiftTo items.base (mulN (toN (quoI .i64 (natI items.len) 2)) I.ni)) (Bs.inj I.iB r1) <|
  .call (G_of I r2.1 r1 r3.1) [tP] fun (r4 : OA × Unit) =>
  .ret 0 [vP r4.1]
def G_build (I : Inst) (items : Sl) : Prog := .ex fun fuelN => Gr_build fuelN I items
def G_Of (I : Inst) (items : Sl) : Prog :=
 .alloc [vP none] fun (a1 : Addr) =>
 .call (G_build I items) [tP] fun (r2 : OA × Unit) =>
 .store (some a1) [vP r2.1] <|
 .load (Ty.agg [B.ptr]) (some a1) fun (r3 : OA × Unit) =>
 .ret 0 [(Value.agg (#[vP r3.1]))]
def G_Size (I : Inst) (t : (OA × Unit)) : Prog :=
 .alloc [vP t.1] fun (a1 : Addr) =>
 .load tP (shiftTo (some a1) 0) fun (p2 : OA) =>
 .call (G_count I p2) [tI] fun (r3 : Int × Unit) =>
 .ret 0 [vI r3.1]
def G_Upto (I : Inst) (t : (OA × Unit)) (i : Int) : Prog :=
 .alloc [vP t.1] fun (a1 : Addr) =>
 .alloc (Bs.inj I.sB I.zs) fun (a2 : Addr) =>
 .alloc (Bs.inj I.sB I.zs) fun (a3 : Addr) =>
 .load (Ty.agg [B.ptr]) (some a1) fun (r4 : OA × Unit) =>
 .call (G_Size I (r4.1, ())) [tI] fun (r5 : Int × Unit) =>
 .load tP (shiftTo (some a1) 0) fun (p6 : OA) =>
 thn 2 [] (.loop [tI, tP] ((minI i r5.1), (p6, ())) fun (r0 : Int × OA × Unit) =>
 thn 0 [tB] (ifB (notB (noneB r0.2.1))
 (.ret 0 [vB (gtI r0.1 0)]) <|
 .ret 0 [vB false]) fun (r1 : Bool × Unit) =>
 ifB r1.1
 (fld tP r0.2.1 0 fun (p0 : OA) =>
 .call (G_count I p0) [tI] fun (r2 : Int × Unit) =>
 ifB (leI r0.1 r2.1)
 (fld tP r0.2.1 0 fun (p1 : OA) =>
 .ret 0 [vI r0.1, vP p1]) <|
 thn 0 [] (fld tP r0.2.1 0 fun (p2 : OA) =>
 ifB (notB (noneB p2))
 (.load (Ty.agg I.sB) (some a3) fun (r3 : Bs.den I.sB) =>
 fld tP r0.2.1 0 fun (p3 : OA) =>
 grd (someB p3) <|
 grd (someB p3) <|
 .load (Ty.agg I.sB) (shiftTo p3 (I.ni + 4)) fun (r6 : Bs.den I.sB) =>
 .call (I.aF r3 r6) [(Ty.agg I.sB)] fun (r7 : ((Bs.den I.sB) × Unit)) =>
 .store (some a3) (Bs.inj I.sB r7.1) <|
 .ret 0 []) <|
 .ret 0 []) fun (u0 : Unit) =>
 .load (Ty.agg I.sB) (some a3) fun (r8 : Bs.den I.sB) =>
 fld (Ty.agg I.iB) r0.2.1 2 fun (r9 : Bs.den I.iB) =>
 .call (I.mF r9) [(Ty.agg I.sB)] fun (r10 : ((Bs.den I.sB) × Unit)) =>
 .check (some a3) (Bs.inj I.sB r8) <|
 .call (I.aF r8 r10.1) [(Ty.agg I.sB)] fun (r11 : ((Bs.den I.sB) × Unit)) =>
 .store (some a3) (Bs.inj I.sB r11.1) <|
 fld tP r0.2.1 1 fun (p4 : OA) =>
 .ret 0 [vI (subI .i64 (subI .i64 r0.1 r2.1) 1), vP p4]) <|
 .ret 2 []) fun (u1 : Unit) =>
 .load (Ty.agg I.sB) (some a3) fun (r12 : Bs.den I.sB) =>
 .store (some a2) (Bs.inj I.sB r12) <|
 .load (Ty.agg I.sB) (some a2) fun (r13 : Bs.den I.sB) =>
 .ret 0 [(Value.agg (Bs.inj I.sB r13).toArray)]
def G_At (I : Inst) (t : (OA × Unit)) (i : Int) : Prog :=
 .alloc [vP t.1] fun (a1 : Addr) =>
 .alloc (Bs.inj I.iB I.zi) fun (a2 : Addr) =>
 .load tP (shiftTo (some a1) 0) fun (p3 : OA) =>
 .bind
 (.loop [tI, tP] (i, (p3, ())) fun (r0 : Int × OA × Unit) =>
 thn 0 [tB] (ifB (notB (noneB r0.2.1))
 (.ret 0 [vB (geI r0.1 0)]) <|
 .ret 0 [vB false]) fun (r1 : Bool × Unit) =>
 ifB r1.1
 (fld tP r0.2.1 0 fun (p0 : OA) =>
 .call (G_count I p0) [tI] fun (r2 : Int × Unit) =>
 ifB (eqI r0.1 r2.1)
 (fld (Ty.agg I.iB) r0.2.1 2 fun (r3 : Bs.den I.iB) =>
 .store (some a2) (Bs.inj I.iB r3) <|
 .ret 1 [vP (some a2), vB true]) <|
 ifB (ltI r0.1 r2.1)
 (fld tP r0.2.1 0 fun (p1 : OA) =>
 .ret 0 [vI r0.1, vP p1]) <|
 fld tP r0.2.1 1 fun (p2 : OA) =>
 .ret 0 [vI (subI .i64 (subI .i64 r0.1 r2.1) 1), vP p2]) <|
 .ret 2 []) fun (k0 : Nat) =>
 fun (v0 : List Value) =>
 ifB (eqN k0 2)
 (.cast [] v0 fun (u0 : Unit) =>
 .alloc (Bs.inj I.iB I.zi) fun (a0 : Addr) =>
 .load (Ty.agg I.iB) (some a0) fun (r4 : Bs.den I.iB) =>
 .store (some a2) (Bs.inj I.iB r4) <|
 .load (Ty.agg I.iB) (some a2) fun (r5 : Bs.den I.iB) =>
 .ret 0 [(Value.agg (Bs.inj I.iB r5).toArray), vB false]) <|
 ifB (eqN k0 1)
 (.cast [tP, tB] v0 fun (r6 : OA × Bool × Unit) =>
 .load (Ty.agg I.iB) r6.1 fun (r7 : Bs.den I.iB) =>
 .ret 0 [(Value.agg (Bs.inj I.iB r7).toArray), vB r6.2.1]) <|
 .fail
def G_Sum (I : Inst) (t : (OA × Unit)) : Prog :=
 .alloc [vP t.1] fun (a1 : Addr) =>
 .alloc (Bs.inj I.sB I.zs) fun (a2 : Addr) =>
 .load tP (shiftTo (some a1) 0) fun (p3 : OA) =>
 ifB (noneB p3)
 (.alloc (Bs.inj I.sB I.zs) fun (a4 : Addr) =>
 .load (Ty.agg I.sB) (some a4) fun (r5 : Bs.den I.sB) =>
 .store (some a2) (Bs.inj I.sB r5) <|
 .load (Ty.agg I.sB) (some a2) fun (r6 : Bs.den I.sB) =>
 .ret 0 [(Value.agg (Bs.inj I.sB r6).toArray)]) <|
 .load tP (shiftTo (some a1) 0) fun (p7 : OA) =>
 grd (someB p7) <|
 grd (someB p7) <|
 .load (Ty.agg I.sB) (shiftTo p7 (I.ni + 4)) fun (r8 : Bs.den I.sB) =>
 .store (some a2) (Bs.inj I.sB r8) <|
 .load (Ty.agg I.sB) (some a2) fun (r9 : Bs.den I.sB) =>
 .ret 0 [(Value.agg (Bs.inj I.sB r9).toArray)]
def G_Find (I : Inst) (t : (OA × Unit)) (k : Int) (n : Int) : Prog :=
 .alloc [vP t.1] fun (a1 : Addr) =>
 ifB (leI n 0)
 (.ret 0 [vI 0]) <|
 .alloc (Bs.inj I.sB I.zs) fun (a2 : Addr) =>
 .load tP (shiftTo (some a1) 0) fun (p3 : OA) =>
 .bind
 (.loop [tI, tP] ((0 : Int), (p3, ())) fun (r0 : Int × OA × Unit) =>
 ifB (notB (noneB r0.2.1))
 (.load (Ty.agg I.sB) (some a2) fun (r1 : Bs.den I.sB) =>
 .alloc (Bs.inj I.sB I.zs) fun (a0 : Addr) =>
 .store (some a0) (Bs.inj I.sB r1) <|
 thn 0 [] (fld tP r0.2.1 0 fun (p0 : OA) =>
 ifB (notB (noneB p0))
 (.load (Ty.agg I.sB) (some a2) fun (r2 : Bs.den I.sB) =>
 fld tP r0.2.1 0 fun (p1 : OA) =>
 grd (someB p1) <|
 grd (someB p1) <|
 .load (Ty.agg I.sB) (shiftTo p1 (I.ni + 4)) fun (r3 : Bs.den I.sB) =>
 .call (I.aF r2 r3) [(Ty.agg I.sB)] fun (r4 : ((Bs.den I.sB) × Unit)) =>
 .store (some a0) (Bs.inj I.sB r4.1) <|
 .ret 0 []) <|
 .ret 0 []) fun (u0 : Unit) =>
 .load (Ty.agg I.sB) (some a0) fun (r5 : Bs.den I.sB) =>
 .call (I.kF r5 k) [tI] fun (r6 : Int × Unit) =>
 ifB (geI r6.1 n)
 (fld tP r0.2.1 0 fun (p2 : OA) =>
 .ret 0 [vI r0.1, vP p2]) <|
 fld tP r0.2.1 0 fun (p4 : OA) =>
 .call (G_count I p4) [tI] fun (r7 : Int × Unit) =>
 .load (Ty.agg I.sB) (some a0) fun (r8 : Bs.den I.sB) =>
 fld (Ty.agg I.iB) r0.2.1 2 fun (r9 : Bs.den I.iB) =>
 .call (I.mF r9) [(Ty.agg I.sB)] fun (r10 : ((Bs.den I.sB) × Unit)) =>
 .check (some a0) (Bs.inj I.sB r8) <|
 .call (I.aF r8 r10.1) [(Ty.agg I.sB)] fun (r11 : ((Bs.den I.sB) × Unit)) =>
 .store (some a2) (Bs.inj I.sB r11.1) <|
 .load (Ty.agg I.sB) (some a2) fun (r12 : Bs.den I.sB) =>
 .call (I.kF r12 k) [tI] fun (r13 : Int × Unit) =>
 ifB (geI r13.1 n)
 (.ret 1 [vI (addI .i64 r0.1 (addI .i64 r7.1 1))]) <|
 fld tP r0.2.1 1 fun (p5 : OA) =>
 .ret 0 [vI (addI .i64 r0.1 (addI .i64 r7.1 1)), vP p5]) <|
 .ret 2 [vI r0.1]) fun (k0 : Nat) =>
 fun (v0 : List Value) =>
 ifB (eqN k0 2)
 (.cast [tI] v0 fun (r14 : Int × Unit) =>
 .ret 0 [vI (addI .i64 r14.1 1)]) <|
 ifB (eqN k0 1)
 (.cast [tI] v0 fun (r15 : Int × Unit) =>
 .ret 0 [vI r15.1]) <|
 .fail
def G_Items1 (I : Inst) (yield : Value) (x1 : OA) (x2 : OA) : Prog :=
 grd (flatB yield) <|
 .alloc [yield] fun (a1 : Addr) =>
 .alloc [Value.nilFunc] fun (a2 : Addr) =>
 .store (some a2) [(Value.func (Fn.func I.f2) #[] (#[vP (some a2), vP (some a1)]))] <|
 .load (Ty.one B.any) (some a2) fun (c3 : Value) =>
 grd (someB x1) <|
 .load tP (shiftTo x1 0) fun (p4 : OA) =>
 .load tI x2 fun (n5 : Int) =>
 .callv c3 [vP p4, vI (maxI 0 n5)] [tB] fun (r6 : Bool × Unit) =>
 .ret 0 []
def G_Walk (I : Inst) (n : OA) (from_ : Int) (x2 : OA) (x3 : OA) : Prog :=
 thn 0 [tB] (ifB (noneB n)
 (.ret 0 [vB true]) <|
 grd (someB n) <|
 grd (someB n) <|
 .load tI (shiftTo n (I.ni + 2)) fun (n0 : Int) =>
 .ret 0 [vB (geI from_ n0)]) fun (r0 : Bool × Unit) =>
 ifB r0.1
 (.ret 0 [vB true]) <|
 fld tP n 0 fun (p0 : OA) =>
 .call (G_count I p0) [tI] fun (r1 : Int × Unit) =>
 thn 0 [tB] (ifB (ltI from_ r1.1)
 (.load (Ty.one B.any) x2 fun (c0 : Value) =>
 fld tP n 0 fun (p1 : OA) =>
 .callv c0 [vP p1, vI from_] [tB] fun (r2 : Bool × Unit) =>
 .ret 0 [vB (notB r2.1)]) <|
 .ret 0 [vB false]) fun (r3 : Bool × Unit) =>
 ifB r3.1
 (.ret 0 [vB false]) <|
 thn 0 [tB] (ifB (leI from_ r1.1)
 (.load (Ty.one B.any) x3 fun (c1 : Value) =>
 fld (Ty.agg I.iB) n 2 fun (r4 : Bs.den I.iB) =>
 .callv c1 [(Value.agg (Bs.inj I.iB r4).toArray)] [tB] fun (r5 : Bool × Unit) =>
 .ret 0 [vB (notB r5.1)]) <|
 .ret 0 [vB false]) fun (r6 : Bool × Unit) =>
 ifB r6.1
 (.ret 0 [vB false]) <|
 .load (Ty.one B.any) x2 fun (c2 : Value) =>
 fld tP n 1 fun (p2 : OA) =>
 .callv c2 [vP p2, vI (maxI 0 (subI .i64 (subI .i64 from_ r1.1) 1))] [tB] fun (r7 : Bool × Unit) =>
 .ret 0 [vB r7.1]
end Go.Sw.Any

set_option linter.unusedVariables false
set_option linter.unusedSimpArgs false
set_option maxRecDepth 100000
namespace Go.Sw.Any
open Go.Sw.Tree (iv s_putAll s_newP s_getP s_getT s_putP small_ne cells_upd wp_whileG least TR)
variable {P : Program} {I : Inst} {h : Heap} {Q : Nat → List Value → Heap → Prop}
def Fresh (I : Inst) (h : Heap) : Prop := ∀ i, h.size ≤ i → I.Z i
theorem Fresh.ext {h h' : Heap} (f : Fresh I h) (e : Ext h h') : Fresh I h' := fun i hi => f i (Nat.le_trans e.size hi)
structure Inst.Ok (P : Program) (I : Inst) : Prop where
 i1 : 1 ≤ I.ni ∧ I.ni ≤ 100
 s1 : 1 ≤ I.ns ∧ I.ns ≤ 100
 fi : ∀ (x : I.It) v, v ∈ Bs.inj I.iB x → flat v = true
 fs : ∀ (x : I.Su) v, v ∈ Bs.inj I.sB x → flat v = true
 w1 : ∀ x, 1 ≤ I.wt x
 v0 : I.V 0 I.zs
 vm : ∀ x, I.okI x → I.V (I.wt x) (I.meas x)
 va : ∀ n m s o, I.V n s → I.V m o → I.V (n + m) (I.add s o)
 mono : ∀ n m s, I.V n s → n ≤ m → I.V m s
 az : ∀ n s, I.V n s → I.add s I.zs = s
 za : ∀ n s, I.V n s → I.add I.zs s = s
 assoc : ∀ n m k x y z, I.V n x → I.V m y → I.V k z → I.add (I.add x y) z = I.add x (I.add y z)
 key0 : ∀ k, I.key I.zs k = 0
 kmono : ∀ n m s o k, I.V n s → I.V m o → I.key s k ≤ I.key (I.add s o) k
 cm : ∀ (h : Heap) x, I.okI x → Gives P (I.mF x) [.agg I.sB] h fun (y : I.Su × Unit) _ => y.1 = I.meas x
 ca : ∀ (h : Heap) n m s o, I.V n s → I.V m o → n + m ≤ 4398046511104 → Gives P (I.aF s o) [.agg I.sB] h fun (y : I.Su × Unit) _ => y.1 = I.add s o
 ck : ∀ (h : Heap) n s k, I.V n s → n ≤ 4398046511104 → Gives P (I.kF s k) [.one (.int .i64)] h fun (y : Int × Unit) _ => y.1 = I.key s k
def Inst.sum (I : Inst) (l : List I.It) : I.Su := l.foldl (fun s r => I.add s (I.meas r)) I.zs
def Inst.W (I : Inst) (l : List I.It) : Nat := (l.map I.wt).sum
def Inst.wf (I : Inst) (l : List I.It) : Prop := ∀ r, r ∈ l → I.okI r
theorem W_append (l m : List I.It) : I.W (l ++ m) = I.W l + I.W m := by simp [Inst.W]
theorem W_cons (x : I.It) (l : List I.It) : I.W (x :: l) = I.wt x + I.W l := by simp [Inst.W]
theorem W_len (O : I.Ok P) (l : List I.It) : l.length ≤ I.W l := by
 induction l with
 | nil => exact Nat.le_refl _
 | cons x l ih => rw [W_cons]; have := O.w1 x; simp only [List.length_cons]; omega
theorem W_take (l : List I.It) (n : Nat) : I.W (l.take n) ≤ I.W l := by
 have := W_append (l.take n) (l.drop n)
 rw [List.take_append_drop] at this; omega
theorem W_drop (l : List I.It) (n : Nat) : I.W (l.drop n) ≤ I.W l := by
 have := W_append (l.take n) (l.drop n)
 rw [List.take_append_drop] at this; omega
theorem V.fold (O : I.Ok P) {l : List I.It} (hl : I.wf l) : ∀ {n : Nat} {s : I.Su}, I.V n s → I.V (n + I.W l) (l.foldl (fun s r => I.add s (I.meas r)) s) := by
 induction l with
 | nil => intro n s v; exact v
 | cons r l ih =>
  intro n s v
  have := ih (fun x hx => hl x (List.mem_cons_of_mem _ hx)) (O.va _ _ _ _ v (O.vm r (hl r (List.mem_cons_self ..))))
  exact O.mono _ _ _ this (by rw [W_cons]; omega)
theorem V.sum (O : I.Ok P) {l : List I.It} (hl : I.wf l) : I.V (I.W l) (I.sum l) := O.mono _ _ _ (V.fold O hl O.v0) (by omega)
theorem fold_add (O : I.Ok P) {l : List I.It} (hl : I.wf l) : ∀ {n m : Nat} {s o : I.Su}, I.V n s → I.V m o →
  l.foldl (fun s r => I.add s (I.meas r)) (I.add s o) = I.add s (l.foldl (fun s r => I.add s (I.meas r)) o) := by
 induction l with
 | nil => intros; rfl
 | cons r l ih =>
  intro n m s o v w
  have hr := O.vm r (hl r (List.mem_cons_self ..))
  simp only [List.foldl_cons]
  rw [O.assoc _ _ _ _ _ _ v w hr]
  exact ih (fun x hx => hl x (List.mem_cons_of_mem _ hx)) v (O.va _ _ _ _ w hr)
theorem sum_append (O : I.Ok P) {l m : List I.It} (hl : I.wf l) (hm : I.wf m) : I.sum (l ++ m) = I.add (I.sum l) (I.sum m) := by
 unfold Inst.sum
 rw [List.foldl_append]
 have := fold_add O hm (V.sum O hl) O.v0
 rw [O.az _ _ (V.sum O hl)] at this
 exact this
theorem sum_snoc (l : List I.It) (r : I.It) : I.sum (l ++ [r]) = I.add (I.sum l) (I.meas r) := by unfold Inst.sum; rw [List.foldl_append]; rfl
theorem sum_nil : I.sum [] = I.zs := rfl
theorem inj_len : ∀ (bs : List B) (x : Bs.den bs), (Bs.inj bs x).length = bs.length := by
 intro bs
 induction bs with
 | nil => intro x; rfl
 | cons b bs ih => intro x; simp [Bs.inj, ih]
theorem s_newO {bs : List B} (x : Bs.den bs) (hs : bs.length ≤ 100) {K : Addr → Prog} (hk : ∀ h', Ext h h' → Own h.size 1 h' ⟨some ⟨h.size, 0, none⟩, bs.length, bs.length⟩ (Bs.inj bs x) → wp P (K ⟨h.size, 0, none⟩) h' Q) : wp P (.alloc (Bs.inj bs x) K) h Q :=
 fun elem => hk _ (Ext.push ..) (own_alloc (by rw [inj_len]; omega) (by decide) (by omega))
theorem s_getO {bs : List B} {n c d : Nat} {a : Addr} {x : Bs.den bs} {K : Bs.den bs → Prog} (ho : Own n 1 h ⟨some a, c, d⟩ (Bs.inj bs x)) (hk : wp P (K x) h Q) : wp P (.load (.agg bs) (some a) K) h Q := ⟨a, rfl, x, ho.cells, hk⟩
theorem s_ckO {bs : List B} {n c d : Nat} {a : Addr} {x : Bs.den bs} {K : Prog} (ho : Own n 1 h ⟨some a, c, d⟩ (Bs.inj bs x)) (hk : wp P K h Q) : wp P (.check (some a) (Bs.inj bs x) K) h Q := s_check0 rfl ho.cells hk
theorem s_stoO {bs : List B} {n c d : Nat} {a : Addr} {x : Bs.den bs} (y : Bs.den bs) {K : Prog} (ho : Own n 1 h ⟨some a, c, d⟩ (Bs.inj bs x)) (hf : ∀ v, v ∈ Bs.inj bs y → flat v = true)
  (hk : ∀ h', Own n 1 h' ⟨some a, c, d⟩ (Bs.inj bs y) → Upd ⟨some a, c, d⟩ h h' → wp P K h' Q) : wp P (.store (some a) (Bs.inj bs y) K) h Q := s_putAll (Bs.inj bs y) ho (by rw [inj_len, inj_len]) hf hk
theorem s_putO {bs : List B} {z : Bs.den bs} (y : Bs.den bs) (hs : bs.length ≤ 100) (hf : ∀ v, v ∈ Bs.inj bs y → flat v = true) {K : Addr → Prog}
  (hk : ∀ h', Ext h h' → Own h.size 1 h' ⟨some ⟨h.size, 0, none⟩, bs.length, bs.length⟩ (Bs.inj bs y) → wp P (K ⟨h.size, 0, none⟩) h' Q) : wp P (.alloc (Bs.inj bs z) fun a => .store (some a) (Bs.inj bs y) (K a)) h Q :=
 s_newO z hs fun h1 e1 o1 => s_stoO y o1 hf fun h2 o2 u2 => hk h2 (Upd.extN e1 u2 (by intro a ha; cases ha; exact Nat.le_refl _)) o2
theorem s_tellO {bs : List B} {n c d : Nat} {a : Addr} {x : Bs.den bs} (y : Bs.den bs) {R : Nat → List Value → Heap → Prop} {h0 : Heap} (ho : Own n 1 h ⟨some a, c, d⟩ (Bs.inj bs x)) (hn : h0.size ≤ n) (e : Ext h0 h) (hf : ∀ v, v ∈ Bs.inj bs y → flat v = true)
  (hr : ∀ h', Ext h0 h' → R 0 [.agg (Bs.inj bs y).toArray] h') : wp P (.store (some a) (Bs.inj bs y) <| .load (.agg bs) (some a) fun r => .ret 0 [.agg (Bs.inj bs r).toArray]) h R :=
 s_stoO y ho hf fun h1 o1 u1 => s_getO o1 (s_ret (hr h1 (Upd.extN e u1 (by intro b hb; cases hb; have := (ho.lt rfl).1; exact Nat.le_trans hn this))))
theorem ob_upd {n c d c' d' : Nat} {h' : Heap} {a b : Addr} {vs : List Value} (o : Own n 1 h ⟨some a, c, d⟩ vs) (u : Upd ⟨some b, c', d'⟩ h h') (hne : b.block ≠ a.block) : Own n 1 h' ⟨some a, c, d⟩ vs :=
 o.keep fun x hx => u.2.1 _ (o.lt hx).2 fun y hy => by cases hx; cases hy; exact hne
def cI (I : Inst) (l : List I.It) : List Value := l.flatMap fun r => Bs.inj I.iB r
theorem cI_len (l : List I.It) : (cI I l).length = l.length * I.ni := by
 unfold cI
 induction l with
 | nil => simp
 | cons r l ih => rw [List.flatMap_cons, List.length_append, ih, inj_len, List.length_cons, Nat.add_mul]; unfold Inst.ni; omega
theorem cI_cons (x : I.It) (l : List I.It) : cI I (x :: l) = Bs.inj I.iB x ++ cI I l := by simp [cI]
theorem cI_at (l : List I.It) : ∀ (j : Nat) (r : I.It), l[j]? = some r → ∀ (i : Nat) (v : Value), (Bs.inj I.iB r)[i]? = some v → (cI I l)[j * I.ni + i]? = some v := by
 induction l with
 | nil => intro j r h; simp at h
 | cons x l ih =>
  intro j r h i v hv
  have hx := inj_len I.iB x
  rw [cI_cons]
  cases j with
  | zero =>
   simp at h; subst h
   have := (List.getElem?_eq_some_iff.1 hv).1
   rw [List.getElem?_append_left (by omega)]
   simpa using hv
  | succ j =>
   have := ih j r (by simpa using h) i v hv
   have h2 : (j + 1) * I.ni = j * I.ni + I.ni := Nat.succ_mul ..
   have h3 : (Bs.inj I.iB x).length = I.ni := hx
   rw [List.getElem?_append_right (by omega), h3, show (j + 1) * I.ni + i - I.ni = j * I.ni + i by omega]; exact this
theorem cI_take (l : List I.It) (n : Nat) : (cI I l).take (n * I.ni) = cI I (l.take n) := by
 induction l generalizing n with
 | nil => simp [cI]
 | cons x l ih =>
  cases n with
  | zero => simp [cI]
  | succ n =>
   have hx : (Bs.inj I.iB x).length = I.ni := inj_len _ _
   have h2 : (n + 1) * I.ni = I.ni + n * I.ni := by rw [Nat.succ_mul]; omega
   rw [cI_cons, List.take_succ_cons, cI_cons, h2, List.take_append, List.take_of_length_le (by omega), hx, Nat.add_sub_cancel_left, ih]
theorem cI_drop (l : List I.It) (n : Nat) : (cI I l).drop (n * I.ni) = cI I (l.drop n) := by
 induction l generalizing n with
 | nil => simp [cI]
 | cons x l ih =>
  cases n with
  | zero => simp
  | succ n =>
   have hx : (Bs.inj I.iB x).length = I.ni := inj_len _ _
   have h2 : (n + 1) * I.ni = I.ni + n * I.ni := by rw [Nat.succ_mul]; omega
   rw [cI_cons, List.drop_succ_cons, h2, List.drop_append, List.drop_of_length_le (by omega), hx, Nat.add_sub_cancel_left, ih, List.nil_append]
theorem wf_append {l m : List I.It} (a : I.wf l) (b : I.wf m) : I.wf (l ++ m) := fun r hr => (List.mem_append.1 hr).elim (a r) (b r)
theorem wf_take {l : List I.It} (a : I.wf l) (n : Nat) : I.wf (l.take n) := fun r hr => a r (List.mem_of_mem_take hr)
theorem wf_drop {l : List I.It} (a : I.wf l) (n : Nat) : I.wf (l.drop n) := fun r hr => a r (List.mem_of_mem_drop hr)
structure Its (I : Inst) (h : Heap) (s : Sl) (l : List I.It) : Prop where
 rd : Rd I.ni h s (cI I l)
 cap : s.len ≤ s.cap
 max : s.cap < 2 ^ 63
 wf : I.wf l
theorem Its.len (O : I.Ok P) {s : Sl} {l : List I.It} (r : Its I h s l) : s.len = l.length := by
 have := r.rd.1
 rw [cI_len] at this
 exact Nat.eq_of_mul_eq_mul_right O.i1.1 this
theorem Its.ext {h' : Heap} {s : Sl} {l : List I.It} (r : Its I h s l) (e : Ext h h') : Its I h' s l := ⟨e.rd r.rd, r.cap, r.max, r.wf⟩
theorem Its.take (O : I.Ok P) {s : Sl} {l : List I.It} (hr : Its I h s l) {n m : Nat} (hn : n ≤ l.length) (hm : n ≤ m) (hm' : m < 2 ^ 63) : Its I h ⟨s.base, n, m⟩ (l.take n) :=
 ⟨by have := Rd.take hr.rd (n := n) (by rw [hr.len O]; exact hn) m; rw [cI_take] at this; exact this, hm, hm', wf_take hr.wf n⟩
theorem Its.drop (O : I.Ok P) {s : Sl} {l : List I.It} (hr : Its I h s l) {i m : Nat} (hi : i ≤ l.length) (hm : s.len - i ≤ m) (hm' : m < 2 ^ 63) : Its I h ⟨cutBase s.base s.cap i I.ni, s.len - i, m⟩ (l.drop i) :=
 ⟨by have := Rd.drop hr.rd (i := i) (by rw [hr.len O]; exact hi) hr.cap m; rw [cI_drop] at this; exact this, hm, hm', wf_drop hr.wf i⟩
theorem its_cells {s : Sl} {l : List I.It} {j : Nat} {r : I.It} (hr : Its I h s l) (h1 : 1 ≤ I.ni) (hj : l[j]? = some r) : ∃ a, s.base = some a ∧ Cells h (a.add (j * I.ni)) (Bs.inj I.iB r) := by
 have hl : (Bs.inj I.iB r).length = I.ni := inj_len _ _
 obtain ⟨a, e, c⟩ := hr.rd.2 _ _ (cI_at l j r hj 0 _ (List.getElem?_eq_getElem (by omega)))
 refine ⟨a, e, cells_iff.2 fun i v hi => ?_⟩
 obtain ⟨a', e', c'⟩ := hr.rd.2 _ _ (cI_at l j r hj i v hi)
 rw [e] at e'; cases e'
 rw [add_add]; exact c'
theorem s_atI (O : I.Ok P) {s : Sl} {l : List I.It} {K : I.It → Prog} {j : Int} (hr : Its I h s l) (h0 : 0 ≤ j) (h1 : j < l.length)
  (hk : ∀ r, l[j.toNat]? = some r → wp P (K r) h Q) : wp P (grd (andB (someB s.base) (inB j s.len)) (.load (.agg I.iB) (shiftTo s.base (mulN (toN j) I.ni)) K)) h Q := by
 have hj : l[j.toNat]? = some l[j.toNat] := List.getElem?_eq_getElem (by omega)
 obtain ⟨a, e, c⟩ := its_cells hr O.i1.1 hj
 have := hr.len O
 exact wp_grd (andB_iff.2 ⟨by simp [someB, e], inB_is.2 ⟨h0, by omega⟩⟩) ⟨a.add (j.toNat * I.ni), by simp [shiftTo, e, mulN, toN], l[j.toNat], c, hk _ hj⟩
theorem s_sameI (O : I.Ok P) {s : Sl} {l : List I.It} {K : Prog} {j : Nat} {r : I.It} (hr : Its I h s l) (hj : l[j]? = some r) (hk : wp P K h Q) : wp P (.check (shiftTo s.base (mulN j I.ni)) (Bs.inj I.iB r) K) h Q := by
 obtain ⟨a, e, c⟩ := its_cells hr O.i1.1 hj
 exact ⟨⟨a.add (j * I.ni), by simp [shiftTo, e, mulN], c⟩, hk⟩
inductive Bt (α : Type) where
 | nil
 | node (l : Bt α) (x : α) (r : Bt α)
def Bt.list {α : Type} : Bt α → List α
 | .nil => []
 | .node l x r => l.list ++ x :: r.list
def Bt.ht {α : Type} : Bt α → Nat
 | .nil => 0
 | .node l _ r => max l.ht r.ht + 1
theorem Bt.ht_le {α : Type} : ∀ t : Bt α, t.ht ≤ t.list.length
 | .nil => Nat.le_refl _
 | .node l x r => by have := l.ht_le; have := r.ht_le; simp only [Bt.ht, Bt.list, List.length_append, List.length_cons]; omega
theorem node_len {α : Type} (l r : Bt α) (x : α) : (Bt.node l x r).list.length = l.list.length + 1 + r.list.length := by simp [Bt.list]; omega
def headV (I : Inst) (pl pr : Option Addr) (t : Bt I.It) (x : I.It) : List Value := [.pointer pl, .pointer pr] ++ (Bs.inj I.iB x ++ [iv t.list.length, iv t.ht])
theorem headV_len (pl pr : Option Addr) (t : Bt I.It) (x : I.It) : (headV I pl pr t x).length = I.ni + 4 := by
 simp only [headV, List.length_append, List.length_cons, List.length_nil, inj_len]; unfold Inst.ni; omega
def NdC (I : Inst) (h : Heap) (a : Addr) (pl pr : Option Addr) (l : Bt I.It) (x : I.It) (r : Bt I.It) : Prop := Cells h a (headV I pl pr (.node l x r) x ++ Bs.inj I.sB (I.sum (Bt.node l x r).list)) ∧ I.Z a.block ∧ a.off = 0 ∧ a.spot = none
def Nd (I : Inst) (h : Heap) : Option Addr → Bt I.It → Prop
 | p, .nil => p = none
 | p, .node l x r => ∃ a pl pr, p = some a ∧ NdC I h a pl pr l x r ∧ Nd I h pl l ∧ Nd I h pr r
theorem NdC.ext {h' : Heap} {a : Addr} {pl pr : Option Addr} {l r : Bt I.It} {x : I.It} (c : NdC I h a pl pr l x r) (e : Ext h h') : NdC I h' a pl pr l x r := ⟨e.cells c.1, c.2⟩
theorem Nd.ext {h' : Heap} (e : Ext h h') : ∀ {t : Bt I.It} {p : Option Addr}, Nd I h p t → Nd I h' p t
 | .nil, _, n => n
 | .node l x r, p, ⟨a, pl, pr, e1, c, n1, n2⟩ => ⟨a, pl, pr, e1, c.ext e, Nd.ext e n1, Nd.ext e n2⟩
theorem Nd.chg {F : Nat → Prop} {h' : Heap} (e : Chg F h h') (hF : ∀ i, i < h.size → I.Z i → ¬ F i) : ∀ {t : Bt I.It} {p : Option Addr}, Nd I h p t → Nd I h' p t
 | .nil, _, n => n
 | .node l x r, p, ⟨a, pl, pr, e1, c, n1, n2⟩ => ⟨a, pl, pr, e1, ⟨cells_iff.2 fun j v hj => by
   have q := cells_iff.1 c.1 j v hj
   have hlt := cell_lt q
   have hz := c.2.1
   rw [add_block] at hlt
   rw [cell_of_block (h := h) (by rw [add_block]; exact e.2.1 _ hlt (hF _ hlt hz))]; exact q, c.2⟩, Nd.chg e hF n1, Nd.chg e hF n2⟩
theorem wf_left {l r : Bt I.It} {x : I.It} (w : I.wf (Bt.node l x r).list) : I.wf l.list := fun y hy => w y (by simp [Bt.list, hy])
theorem wf_right {l r : Bt I.It} {x : I.It} (w : I.wf (Bt.node l x r).list) : I.wf r.list := fun y hy => w y (by simp [Bt.list, hy])
theorem wf_mid {l r : Bt I.It} {x : I.It} (w : I.wf (Bt.node l x r).list) : I.okI x := w x (by simp [Bt.list])
theorem node_W (l r : Bt I.It) (x : I.It) : I.W (Bt.node l x r).list = I.W l.list + I.wt x + I.W r.list := by simp only [Bt.list]; rw [W_append, W_cons]; omega
theorem sum_node (O : I.Ok P) {l r : Bt I.It} {x : I.It} (w : I.wf (Bt.node l x r).list) : I.sum (Bt.node l x r).list = I.add (I.add (I.sum l.list) (I.meas x)) (I.sum r.list) := by
 have h1 : I.wf [x] := fun y hy => by rw [List.mem_singleton.1 hy]; exact wf_mid w
 rw [show (Bt.node l x r).list = (l.list ++ [x]) ++ r.list by simp [Bt.list], sum_append O (wf_append (wf_left w) h1) (wf_right w), sum_snoc]
theorem cells_mid {a : Addr} {pre mid post : List Value} {j : Nat} (c : Cells h a (pre ++ (mid ++ post))) (hj : j = pre.length) : Cells h (a.add j) mid :=
 cells_iff.2 fun i v hi => by
  rw [add_add]
  refine cells_iff.1 c (j + i) v ?_
  rw [List.getElem?_append_right (by omega), show j + i - pre.length = i by omega, List.getElem?_append_left (List.getElem?_eq_some_iff.1 hi).1]; exact hi
theorem NdC.item {a : Addr} {pl pr : Option Addr} {l r : Bt I.It} {x : I.It} (c : NdC I h a pl pr l x r) : Cells h (a.add 2) (Bs.inj I.iB x) := by
 replace c := c.1
 unfold headV at c
 rw [List.append_assoc, List.append_assoc] at c
 exact cells_mid c rfl
theorem NdC.sum {a : Addr} {pl pr : Option Addr} {l r : Bt I.It} {x : I.It} (c : NdC I h a pl pr l x r) : Cells h (a.add (I.ni + 4)) (Bs.inj I.sB (I.sum (Bt.node l x r).list)) :=
 cells_mid (post := []) (by rw [List.append_nil]; exact c.1) (headV_len ..).symm
theorem NdC.nums {a : Addr} {pl pr : Option Addr} {l r : Bt I.It} {x : I.It} (c : NdC I h a pl pr l x r) : Sw.cell h (a.add (I.ni + 2)) = some (iv (Bt.node l x r).list.length) ∧ Sw.cell h (a.add (I.ni + 3)) = some (iv (Bt.node l x r).ht) := by
 replace c := c.1
 unfold headV at c
 rw [← List.append_assoc [Value.pointer pl, Value.pointer pr] (Bs.inj I.iB x), List.append_assoc] at c
 have := cells_mid (j := I.ni + 2) c (by simp only [List.length_append, List.length_cons, List.length_nil, inj_len]; unfold Inst.ni; omega)
 have h0 := cells_iff.1 this 0 _ rfl
 have h1 := cells_iff.1 this 1 _ rfl
 rw [add_zero'] at h0
 rw [add_add] at h1
 exact ⟨h0, h1⟩
theorem NdC.left {a : Addr} {pl pr : Option Addr} {l r : Bt I.It} {x : I.It} (c : NdC I h a pl pr l x r) : Sw.cell h (a.add 0) = some (.pointer pl) := cells_iff.1 c.1 0 _ rfl
theorem NdC.right {a : Addr} {pl pr : Option Addr} {l r : Bt I.It} {x : I.It} (c : NdC I h a pl pr l x r) : Sw.cell h (a.add 1) = some (.pointer pr) := cells_iff.1 c.1 1 _ rfl
theorem q_left {a : Addr} {pl pr : Option Addr} {l r : Bt I.It} {x : I.It} {K : Option Addr → Prog} (c : NdC I h a pl pr l x r) (hk : wp P (K pl) h Q) : wp P (grd (someB (some a)) <| grd (someB (some a)) <| .load (.one .ptr) (shiftTo (some a) 0) K) h Q :=
 wp_grd rfl (wp_grd rfl (wp_load1 (b := .ptr) (a.add 0) pl rfl c.left hk))
theorem q_right {a : Addr} {pl pr : Option Addr} {l r : Bt I.It} {x : I.It} {K : Option Addr → Prog} (c : NdC I h a pl pr l x r) (hk : wp P (K pr) h Q) : wp P (grd (someB (some a)) <| grd (someB (some a)) <| .load (.one .ptr) (shiftTo (some a) 1) K) h Q :=
 wp_grd rfl (wp_grd rfl (wp_load1 (b := .ptr) (a.add 1) pr rfl c.right hk))
theorem q_item {a : Addr} {pl pr : Option Addr} {l r : Bt I.It} {x : I.It} {K : I.It → Prog} (c : NdC I h a pl pr l x r) (hk : wp P (K x) h Q) : wp P (grd (someB (some a)) <| grd (someB (some a)) <| .load (.agg I.iB) (shiftTo (some a) 2) K) h Q :=
 wp_grd rfl (wp_grd rfl ⟨a.add 2, rfl, x, c.item, hk⟩)
theorem q_sum {a : Addr} {pl pr : Option Addr} {l r : Bt I.It} {x : I.It} {K : I.Su → Prog} (c : NdC I h a pl pr l x r) (hk : wp P (K (I.sum (Bt.node l x r).list)) h Q) : wp P (grd (someB (some a)) <| grd (someB (some a)) <| .load (.agg I.sB) (shiftTo (some a) (I.ni + 4)) K) h Q :=
 wp_grd rfl (wp_grd rfl ⟨a.add (I.ni + 4), rfl, _, c.sum, hk⟩)
theorem c_count {p : Option Addr} {t : Bt I.It} (ht : Nd I h p t) : Gives P (G_count I p) [.one (.int .i64)] h fun (x : Int × Unit) _ => x.1 = t.list.length := by
 unfold G_count Gives
 cases t with
 | nil => obtain rfl := ht; exact s_ifT (s_ret ⟨rfl, Ext.refl _, (0, ()), rfl, rfl⟩)
 | node l x r =>
  obtain ⟨a, pl, pr, rfl, c, _, _⟩ := ht
  exact s_ifF (wp_grd rfl (wp_grd rfl (wp_load1 (b := .int .i64) (a.add (I.ni + 2)) _ rfl c.nums.1 (s_ret ⟨rfl, Ext.refl _, (((Bt.node l x r).list.length : Nat), ()), rfl, rfl⟩))))
theorem c_tall {p : Option Addr} {t : Bt I.It} (ht : Nd I h p t) : Gives P (G_tall I p) [.one (.int .i64)] h fun (x : Int × Unit) _ => x.1 = t.ht := by
 unfold G_tall Gives
 cases t with
 | nil => obtain rfl := ht; exact s_ifT (s_ret ⟨rfl, Ext.refl _, (0, ()), rfl, rfl⟩)
 | node l x r =>
  obtain ⟨a, pl, pr, rfl, c, _, _⟩ := ht
  exact s_ifF (wp_grd rfl (wp_grd rfl (wp_load1 (b := .int .i64) (a.add (I.ni + 3)) _ rfl c.nums.2 (s_ret ⟨rfl, Ext.refl _, (((Bt.node l x r).ht : Nat), ()), rfl, rfl⟩))))
theorem s_getEnd {bs : List B} {n m c j : Nat} {a : Addr} {pre : List Value} {x : Bs.den bs} {K : Bs.den bs → Prog} (ho : Own n 1 h ⟨some a, m, c⟩ (pre ++ Bs.inj bs x)) (hj : j = pre.length) (hk : wp P (K x) h Q) : wp P (.load (.agg bs) (shiftTo (some a) j) K) h Q :=
 ⟨a.add j, rfl, x, cells_mid (post := []) (by rw [List.append_nil]; exact ho.cells) hj, hk⟩
theorem c_of (O : I.Ok P) {pl pr : Option Addr} {l r : Bt I.It} {x : I.It} (nl : Nd I h pl l) (nr : Nd I h pr r) (hw : I.wf (Bt.node l x r).list) (hroom : I.W (Bt.node l x r).list ≤ 4398046511104) (hfr : Fresh I h := by repeat (first | assumption | refine Fresh.ext ?_ (by assumption))) :
  Gives P (G_of I pl x pr) [.one .ptr] h fun (y : Option Addr × Unit) h' => Nd I h' y.1 (.node l x r) := by
 have hx := wf_mid hw
 have hl := node_len l r x
 have hlw := W_len O (Bt.node l x r).list
 have hnw := node_W l r x
 have hsum := sum_node O hw
 have vl := V.sum O (wf_left hw)
 have vr := V.sum O (wf_right hw)
 have vm := O.vm x hx
 have g1 := l.ht_le; have g2 := r.ht_le
 unfold G_of Gives
 refine s_newO x O.i1.2 fun h1 e1 o1 => s_getO o1 ?_
 have ck : ∀ {h'} {K : Prog} {Q : Nat → List Value → Heap → Prop}, Ext h1 h' → wp P K h' Q → wp P (.check (some ⟨h.size, 0, none⟩) (Bs.inj I.iB x) K) h' Q := fun e hk => s_ckO (o1.ext e) hk
 refine wp_call (c_count (nl.ext e1)) fun y h2 e2 hy => ck e2 (wp_call (c_count (nr.ext (e1.trans e2))) fun z h3 e3 hz => ck (e2.trans e3) (wp_call (c_tall (nl.ext ((e1.trans e2).trans e3))) fun y' h4 e4 hy' =>
  ck ((e2.trans e3).trans e4) (wp_call (c_tall (nr.ext (((e1.trans e2).trans e3).trans e4))) fun z' h5 e5 hz' => ck (((e2.trans e3).trans e4).trans e5) ?_)))
 obtain ⟨(y : Int), w1⟩ := y
 obtain ⟨(z : Int), w2⟩ := z
 obtain ⟨(y' : Int), w3⟩ := y'
 obtain ⟨(z' : Int), w4⟩ := z'
 dsimp only at hy hz hy' hz' ⊢
 have e15 := ((e2.trans e3).trans e4).trans e5
 have hcnt : addI .i64 (addI .i64 y 1) z = (((Bt.node l x r).list.length : Nat) : Int) := by
  rw [add_ok (a := y) (by omega) (by omega), add_ok (by omega) (by omega)]; omega
 have htl : addI .i64 (maxI y' z') 1 = (((Bt.node l x r).ht : Nat) : Int) := by
  have : maxI y' z' = max y' z' := by unfold maxI; split <;> omega
  rw [this, add_ok (by omega) (by omega)]; simp only [Bt.ht]; omega
 have hlist : ([Value.pointer pl, Value.pointer pr] ++ (Bs.inj I.iB x ++ ([iv ((Bt.node l x r).list.length : Nat), iv ((Bt.node l x r).ht : Nat)] ++ Bs.inj I.sB I.zs))) = headV I pl pr (.node l x r) x ++ Bs.inj I.sB I.zs := by
  simp only [headV, List.append_assoc]
 rw [hcnt, htl, hlist]
 intro elem
 have hhl := headV_len pl pr (Bt.node l x r) x
 have i1 := O.i1
 have s1 := O.s1
 have nsl : (Bs.inj I.sB I.zs).length = I.ns := inj_len _ _
 have o6 : Own h5.size 1 (h5.push (.cells (headV I pl pr (.node l x r) x ++ Bs.inj I.sB I.zs).toArray elem)) ⟨some ⟨h5.size, 0, none⟩, I.ni + 4 + I.ns, I.ni + 4 + I.ns⟩ (headV I pl pr (.node l x r) x ++ Bs.inj I.sB I.zs) :=
  own_alloc (by rw [List.length_append]; omega) (by decide) (by omega)
 have e6 : Ext h5 (h5.push (.cells (headV I pl pr (.node l x r) x ++ Bs.inj I.sB I.zs).toArray elem)) := Ext.push ..
 generalize (h5.push (.cells (headV I pl pr (.node l x r) x ++ Bs.inj I.sB I.zs).toArray elem)) = h6 at o6 e6 ⊢
 have e05 : Ext h h5 := e1.trans e15
 refine s_getO (o1.ext (e15.trans e6)) (wp_call (O.cm _ x hx) fun m h7 e7 hm => ?_)
 obtain ⟨m, w5⟩ := m
 dsimp only at hm
 subst hm
 refine s_putEnd (Bs.inj I.sB (I.meas x)) (o6.ext e7) hhl.symm (by rw [inj_len, inj_len]) (O.fs _) fun h8 o8 u8 => ?_
 have e58 : Ext h5 h8 := Upd.extN (e6.trans e7) u8 (by intro a ha; cases ha; exact Nat.le_refl _)
 have nl8 := nl.ext (e05.trans e58)
 have nr8 := nr.ext (e05.trans e58)
 refine wp_bind (fun t vs h' => t = 0 ∧ vs = [] ∧ Ext h5 h' ∧ Own h5.size 1 h' ⟨some ⟨h5.size, 0, none⟩, I.ni + 4 + I.ns, I.ni + 4 + I.ns⟩ (headV I pl pr (.node l x r) x ++ Bs.inj I.sB (I.add (I.sum l.list) (I.meas x)))) ?_ ?_
 ·cases l with
  | nil =>
   obtain rfl := nl8
   refine s_ifF (s_ret ⟨rfl, rfl, e58, ?_⟩)
   rw [show I.sum (Bt.nil : Bt I.It).list = I.zs from rfl, O.za _ _ vm]; exact o8
  | node ll lx lr =>
   obtain ⟨a, ql, qr, rfl, c, _, _⟩ := nl8
   refine s_ifT (q_sum c (s_getEnd o8 hhl.symm (wp_call (O.ca _ _ _ _ _ vl vm (by omega)) fun m h9 e9 hm => ?_)))
   obtain ⟨m, w6⟩ := m
   dsimp only at hm
   subst hm
   refine s_putEnd (Bs.inj I.sB (I.add (I.sum (Bt.node ll lx lr).list) (I.meas x))) (o8.ext e9) hhl.symm (by rw [inj_len, inj_len]) (O.fs _) fun h10 o10 u10 => s_ret ⟨rfl, rfl, Upd.extN (e58.trans e9) u10 (by intro a ha; cases ha; exact Nat.le_refl _), o10⟩
 ·rintro t vs h9 ⟨rfl, rfl, e59, o9⟩
  have nr9 := nr.ext (e05.trans e59)
  refine s_tag (s_cast0 ?_)
  refine wp_bind (fun t vs h' => t = 0 ∧ vs = [] ∧ Ext h5 h' ∧ Own h5.size 1 h' ⟨some ⟨h5.size, 0, none⟩, I.ni + 4 + I.ns, I.ni + 4 + I.ns⟩ (headV I pl pr (.node l x r) x ++ Bs.inj I.sB (I.sum (Bt.node l x r).list))) ?_ ?_
  ·cases r with
   | nil =>
    obtain rfl := nr9
    refine s_ifF (s_ret ⟨rfl, rfl, e59, ?_⟩)
    rw [hsum, show I.sum (Bt.nil : Bt I.It).list = I.zs from rfl, O.az _ _ (O.va _ _ _ _ vl vm)]; exact o9
   | node ll lx lr =>
    obtain ⟨a, ql, qr, rfl, c, _, _⟩ := nr9
    refine s_ifT (s_getEnd o9 hhl.symm (q_sum c (wp_call (O.ca _ _ _ _ _ (O.va _ _ _ _ vl vm) vr (by omega)) fun m h10 e10 hm => ?_)))
    obtain ⟨m, w6⟩ := m
    dsimp only at hm
    rw [← hsum] at hm
    subst hm
    refine s_putEnd (Bs.inj I.sB (I.sum (Bt.node l x (.node ll lx lr)).list)) (o9.ext e10) hhl.symm (by rw [inj_len, inj_len]) (O.fs _) fun h11 o11 u11 => s_ret ⟨rfl, rfl, Upd.extN (e59.trans e10) u11 (by intro a ha; cases ha; exact Nat.le_refl _), o11⟩
  ·rintro t vs h10 ⟨rfl, rfl, e60, o10⟩
   exact s_tag (s_cast0 (s_ret ⟨rfl, e05.trans e60, (some ⟨h5.size, 0, none⟩, ()), rfl, ⟨h5.size, 0, none⟩, pl, pr, rfl, ⟨o10.cells, hfr _ e05.size, rfl, rfl⟩, nl.ext (e05.trans e60), nr.ext (e05.trans e60)⟩))
theorem Nd.upd {n m c : Nat} {ws : List Value} {b : Addr} {h h' : Heap} (u : Upd ⟨some b, m, c⟩ h h') (ho : Own n 1 h ⟨some b, m, c⟩ ws) (hc : c < I.ni + 4 + I.ns) : ∀ {t : Bt I.It} {p : Option Addr}, Nd I h p t → Nd I h' p t
 | .nil, _, n => n
 | .node l x r, p, ⟨a, pl, pr, e1, hcc, n1, n2⟩ => ⟨a, pl, pr, e1, ⟨cells_upd u hcc.1 (small_ne ho hcc.1 (by rw [List.length_append, headV_len, inj_len]; exact hc)), hcc.2⟩, Nd.upd u ho hc n1, Nd.upd u ho hc n2⟩
theorem Nd.updK {s : Sl} {h h' : Heap} (u : Upd s h h') (hk : ∀ b, s.base = some b → ∃ k x, Sw.cell h ⟨b.block, 0, none⟩ = some (.int k x)) : ∀ {t : Bt I.It} {p : Option Addr}, Nd I h p t → Nd I h' p t
 | .nil, _, n => n
 | .node l x r, p, ⟨a, pl, pr, e1, c, n1, n2⟩ => ⟨a, pl, pr, e1, ⟨cells_iff.2 fun j v hj => by
   have q := cells_iff.1 c.1 j v hj
   have hlt := cell_lt q
   rw [add_block] at hlt
   have hne : ∀ b, s.base = some b → b.block ≠ a.block := fun b hb e => by
    obtain ⟨k, z, hz⟩ := hk b hb
    have h0 := c.left
    have ha : a = ⟨b.block, 0, none⟩ := by
     obtain ⟨ab, ao, sp⟩ := a
     have h1 := c.2.2.1; have h2 := c.2.2.2
     dsimp only at h1 h2 e
     subst h1; subst h2; rw [e]
    rw [add_zero', ha, hz] at h0
    cases h0
   rw [cell_of_block (h := h) (by rw [add_block]; exact u.2.1 _ hlt hne)]; exact q, c.2⟩, Nd.updK u hk n1, Nd.updK u hk n2⟩
end Go.Sw.Any

set_option linter.unusedVariables false
set_option linter.unusedSimpArgs false
set_option maxRecDepth 100000
namespace Go.Sw.Any
open Go.Sw.Tree (iv s_putAll s_newP s_getP s_getT s_putP small_ne cells_upd wp_whileG least TR minI_eq eqI_self Placed)
variable {P : Program} {I : Inst} {h : Heap} {Q : Nat → List Value → Heap → Prop}
def Bt.Avl {α : Type} : Bt α → Prop
 | .nil => True
 | .node l _ r => l.Avl ∧ r.Avl ∧ l.ht ≤ r.ht + 1 ∧ r.ht ≤ l.ht + 1
def Bt.Full {α : Type} (t : Bt α) : Prop := t.list.length < 2 ^ t.ht ∧ (2 ^ t.ht ≤ 2 * t.list.length ∨ t.ht = 0) ∧ t.Avl
theorem full_nil : (Bt.nil : Bt I.It).Full := ⟨by simp [Bt.list, Bt.ht], .inr rfl, trivial⟩
theorem full_node {l r : Bt I.It} {x : I.It} (hl : l.Full) (hr : r.Full) (h1 : r.list.length ≤ l.list.length) (h2 : l.list.length ≤ r.list.length + 1) : (Bt.node l x r).Full := by
 obtain ⟨a1, a2, a3⟩ := hl
 obtain ⟨b1, b2, b3⟩ := hr
 have hn := node_len l r x
 have c1 : r.ht ≤ l.ht := by
  rcases b2 with b2 | b2
  ·have : 2 ^ r.ht < 2 ^ (l.ht + 1) := by rw [Nat.pow_succ]; omega
   have := (Nat.pow_lt_pow_iff_right (by decide : 1 < 2)).1 this
   omega
  ·omega
 have c2 : l.ht ≤ r.ht + 1 := by
  rcases a2 with a2 | a2
  ·have : 2 ^ l.ht ≤ 2 ^ (r.ht + 1) := by rw [Nat.pow_succ]; omega
   exact (Nat.pow_le_pow_iff_right (by decide : 1 < 2)).1 this
  ·omega
 have hh : (Bt.node l x r).ht = l.ht + 1 := by simp only [Bt.ht]; omega
 refine ⟨?_, .inl ?_, a3, b3, c2, by omega⟩
 ·rw [hh, hn, Nat.pow_succ]; omega
 ·rw [hh, hn, Nat.pow_succ]
  rcases a2 with a2 | a2
  ·omega
  ·rw [a2]; omega
end Go.Sw.Any

set_option linter.unusedVariables false
set_option linter.unusedSimpArgs false
set_option maxRecDepth 100000
namespace Go.Sw.Any
open Go.Sw.Tree (iv s_putAll s_newP s_getP s_getT s_putP small_ne cells_upd wp_whileG least TR minI_eq eqI_self Placed)
variable {P : Program} {I : Inst} {h : Heap} {Q : Nat → List Value → Heap → Prop}
theorem c_buildR (O : I.Ok P) : ∀ (fuel : Nat) {h : Heap} {items : Sl} {l : List I.It}, l.length < fuel → Its I h items l → I.W l ≤ 4398046511104 → (hfr : Fresh I h := by repeat (first | assumption | refine Fresh.ext ?_ (by assumption))) →
  Gives P (Gr_build fuel I items) [.one .ptr] h fun (y : Option Addr × Unit) h' => ∃ t : Bt I.It, Nd I h' y.1 t ∧ t.list = l ∧ t.Full := by
 intro fuel
 induction fuel with
 | zero => intro h items l hf; omega
 | succ fuel ih =>
  intro h items l hf hr hroom hfr
  have hlen := hr.len O
  have hlW := W_len O l
  have hcap := hr.cap
  have hmax := hr.max
  unfold Gr_build Gives
  refine wp_ifB (fun hc => ?_) fun hc => ?_
  ·rw [eqI_iff, natI_def, hlen] at hc
   exact s_ret ⟨rfl, Ext.refl _, (none, ()), rfl, .nil, rfl, by cases l; rfl; simp at hc; omega, full_nil⟩
  ·rw [eqI_not, natI_def, hlen] at hc
   have hq : quoI .i64 (natI items.len) 2 = ((l.length / 2 : Nat) : Int) := by
    rw [natI_def, hlen, quo_ok (by omega) (by omega) (by omega)]; omega
   have hk : l.length / 2 < l.length := by omega
   have hj : l[l.length / 2]? = some l[l.length / 2] := List.getElem?_eq_getElem hk
   rw [hq, add_ok (by omega) (by omega)]
   have ht : toN ((l.length / 2 : Nat) : Int) = l.length / 2 := by rw [toN_def]; omega
   have ht1 : toN (((l.length / 2 : Nat) : Int) + 1) = l.length / 2 + 1 := by rw [toN_def]; omega
   rw [ht1, show subN items.cap 0 = items.cap from rfl, cutBase_zero, show subN (toN ((l.length / 2 : Nat) : Int)) 0 = l.length / 2 by rw [ht]; rfl]
   refine s_not (s_grd (leB_ok (by omega) (by omega)) (s_atI O hr (by omega) (by omega) fun x hx => s_grd (leB_ok (by omega) (by omega)) ?_))
   rw [show ((l.length / 2 : Nat) : Int).toNat = l.length / 2 by omega] at hx
   refine wp_call (ih (l := l.take (l.length / 2)) (by rw [List.length_take]; omega) (hr.take O (by omega) (by omega) hmax) (Nat.le_trans (W_take _ _) hroom)) fun y h1 e1 hy => ?_
   obtain ⟨(pl : Option Addr), u1⟩ := y
   obtain ⟨tl, n1, l1, fl⟩ := hy
   dsimp only at n1 ⊢
   rw [ht]
   refine s_sameI O (hr.ext e1) hx ?_
   refine wp_call (ih (l := l.drop (l.length / 2 + 1)) (by rw [List.length_drop]; omega) ((hr.ext e1).drop O (by omega) (by unfold subN; omega) (by unfold subN; omega)) (Nat.le_trans (W_drop _ _) hroom)) fun y h2 e2 hy => ?_
   obtain ⟨(pr : Option Addr), u2⟩ := y
   obtain ⟨tr, n2, l2, fr⟩ := hy
   dsimp only at n2 ⊢
   refine s_sameI O (hr.ext (e1.trans e2)) hx ?_
   have hlist : (Bt.node tl x tr).list = l := by
    simp only [Bt.list]
    rw [l1, l2]
    have := List.getElem?_eq_some_iff.1 hx
    obtain ⟨_, rfl⟩ := this
    rw [← List.drop_eq_getElem_cons hk, List.take_append_drop]
   refine wp_call (c_of O (x := x) (n1.ext e2) n2 (by rw [hlist]; exact hr.wf) (by rw [hlist]; exact hroom)) fun y h3 e3 hy => ?_
   obtain ⟨(p : Option Addr), u3⟩ := y
   exact s_ret ⟨rfl, (e1.trans e2).trans e3, (p, ()), rfl, _, hy, hlist, full_node fl fr (by rw [l1, l2, List.length_take, List.length_drop]; omega) (by rw [l1, l2, List.length_take, List.length_drop]; omega)⟩
theorem c_Of (O : I.Ok P) {items : Sl} {l : List I.It} (hr : Its I h items l) (hroom : I.W l ≤ 4398046511104) (hfr : Fresh I h := by repeat (first | assumption | refine Fresh.ext ?_ (by assumption))) : Gives P (G_Of I items) [.agg [.ptr]] h fun (y : TR × Unit) h' => ∃ t : Bt I.It, Nd I h' y.1.1 t ∧ t.list = l ∧ t.Full := by
 unfold G_Of Gives
 refine s_newP none fun h1 e1 o1 => ?_
 refine wp_call (R := fun (y : Option Addr × Unit) h' => ∃ t : Bt I.It, Nd I h' y.1 t ∧ t.list = l ∧ t.Full) ⟨l.length + 1, c_buildR O _ (Nat.lt_succ_self _) (hr.ext e1) hroom⟩ fun y h2 e2 hy => ?_
 obtain ⟨(p : Option Addr), u⟩ := y
 obtain ⟨t, n, hl, hfull⟩ := hy
 dsimp only at n ⊢
 refine s_putP p (o1.ext e2) fun h3 o3 u3 => s_getT o3 (s_ret ?_)
 have e := Upd.extN (e1.trans e2) u3 (by intro a ha; cases ha; exact Nat.le_refl _)
 exact ⟨rfl, e, ((p, ()), ()), rfl, t, n.upd u3 (o1.ext e2) (by omega), hl, hfull⟩
theorem c_Size {p : Option Addr} {t : Bt I.It} (ht : Nd I h p t) : Gives P (G_Size I (p, ())) [.one (.int .i64)] h fun (x : Int × Unit) _ => x.1 = t.list.length := by
 unfold G_Size Gives
 refine s_newP p fun h1 e1 o1 => s_getP o1 (wp_call (c_count (ht.ext e1)) fun x h2 e2 hx => ?_)
 exact s_ret ⟨rfl, e1.trans e2, (x.1, ()), rfl, hx⟩
theorem c_Sum (O : I.Ok P) {p : Option Addr} {t : Bt I.It} (ht : Nd I h p t) (hw : I.wf t.list) (hroom : I.W t.list ≤ 4398046511104) : Gives P (G_Sum I (p, ())) [(.agg I.sB)] h fun (x : I.Su × Unit) _ => x.1 = I.sum t.list := by
 unfold G_Sum Gives
 refine s_newP p fun h1 e1 o1 => s_newO I.zs O.s1.2 fun h2 e2 o2 => s_getP (o1.ext e2) ?_
 cases t with
 | nil =>
  obtain rfl := ht
  exact s_ifT (s_newO I.zs O.s1.2 fun h3 e3 o3 => s_getO o3 (s_tellO I.zs (o2.ext e3) e1.size ((e1.trans e2).trans e3) (O.fs _) fun h' e => ⟨rfl, e, (I.zs, ()), rfl, rfl⟩))
 | node l x r =>
  obtain ⟨a, ql, qr, rfl, c, _, _⟩ := ht
  exact s_ifF (s_getP (o1.ext e2) (q_sum (c.ext (e1.trans e2)) (s_tellO (I.sum (Bt.node l x r).list) o2 e1.size (e1.trans e2) (O.fs _) fun h' e => ⟨rfl, e, (_, ()), rfl, rfl⟩)))
theorem c_At (O : I.Ok P) {p : Option Addr} {t : Bt I.It} {i : Int} {x : I.It} (nt : Nd I h p t) (hw : I.wf t.list) (hroom : I.W t.list ≤ 4398046511104) (h0 : 0 ≤ i) (hx : t.list[i.toNat]? = some x) :
  Gives P (G_At I (p, ()) i) [(.agg I.iB), .one .bool] h fun (y : I.It × Bool × Unit) h' => y.1 = x ∧ y.2.1 = true := by
 have hi := (List.getElem?_eq_some_iff.1 hx).1
 unfold G_At Gives
 refine s_newP p fun h1 e1 o1 => s_newO I.zi O.i1.2 fun h2 e2 o2 => s_getP (o1.ext e2) ?_
 refine wp_whileG (G := Bt I.It) (fun g (s : Int × Option Addr × Unit) h' => Ext h h' ∧ Nd I h' s.2.1 g ∧ 0 ≤ s.1 ∧ s.1 < g.list.length ∧ I.W g.list ≤ 4398046511104 ∧ g.list[s.1.toNat]? = some x ∧ Own h1.size 1 h' ⟨some ⟨h1.size, 0, none⟩, I.iB.length, I.iB.length⟩ (Bs.inj I.iB I.zi)) (fun g => g.list.length)
  (fun t' vs h' => t' = 1 ∧ vs = [.pointer (some ⟨h1.size, 0, none⟩), .bool true] ∧ Ext h h' ∧ Own h1.size 1 h' ⟨some ⟨h1.size, 0, none⟩, I.iB.length, I.iB.length⟩ (Bs.inj I.iB x))
  t ⟨e1.trans e2, nt.ext (e1.trans e2), h0, by first | omega | (dsimp only; omega), hroom, hx, o2⟩ ?_ ?_
 ·rintro g ⟨(j : Int), (q : Option Addr), u⟩ h3 ⟨e3, nq, hj0, hj1, hg, hgx, oa⟩
  dsimp only at nq hj0 hj1 hgx ⊢
  cases g with
  | nil => simp [Bt.list] at hj1; omega
  | node l y r =>
   have hl := node_len l r y; have hlw := node_W (I := I) l r y; have hll := W_len O (Bt.node l y r).list
   obtain ⟨a, ql, qr, rfl, c, n1, n2⟩ := nq
   have c : NdC I h3 a ql qr l y r := c
   refine bind_bool True (s_ifT (s_ret ⟨rfl, Ext.refl _, geI j 0, rfl, by rw [geI_iff]; exact Iff.intro (fun _ => trivial) (fun _ => hj0)⟩)) fun b h4 e4 hb => ?_
   have hbt : b = true := hb.2 trivial
   subst hbt
   dsimp only
   have c4 := c.ext e4
   have e04 := e3.trans e4
   refine s_ifT (q_left c4 (wp_call (c_count (n1.ext e4)) fun k h5 e5 hk => ?_))
   obtain ⟨(k : Int), w⟩ := k
   dsimp only at hk ⊢
   subst hk
   have c5 := c4.ext e5
   have oa5 := (oa.ext e4).ext e5
   have e05 := e04.trans e5
   have hbt : (Bt.node l y r).list = l.list ++ y :: r.list := rfl
   rw [hbt] at hgx
   refine wp_ifB (fun hc => ?_) fun hc => wp_ifB (fun hd => ?_) fun hd => ?_
   ·rw [eqI_iff] at hc
    have hxy : y = x := by
     rw [List.getElem?_append_right (by omega), show j.toNat - l.list.length = 0 by omega] at hgx
     simpa using hgx
    subst hxy
    exact q_item c5 (s_stoO y oa5 (O.fi _) fun h6 o6 u6 => s_ret ⟨fun h => absurd h (by decide), fun _ => ⟨rfl, rfl, Upd.extN e05 u6 (by intro a ha; cases ha; exact e1.size), o6⟩⟩)
   ·rw [ltI_iff] at hd
    rw [List.getElem?_append_left (by omega)] at hgx
    exact q_left c5 (s_ret ⟨fun _ => ⟨l, (j, ql, ()), rfl, ⟨e05, (n1.ext e4).ext e5, hj0, hd, by omega, hgx, oa5⟩, by first | omega | (dsimp only; omega)⟩, fun h => absurd rfl h⟩)
   ·rw [eqI_not] at hc
    rw [ltI_not] at hd
    rw [sub_ok (a := j) (by omega) (by omega), sub_ok (by omega) (by omega)]
    obtain ⟨d, hd'⟩ : ∃ d : Nat, j = l.list.length + 1 + d := ⟨(j - l.list.length - 1).toNat, by omega⟩
    have h2' : (j - l.list.length - 1).toNat = d := by omega
    rw [List.getElem?_append_right (by omega), show j.toNat - l.list.length = d + 1 by omega, List.getElem?_cons_succ] at hgx
    exact q_right c5 (s_ret ⟨fun _ => ⟨r, (j - l.list.length - 1, qr, ()), rfl, ⟨e05, (n2.ext e4).ext e5, by first | omega | (dsimp only; omega), by first | omega | (dsimp only; omega), by omega, by rw [h2']; exact hgx, oa5⟩, by first | omega | (dsimp only; omega)⟩, fun h => absurd rfl h⟩)
 ·rintro tg vs h3 ⟨rfl, rfl, e3, oa⟩
  exact s_skip (by decide) (s_tag ⟨(some ⟨h1.size, 0, none⟩, true, ()), rfl, s_getO oa (s_ret ⟨rfl, e3, (x, true, ()), rfl, rfl, rfl⟩)⟩)
theorem c_AtNo (O : I.Ok P) {p : Option Addr} {t : Bt I.It} {i : Int} (nt : Nd I h p t) (hroom : I.W t.list ≤ 4398046511104) (hf : i ≤ 9223372036854775807) (hno : i < 0 ∨ (t.list.length : Int) ≤ i) :
  Gives P (G_At I (p, ()) i) [(.agg I.iB), .one .bool] h fun (y : I.It × Bool × Unit) h' => y.1 = I.zi ∧ y.2.1 = false := by
 unfold G_At Gives
 refine s_newP p fun h1 e1 o1 => s_newO I.zi O.i1.2 fun h2 e2 o2 => s_getP (o1.ext e2) ?_
 refine wp_whileG (G := Bt I.It) (fun g (s : Int × Option Addr × Unit) h' => Ext h h' ∧ Nd I h' s.2.1 g ∧ (s.1 < 0 ∨ (g.list.length : Int) ≤ s.1) ∧ s.1 ≤ 9223372036854775807 ∧ I.W g.list ≤ 4398046511104 ∧ Own h1.size 1 h' ⟨some ⟨h1.size, 0, none⟩, I.iB.length, I.iB.length⟩ (Bs.inj I.iB I.zi)) (fun g => g.list.length)
  (fun t' vs h' => t' = 2 ∧ vs = [] ∧ Ext h h' ∧ Own h1.size 1 h' ⟨some ⟨h1.size, 0, none⟩, I.iB.length, I.iB.length⟩ (Bs.inj I.iB I.zi))
  t ⟨e1.trans e2, nt.ext (e1.trans e2), hno, hf, hroom, o2⟩ ?_ ?_
 ·rintro g ⟨(j : Int), (q : Option Addr), u⟩ h3 ⟨e3, nq, hj0, hj1, hg, oa⟩
  dsimp only at nq hj0 hj1 ⊢
  cases g with
  | nil =>
   obtain rfl := nq
   refine bind_bool False (s_ifF (s_ret ⟨rfl, Ext.refl _, false, rfl, Iff.intro (fun x => by cases x) False.elim⟩)) fun b h4 e4 hb => ?_
   have hbb : b = false := by cases b; rfl; exact (hb.1 rfl).elim
   subst hbb
   exact s_ifF (s_ret ⟨fun h => absurd h (by decide), fun _ => ⟨rfl, rfl, e3.trans e4, oa.ext e4⟩⟩)
  | node l y r =>
   have hl := node_len l r y; have hlw := node_W (I := I) l r y; have hll := W_len O (Bt.node l y r).list
   obtain ⟨a, ql, qr, rfl, c, n1, n2⟩ := nq
   have c : NdC I h3 a ql qr l y r := c
   refine bind_bool (0 ≤ j) (s_ifT (s_ret ⟨rfl, Ext.refl _, geI j 0, rfl, geI_iff⟩)) fun b h4 e4 hb => ?_
   have c4 := c.ext e4
   have e04 := e3.trans e4
   dsimp only
   refine wp_ifB (fun hc => ?_) fun hc => s_ret ⟨fun h => absurd h (by decide), fun _ => ⟨rfl, rfl, e04, oa.ext e4⟩⟩
   have h0 := hb.1 hc
   refine q_left c4 (wp_call (c_count (n1.ext e4)) fun k h5 e5 hk => ?_)
   obtain ⟨(k : Int), w⟩ := k
   dsimp only at hk ⊢
   subst hk
   have c5 := c4.ext e5
   have oa5 := (oa.ext e4).ext e5
   have e05 := e04.trans e5
   rw [show eqI j (l.list.length : Int) = false from eqI_not.2 (by omega), show ltI j (l.list.length : Int) = false from ltI_not.2 (by omega)]
   rw [sub_ok (a := j) (by omega) (by omega), sub_ok (by omega) (by omega)]
   exact s_ifF (s_ifF (q_right c5 (s_ret ⟨fun _ => ⟨r, (j - l.list.length - 1, qr, ()), rfl, ⟨e05, (n2.ext e4).ext e5, by dsimp only; omega, by dsimp only; omega, by omega, oa5⟩, by omega⟩, fun h => absurd rfl h⟩)))
 ·rintro tg vs h3 ⟨rfl, rfl, e3, oa⟩
  refine s_tag (s_cast0 (s_newO I.zi O.i1.2 fun h4 e4 oz => s_getO oz (s_stoO I.zi (oa.ext e4) (O.fi _) fun h5 o5 u5 => s_getO o5 (s_ret ⟨rfl, Upd.extN (e3.trans e4) u5 (by intro a ha; cases ha; exact e1.size), (I.zi, false, ()), rfl, rfl, rfl⟩))))
end Go.Sw.Any

set_option linter.unusedVariables false
set_option linter.unusedSimpArgs false
set_option maxRecDepth 100000
namespace Go.Sw.Any
open Go.Sw.Tree (iv s_putAll s_newP s_getP s_getT s_putP small_ne cells_upd wp_whileG least TR minI_eq eqI_self Placed)
variable {P : Program} {I : Inst} {h : Heap} {Q : Nat → List Value → Heap → Prop}
theorem s_left {p : Option Addr} {l r : Bt I.It} {x : I.It} {K : Option Addr → Prog} (ht : Nd I h p (.node l x r)) (hk : ∀ q, Nd I h q l → wp P (K q) h Q) : wp P (grd (someB p) <| grd (someB p) <| .load (.one .ptr) (shiftTo p 0) K) h Q := by
 obtain ⟨a, pl, pr, rfl, c, n1, n2⟩ := ht; exact q_left c (hk pl n1)
theorem s_right {p : Option Addr} {l r : Bt I.It} {x : I.It} {K : Option Addr → Prog} (ht : Nd I h p (.node l x r)) (hk : ∀ q, Nd I h q r → wp P (K q) h Q) : wp P (grd (someB p) <| grd (someB p) <| .load (.one .ptr) (shiftTo p 1) K) h Q := by
 obtain ⟨a, pl, pr, rfl, c, n1, n2⟩ := ht; exact q_right c (hk pr n2)
theorem s_item {p : Option Addr} {l r : Bt I.It} {x : I.It} {K : I.It → Prog} (ht : Nd I h p (.node l x r)) (hk : wp P (K x) h Q) : wp P (grd (someB p) <| grd (someB p) <| .load (.agg I.iB) (shiftTo p 2) K) h Q := by
 obtain ⟨a, pl, pr, rfl, c, n1, n2⟩ := ht; exact q_item c hk
theorem s_sum {p : Option Addr} {l r : Bt I.It} {x : I.It} {K : I.Su → Prog} (ht : Nd I h p (.node l x r)) (hk : wp P (K (I.sum (Bt.node l x r).list)) h Q) : wp P (grd (someB p) <| grd (someB p) <| .load (.agg I.sB) (shiftTo p (I.ni + 4)) K) h Q := by
 obtain ⟨a, pl, pr, rfl, c, n1, n2⟩ := ht; exact q_sum c hk
def Found (I : Inst) (l : List I.It) (k n i : Int) : Prop :=
 (i = 0 ∧ n ≤ 0) ∨ (1 ≤ i ∧ i ≤ l.length ∧ n ≤ I.key (I.sum (l.take i.toNat)) k ∧ I.key (I.sum (l.take (i.toNat - 1))) k < n) ∨ (i = l.length + 1 ∧ I.key (I.sum l) k < n)
theorem c_Find (O : I.Ok P) {p : Option Addr} {t : Bt I.It} {k n : Int} (ht : Nd I h p t) (hw : I.wf t.list) (hroom : I.W t.list < 4398046511104) :
  Gives P (G_Find I (p, ()) k n) [.one (.int .i64)] h fun (x : Int × Unit) _ => Found I t.list k n x.1 := by
 have hWl := W_len O t.list
 have hns : I.sB.length = I.ns := rfl
 unfold G_Find Gives
 refine s_newP p fun h1 e1 o1 => wp_ifB (fun hc => ?_) fun hc => ?_
 ·rw [leI_iff] at hc
  exact s_ret ⟨rfl, e1, (0, ()), rfl, .inl ⟨rfl, hc⟩⟩
 rw [leI_not] at hc
 refine s_newO I.zs O.s1.2 fun h2 e2 o2 => s_getP (o1.ext e2) ?_
 refine wp_whileG (G := Bt I.It × List I.It × List I.It) (fun g (s : Int × Option Addr × Unit) h' => Ext h1 h' ∧ Nd I h' s.2.1 g.1 ∧ t.list = g.2.1 ++ g.1.list ++ g.2.2 ∧ s.1 = g.2.1.length ∧ Own h1.size 1 h' ⟨some ⟨h1.size, 0, none⟩, I.sB.length, I.sB.length⟩ (Bs.inj I.sB (I.sum g.2.1)) ∧ I.key (I.sum g.2.1) k < n ∧
   (g.2.2 = [] ∨ n ≤ I.key (I.sum (g.2.1 ++ g.1.list)) k)) (fun g => g.1.list.length)
  (fun t' vs h' => Ext h1 h' ∧ ((t' = 2 ∧ ∃ x : Int × Unit, vs = Ts.inj [.one (.int .i64)] x ∧ x.1 = t.list.length ∧ I.key (I.sum t.list) k < n) ∨ (t' = 1 ∧ ∃ x : Int × Unit, vs = Ts.inj [.one (.int .i64)] x ∧ Found I t.list k n x.1)))
  (t, [], []) ⟨e2, ht.ext (e1.trans e2), by simp, rfl, o2, by rw [show I.sum [] = I.zs from rfl, O.key0]; exact hc, .inl rfl⟩ ?_ ?_
 ·rintro ⟨t', pre, post⟩ ⟨(at_ : Int), (q : Option Addr), u⟩ h3 ⟨e3, nq, hL, hat, oa, hkey, hpost⟩
  dsimp only at nq hL hat oa hkey hpost ⊢
  have hw0 : I.wf (pre ++ t'.list ++ post) := hL ▸ hw
  have hwp : I.wf pre := fun y hy => hw0 y (by simp [hy])
  have hwt : I.wf t'.list := fun y hy => hw0 y (by simp [hy])
  have hlenL : t.list.length = pre.length + t'.list.length + post.length := by rw [hL]; simp [Nat.add_assoc]
  have hWL : I.W t.list = I.W pre + I.W t'.list + I.W post := by rw [hL, W_append, W_append]
  have hWlen := W_len O t.list
  cases t' with
  | nil =>
   obtain rfl := nq
   refine s_ifF (s_ret ⟨fun h => absurd h (by decide), fun _ => ⟨e3, .inl ⟨rfl, (at_, ()), rfl, ?_, ?_⟩⟩⟩)
   ·rcases hpost with rfl | hpost
    ·rw [hlenL, hat]; simp [Bt.list]
    ·simp only [Bt.list, List.append_nil] at hpost; omega
   ·rcases hpost with rfl | hpost
    ·rw [hL]; simpa [Bt.list] using hkey
    ·simp only [Bt.list, List.append_nil] at hpost; omega
  | node l x r =>
   have hq : ∃ a, q = some a := by obtain ⟨a, _, _, h1, _⟩ := nq; exact ⟨a, h1⟩
   obtain ⟨qa, rfl⟩ := hq
   have hnl := node_len l r x; have hnlw := node_W (I := I) l r x; have hnll := W_len O (Bt.node l x r).list
   have hx := wf_mid hwt
   have vp := V.sum O hwp
   have vl := V.sum O (wf_left hwt)
   have vm := O.vm x hx
   have hpl : I.sum (pre ++ l.list) = I.add (I.sum pre) (I.sum l.list) := sum_append O hwp (wf_left hwt)
   have vpl := O.va _ _ _ _ vp vl
   refine s_ifT (s_getO oa (s_putO (I.sum pre) O.s1.2 (O.fs _) fun h4 e4 ob => ?_))
   have oa := oa.ext e4
   have nq := nq.ext e4
   have e34 := e3.trans e4
   have hb3 := (oa.lt rfl).2
   refine wp_bind (fun t vs h' => t = 0 ∧ vs = [] ∧ Ext h3 h' ∧ Own h3.size 1 h' ⟨some ⟨h3.size, 0, none⟩, I.sB.length, I.sB.length⟩ (Bs.inj I.sB (I.sum (pre ++ l.list)))) ?_ ?_
   ·refine s_left nq fun pl nl => ?_
    cases l with
    | nil =>
     obtain rfl := nl
     exact s_ifF (s_ret ⟨rfl, rfl, e4, by simpa [Bt.list] using ob⟩)
    | node ll lx lr =>
     have hp : ∃ a, pl = some a := by obtain ⟨a, _, _, h1, _⟩ := nl; exact ⟨a, h1⟩
     obtain ⟨la, rfl⟩ := hp
     refine s_ifT (s_getO oa (s_left nq fun pl nl => s_sum nl (wp_call (O.ca _ _ _ _ _ vp vl (by omega)) fun m h5 e5 hm => ?_)))
     obtain ⟨m, w5⟩ := m
     dsimp only at hm
     rw [← hpl] at hm
     subst hm
     refine s_stoO (I.sum (pre ++ (Bt.node ll lx lr).list)) (ob.ext e5) (O.fs _) fun h6 o6 u6 => s_ret ⟨rfl, rfl, Upd.extN (e4.trans e5) u6 (by intro a ha; cases ha; exact Nat.le_refl _), o6⟩
   ·rintro tg vs h5 ⟨rfl, rfl, e5, ob⟩
    have oa := (‹Own h1.size 1 h3 ⟨some ⟨h1.size, 0, none⟩, I.sB.length, I.sB.length⟩ (Bs.inj I.sB (I.sum pre))›).ext e5
    have nq := (‹Nd I h3 (some qa) (.node l x r)›).ext e5
    have e35 := e3.trans e5
    refine s_tag (s_cast0 (s_getO ob (wp_call (O.ck _ _ _ _ (hpl ▸ vpl) (by omega)) fun y h6 e6 hy => ?_)))
    obtain ⟨(y : Int), w6⟩ := y
    dsimp only at hy ⊢
    subst hy
    have nq6 := nq.ext e6
    refine wp_ifB (fun hg => ?_) fun hg => ?_
    ·rw [geI_iff] at hg
     refine s_left nq6 fun pl nl => s_ret ⟨fun _ => ⟨(l, pre, x :: r.list ++ post), (at_, pl, ()), rfl, ⟨e35.trans e6, nl, by rw [hL]; simp [Bt.list], hat, oa.ext e6, hkey, .inr hg⟩, by dsimp only; omega⟩, fun h => absurd rfl h⟩
    ·rw [geI_not] at hg
     refine s_left nq6 fun pl nl => wp_call (c_count nl) fun c h7 e7 hc7 => ?_
     obtain ⟨(c : Int), w7⟩ := c
     dsimp only at hc7 ⊢
     subst hc7
     have nq7 := nq6.ext e7
     have ob7 := ob.ext (e6.trans e7)
     have oa7 := oa.ext (e6.trans e7)
     refine s_getO ob7 (s_item nq7 (wp_call (O.cm _ x hx) fun m h8 e8 hm => ?_))
     obtain ⟨m, w8⟩ := m
     dsimp only at hm
     subst hm
     refine s_ckO (ob7.ext e8) (wp_call (O.ca _ _ _ _ _ (hpl ▸ vpl) vm (by omega)) fun m h9 e9 hm => ?_)
     obtain ⟨m, w9⟩ := m
     dsimp only at hm
     rw [← sum_snoc] at hm
     subst hm
     have vq : I.V (I.W pre + I.W l.list + I.wt x) (I.sum (pre ++ l.list ++ [x])) := by rw [sum_snoc, hpl]; exact O.va _ _ _ _ vpl vm
     refine s_stoO (I.sum (pre ++ l.list ++ [x])) ((oa7.ext e8).ext e9) (O.fs _) fun h10 ob10 u10 => ?_
     have e10 : Ext h1 h10 := Upd.extN ((((e35.trans e6).trans e7).trans e8).trans e9) u10 (by intro a ha; cases ha; exact Nat.le_refl _)
     have nq10 : Nd I h10 (some qa) (.node l x r) := ((nq7.ext e8).ext e9).upd u10 ((oa7.ext e8).ext e9) (by omega)
     have oa := ob10
     refine s_getO oa (wp_call (O.ck _ _ _ _ vq (by omega)) fun y h11 e11 hy => ?_)
     obtain ⟨(y : Int), w11⟩ := y
     dsimp only at hy ⊢
     subst hy
     have hsum3 : addI .i64 at_ (addI .i64 ((l.list.length : Nat) : Int) 1) = ((pre.length + l.list.length + 1 : Nat) : Int) := by
      rw [add_ok (a := ((l.list.length : Nat) : Int)) (by omega) (by omega), add_ok (by omega) (by omega)]; omega
     rw [hsum3]
     have hpre : t.list.take (pre.length + l.list.length + 1) = pre ++ l.list ++ [x] := by
      rw [show t.list = (pre ++ l.list ++ [x]) ++ (r.list ++ post) by rw [hL]; simp [Bt.list]]
      exact List.take_left' (by simp [Nat.add_assoc])
     have hpre' : t.list.take (pre.length + l.list.length) = pre ++ l.list := by
      rw [show t.list = (pre ++ l.list) ++ (x :: r.list ++ post) by rw [hL]; simp [Bt.list]]
      exact List.take_left' (by simp)
     refine wp_ifB (fun hg2 => ?_) fun hg2 => ?_
     ·rw [geI_iff] at hg2
      refine s_ret ⟨fun h => absurd h (by decide), fun _ => ⟨e10.trans e11, .inr ⟨rfl, (((pre.length + l.list.length + 1 : Nat) : Int), ()), rfl, .inr (.inl ⟨by dsimp only; omega, by dsimp only; omega, ?_, ?_⟩)⟩⟩⟩
      ·dsimp only; rw [Int.toNat_natCast, hpre]; exact hg2
      ·dsimp only; rw [Int.toNat_natCast, Nat.add_sub_cancel, hpre']; exact hg
     ·rw [geI_not] at hg2
      refine s_right (nq10.ext e11) fun pr nr => s_ret ⟨fun _ => ⟨(r, pre ++ l.list ++ [x], post), (((pre.length + l.list.length + 1 : Nat) : Int), pr, ()), rfl, ⟨e10.trans e11, nr, by rw [hL]; simp [Bt.list], by simp; omega, oa.ext e11, hg2, ?_⟩, by dsimp only; omega⟩, fun h => absurd rfl h⟩
      rcases hpost with hp | hp
      ·exact .inl hp
      ·refine .inr ?_
       dsimp only
       rw [show pre ++ l.list ++ [x] ++ r.list = pre ++ (Bt.node l x r).list by simp [Bt.list]]; exact hp
 ·rintro tg vs h3 ⟨e3, ⟨rfl, x, rfl, hx, hk⟩ | ⟨rfl, x, rfl, hx⟩⟩
  ·obtain ⟨(x : Int), w⟩ := x
   dsimp only at hx
   refine s_tag ⟨(x, ()), rfl, ?_⟩
   dsimp only
   subst hx
   rw [add_ok (by omega) (by omega)]
   exact s_ret ⟨rfl, e1.trans e3, (_, ()), rfl, .inr (.inr ⟨rfl, hk⟩)⟩
  ·obtain ⟨(x : Int), w⟩ := x
   exact s_skip (by decide) (s_tag ⟨(x, ()), rfl, s_ret ⟨rfl, e1.trans e3, (x, ()), rfl, hx⟩⟩)
theorem c_Upto' (O : I.Ok P) {p : Option Addr} {t : Bt I.It} {i : Int} (ht : Nd I h p t) (hw : I.wf t.list) (hroom : I.W t.list < 4398046511104) :
  Gives P (G_Upto I (p, ()) i) [(.agg I.sB)] h fun (x : I.Su × Unit) _ => x.1 = I.sum (t.list.take i.toNat) := by
 have hWl := W_len O t.list
 have hns : I.sB.length = I.ns := rfl
 unfold G_Upto Gives
 refine s_newP p fun h1 e1 o1 => s_newO I.zs O.s1.2 fun h2 e2 o2 => s_newO I.zs O.s1.2 fun h3 e3 o3 => s_getT ((o1.ext e2).ext e3) (wp_call (c_Size (ht.ext ((e1.trans e2).trans e3))) fun y h4 e4 hy => s_getP (((o1.ext e2).ext e3).ext e4) ?_)
 obtain ⟨(y : Int), w1⟩ := y
 dsimp only at hy ⊢
 subst hy
 have b2 := (o2.lt rfl).2
 have b1 := (o1.lt rfl).2
 dsimp only at b1 b2
 have e04 : Ext h h4 := (((e1.trans e2).trans e3).trans e4)
 refine wp_whileG (G := Bt I.It × List I.It × List I.It) (fun g (s : Int × Option Addr × Unit) h' => Ext h h' ∧ Nd I h' s.2.1 g.1 ∧ t.list = g.2.1 ++ g.1.list ++ g.2.2 ∧ t.list.take i.toNat = g.2.1 ++ g.1.list.take s.1.toNat ∧ s.1 ≤ g.1.list.length ∧
   Own h1.size 1 h' ⟨some ⟨h1.size, 0, none⟩, I.sB.length, I.sB.length⟩ (Bs.inj I.sB I.zs) ∧ Own h2.size 1 h' ⟨some ⟨h2.size, 0, none⟩, I.sB.length, I.sB.length⟩ (Bs.inj I.sB (I.sum g.2.1))) (fun g => g.1.list.length)
  (fun t' vs h' => t' = 2 ∧ vs = [] ∧ Ext h h' ∧ Own h1.size 1 h' ⟨some ⟨h1.size, 0, none⟩, I.sB.length, I.sB.length⟩ (Bs.inj I.sB I.zs) ∧ Own h2.size 1 h' ⟨some ⟨h2.size, 0, none⟩, I.sB.length, I.sB.length⟩ (Bs.inj I.sB (I.sum (t.list.take i.toNat))))
  (t, [], []) ⟨e04, ht.ext e04, by simp, ?_, ?_, (o2.ext e3).ext e4, o3.ext e4⟩ ?_ ?_
 ·dsimp only
  rw [List.nil_append]
  have : minI i ((t.list.length : Nat) : Int) = min i (t.list.length : Int) := minI_eq ..
  rw [this]
  by_cases hi : i ≤ (t.list.length : Int)
  ·rw [show min i (t.list.length : Int) = i by omega]
  ·rw [show min i (t.list.length : Int) = (t.list.length : Int) by omega, List.take_of_length_le (by omega), Int.toNat_natCast, List.take_length]
 ·dsimp only
  rw [minI_eq]; omega
 ·rintro ⟨t', pre, post⟩ ⟨(j : Int), (q : Option Addr), u⟩ h5 ⟨e5, nq, hL, htake, hj, oz, oa⟩
  dsimp only at nq hL htake hj oz oa ⊢
  have hw0 : I.wf (pre ++ t'.list ++ post) := hL ▸ hw
  have hwp : I.wf pre := fun y hy => hw0 y (by simp [hy])
  have hwt : I.wf t'.list := fun y hy => hw0 y (by simp [hy])
  have hlenL : t.list.length = pre.length + t'.list.length + post.length := by rw [hL]; simp [Nat.add_assoc]
  have hWL : I.W t.list = I.W pre + I.W t'.list + I.W post := by rw [hL, W_append, W_append]
  have hWlen := W_len O t.list
  refine bind_bool (t' ≠ .nil ∧ 0 < j) ?_ fun b h6 e6 hb => ?_
  ·cases t' with
   | nil => obtain rfl := nq; exact s_ifF (s_ret ⟨rfl, Ext.refl _, false, rfl, Iff.intro (fun x => by cases x) (fun x => absurd rfl x.1)⟩)
   | node l x r =>
    obtain ⟨a, _, _, rfl, _⟩ := nq
    exact s_ifT (s_ret ⟨rfl, Ext.refl _, gtI j 0, rfl, by rw [gtI_iff]; exact Iff.intro (fun x => ⟨by simp, x⟩) (fun x => x.2)⟩)
  have e6' := e5.trans e6
  have nq6 := nq.ext e6
  have oz6 := oz.ext e6
  have oa6 := oa.ext e6
  dsimp only
  refine wp_ifB (fun hc => ?_) fun hc => ?_
  ·obtain ⟨hnn, hj0⟩ := hb.1 hc
   cases t' with
   | nil => exact absurd rfl hnn
   | node l x r =>
    have hnl := node_len l r x; have hnlw := node_W (I := I) l r x; have hnll := W_len O (Bt.node l x r).list
    have hx := wf_mid hwt
    have vp := V.sum O hwp
    have vl := V.sum O (wf_left hwt)
    have vm := O.vm x hx
    have hpl : I.sum (pre ++ l.list) = I.add (I.sum pre) (I.sum l.list) := sum_append O hwp (wf_left hwt)
    have vpl : I.V (I.W pre + I.W l.list) (I.sum (pre ++ l.list)) := hpl ▸ O.va _ _ _ _ vp vl
    refine s_left nq6 fun pl nl => wp_call (c_count nl) fun c h7 e7 hc7 => ?_
    obtain ⟨(c : Int), w7⟩ := c
    dsimp only at hc7 ⊢
    subst hc7
    have nq7 := nq6.ext e7
    refine wp_ifB (fun hg => ?_) fun hg => ?_
    ·rw [leI_iff] at hg
     refine s_left nq7 fun pl nl => s_ret ⟨fun _ => ⟨(l, pre, x :: r.list ++ post), (j, pl, ()), rfl, ⟨e6'.trans e7, nl, by rw [hL]; simp [Bt.list], ?_, hg, oz6.ext e7, oa6.ext e7⟩, by dsimp only; omega⟩, fun h => absurd rfl h⟩
     dsimp only
     rw [htake]; simp only [Bt.list]
     rw [List.take_append_of_le_length (by omega)]
    ·rw [leI_not] at hg
     refine wp_bind (fun t vs h' => t = 0 ∧ vs = [] ∧ Ext h h' ∧ Nd I h' q (.node l x r) ∧ Own h1.size 1 h' ⟨some ⟨h1.size, 0, none⟩, I.sB.length, I.sB.length⟩ (Bs.inj I.sB I.zs) ∧ Own h2.size 1 h' ⟨some ⟨h2.size, 0, none⟩, I.sB.length, I.sB.length⟩ (Bs.inj I.sB (I.sum (pre ++ l.list)))) ?_ ?_
     ·refine s_left nq7 fun pl nl => ?_
      cases l with
      | nil =>
       obtain rfl := nl
       exact s_ifF (s_ret ⟨rfl, rfl, e6'.trans e7, nq7, oz6.ext e7, by simpa [Bt.list] using oa6.ext e7⟩)
      | node ll lx lr =>
       have hp : ∃ a, pl = some a := by obtain ⟨a, _, _, h1, _⟩ := nl; exact ⟨a, h1⟩
       obtain ⟨la, rfl⟩ := hp
       refine s_ifT (s_getO (oa6.ext e7) (s_left nq7 fun pl nl => s_sum nl (wp_call (O.ca _ _ _ _ _ vp vl (by omega)) fun m h8 e8 hm => ?_)))
       obtain ⟨m, w5⟩ := m
       dsimp only at hm
       rw [← hpl] at hm
       subst hm
       refine s_stoO (I.sum (pre ++ (Bt.node ll lx lr).list)) ((oa6.ext e7).ext e8) (O.fs _) fun h9 o9 u9 => s_ret ⟨rfl, rfl, Upd.extN ((e6'.trans e7).trans e8) u9 (by intro a ha; cases ha; dsimp only; omega),
        (nq7.ext e8).upd u9 ((oa6.ext e7).ext e8) (by omega), ob_upd ((oz6.ext e7).ext e8) u9 (by dsimp only; omega), o9⟩
     ·rintro tg vs h8 ⟨rfl, rfl, e8, nq8, oz8, oa8⟩
      refine s_tag (s_cast0 (s_getO oa8 (s_item nq8 (wp_call (O.cm _ x hx) fun m h9 e9 hm => ?_))))
      obtain ⟨m, w9⟩ := m
      dsimp only at hm
      subst hm
      refine s_ckO (oa8.ext e9) (wp_call (O.ca _ _ _ _ _ vpl vm (by omega)) fun m h10 e10 hm => ?_)
      obtain ⟨m, w10⟩ := m
      dsimp only at hm
      rw [← sum_snoc] at hm
      subst hm
      have vq : I.V (I.W pre + I.W l.list + I.wt x) (I.sum (pre ++ l.list ++ [x])) := by rw [sum_snoc]; exact O.va _ _ _ _ vpl vm
      refine s_stoO (I.sum (pre ++ l.list ++ [x])) ((oa8.ext e9).ext e10) (O.fs _) fun h11 o11 u11 => ?_
      have nq11 := ((nq8.ext e9).ext e10).upd u11 ((oa8.ext e9).ext e10) (by omega)
      have hsub : subI .i64 (subI .i64 j ((l.list.length : Nat) : Int)) 1 = j - l.list.length - 1 := by
       rw [sub_ok (a := j) (by omega) (by omega), sub_ok (by omega) (by omega)]
      rw [hsub]
      refine s_right nq11 fun pr nr => s_ret ⟨fun _ => ⟨(r, pre ++ l.list ++ [x], post), (j - l.list.length - 1, pr, ()), rfl, ⟨Upd.extN ((e8.trans e9).trans e10) u11 (by intro a ha; cases ha; dsimp only; omega), nr, by rw [hL]; simp [Bt.list], ?_, by dsimp only; omega,
       ob_upd ((oz8.ext e9).ext e10) u11 (by dsimp only; omega), o11⟩, by dsimp only; omega⟩, fun h => absurd rfl h⟩
      dsimp only
      rw [htake]
      obtain ⟨d, hd⟩ : ∃ d : Nat, j = l.list.length + 1 + d := ⟨(j - l.list.length - 1).toNat, by omega⟩
      have h1' : j.toNat = (l.list ++ [x]).length + d := by simp; omega
      have h2' : (j - l.list.length - 1).toNat = d := by omega
      rw [h1', h2', show (Bt.node l x r).list = (l.list ++ [x]) ++ r.list by simp [Bt.list], List.take_append, List.take_of_length_le (by omega), Nat.add_sub_cancel_left]
      simp
  ·have hno : ¬(t' ≠ .nil ∧ 0 < j) := fun x => by rw [hb.2 x] at hc; cases hc
   refine s_ret ⟨fun h => absurd h (by decide), fun _ => ⟨rfl, rfl, e6', oz6, ?_⟩⟩
   rw [htake]
   by_cases hn : t' = .nil
   ·subst hn; simpa [Bt.list] using oa6
   ·have hj0 : j.toNat = 0 := by have : ¬ 0 < j := fun x => hno ⟨hn, x⟩; omega
    rw [hj0, List.take_zero, List.append_nil]; exact oa6
 ·rintro tg vs h5 ⟨rfl, rfl, e5, oz, oa⟩
  exact s_tag (s_cast0 (s_getO oa (s_tellO (I.sum (t.list.take i.toNat)) oz e1.size e5 (O.fs _) fun h' e => ⟨rfl, e, (_, ()), rfl, rfl⟩)))
end Go.Sw.Any

set_option linter.unusedVariables false
set_option linter.unusedSimpArgs false
set_option maxRecDepth 100000
namespace Go.Sw.Any
open Go.Sw.Tree (iv s_putAll s_newP s_getP s_getT s_putP small_ne cells_upd wp_whileG least TR minI_eq eqI_self Placed cell_own)
variable {P : Program} {I : Inst} {h : Heap} {Q : Nat → List Value → Heap → Prop}
abbrev ag (I : Inst) (r : I.It) : Value := .agg (Bs.inj I.iB r).toArray
abbrev fItems (I : Inst) (a b : Option Addr) : Value := .func (.func I.f1) #[] #[.pointer a, .pointer b]
abbrev fWalk (I : Inst) (a b : Option Addr) : Value := .func (.func I.f2) #[] #[.pointer a, .pointer b]
structure Clos (P : Program) (I : Inst) : Prop where
 it : ∀ (y : Value) (a b : Option Addr), Dyn P (fItems I a b) [y] (G_Items1 I y a b)
 wk : ∀ (p : Option Addr) (i : Int) (a b : Option Addr), Dyn P (fWalk I a b) [.pointer p, iv i] (G_Walk I p i a b)
theorem Nd.held {h' : Heap} (e : Held I.Z h h') : ∀ {t : Bt I.It} {p : Option Addr}, Nd I h p t → Nd I h' p t
 | .nil, _, n => n
 | .node l x r, p, ⟨a, pl, pr, e1, c, n1, n2⟩ => ⟨a, pl, pr, e1, ⟨cells_iff.2 fun j v hj => e.cell (cells_iff.1 c.1 j v hj) (by rw [add_block]; exact c.2.1), c.2⟩, Nd.held e n1, Nd.held e n2⟩
structure St (h0 : Heap) (m' : Nat) (y : Value) (I : Inst) (h : Heap) : Prop where
 held : Held I.Z h0 h
 le : h0.size ≤ m'
 sz : m' + 2 ≤ h.size
 cy : Sw.cell h ⟨m', 0, none⟩ = some y
 cw : Sw.cell h ⟨m' + 1, 0, none⟩ = some (fWalk I (some ⟨m' + 1, 0, none⟩) (some ⟨m', 0, none⟩))
theorem St.step {h0 h h' : Heap} {m' : Nat} {y : Value} (s : St h0 m' y I h) (f : Held (fun i => own m' 2 i ∨ (I.Z i ∧ i < h0.size)) h h') : St h0 m' y I h' where
 held := s.held.step f fun i hi hz => .inr ⟨hz, hi⟩
 le := s.le
 sz := Nat.le_trans s.sz f.1
 cy := f.cell s.cy (.inl ⟨Nat.le_refl _, by dsimp only; omega⟩)
 cw := f.cell s.cw (.inl ⟨by dsimp only; omega, by dsimp only; omega⟩)
theorem St.more {h0 h h' : Heap} {m' : Nat} {y : Value} (s : St h0 m' y I h) (e : Ext h h') : St h0 m' y I h' := s.step (Held.of_ext e)
theorem s_any {a : Addr} {v : Value} {K : Value → Prog} (hc : Sw.cell h a = some v) (hk : wp P (K v) h Q) : wp P (.load (.one .any) (some a) K) h Q := wp_load1 (b := .any) a v rfl hc hk
theorem c_walk (O : I.Ok P) (D : Clos P I) {h0 : Heap} {m' : Nat} {y : Value} {L : List I.It} {J : Nat → Heap → Prop} {F : Heap → Prop} (sJ : ∀ k a b, J k a → Chg (own m' 2) a b → J k b)
  (hY : ∀ k r h1, L[k]? = some r → J k h1 → m' + 2 ≤ h1.size → Held I.Z h0 h1 → DynV P y [ag I r] h1 fun vs h2 => ∃ b : Bool, vs = [.bool b] ∧ Held (fun i => own m' 2 i ∨ (I.Z i ∧ i < h0.size)) h1 h2 ∧ (b = true → J (k + 1) h2) ∧ (b = false → F h2)) :
  ∀ (t : Bt I.It) {p : Option Addr} {i : Int} {k : Nat} {h : Heap}, Nd I h0 p t → I.W t.list ≤ 4398046511104 → 0 ≤ i → i ≤ 9223372036854775807 → (∀ (j : Nat) (r : I.It), t.list[j]? = some r → i.toNat ≤ j → L[k + (j - i.toNat)]? = some r) → St h0 m' y I h → J k h →
  wp P (G_Walk I p i (some ⟨m' + 1, 0, none⟩) (some ⟨m', 0, none⟩)) h fun tag vs h' => tag = 0 ∧ ∃ b : Bool, vs = [.bool b] ∧ St h0 m' y I h' ∧ (b = true → J (k + (t.list.length - i.toNat)) h') ∧ (b = false → F h') := by
 have hJ : ∀ k a b, J k a → Ext a b → J k b := fun k a b j e => sJ k a b j (Chg.of_ext e)
 intro t
 induction t with
 | nil =>
  intro p i k h nt hroom h0' h1 hL st hj
  obtain rfl := nt
  unfold G_Walk
  refine bind_bool True (s_ifT (s_ret ⟨rfl, Ext.refl _, true, rfl, Iff.intro (fun _ => trivial) fun _ => rfl⟩)) fun b h2 e2 hb => ?_
  have hbt : b = true := hb.2 trivial
  subst hbt
  exact s_ifT (s_ret ⟨rfl, true, rfl, st.more e2, fun _ => by simpa [Bt.list] using hJ _ _ _ hj e2, fun h => by cases h⟩)
 | node l x r ihl ihr =>
  intro p i k h nt hroom h0' h1 hL st hj
  have hl := node_len l r x; have hlw := node_W (I := I) l r x; have hll := W_len O (Bt.node l x r).list
  have cAt : ∀ {h'}, St h0 m' y I h' → Nd I h' p (.node l x r) := fun s => Nd.held s.held nt
  obtain ⟨a, ql, qr, rfl, c, n1, n2⟩ := nt
  have cAt : ∀ {h'}, St h0 m' y I h' → NdC I h' a ql qr l x r := fun s => ⟨cells_iff.2 fun j v hj => s.held.cell (cells_iff.1 c.1 j v hj) (by rw [add_block]; exact c.2.1), c.2⟩
  have hxL : ∀ (j : Nat) (v : I.It), l.list[j]? = some v → (Bt.node l x r).list[j]? = some v := fun j v hv => by
   show (l.list ++ x :: r.list)[j]? = _
   rw [List.getElem?_append_left (List.getElem?_eq_some_iff.1 hv).1]; exact hv
  have hxM : (Bt.node l x r).list[l.list.length]? = some x := by
   show (l.list ++ x :: r.list)[_]? = _
   rw [List.getElem?_append_right (Nat.le_refl _)]; simp
  have hxR : ∀ (j : Nat) (v : I.It), r.list[j]? = some v → (Bt.node l x r).list[l.list.length + 1 + j]? = some v := fun j v hv => by
   show (l.list ++ x :: r.list)[_]? = _
   rw [List.getElem?_append_right (by omega), show l.list.length + 1 + j - l.list.length = j + 1 by omega, List.getElem?_cons_succ]; exact hv
  unfold G_Walk
  refine bind_bool (((Bt.node l x r).list.length : Int) ≤ i) ?_ fun b h2 e2 hb => ?_
  ·exact s_ifF (wp_grd rfl (wp_grd rfl (wp_load1 (b := .int .i64) (a.add (I.ni + 2)) _ rfl (cAt st).nums.1 (s_ret ⟨rfl, Ext.refl _, _, rfl, geI_iff⟩))))
  have st2 := st.more e2
  have hj2 := hJ _ _ _ hj e2
  dsimp only
  refine wp_ifB (fun hc => s_ret ⟨rfl, true, rfl, st2, fun _ => ?_, fun h => by cases h⟩) fun hc => ?_
  ·have := hb.1 hc
   rw [show (Bt.node l x r).list.length - i.toNat = 0 by omega]; exact hj2
  have hlt : i < ((Bt.node l x r).list.length : Int) := by
   by_cases hx : ((Bt.node l x r).list.length : Int) ≤ i
   ·rw [hb.2 hx] at hc; cases hc
   ·omega
  refine q_left (cAt st2) (wp_call (c_count (Nd.held st2.held n1)) fun n h3 e3 hn => ?_)
  obtain ⟨(n : Int), w⟩ := n
  dsimp only at hn ⊢
  subst hn
  have st3 := st2.more e3
  have hj3 := hJ _ _ _ hj2 e3
  refine wp_bind (fun tg vs h' => tg = 0 ∧ ∃ b : Bool, vs = [.bool b] ∧ St h0 m' y I h' ∧ (b = true → F h') ∧ (b = false → J (k + (l.list.length - i.toNat)) h')) ?_ ?_
  ·refine wp_ifB (fun hd => ?_) fun hd => ?_
   ·rw [ltI_iff] at hd
    refine s_any st3.cw (q_left (cAt st3) (wp_dyn (D.wk _ _ _ _) (wp_mono _ ?_ (ihl (k := k) n1 (by omega) h0' h1 (fun j v hv hj => hL j v (hxL j v hv) hj) st3 hj3))))
    rintro tg vs h4 ⟨rfl, b, rfl, st4, t4, f4⟩
    refine ⟨rfl, (b, ()), rfl, s_ret ⟨rfl, notB b, rfl, st4, fun hb => f4 (notB_iff.1 hb), fun hb => t4 (notB_not.1 hb)⟩⟩
   ·rw [ltI_not] at hd
    refine s_ret ⟨rfl, false, rfl, st3, fun h => (by cases h), fun _ => ?_⟩
    rw [show l.list.length - i.toNat = 0 by omega]; exact hj3
  rintro tg vs h4 ⟨rfl, b, rfl, st4, f4, t4⟩
  refine s_tag (s_castB (wp_ifB (fun hc => s_ret ⟨rfl, false, rfl, st4, fun h => (by cases h), fun _ => f4 hc⟩) fun hc => ?_))
  have hj4 := t4 hc
  refine wp_bind (fun tg vs h' => tg = 0 ∧ ∃ b : Bool, vs = [.bool b] ∧ St h0 m' y I h' ∧ (b = true → F h') ∧ (b = false → J (k + (l.list.length + 1 - i.toNat)) h')) ?_ ?_
  ·refine wp_ifB (fun hd => ?_) fun hd => ?_
   ·rw [leI_iff] at hd
    refine s_any st4.cy (q_item (cAt st4) (wp_callv ((hY _ x h4 (hL _ x hxM (by omega)) hj4 st4.sz st4.held).mono ?_)))
    rintro vs h5 ⟨b, rfl, fr, t5, f5⟩
    refine ⟨(b, ()), rfl, s_ret ⟨rfl, notB b, rfl, st4.step fr, fun hb => f5 (notB_iff.1 hb), fun hb => ?_⟩⟩
    have := t5 (notB_not.1 hb)
    rw [show k + (l.list.length + 1 - i.toNat) = k + (l.list.length - i.toNat) + 1 by omega]; exact this
   ·rw [leI_not] at hd
    refine s_ret ⟨rfl, false, rfl, st4, fun h => (by cases h), fun _ => ?_⟩
    rw [show l.list.length + 1 - i.toNat = l.list.length - i.toNat by omega]; exact hj4
  rintro tg vs h5 ⟨rfl, b, rfl, st5, f5, t5⟩
  refine s_tag (s_castB (wp_ifB (fun hc => s_ret ⟨rfl, false, rfl, st5, fun h => (by cases h), fun _ => f5 hc⟩) fun hc => ?_))
  have hj5 := t5 hc
  rw [sub_ok (a := i) (by omega) (by omega), sub_ok (by omega) (by omega)]
  have hmx : maxI 0 (i - l.list.length - 1) = ((i.toNat - (l.list.length + 1) : Nat) : Int) := by unfold maxI; split <;> omega
  rw [hmx]
  refine s_any st5.cw (q_right (cAt st5) (wp_dyn (D.wk _ _ _ _) (wp_mono _ ?_ (ihr (k := k + (l.list.length + 1 - i.toNat)) n2 (by omega) (by omega) (by omega) (fun j v hv hj => ?_) st5 hj5))))
  ·rintro tg vs h6 ⟨rfl, b, rfl, st6, t6, f6⟩
   refine ⟨rfl, (b, ()), rfl, s_ret ⟨rfl, b, rfl, st6, fun hb => ?_, f6⟩⟩
   have := t6 hb
   rw [Int.toNat_natCast] at this
   rw [show k + ((Bt.node l x r).list.length - i.toNat) = k + (l.list.length + 1 - i.toNat) + (r.list.length - (i.toNat - (l.list.length + 1))) by omega]; exact this
  ·rw [Int.toNat_natCast] at hj ⊢
   have := hL _ v (hxR j v hv) (by omega)
   rw [show k + (l.list.length + 1 - i.toNat) + (j - (i.toNat - (l.list.length + 1))) = k + (l.list.length + 1 + j - i.toNat) by omega]; exact this
def AL (I : Inst) (L : List I.It) (k : Nat) (hp h1 : Heap) (args : List Value) : Prop := ∃ r, L[k]? = some r ∧ args = [ag I r]
theorem iter_items (O : I.Ok P) (D : Clos P I) {h0 : Heap} {p : Option Addr} {t : Bt I.It} {a b : Addr} {i : Int} (nt : Nd I h0 p t) (hroom : I.W t.list ≤ 4398046511104) (hi : fitsI .i64 i) (ca : Sw.cell h0 a = some (.pointer p)) (cb : Sw.cell h0 b = some (iv i)) (za : I.Z a.block) (zb : I.Z b.block) :
  IterG P (fItems I (some a) (some b)) (t.list.drop i.toNat).length (AL I (t.list.drop i.toNat)) I.Z 2 h0 := by
 intro h y J F hs hz fy sJ sF hY hj
 rw [fits_i64] at hi
 refine D.it _ _ _ h _ ?_
 unfold G_Items1
 refine wp_grd (by cases y <;> first | rfl | cases fy) fun el1 => ?_
 have e1 : Ext h (h.push (.cells [y].toArray el1)) := Ext.push ..
 have q1 : Own h.size 1 (h.push (.cells [y].toArray el1)) ⟨some ⟨h.size, 0, none⟩, 1, 1⟩ [y] := own_alloc rfl (by decide) (by decide)
 have z1 : (h.push (.cells [y].toArray el1)).size = h.size + 1 := by simp
 generalize (h.push (.cells [y].toArray el1)) = h1 at e1 q1 z1 ⊢
 intro el2
 have e2 : Ext h1 (h1.push (.cells [.nilFunc].toArray el2)) := Ext.push ..
 have q2 : Own h1.size 1 (h1.push (.cells [.nilFunc].toArray el2)) ⟨some ⟨h1.size, 0, none⟩, 1, 1⟩ [.nilFunc] := own_alloc rfl (by decide) (by decide)
 generalize (h1.push (.cells [.nilFunc].toArray el2)) = h2 at e2 q2 ⊢
 rw [z1] at q2 ⊢
 refine s_putAll [fWalk I (some ⟨h.size + 1, 0, none⟩) (some ⟨h.size, 0, none⟩)] q2 rfl (by intro v hv; rw [List.mem_singleton.1 hv]; rfl) fun h3 q3 u3 => ?_
 have e13 : Ext h1 h3 := Upd.extN e2 u3 (fun x hx => by cases hx; exact Nat.le_of_eq z1)
 have e3 : Ext h h3 := e1.trans e13
 have b3 := (q3.lt rfl).2
 dsimp only at b3
 have c3 : Sw.cell h3 ⟨h.size + 1, 0, none⟩ = some (fWalk I (some ⟨h.size + 1, 0, none⟩) (some ⟨h.size, 0, none⟩)) := by have := cells_iff.1 q3.cells 0 _ rfl; rwa [add_zero'] at this
 have cy3 : Sw.cell h3 ⟨h.size, 0, none⟩ = some y := by have := cells_iff.1 (q1.ext e13).cells 0 _ rfl; rwa [add_zero'] at this
 have hz3 : Held I.Z h0 h3 := hz.step (V := fun _ => True) (Held.of_ext e3) fun _ _ _ => trivial
 have st : St h0 h.size y I h3 := ⟨hz3, hs, b3, cy3, c3⟩
 refine s_any c3 (wp_grd rfl (wp_load1 (b := .ptr) (a.add 0) p rfl (by rw [add_zero']; exact hz3.cell ca za) (wp_load1 (b := .int .i64) b i rfl (hz3.cell cb zb) (wp_dyn (D.wk _ _ _ _) ?_))))
 have hmx : maxI 0 i = (i.toNat : Int) := by unfold maxI; split <;> omega
 rw [hmx]
 refine wp_mono _ ?_ (c_walk O D (L := t.list.drop i.toNat) sJ (fun k r h1 hk hj hs1 hz1 => hY k h1 h1 [ag I r] (List.getElem?_eq_some_iff.1 hk).1 hj (by omega) (Chg.refl _ _) hs1 hz1 ⟨r, hk, rfl⟩) t (k := 0) nt hroom (by omega) (by omega) (fun j r hr hj => ?_) st (sJ _ _ _ hj (Chg.of_ext e3)))
 ·rintro tg vs h4 ⟨rfl, b, rfl, st4, t4, f4⟩
  have s4 := st4.sz
  refine ⟨rfl, (b, ()), rfl, s_ret ⟨rfl, rfl, by omega, st4.held, ?_⟩⟩
  cases b with
  | true => left; have := t4 rfl; rw [Int.toNat_natCast, Nat.zero_add] at this; rw [List.length_drop]; exact this
  | false => exact .inr (f4 rfl)
 ·rw [Int.toNat_natCast] at hj ⊢
  rw [List.getElem?_drop, Nat.zero_add, show i.toNat + (j - i.toNat) = j by omega]; exact hr
end Go.Sw.Any

set_option linter.unusedVariables false
set_option linter.unusedSimpArgs false
set_option maxRecDepth 100000
namespace Go.Sw.Piece
open Go.Sw.Any
open Go.Sw.Tree (iv s_putAll s_newP s_getP s_getT s_putP eqI_self Placed cell_own)
variable {P : Program} {S : Ids} {h : Heap} {Q : Nat → List Value → Heap → Prop}
abbrev PB : List B := [.sl, .int .i64, .int .i64, .int .i64, .int .i64, .bool, .bool]
abbrev SB : List B := [.int .i64, .int .i64, .int .i64, .bool, .bool]
abbrev Part := Sl × Int × Int × Int × Int × Bool × Bool × Unit
abbrev Sums := Int × Int × Int × Bool × Bool × Unit
def zS : Sums := (0, 0, 0, false, false, ())
def zP : Part := (⟨none, 0, 0⟩, 0, 0, 0, 0, false, false, ())
def sumP (p : Part) : Sums := (p.2.2.1, p.2.2.2.1, p.2.2.2.2.1, p.2.2.2.2.2.1, p.2.2.2.2.2.2.1, ())
def brk (s o : Sums) : Int := if s.2.2.2.2.1 = true ∧ o.2.2.2.1 = true then 1 else 0
def addS (s o : Sums) : Sums := if s.1 = 0 then o else if o.1 = 0 then s else (s.1 + o.1, s.2.1 + o.2.1, s.2.2.1 + o.2.2.1 - brk s o, s.2.2.2.1, o.2.2.2.2.1, ())
def keyS (s : Sums) (k : Int) : Int := if k = 0 then s.1 else if k = 1 then s.2.2.1 else 0
def VS (n : Nat) (s : Sums) : Prop := 0 ≤ s.1 ∧ s.1 ≤ n ∧ 0 ≤ s.2.1 ∧ s.2.1 ≤ 4 * n ∧ 0 ≤ s.2.2.1 ∧ s.2.2.1 ≤ n ∧ (s.1 = 0 → s = zS) ∧ (s.2.2.2.1 = true → 1 ≤ s.2.2.1)
def wtP (p : Part) : Nat := max 1 p.2.2.1.toNat
theorem flatS (s : Sums) : ∀ v, v ∈ Bs.inj SB s → flat v = true := by
 intro v hv; simp only [SB, Bs.inj, List.mem_cons, List.not_mem_nil, or_false] at hv; rcases hv with rfl | rfl | rfl | rfl | rfl <;> rfl
theorem flatP (s : Part) : ∀ v, v ∈ Bs.inj PB s → flat v = true := by
 intro v hv; simp only [PB, Bs.inj, List.mem_cons, List.not_mem_nil, or_false] at hv; rcases hv with rfl | rfl | rfl | rfl | rfl | rfl | rfl <;> rfl
theorem brk_le (s o : Sums) : 0 ≤ brk s o ∧ brk s o ≤ 1 ∧ (brk s o = 1 → o.2.2.2.1 = true) := by
 unfold brk
 split
 ·rename_i hx; exact ⟨by omega, by omega, fun _ => hx.2⟩
 ·exact ⟨by omega, by omega, fun h => by omega⟩
theorem addS_zero_left (o : Sums) : addS zS o = o := by unfold addS; rw [if_pos (show zS.1 = 0 from rfl)]
theorem addS_l0 {x o : Sums} (h : x.1 = 0) : addS x o = o := by unfold addS; rw [if_pos h]
theorem addS_zero_right {n : Nat} {s : Sums} (v : VS n s) : addS s zS = s := by
 unfold addS
 by_cases h0 : s.1 = 0
 ·rw [if_pos h0]; exact (v.2.2.2.2.2.2.1 h0).symm
 ·rw [if_neg h0, if_pos (show zS.1 = 0 from rfl)]
theorem VS.mono {n m : Nat} {s : Sums} (v : VS n s) (h : n ≤ m) : VS m s := by
 obtain ⟨a, b, c, d, e, f, g, i⟩ := v
 exact ⟨a, by omega, c, by omega, e, by omega, g, i⟩
theorem VS.add {n m : Nat} {s o : Sums} (v : VS n s) (w : VS m o) : VS (n + m) (addS s o) := by
 unfold addS
 by_cases h0 : s.1 = 0
 ·rw [if_pos h0]; exact w.mono (by omega)
 ·rw [if_neg h0]
  by_cases h1 : o.1 = 0
  ·rw [if_pos h1]; exact v.mono (by omega)
  ·rw [if_neg h1]
   obtain ⟨a, b, c, d, e, f, g, i⟩ := v
   obtain ⟨a', b', c', d', e', f', g', i'⟩ := w
   obtain ⟨k1, k2, k3⟩ := brk_le s o
   have hk : brk s o ≤ o.2.2.1 := by
    by_cases h2 : brk s o = 1
    ·have := i' (k3 h2); omega
    ·omega
   refine ⟨by dsimp only; omega, by dsimp only; omega, by dsimp only; omega, by dsimp only; omega, by dsimp only; omega, by dsimp only; omega, fun h => by dsimp only at h; omega, fun h => ?_⟩
   have := i h
   dsimp only; omega
theorem addS_assoc {n m k : Nat} {x y z : Sums} (vx : VS n x) (vy : VS m y) (vz : VS k z) : addS (addS x y) z = addS x (addS y z) := by
 by_cases hx : x.1 = 0
 ·rw [addS_l0 hx, addS_l0 hx]
 by_cases hy : y.1 = 0
 ·have h1 : addS x y = x := by unfold addS; rw [if_neg hx, if_pos hy]
  have h2 : addS y z = z := by unfold addS; rw [if_pos hy]
  rw [h1, h2]
 by_cases hz : z.1 = 0
 ·have h1 : addS y z = y := by unfold addS; rw [if_neg hy, if_pos hz]
  have h2 : ∀ w : Sums, w.1 ≠ 0 → addS w z = w := fun w hw => by unfold addS; rw [if_neg hw, if_pos hz]
  rw [h1]
  refine h2 _ ?_
  have := vx.1; have := vy.1
  unfold addS; rw [if_neg hx, if_neg hy]; dsimp only; omega
 have e1 : addS x y = (x.1 + y.1, x.2.1 + y.2.1, x.2.2.1 + y.2.2.1 - brk x y, x.2.2.2.1, y.2.2.2.2.1, ()) := by unfold addS; rw [if_neg hx, if_neg hy]
 have e2 : addS y z = (y.1 + z.1, y.2.1 + z.2.1, y.2.2.1 + z.2.2.1 - brk y z, y.2.2.2.1, z.2.2.2.2.1, ()) := by unfold addS; rw [if_neg hy, if_neg hz]
 have := vx.1; have := vy.1; have := vz.1
 rw [e1, e2]
 unfold addS
 dsimp only
 rw [if_neg (by omega), if_neg hz, if_neg hx, if_neg (by omega)]
 have b1 : brk (x.1 + y.1, x.2.1 + y.2.1, x.2.2.1 + y.2.2.1 - brk x y, x.2.2.2.1, y.2.2.2.2.1, ()) z = brk y z := rfl
 have b2 : brk x (y.1 + z.1, y.2.1 + z.2.1, y.2.2.1 + z.2.2.1 - brk y z, y.2.2.2.1, z.2.2.2.2.1, ()) = brk x y := rfl
 rw [b1, b2]
 congr 1
 ·omega
 ·congr 1
  ·omega
  ·congr 1; omega
theorem keyS_mono {n m : Nat} {s o : Sums} (v : VS n s) (w : VS m o) (k : Int) : keyS s k ≤ keyS (addS s o) k := by
 obtain ⟨a, b, c, d, e, f, g, i⟩ := v
 obtain ⟨a', b', c', d', e', f', g', i'⟩ := w
 unfold addS
 by_cases h0 : s.1 = 0
 ·rw [if_pos h0, g h0]
  unfold keyS zS
  (repeat' split) <;> first | omega | (dsimp only; omega)
 ·rw [if_neg h0]
  by_cases h1 : o.1 = 0
  ·rw [if_pos h1]; exact Int.le_refl _
  ·rw [if_neg h1]
   obtain ⟨k1, k2, k3⟩ := brk_le s o
   have hk : brk s o ≤ o.2.2.1 := by
    by_cases h2 : brk s o = 1
    ·have := i' (k3 h2); omega
    ·omega
   unfold keyS
   (repeat' split) <;> first | omega | (dsimp only; omega)
theorem c_Measure {x : Part} : Gives P (F_part_Measure S x) [.agg SB] h fun (y : Sums × Unit) _ => y.1 = sumP x := by
 unfold F_part_Measure Gives
 refine s_newO (bs := PB) x (by decide) fun h1 e1 o1 => s_newO (bs := SB) zS (by decide) fun h2 e2 o2 => ?_
 refine ⟨(⟨h.size, 0, none⟩ : Addr).add 2, rfl, sumP x, cells_iff.2 fun j v hj => ?_, ?_⟩
 ·rw [add_add]
  refine cells_iff.1 (o1.ext e2).cells _ _ ?_
  match j, hj with
  | 0, hj => exact hj
  | 1, hj => exact hj
  | 2, hj => exact hj
  | 3, hj => exact hj
  | 4, hj => exact hj
  | j + 5, hj => simp [Ty.cells, Bs.inj] at hj
 ·exact s_tellO (bs := SB) (sumP x) o2 e1.size (e1.trans e2) (flatS _) fun h' e => ⟨rfl, e, (sumP x, ()), rfl, rfl⟩
theorem c_Key {n : Nat} {s : Sums} {k : Int} : Gives P (F_sums_Key S s k) [.one (.int .i64)] h fun (y : Int × Unit) _ => y.1 = keyS s k := by
 unfold F_sums_Key Gives keyS
 refine s_newO (bs := SB) s (by decide) fun h1 e1 o1 => wp_ifB (fun hc => ?_) fun hc => wp_ifB (fun hd => ?_) fun hd => ?_
 ·rw [eqI_iff] at hc; rw [if_pos hc]
  exact wp_load1 (b := .int .i64) _ s.1 rfl (cells_iff.1 o1.cells 0 _ rfl) (s_ret ⟨rfl, e1, (s.1, ()), rfl, rfl⟩)
 ·rw [eqI_not] at hc; rw [eqI_iff] at hd; rw [if_neg hc, if_pos hd]
  exact wp_load1 (b := .int .i64) _ s.2.2.1 rfl (cells_iff.1 o1.cells 2 _ rfl) (s_ret ⟨rfl, e1, (s.2.2.1, ()), rfl, rfl⟩)
 ·rw [eqI_not] at hc hd; rw [if_neg hc, if_neg hd]
  exact s_ret ⟨rfl, e1, (0, ()), rfl, rfl⟩
theorem c_Add {n m : Nat} {s o : Sums} (v : VS n s) (w : VS m o) (hn : n + m ≤ 4398046511104) : Gives P (F_sums_Add S s o) [.agg SB] h fun (y : Sums × Unit) _ => y.1 = addS s o := by
 obtain ⟨a, b, c, d, e, f, g, i⟩ := id v
 obtain ⟨a', b', c', d', e', f', g', i'⟩ := id w
 unfold F_sums_Add Gives
 refine s_newO (bs := SB) s (by decide) fun h1 e1 o1 => s_newO (bs := SB) o (by decide) fun h2 e2 o2 => s_newO (bs := SB) zS (by decide) fun h3 e3 o3 => ?_
 have e23 := e2.trans e3
 have l1 : ∀ {h'} {b : B} {j : Nat} {x : b.den} {K : b.den → Prog} {Q : Nat → List Value → Heap → Prop}, Ext h3 h' → (Bs.inj SB s)[j]? = some (b.inj x) → wp P (K x) h' Q → wp P (.load (.one b) (shiftTo (some ⟨h.size, 0, none⟩) j) K) h' Q := fun e hj hk => wp_load1 _ _ rfl (cells_iff.1 (o1.ext (e23.trans e)).cells _ _ hj) hk
 have l2 : ∀ {h'} {b : B} {j : Nat} {x : b.den} {K : b.den → Prog} {Q : Nat → List Value → Heap → Prop}, Ext h3 h' → (Bs.inj SB o)[j]? = some (b.inj x) → wp P (K x) h' Q → wp P (.load (.one b) (shiftTo (some ⟨h1.size, 0, none⟩) j) K) h' Q := fun e hj hk => wp_load1 _ _ rfl (cells_iff.1 (o2.ext (e3.trans e)).cells _ _ hj) hk
 refine l1 (b := .int .i64) (x := s.1) (Ext.refl _) rfl (wp_ifB (fun hc => ?_) fun hc => ?_)
 ·rw [eqI_iff] at hc
  refine s_getO (bs := SB) (o2.ext e3) (s_tellO (bs := SB) o o3 (Nat.le_trans e1.size e2.size) (e1.trans e23) (flatS _) fun h' e => ⟨rfl, e, (o, ()), rfl, ?_⟩)
  unfold addS; rw [if_pos hc]
 rw [eqI_not] at hc
 refine l2 (b := .int .i64) (x := o.1) (Ext.refl _) rfl (wp_ifB (fun hd => ?_) fun hd => ?_)
 ·rw [eqI_iff] at hd
  refine s_getO (bs := SB) (o1.ext e23) (s_tellO (bs := SB) s o3 (Nat.le_trans e1.size e2.size) (e1.trans e23) (flatS _) fun h' e => ⟨rfl, e, (s, ()), rfl, ?_⟩)
  unfold addS; rw [if_neg hc, if_pos hd]
 rw [eqI_not] at hd
 refine l1 (b := .int .i64) (x := s.1) (Ext.refl _) rfl (l2 (b := .int .i64) (x := o.1) (Ext.refl _) rfl (l1 (b := .int .i64) (x := s.2.1) (Ext.refl _) rfl (l2 (b := .int .i64) (x := o.2.1) (Ext.refl _) rfl
  (l1 (b := .int .i64) (x := s.2.2.1) (Ext.refl _) rfl (l2 (b := .int .i64) (x := o.2.2.1) (Ext.refl _) rfl (l1 (b := .bool) (x := s.2.2.2.1) (Ext.refl _) rfl (l2 (b := .bool) (x := o.2.2.2.2.1) (Ext.refl _) rfl ?_)))))))
 rw [add_ok (a := s.1) (by omega) (by omega), add_ok (a := s.2.1) (by omega) (by omega), add_ok (a := s.2.2.1) (by omega) (by omega)]
 refine s_putO (bs := SB) (z := zS) (s.1 + o.1, s.2.1 + o.2.1, s.2.2.1 + o.2.2.1, s.2.2.2.1, o.2.2.2.2.1, ()) (by decide) (flatS _) fun h4 e4 o4 => ?_
 have hadd : addS s o = (s.1 + o.1, s.2.1 + o.2.1, s.2.2.1 + o.2.2.1 - brk s o, s.2.2.2.1, o.2.2.2.2.1, ()) := by unfold addS; rw [if_neg hc, if_neg hd]
 refine wp_bind (fun t vs h' => t = 0 ∧ vs = [] ∧ Ext h3 h' ∧ Own h3.size 1 h' ⟨some ⟨h3.size, 0, none⟩, 5, 5⟩ (Bs.inj SB (addS s o))) ?_ ?_
 ·refine bind_bool (s.2.2.2.2.1 = true ∧ o.2.2.2.1 = true) ?_ fun bb h5 e5 hb => wp_ifB (fun hx => ?_) fun hx => ?_
  ·refine l1 (b := .bool) (x := s.2.2.2.2.1) e4 rfl (wp_ifB (fun hx => ?_) fun hx => s_ret ⟨rfl, Ext.refl _, false, rfl, Iff.intro (fun h => by cases h) fun h => by rw [h.1] at hx; cases hx⟩)
   exact l2 (b := .bool) (x := o.2.2.2.1) e4 rfl (s_ret ⟨rfl, Ext.refl _, _, rfl, fun h => ⟨hx, h⟩, fun h => h.2⟩)
  ·have hbr : brk s o = 1 := by unfold brk; rw [if_pos (hb.1 hx)]
   refine wp_load1 (b := .int .i64) _ (s.2.2.1 + o.2.2.1) rfl (cells_iff.1 (o4.ext e5).cells 2 _ rfl) ?_
   rw [sub_ok (by omega) (by omega)]
   refine s_setC' (vs := Bs.inj SB (s.1 + o.1, s.2.1 + o.2.1, s.2.2.1 + o.2.2.1, s.2.2.2.1, o.2.2.2.2.1, ())) (iv (s.2.2.1 + o.2.2.1 - 1)) (o4.ext e5) (by simp [Bs.inj]) rfl fun h6 o6 u6 => s_ret ⟨rfl, rfl, ?_, ?_⟩
   ·exact Upd.extN (e4.trans e5) u6 (by intro x hx; cases hx; exact Nat.le_refl _)
   ·rw [hadd, hbr]; exact o6
  ·refine s_ret ⟨rfl, rfl, e4.trans e5, ?_⟩
   have hbr : brk s o = 0 := by unfold brk; rw [if_neg fun k => by rw [hb.2 k] at hx; cases hx]
   rw [hadd, hbr, Int.sub_zero]; exact o4.ext e5
 ·rintro t vs h5 ⟨rfl, rfl, e5, o5⟩
  exact s_tag (s_cast0 (s_getO (bs := SB) o5 (s_tellO (bs := SB) (addS s o) (o3.ext e5) (Nat.le_trans e1.size e2.size) ((e1.trans e23).trans e5) (flatS _) fun h' e => ⟨rfl, e, (addS s o, ()), rfl, rfl⟩)))
theorem VS.zero : VS 0 zS := ⟨by decide, by decide, by decide, by decide, by decide, by decide, fun _ => rfl, fun h => by cases h⟩
def part (S : Ids) (Z : Nat → Prop) : Inst where
 iB := PB
 sB := SB
 zi := zP
 zs := zS
 mF := F_part_Measure S
 aF := F_sums_Add S
 kF := F_sums_Key S
 f1 := S.f_Tree_part_Items_1
 f2 := S.f_Tree_part_Items_1_1
 okI := fun p => VS (wtP p) (sumP p)
 wt := wtP
 V := VS
 meas := sumP
 add := addS
 key := keyS
 Z := Z
theorem part_ok (S : Ids) (Z : Nat → Prop) : (part S Z).Ok P where
 i1 := (by decide : 1 ≤ 7 ∧ 7 ≤ 100)
 s1 := (by decide : 1 ≤ 5 ∧ 5 ≤ 100)
 fi := flatP
 fs := flatS
 w1 := fun x => by show 1 ≤ wtP x; unfold wtP; omega
 v0 := VS.zero
 vm := fun x h => h
 va := fun n m s o v w => v.add w
 mono := fun n m s v h => v.mono h
 az := fun n s v => addS_zero_right v
 za := fun n s v => addS_zero_left s
 assoc := fun n m k x y z a b c => addS_assoc a b c
 key0 := fun k => by show keyS zS k = 0; unfold keyS zS; (repeat' split) <;> rfl
 kmono := fun n m s o k v w => keyS_mono v w k
 cm := fun h x _ => c_Measure (S := S)
 ca := fun h n m s o v w hn => c_Add (S := S) v w hn
 ck := fun h n s k v _ => c_Key (S := S) (n := n)
variable {Z : Nat → Prop}
theorem g_build (S : Ids) (Z : Nat → Prop) : ∀ n, R_tree_build_part n S = Gr_build n (part S Z)
 | 0 => rfl
 | n + 1 => by
  funext items
  show R_tree_build_part (n + 1) S items = _
  unfold R_tree_build_part
  rw [g_build S Z n]
  rfl
theorem g_Of (S : Ids) (Z : Nat → Prop) (s : Sl) : F_tree_Of_part S s = G_Of (part S Z) s := by
 unfold F_tree_Of_part G_Of F_tree_build_part G_build
 simp only [g_build S Z]
end Go.Sw.Piece

set_option linter.unusedVariables false
set_option linter.unusedSimpArgs false
set_option maxRecDepth 100000
namespace Go.Sw.Piece
open Go.Sw.Codec
def toksN (enc : Int) : Nat → List Int → List (Int × Int)
 | 0, _ => []
 | n + 1, l => if l.length = 0 then [] else firstF enc l :: toksN enc n (l.drop (firstF enc l).2.toNat)
def toks (enc : Int) (l : List Int) : List (Int × Int) := toksN enc l.length l
theorem toksN_enough {enc : Int} : ∀ (n m : Nat) (l : List Int), isBytes l → l.length ≤ n → l.length ≤ m → toksN enc n l = toksN enc m l := by
 intro n
 induction n with
 | zero =>
  intro m l hb hn hm
  cases m with
  | zero => rfl
  | succ m => simp only [toksN]; rw [if_pos (by omega)]
 | succ n ih =>
  intro m l hb hn hm
  cases m with
  | zero => simp only [toksN]; rw [if_pos (by omega)]
  | succ m =>
   simp only [toksN]
   by_cases hz : l.length = 0
   ·rw [if_pos hz, if_pos hz]
   ·rw [if_neg hz, if_neg hz]
    have := firstF_size (enc := enc) (l := l) (by omega) hb
    rw [ih m _ (hb.drop _) (by rw [List.length_drop]; omega) (by rw [List.length_drop]; omega)]
theorem toks_nil {enc : Int} {l : List Int} (h : l.length = 0) : toks enc l = [] := by unfold toks; rw [h]; rfl
theorem toks_cons {enc : Int} {l : List Int} (hb : isBytes l) (h : 0 < l.length) : toks enc l = firstF enc l :: toks enc (l.drop (firstF enc l).2.toNat) := by
 have := firstF_size (enc := enc) h hb
 unfold toks
 rw [toksN_enough l.length (l.length - 1 + 1) l hb (by omega) (by omega)]
 simp only [toksN]
 rw [if_neg (by omega), toksN_enough (l.length - 1) (l.drop (firstF enc l).2.toNat).length _ (hb.drop _) (by rw [List.length_drop]; omega) (by omega)]
theorem byAtoms {enc : Int} {M : List Int → Prop} (h0 : ∀ l, l.length = 0 → M l) (h1 : ∀ l, isBytes l → 0 < l.length → M (l.drop (firstF enc l).2.toNat) → M l) : ∀ l, isBytes l → M l := by
 have : ∀ (n : Nat) (l : List Int), l.length = n → isBytes l → M l := by
  intro n
  induction n using Nat.strongRecOn with
  | ind n ih =>
   intro l hn hb
   by_cases hz : l.length = 0
   ·exact h0 l hz
   ·have hs := firstF_size (enc := enc) (l := l) (by omega) hb
    exact h1 l hb (by omega) (ih _ (by rw [List.length_drop]; omega) _ rfl (hb.drop _))
 exact fun l hb => this _ l rfl hb
theorem toks_dec {enc : Int} {l : List Int} (hb : isBytes l) : (toks enc l).map (·.1) = dec enc l := by
 refine byAtoms (enc := enc) (M := fun l => (toks enc l).map (·.1) = dec enc l) (fun l hz => ?_) (fun l hb hl ih => ?_) l hb
 ·rw [toks_nil hz, dec_nil hz]; rfl
 ·rw [toks_cons hb hl, dec_cons hb hl, List.map_cons, ih]
def offs (ts : List (Int × Int)) : Nat := (ts.map fun t => t.2.toNat).sum
theorem offs_nil : offs [] = 0 := rfl
theorem offs_cons (t : Int × Int) (ts : List (Int × Int)) : offs (t :: ts) = t.2.toNat + offs ts := by simp [offs]
theorem offs_append (a b : List (Int × Int)) : offs (a ++ b) = offs a + offs b := by simp [offs]
theorem toks_offs {enc : Int} {l : List Int} (hb : isBytes l) : offs (toks enc l) = l.length := by
 refine byAtoms (enc := enc) (M := fun l => offs (toks enc l) = l.length) (fun l hz => ?_) (fun l hb hl ih => ?_) l hb
 ·rw [toks_nil hz, hz]; rfl
 ·have hs := firstF_size (enc := enc) hl hb
  rw [toks_cons hb hl, offs_cons, ih, List.length_drop]; omega
theorem toks_size {enc : Int} {l : List Int} (hb : isBytes l) : ∀ t, t ∈ toks enc l → 1 ≤ t.2 ∧ t.2 ≤ 4 := by
 refine byAtoms (enc := enc) (M := fun l => ∀ t, t ∈ toks enc l → 1 ≤ t.2 ∧ t.2 ≤ 4) (fun l hz t ht => ?_) (fun l hb hl ih t ht => ?_) l hb
 ·rw [toks_nil hz] at ht; cases ht
 ·have hs := firstF_size (enc := enc) hl hb
  rw [toks_cons hb hl] at ht
  rcases List.mem_cons.1 ht with rfl | ht
  ·exact ⟨hs.1, hs.2.1⟩
  ·exact ih t ht
theorem toks_fits {enc : Int} {l : List Int} (hb : isBytes l) : ∀ t, t ∈ toks enc l → fitsI .i64 t.1 := by
 refine byAtoms (enc := enc) (M := fun l => ∀ t, t ∈ toks enc l → fitsI .i64 t.1) (fun l hz t ht => ?_) (fun l hb hl ih t ht => ?_) l hb
 ·rw [toks_nil hz] at ht; cases ht
 ·rw [toks_cons hb hl] at ht
  rcases List.mem_cons.1 ht with rfl | ht
  ·exact firstF_fits hb
  ·exact ih t ht
theorem toks_len {enc : Int} {l : List Int} (hb : isBytes l) : (toks enc l).length ≤ l.length ∧ (0 < l.length → 0 < (toks enc l).length) ∧ l.length ≤ 4 * (toks enc l).length := by
 refine byAtoms (enc := enc) (M := fun l => (toks enc l).length ≤ l.length ∧ (0 < l.length → 0 < (toks enc l).length) ∧ l.length ≤ 4 * (toks enc l).length) (fun l hz => ?_) (fun l hb hl ih => ?_) l hb
 ·rw [toks_nil hz]; simp [hz]
 ·have hs := firstF_size (enc := enc) hl hb
  have := ih.1
  have h3 := ih.2.2
  rw [List.length_drop] at this h3
  rw [toks_cons hb hl]
  simp only [List.length_cons]
  exact ⟨by omega, fun _ => by omega, by omega⟩
theorem toks_at {enc : Int} {l : List Int} (hb : isBytes l) : ∀ n, n ≤ (toks enc l).length → Bnd enc l (offs ((toks enc l).take n)) ∧ toks enc (l.drop (offs ((toks enc l).take n))) = (toks enc l).drop n := by
 intro n
 induction n with
 | zero => intro _; rw [List.take_zero, offs_nil, List.drop_zero, List.drop_zero]; exact ⟨.zero, rfl⟩
 | succ n ih =>
  intro hn
  obtain ⟨h1, h2⟩ := ih (by omega)
  have hd : (toks enc l).drop n = (toks enc l)[n] :: (toks enc l).drop (n + 1) := List.drop_eq_getElem_cons (by omega)
  generalize hk : offs ((toks enc l).take n) = k at h1 h2
  have hkl : 0 < (l.drop k).length := by
   by_cases hz : (l.drop k).length = 0
   ·rw [toks_nil hz, hd] at h2; cases h2
   ·omega
  have h3 := toks_cons (enc := enc) (hb.drop k) hkl
  rw [h2, hd, List.cons.injEq] at h3
  have ht : (toks enc l).take (n + 1) = (toks enc l).take n ++ [(toks enc l)[n]] := by rw [List.take_add_one, List.getElem?_eq_getElem (by omega)]; rfl
  rw [ht, offs_append, offs_cons, offs_nil, Nat.add_zero, hk, h3.1]
  rw [List.length_drop] at hkl
  exact ⟨h1.step (by omega), by rw [← List.drop_drop, ← h3.2]⟩
theorem toks_take {enc : Int} {l : List Int} (hb : isBytes l) : ∀ n, n ≤ (toks enc l).length → toks enc (l.take (offs ((toks enc l).take n))) = (toks enc l).take n := by
 refine byAtoms (enc := enc) (M := fun l => ∀ n, n ≤ (toks enc l).length → toks enc (l.take (offs ((toks enc l).take n))) = (toks enc l).take n) (fun l hz n hn => ?_) (fun l hb hl ih n hn => ?_) l hb
 ·rw [toks_nil hz]; simp [offs]; exact toks_nil rfl
 ·cases n with
  | zero => simp [offs]; exact toks_nil rfl
  | succ n =>
   have hm := (toks_at hb (n + 1) hn).1
   have hs := firstF_size (enc := enc) hl hb
   have e := toks_cons (enc := enc) hb hl
   rw [e] at hm hn ⊢
   rw [List.take_succ_cons, offs_cons] at hm ⊢
   rw [List.length_cons] at hn
   have hml := hm.le hb
   generalize hmm : offs ((toks enc (l.drop (firstF enc l).2.toNat)).take n) = m' at hm hml ⊢
   have e2 := first_in_take hb hm .zero (by omega)
   rw [List.drop_zero, List.drop_zero] at e2
   rw [toks_cons (hb.take _) (by rw [List.length_take]; omega), e2, List.drop_take, Nat.add_sub_cancel_left, ← hmm, ih n (by omega)]
def oneS (t : Int × Int) : Sums := (1, t.2, if t.1 = 10 ∨ t.1 = 13 then 1 else 0, decide (t.1 = 10), decide (t.1 = 13), ())
def sumT (ts : List (Int × Int)) : Sums := ts.foldl (fun s t => addS s (oneS t)) zS
theorem VS.one {t : Int × Int} (h : 1 ≤ t.2 ∧ t.2 ≤ 4) : VS 1 (oneS t) := by
 unfold oneS
 refine ⟨by dsimp only; omega, by dsimp only; omega, by dsimp only; omega, by dsimp only; omega, ?_, ?_, (fun h => by cases h), fun h => ?_⟩
 ·dsimp only; split <;> omega
 ·dsimp only; split <;> omega
 ·dsimp only at h ⊢
  rw [decide_eq_true_eq] at h
  rw [if_pos (.inl h)]; omega
def okT (ts : List (Int × Int)) : Prop := ∀ t, t ∈ ts → 1 ≤ t.2 ∧ t.2 ≤ 4
theorem okT.take {a : List (Int × Int)} (h : okT a) (n : Nat) : okT (a.take n) := fun t ht => h t (List.mem_of_mem_take ht)
theorem okT.drop {a : List (Int × Int)} (h : okT a) (n : Nat) : okT (a.drop n) := fun t ht => h t (List.mem_of_mem_drop ht)
theorem foldT {ts : List (Int × Int)} (h : okT ts) : ∀ {n : Nat} {s : Sums}, VS n s → VS (n + ts.length) (ts.foldl (fun s t => addS s (oneS t)) s) := by
 induction ts with
 | nil => intro n s v; exact v
 | cons t ts ih =>
  intro n s v
  have := ih (fun x hx => h x (List.mem_cons_of_mem _ hx)) (v.add (VS.one (h t (List.mem_cons_self ..))))
  exact this.mono (by simp only [List.length_cons]; omega)
theorem VS.sumT {ts : List (Int × Int)} (h : okT ts) : VS ts.length (sumT ts) := (foldT h VS.zero).mono (by omega)
theorem foldT_add {ts : List (Int × Int)} (h : okT ts) : ∀ {n m : Nat} {s o : Sums}, VS n s → VS m o → ts.foldl (fun s t => addS s (oneS t)) (addS s o) = addS s (ts.foldl (fun s t => addS s (oneS t)) o) := by
 induction ts with
 | nil => intros; rfl
 | cons t ts ih =>
  intro n m s o v w
  have ht := VS.one (h t (List.mem_cons_self ..))
  simp only [List.foldl_cons]
  rw [addS_assoc v w ht]
  exact ih (fun x hx => h x (List.mem_cons_of_mem _ hx)) v (w.add ht)
theorem sumT_append {a b : List (Int × Int)} (ha : okT a) (hb : okT b) : sumT (a ++ b) = addS (sumT a) (sumT b) := by
 unfold Piece.sumT
 rw [List.foldl_append]
 have := foldT_add hb (VS.sumT ha) VS.zero
 rw [addS_zero_right (VS.sumT ha)] at this
 exact this
theorem sumT_snoc (a : List (Int × Int)) (t : Int × Int) : sumT (a ++ [t]) = addS (sumT a) (oneS t) := by unfold sumT; rw [List.foldl_append]; rfl
theorem fold_is {ts : List (Int × Int)} (h : okT ts) : ∀ {n : Nat} {s : Sums}, VS n s → (ts.foldl (fun s t => addS s (oneS t)) s).1 = s.1 + ts.length ∧ (ts.foldl (fun s t => addS s (oneS t)) s).2.1 = s.2.1 + offs ts := by
 induction ts with
 | nil => intro n s v; simp [offs]
 | cons t ts ih =>
  intro n s v
  have ht := h t (List.mem_cons_self ..)
  have h1 := ih (fun x hx => h x (List.mem_cons_of_mem _ hx)) (v.add (VS.one ht))
  have h2 : (addS s (oneS t)).1 = s.1 + 1 ∧ (addS s (oneS t)).2.1 = s.2.1 + t.2 := by
   unfold addS
   by_cases h0 : s.1 = 0
   ·rw [if_pos h0]
    have hz := v.2.2.2.2.2.2.1 h0
    rw [hz]; exact ⟨rfl, by show t.2 = (0 : Int) + t.2; omega⟩
   ·rw [if_neg h0, if_neg (show (oneS t).1 ≠ 0 by show (1 : Int) ≠ 0; decide)]; exact ⟨rfl, rfl⟩
  rw [List.foldl_cons, h1.1, h1.2, h2.1, h2.2, offs_cons, List.length_cons]
  omega
theorem sumT_is {ts : List (Int × Int)} (h : okT ts) : (sumT ts).1 = ts.length ∧ (sumT ts).2.1 = offs ts := by
 have h1 := fold_is h VS.zero
 have e : zS.1 = 0 ∧ zS.2.1 = 0 := ⟨rfl, rfl⟩
 rw [e.1, e.2] at h1
 unfold sumT
 omega
end Go.Sw.Piece

set_option linter.unusedVariables false
set_option linter.unusedSimpArgs false
set_option maxRecDepth 100000
namespace Go.Sw.Piece
open Go.Sw.Any Go.Sw.Codec
open Go.Sw.Tree (iv s_putAll s_newP s_getP s_getT s_putP eqI_self Placed cell_own wp_whileG)
variable {P : Program} {S : Ids} {h : Heap} {Q : Nat → List Value → Heap → Prop}
theorem eqI_dec (a b : Int) : eqI a b = decide (a = b) := by
 by_cases h : a = b
 ·rw [eqI_iff.2 h, decide_eq_true h]
 ·rw [eqI_not.2 h, decide_eq_false h]
theorem c_single {atom size : Int} : Gives P (F_piece_single S atom size) [.agg SB] h fun (y : Sums × Unit) _ => y.1 = oneS (atom, size) := by
 unfold F_piece_single Gives
 refine s_newO (bs := SB) zS (by decide) fun h1 e1 o1 => ?_
 rw [eqI_dec, eqI_dec]
 refine s_putO (bs := SB) (z := zS) (1, size, 0, decide (atom = 10), decide (atom = 13), ()) (by decide) (flatS _) fun h2 e2 o2 => ?_
 refine wp_bind (fun t vs h' => t = 0 ∧ vs = [] ∧ Ext h1 h' ∧ Own h1.size 1 h' ⟨some ⟨h1.size, 0, none⟩, 5, 5⟩ (Bs.inj SB (oneS (atom, size)))) ?_ ?_
 ·refine bind_bool (atom = 10 ∨ atom = 13) ?_ fun bb h5 e5 hb => wp_ifB (fun hx => ?_) fun hx => ?_
  ·refine wp_load1 (b := .bool) _ (decide (atom = 10)) rfl (cells_iff.1 o2.cells 3 _ rfl) (wp_ifB (fun hx => s_ret ⟨rfl, Ext.refl _, true, rfl, Iff.intro (fun _ => .inl (of_decide_eq_true hx)) fun _ => rfl⟩) fun hx => ?_)
   have hx' := of_decide_eq_false hx
   exact wp_load1 (b := .bool) _ (decide (atom = 13)) rfl (cells_iff.1 o2.cells 4 _ rfl) (s_ret ⟨rfl, Ext.refl _, _, rfl, fun h => .inr (of_decide_eq_true h), fun h => decide_eq_true (h.resolve_left hx')⟩)
  ·refine s_setC' (vs := Bs.inj SB (1, size, 0, decide (atom = 10), decide (atom = 13), ())) (iv 1) (o2.ext e5) (by simp [Bs.inj]) rfl fun h6 o6 u6 => s_ret ⟨rfl, rfl, Upd.extN (e2.trans e5) u6 (by intro x hx; cases hx; exact Nat.le_refl _), ?_⟩
   have : oneS (atom, size) = (1, size, 1, decide (atom = 10), decide (atom = 13), ()) := by unfold oneS; dsimp only; rw [if_pos (hb.1 hx)]
   rw [this]; exact o6
  ·refine s_ret ⟨rfl, rfl, e2.trans e5, ?_⟩
   have : oneS (atom, size) = (1, size, 0, decide (atom = 10), decide (atom = 13), ()) := by unfold oneS; dsimp only; rw [if_neg fun k => by rw [hb.2 k] at hx; cases hx]
   rw [this]; exact o2.ext e5
 ·rintro t vs h5 ⟨rfl, rfl, e5, o5⟩
  exact s_tag (s_cast0 (s_getO (bs := SB) o5 (s_tellO (bs := SB) (oneS (atom, size)) (o1.ext e5) (Nat.le_refl _) (e1.trans e5) (flatS _) fun h' e => ⟨rfl, e, (oneS (atom, size), ()), rfl, rfl⟩)))
def mkS (b : Sl) (tag : Int) (s : Sums) : Part := (b, tag, s.1, s.2.1, s.2.2.1, s.2.2.2.1, s.2.2.2.2.1, ())
def mkP (b : Sl) (tag : Int) (ts : List (Int × Int)) : Part := mkS b tag (sumT ts)
theorem okT_toks {enc : Int} {l : List Int} (hb : isBytes l) : okT (toks enc l) := toks_size hb
theorem c_newPart (M : Meth0 P S) {enc : Int} (he : known enc) {b : Sl} {l : List Int} {tag : Int} (hb : Lst .u8 h b l) (hl : l.length ≤ 1099511627776) :
  Gives P (F_piece_newPart S enc b tag) [.agg PB] h fun (y : Part × Unit) _ => y.1 = mkP b tag (toks enc l) := by
 have hby : isBytes l := hb.wf
 have hlb := hb.len
 have okt := okT_toks (enc := enc) hby
 unfold F_piece_newPart Gives
 refine s_newO (bs := PB) zP (by decide) fun h1 e1 o1 => s_putO (bs := PB) (z := zP) (mkS b tag zS) (by decide) (flatP _) fun h2 e2 o2 => ?_
 refine wp_whileG (G := Nat) (fun n (r : Int × Unit) h' => n ≤ (toks enc l).length ∧ r.1 = offs ((toks enc l).take n) ∧ Ext h1 h' ∧ Own h1.size 1 h' ⟨some ⟨h1.size, 0, none⟩, 7, 7⟩ ([.slice b.base b.len b.cap, iv tag] ++ Bs.inj SB (sumT ((toks enc l).take n)))) (fun n => (toks enc l).length - n)
  (fun t vs h' => t = 2 ∧ vs = [] ∧ Ext h1 h' ∧ Own h1.size 1 h' ⟨some ⟨h1.size, 0, none⟩, 7, 7⟩ (Bs.inj PB (mkP b tag (toks enc l)))) 0 ⟨Nat.zero_le _, rfl, e2, o2⟩ ?_ ?_
 ·rintro n ⟨(r : Int), u⟩ h3 ⟨hn, hr, e3, o3⟩
  dsimp only at hr ⊢
  subst hr
  obtain ⟨hbn, htk⟩ := toks_at (enc := enc) hby n hn
  have hle := hbn.le hby
  generalize hk : offs ((toks enc l).take n) = k at hbn htk hle ⊢
  refine wp_ifB (fun hc => ?_) fun hc => ?_
  ·rw [ltI_iff, natI_def, hlb] at hc
   have hkl : k < l.length := by omega
   have htc := toks_cons (enc := enc) (hby.drop k) (by rw [List.length_drop]; omega)
   rw [htk] at htc
   have hlt : n < (toks enc l).length := by
    by_cases hx : n < (toks enc l).length
    ·exact hx
    ·rw [List.drop_of_length_le (by omega)] at htc; cases htc
   rw [List.drop_eq_getElem_cons hlt, List.cons.injEq] at htc
   have hsz := okt _ (List.getElem_mem hlt)
   have htake : (toks enc l).take (n + 1) = (toks enc l).take n ++ [(toks enc l)[n]] := by rw [List.take_add_one, List.getElem?_eq_getElem hlt]; rfl
   refine wp_call (c_Next M (hb.ext (e1.trans e3))) fun ⟨(a : Int), (sz : Int), _⟩ h4 e4 hx => ?_
   have hx : (a, sz) = firstF enc (l.drop k) := by
    rcases hx with ⟨hno, _, _⟩ | ⟨_, _, _, hx⟩
    ·rcases hno with h | h | h
     ·exact absurd he h
     ·omega
     ·omega
    ·rw [Int.toNat_natCast] at hx; exact hx
   rw [← htc.1] at hx
   dsimp only
   refine s_getEnd (o3.ext e4) rfl (wp_call c_single fun ⟨(o : Sums), _⟩ h5 e5 hy => ?_)
   have hy : o = oneS (a, sz) := hy
   subst hy
   dsimp only
   have o5 := (o3.ext e4).ext e5
   refine s_check0 (a := (⟨h1.size, 0, none⟩ : Addr).add 2) rfl (cells_mid (post := []) (by rw [List.append_nil]; exact o5.cells) rfl) ?_
   rw [hx]
   have v1 := VS.sumT (okt.take n)
   have v2 := VS.one hsz
   have hlen := toks_len (enc := enc) hby
   refine wp_call (c_Add v1 v2 (by rw [List.length_take]; omega)) fun ⟨(o : Sums), _⟩ h6 e6 hy => ?_
   have hy : o = _ := hy
   subst hy
   dsimp only
   refine s_putEnd (Bs.inj SB (addS (sumT ((toks enc l).take n)) (oneS ((toks enc l)[n])))) (o5.ext e6) rfl rfl (flatS _) fun h7 o7 u7 => ?_
   have hsz2 : sz = (toks enc l)[n].2 := congrArg Prod.snd hx
   rw [add_ok (by omega) (by omega)]
   refine s_ret ⟨fun _ => ⟨n + 1, ((k : Int) + sz, ()), rfl, ⟨by omega, ?_, Upd.extN (((e3.trans e4).trans e5).trans e6) u7 (by intro x hx; cases hx; exact Nat.le_refl _), ?_⟩, by omega⟩, fun h => absurd rfl h⟩
   ·dsimp only
    rw [htake, offs_append, offs_cons, offs_nil, hk]; omega
   ·rw [htake, sumT_snoc]; exact o7
  ·rw [ltI_not, natI_def, hlb] at hc
   have hkl : k = l.length := by omega
   have hnn : (toks enc l).take n = toks enc l := by
    have : (toks enc l).drop n = [] := by rw [← htk]; exact toks_nil (by rw [List.length_drop]; omega)
    have h2 := List.take_append_drop n (toks enc l)
    rw [this, List.append_nil] at h2; exact h2
   rw [hnn] at o3
   exact s_ret ⟨fun h => absurd h (by decide), fun _ => ⟨rfl, rfl, e3, o3⟩⟩
 ·rintro t vs h3 ⟨rfl, rfl, e3, o3⟩
  exact s_tag (s_cast0 (s_getO (bs := PB) o3 (s_tellO (bs := PB) (mkP b tag (toks enc l)) (o1.ext e3) (Nat.le_refl _) (e1.trans e3) (flatP _) fun h' e => ⟨rfl, e, (_, ()), rfl, rfl⟩)))
def tagF (tag : Int) (k : Nat) : Int := if 0 ≤ tag then tag + k else tag
def headP (enc : Int) (p : Part) (l : List Int) (n : Nat) : Part := mkP ⟨p.1.base, offs ((toks enc l).take n), offs ((toks enc l).take n)⟩ p.2.1 ((toks enc l).take n)
def tailP (enc : Int) (p : Part) (l : List Int) (n : Nat) : Part :=
 mkP ⟨cutBase p.1.base p.1.cap (offs ((toks enc l).take n)) 1, p.1.len - offs ((toks enc l).take n), p.1.cap - offs ((toks enc l).take n)⟩ (tagF p.2.1 (offs ((toks enc l).take n))) ((toks enc l).drop n)
theorem c_cut (M : Meth0 P S) {enc : Int} (he : known enc) {p : Part} {l : List Int} {n : Int} (hb : Lst .u8 h p.1 l) (hl : l.length ≤ 1099511627776) (h0 : 0 ≤ n) (hn : n ≤ (toks enc l).length) (ht : -1 ≤ p.2.1 ∧ p.2.1 ≤ 1099511627776) :
  Gives P (F_part_cut S p enc n) [.agg PB, .agg PB] h fun (y : Part × Part × Unit) _ => y.1 = headP enc p l n.toNat ∧ y.2.1 = tailP enc p l n.toNat := by
 have hby : isBytes l := hb.wf
 have hlb := hb.len
 have hcap := hb.cap
 have hmax := hb.max
 have okt := okT_toks (enc := enc) hby
 have hlen := toks_len (enc := enc) hby
 unfold F_part_cut Gives
 refine s_newO (bs := PB) p (by decide) fun h1 e1 o1 => s_newO (bs := PB) zP (by decide) fun h2 e2 o2 => s_newO (bs := PB) zP (by decide) fun h3 e3 o3 => ?_
 have e13 := e1.trans (e2.trans e3)
 have o1' := o1.ext (e2.trans e3)
 have ldb : ∀ {h'} {K : Sl → Prog} {Q : Nat → List Value → Heap → Prop}, Ext h3 h' → wp P (K p.1) h' Q → wp P (.load (.one .sl) (shiftTo (some ⟨h.size, 0, none⟩) 0) K) h' Q := fun e hk => wp_load1 (b := .sl) _ p.1 rfl (cells_iff.1 (o1'.ext e).cells 0 _ rfl) hk
 have ldt : ∀ {h'} {K : Int → Prog} {Q : Nat → List Value → Heap → Prop}, Ext h3 h' → wp P (K p.2.1) h' Q → wp P (.load (.one (.int .i64)) (shiftTo (some ⟨h.size, 0, none⟩) 1) K) h' Q := fun e hk => wp_load1 (b := .int .i64) _ p.2.1 rfl (cells_iff.1 (o1'.ext e).cells 1 _ rfl) hk
 have hkn := (toks_at (enc := enc) hby n.toNat (by omega)).1.le hby
 refine wp_whileG (G := Nat) (fun m (r : Int × Int × Unit) h' => m ≤ n.toNat ∧ r.1 = n - m ∧ r.2.1 = offs ((toks enc l).take m) ∧ Ext h3 h') (fun m => n.toNat - m)
  (fun t vs h' => t = 2 ∧ vs = [iv (offs ((toks enc l).take n.toNat))] ∧ Ext h3 h') 0 ⟨Nat.zero_le _, by dsimp only; omega, rfl, Ext.refl _⟩ ?_ ?_
 ·rintro m ⟨(r : Int), (at_ : Int), u⟩ h4 ⟨hm, hr, hat, e4⟩
  dsimp only at hr hat ⊢
  subst hr; subst hat
  obtain ⟨hbn, htk⟩ := toks_at (enc := enc) hby m (by omega)
  have hle := hbn.le hby
  generalize hk : offs ((toks enc l).take m) = k at hbn htk hle ⊢
  refine bind_bool (m < n.toNat) ?_ fun bb h5 e5 hb5 => wp_ifB (fun hx => ?_) fun hx => ?_
  ·refine wp_ifB (fun hc => ldb e4 (s_ret ⟨rfl, Ext.refl _, _, rfl, ?_⟩)) fun hc => s_ret ⟨rfl, Ext.refl _, false, rfl, ?_⟩
   ·rw [gtI_iff] at hc
    rw [ltI_iff, natI_def, hlb]
    refine ⟨fun _ => by omega, fun _ => ?_⟩
    have hlt : m < (toks enc l).length := by omega
    by_cases hx : (k : Int) < l.length
    ·exact hx
    ·have : (toks enc l).drop m = [] := by rw [← htk]; exact toks_nil (by rw [List.length_drop]; omega)
     rw [List.drop_eq_nil_iff] at this; omega
   ·rw [gtI_not] at hc
    exact Iff.intro (fun h => by cases h) fun h => by omega
  ·have hmn := hb5.1 hx
   have hlt : m < (toks enc l).length := by omega
   have htake : (toks enc l).take (m + 1) = (toks enc l).take m ++ [(toks enc l)[m]] := by rw [List.take_add_one, List.getElem?_eq_getElem hlt]; rfl
   have hkl : k < l.length := by
    by_cases hx : k < l.length
    ·exact hx
    ·have : (toks enc l).drop m = [] := by rw [← htk]; exact toks_nil (by rw [List.length_drop]; omega)
     rw [List.drop_eq_nil_iff] at this; omega
   have htc := toks_cons (enc := enc) (hby.drop k) (by rw [List.length_drop]; omega)
   rw [htk, List.drop_eq_getElem_cons hlt, List.cons.injEq] at htc
   have hsz := okt _ (List.getElem_mem hlt)
   refine ldb (e4.trans e5) (wp_call (c_Next M (hb.ext (e13.trans (e4.trans e5)))) fun ⟨(a : Int), (sz : Int), _⟩ h6 e6 hx => ?_)
   have hx : (a, sz) = firstF enc (l.drop k) := by
    rcases hx with ⟨hno, _, _⟩ | ⟨_, _, _, hx⟩
    ·rcases hno with h | h | h
     ·exact absurd he h
     ·omega
     ·omega
    ·rw [Int.toNat_natCast] at hx; exact hx
   rw [← htc.1] at hx
   have hsz2 : sz = (toks enc l)[m].2 := congrArg Prod.snd hx
   dsimp only
   rw [add_ok (by omega) (by omega), sub_ok (by omega) (by omega)]
   refine s_ret ⟨fun _ => ⟨m + 1, (n - m - 1, (k : Int) + sz, ()), rfl, ⟨by omega, by dsimp only; omega, ?_, (e4.trans e5).trans e6⟩, by omega⟩, fun h => absurd rfl h⟩
   dsimp only
   rw [htake, offs_append, offs_cons, offs_nil, hk]; omega
  ·have : ¬ m < n.toNat := fun h => by rw [hb5.2 h] at hx; cases hx
   have : m = n.toNat := by omega
   subst this
   exact s_ret ⟨fun h => absurd h (by decide), fun _ => ⟨rfl, by rw [hk], e4.trans e5⟩⟩
 ·rintro t vs h4 ⟨rfl, rfl, e4⟩
  unfold headP tailP
  have hta := toks_take (enc := enc) hby n.toNat (by omega)
  have htd := (toks_at (enc := enc) hby n.toNat (by omega)).2
  generalize hk : offs ((toks enc l).take n.toNat) = k at hkn hta htd ⊢
  refine s_tag (s_castI (ldt e4 ?_))
  refine bind_val (tys := [.one (.int .i64)]) (fun (x : Int × Unit) _ => x.1 = tagF p.2.1 k) ?_ fun ⟨(tg : Int), _⟩ h5 e5 hx => ?_
  ·unfold tagF
   refine wp_ifB (fun hc => ?_) fun hc => ?_
   ·rw [geI_iff] at hc
    rw [add_ok (by omega) (by omega), if_pos hc]
    exact s_ret ⟨rfl, Ext.refl _, (_, ()), rfl, rfl⟩
   ·rw [geI_not] at hc
    rw [if_neg (by omega)]
    exact s_ret ⟨rfl, Ext.refl _, (_, ()), rfl, rfl⟩
  have hx : tg = _ := hx
  subst hx
  dsimp only
  have e35 := e4.trans e5
  have htoN : toN (k : Int) = k := by rw [toN_def]; omega
  refine ldb e35 (s_grd (andB_iff.2 ⟨leB_ok (by omega) (by omega), leB_ok (by omega) (by omega)⟩) (ldt e35 (ldb e35 (s_grd (leB_ok (by omega) (by omega)) ?_))))
  rw [htoN, show subN k 0 = k from rfl, cutBase_zero]
  have hb5 := hb.ext (e13.trans e35)
  refine wp_call (c_newPart M he (tag := p.2.1) (hb5.take (n := k) (m := k) hkn (Nat.le_refl _) (by omega)) (by rw [List.length_take]; omega)) fun ⟨(y1 : Part), _⟩ h6 e6 hy1 => ?_
  have hy1 : y1 = _ := hy1
  subst hy1
  dsimp only
  refine s_ckC (q := ⟨h.size, 0, none⟩) (j := 0) (cells_iff.1 (o1'.ext (e35.trans e6)).cells 0 _ rfl) ?_
  refine wp_call (c_newPart M he (tag := tagF p.2.1 k) ((hb5.ext e6).tail (i := k) hkn) (by rw [List.length_drop]; omega)) fun ⟨(y2 : Part), _⟩ h7 e7 hy2 => ?_
  have hy2 : y2 = _ := hy2
  subst hy2
  dsimp only
  have e37 := (e35.trans e6).trans e7
  rw [hta, htd]
  refine s_stoO (bs := PB) (mkP ⟨p.1.base, k, k⟩ p.2.1 ((toks enc l).take n.toNat)) ((o2.ext e3).ext e37) (flatP _) fun h8 o8 u8 => ?_
  have b1 := (o1.lt rfl).2
  have b2 := (o2.lt rfl).2
  dsimp only at b1 b2
  have o3' := ob_upd (o3.ext e37) u8 (by dsimp only; omega)
  refine s_stoO (bs := PB) (mkP ⟨cutBase p.1.base p.1.cap k 1, p.1.len - k, p.1.cap - k⟩ (tagF p.2.1 k) ((toks enc l).drop n.toNat)) o3' (flatP _) fun h9 o9 u9 => ?_
  have o8' := ob_upd o8 u9 (by dsimp only; omega)
  refine s_getO (bs := PB) o8' (s_getO (bs := PB) o9 (s_ret ⟨rfl, ?_, (_, _, ()), rfl, rfl, rfl⟩))
  exact Upd.extN (Upd.extN (e13.trans e37) u8 (by intro x hx; cases hx; dsimp only; have := e1.size; omega)) u9 (by intro x hx; cases hx; dsimp only; have := e1.size; have := e2.size; omega)
end Go.Sw.Piece

set_option linter.unusedVariables false
set_option linter.unusedSimpArgs false
set_option maxRecDepth 100000
namespace Go.Sw.Piece
open Go.Sw.Any Go.Sw.Codec
open Go.Sw.Tree (iv s_putAll s_newP s_getP s_getT s_putP eqI_self Placed cell_own wp_whileG minI_eq)
variable {P : Program} {S : Ids} {h : Heap} {Q : Nat → List Value → Heap → Prop}
abbrev i64v (x : Int) : Value := .int .i64 x
abbrev slv (s : Sl) : Value := .slice s.base s.len s.cap
def elsF (tag : Int) : Nat → List (Int × Int) → List (Int × Int)
 | _, [] => []
 | o, t :: ts => (t.1, if tag < 0 then -1 else tag + o) :: elsF tag (o + t.2.toNat) ts
theorem elsF_len (tag : Int) : ∀ (ts : List (Int × Int)) (o : Nat), (elsF tag o ts).length = ts.length
 | [], _ => rfl
 | t :: ts, o => by simp only [elsF, List.length_cons, elsF_len tag ts]
theorem elsF_tag {tag : Int} (k : Nat) : ∀ (ts : List (Int × Int)) (o : Nat), elsF (tagF tag k) o ts = elsF tag (o + k) ts
 | [], o => rfl
 | t :: ts, o => by
  simp only [elsF, elsF_tag k ts]
  rw [show o + t.2.toNat + k = o + k + t.2.toNat by omega]
  congr 1
  unfold tagF
  by_cases h : 0 ≤ tag
  ·rw [if_pos h, if_neg (by omega), if_neg (by omega)]; congr 1; omega
  ·rw [if_neg h, if_pos (by omega), if_pos (by omega)]
abbrev Pc := Part × List Int
def elsP (enc : Int) (q : Pc) : List (Int × Int) := elsF q.1.2.1 0 (toks enc q.2)
def els (enc : Int) (ps : List Pc) : List (Int × Int) := ps.flatMap (elsP enc)
def toksL (enc : Int) (ps : List Pc) : List (Int × Int) := ps.flatMap fun q => toks enc q.2
def bytesL (ps : List Pc) : List Int := ps.flatMap fun q => q.2
theorem els_len (enc : Int) (ps : List Pc) : (els enc ps).length = (toksL enc ps).length := by
 induction ps with
 | nil => rfl
 | cons q ps ih =>
  unfold els toksL at ih ⊢
  rw [List.flatMap_cons, List.flatMap_cons, List.length_append, List.length_append, ih]; unfold elsP; rw [elsF_len]
structure St where
 root : Option Addr
 t : Bt Part
 ps : List Pc
structure TX where
 p : Addr
 enc : Int
 limit : Int
 cur : St
 kept : List St
 ad : Sl
 A : List Int
 Z : Nat → Prop
structure PcR (h : Heap) (T : TX) (q : Pc) : Prop where
 lst : Lst .u8 h q.1.1 q.2
 ne : 0 < q.2.length
 is : q.1 = mkP q.1.1 q.1.2.1 (toks T.enc q.2)
 tag : -1 ≤ q.1.2.1 ∧ q.1.2.1 + q.2.length ≤ 65536
 len : q.2.length ≤ 65536
 blk : ∀ a, q.1.1.base = some a → T.Z a.block ∧ a.block ≠ T.p.block ∧ ∀ b, T.ad.base = some b → a.block = b.block → a.spot = none ∧ a.off + q.2.length ≤ T.A.length
structure StR (S : Ids) (h : Heap) (T : TX) (s : St) : Prop where
 nd : Nd (part S T.Z) h s.root s.t
 ls : s.t.list = s.ps.map (·.1)
 pcs : ∀ q, q ∈ s.ps → PcR h T q
 small : (bytesL s.ps).length ≤ 1099511627776
structure TextR (S : Ids) (n : Nat) (h : Heap) (T : TX) : Prop where
 enc : known T.enc
 lim : 0 ≤ T.limit ∧ T.limit ≤ 65536
 ob : Own n 1 h ⟨some T.p, 4, 4⟩ [i64v T.enc, i64v T.limit, .pointer T.cur.root, slv T.ad]
 ad : OwnL n .u8 h T.ad T.A
 adp : ∀ b, T.ad.base = some b → b.block ≠ T.p.block
 adk : ∀ b, T.ad.base = some b → 0 < T.A.length
 cur : StR S h T T.cur
 kept : ∀ s, s ∈ T.kept → StR S h T s
 zp : T.Z T.p.block
 za : ∀ b, T.ad.base = some b → T.Z b.block
 lo : ∀ i, T.Z i → n ≤ i ∧ i < h.size
theorem PcR.chg {F : Nat → Prop} {h' : Heap} {T : TX} {q : Pc} (r : PcR h T q) (c : Chg F h h') (hF : ∀ i, T.Z i → ¬ F i) : PcR h' T q :=
 ⟨c.lst r.lst fun a ha => hF _ (r.blk a ha).1, r.ne, r.is, r.tag, r.len, r.blk⟩
theorem StR.chg {F : Nat → Prop} {h' : Heap} {T : TX} {s : St} (r : StR S h T s) (c : Chg F h h') (hF : ∀ i, T.Z i → ¬ F i) : StR S h' T s :=
 ⟨r.nd.chg c fun i _ hz => hF i hz, r.ls, fun q hq => (r.pcs q hq).chg c hF, r.small⟩
theorem TextR.chg {F : Nat → Prop} {n : Nat} {h' : Heap} {T : TX} (r : TextR S n h T) (c : Chg F h h') (hF : ∀ i, T.Z i → ¬ F i) : TextR S n h' T where
 enc := r.enc
 lim := r.lim
 ob := c.own r.ob fun x hx => by cases hx; exact hF _ r.zp
 ad := c.ownL r.ad fun x hx => hF _ (r.za x hx)
 adp := r.adp
 adk := r.adk
 cur := r.cur.chg c hF
 kept := fun s hs => (r.kept s hs).chg c hF
 zp := r.zp
 za := r.za
 lo := fun i hi => ⟨(r.lo i hi).1, Nat.lt_of_lt_of_le (r.lo i hi).2 c.1⟩
theorem TextR.ext {n : Nat} {h' : Heap} {T : TX} (r : TextR S n h T) (e : Ext h h') : TextR S n h' T := r.chg (Chg.of_ext (F := fun _ => False) e) fun _ _ x => x
theorem TextR.c0 {n : Nat} {T : TX} (r : TextR S n h T) : Sw.cell h (T.p.add 0) = some (i64v T.enc) := cells_iff.1 r.ob.cells 0 _ rfl
theorem TextR.c1 {n : Nat} {T : TX} (r : TextR S n h T) : Sw.cell h (T.p.add 1) = some (i64v T.limit) := cells_iff.1 r.ob.cells 1 _ rfl
theorem TextR.c2 {n : Nat} {T : TX} (r : TextR S n h T) : Sw.cell h (T.p.add 2) = some (.pointer T.cur.root) := cells_iff.1 r.ob.cells 2 _ rfl
theorem TextR.c3 {n : Nat} {T : TX} (r : TextR S n h T) : Sw.cell h (T.p.add 3) = some (slv T.ad) := cells_iff.1 r.ob.cells 3 _ rfl
theorem PcR.bytes {T : TX} {q : Pc} (r : PcR h T q) : isBytes q.2 := r.lst.wf
theorem PcR.sum {T : TX} {q : Pc} (r : PcR h T q) : sumP q.1 = sumT (toks T.enc q.2) := by rw [r.is]; rfl
theorem PcR.wt {T : TX} {q : Pc} (r : PcR h T q) : wtP q.1 = (toks T.enc q.2).length ∧ VS (wtP q.1) (sumP q.1) := by
 have h1 := sumT_is (okT_toks (enc := T.enc) r.bytes)
 have h2 := (toks_len (enc := T.enc) r.bytes).2.1 r.ne
 have h3 : q.1.2.2.1 = (sumT (toks T.enc q.2)).1 := congrArg Prod.fst r.sum
 have h4 : wtP q.1 = (toks T.enc q.2).length := by unfold wtP; rw [h3, h1.1]; omega
 exact ⟨h4, by rw [h4, r.sum]; exact VS.sumT (okT_toks r.bytes)⟩
theorem StR.wf {T : TX} {s : St} (r : StR S h T s) : (part S T.Z).wf s.t.list := by
 intro x hx
 rw [r.ls] at hx
 obtain ⟨q, hq, rfl⟩ := List.mem_map.1 hx
 exact (r.pcs q hq).wt.2
theorem okT_toksL {enc : Int} {ps : List Pc} (hb : ∀ q, q ∈ ps → isBytes q.2) : okT (toksL enc ps) := by
 intro t ht
 obtain ⟨q, hq, ht⟩ := List.mem_flatMap.1 ht
 exact okT_toks (hb q hq) t ht
def sumPs (l : List Part) : Sums := l.foldl (fun s r => addS s (sumP r)) zS
theorem sum_ps {T : TX} : ∀ {ps : List Pc}, (∀ q, q ∈ ps → PcR h T q) → sumPs (ps.map (·.1)) = sumT (toksL T.enc ps) := by
 intro ps
 have gen : ∀ (qs pre : List Pc), (∀ q, q ∈ pre ++ qs → PcR h T q) → (qs.map (·.1)).foldl (fun s r => addS s (sumP r)) (sumT (toksL T.enc pre)) = sumT (toksL T.enc (pre ++ qs)) := by
  intro qs
  induction qs with
  | nil => intro pre hq; simp
  | cons q qs ih =>
   intro pre hq
   have h1 := hq q (by simp)
   have hb : ∀ q, q ∈ pre → isBytes q.2 := fun q hq' => (hq q (by simp [hq'])).bytes
   have e : addS (sumT (toksL T.enc pre)) (sumP q.1) = sumT (toksL T.enc (pre ++ [q])) := by
    have : toksL T.enc (pre ++ [q]) = toksL T.enc pre ++ toks T.enc q.2 := by simp [toksL]
    rw [this, sumT_append (okT_toksL hb) (okT_toks h1.bytes), h1.sum]
   rw [List.map_cons, List.foldl_cons, e, ih (pre ++ [q]) (by simpa using hq)]
   simp
 intro hq
 exact gen ps [] (by simpa using hq)
theorem W_ps {T : TX} : ∀ {ps : List Pc}, (∀ q, q ∈ ps → PcR h T q) → ((ps.map (·.1)).map wtP).sum = (toksL T.enc ps).length := by
 intro ps
 induction ps with
 | nil => intro _; rfl
 | cons q ps ih =>
  intro hq
  rw [List.map_cons, List.map_cons, List.sum_cons, ih (fun x hx => hq x (List.mem_cons_of_mem _ hx)), (hq q (List.mem_cons_self ..)).wt.1]
  simp [toksL]
theorem toksL_le {enc : Int} : ∀ {ps : List Pc}, (∀ q, q ∈ ps → isBytes q.2) → (toksL enc ps).length ≤ (bytesL ps).length ∧ offs (toksL enc ps) = (bytesL ps).length := by
 intro ps
 induction ps with
 | nil => intro _; exact ⟨Nat.le_refl _, rfl⟩
 | cons q ps ih =>
  intro hq
  have h1 := toks_len (enc := enc) (hq q (List.mem_cons_self ..))
  have h2 := toks_offs (enc := enc) (hq q (List.mem_cons_self ..))
  have h3 := ih fun x hx => hq x (List.mem_cons_of_mem _ hx)
  unfold toksL bytesL at h3 ⊢
  rw [List.flatMap_cons, List.flatMap_cons, List.length_append, List.length_append, offs_append]
  omega
theorem StR.bytes {T : TX} {s : St} (r : StR S h T s) : ∀ q, q ∈ s.ps → isBytes q.2 := fun q hq => (r.pcs q hq).bytes
theorem StR.W {T : TX} {s : St} (r : StR S h T s) : (part S T.Z).W s.t.list = (toksL T.enc s.ps).length := by
 show (List.map wtP s.t.list).sum = _
 rw [r.ls, W_ps r.pcs]
theorem StR.sum {T : TX} {s : St} (r : StR S h T s) : (part S T.Z).sum s.t.list = sumT (toksL T.enc s.ps) := by
 show sumPs s.t.list = _
 rw [r.ls, sum_ps r.pcs]
theorem StR.few {T : TX} {s : St} (r : StR S h T s) (hl : T.limit ≤ 65536) : (toksL T.enc s.ps).length ≤ 1099511627776 ∧ (part S T.Z).W s.t.list ≤ 1099511627776 := by
 have h1 := r.small
 have h2 := (toksL_le (enc := T.enc) r.bytes).1
 rw [r.W]; omega
theorem StR.room {T : TX} {s : St} (r : StR S h T s) (hl : T.limit ≤ 65536) : (part S T.Z).W s.t.list < 4398046511104 := Nat.lt_of_le_of_lt (r.few hl).2 (by decide)
abbrev TR := Option Addr × Unit
theorem s_root {n : Nat} {T : TX} {K : TR → Prog} (r : TextR S n h T) (hk : wp P (K (T.cur.root, ())) h Q) : wp P (grd (someB (some T.p)) <| grd (someB (some T.p)) <| .load (.agg [.ptr]) (shiftTo (some T.p) 2) K) h Q :=
 wp_grd rfl (wp_grd rfl ⟨T.p.add 2, rfl, (T.cur.root, ()), cells_iff.2 fun j v hj => by
  match j, hj with
  | 0, hj => simp [Ty.cells, Bs.inj] at hj; subst hj; rw [add_zero']; exact r.c2
  | j + 1, hj => simp [Ty.cells, Bs.inj] at hj, hk⟩)
theorem s_enc {n : Nat} {T : TX} {K : Int → Prog} (r : TextR S n h T) (hk : wp P (K T.enc) h Q) : wp P (grd (someB (some T.p)) <| grd (someB (some T.p)) <| .load (.one (.int .i64)) (shiftTo (some T.p) 0) K) h Q :=
 wp_grd rfl (wp_grd rfl (wp_load1 (b := .int .i64) _ T.enc rfl r.c0 hk))
theorem c_TSum {n : Nat} {T : TX} (r : TextR S n h T) : Gives P (F_Tree_part_Sum S (T.cur.root, ())) [.agg SB] h fun (x : Sums × Unit) _ => x.1 = sumT (toksL T.enc T.cur.ps) := by
 have hf := r.cur.few r.lim.2
 have := c_Sum (part_ok S T.Z (P := P)) r.cur.nd r.cur.wf (Nat.le_of_lt (r.cur.room r.lim.2))
 exact Gives.mono this fun x h' e hx => hx.trans r.cur.sum
theorem c_Len {n : Nat} {T : TX} (r : TextR S n h T) : Gives P (F_Text_Len S (some T.p)) [.one (.int .i64)] h fun (x : Int × Unit) _ => x.1 = (els T.enc T.cur.ps).length := by
 unfold F_Text_Len Gives
 refine s_root r (wp_call (c_TSum r) fun x h1 e1 hx => s_ret ⟨rfl, e1, (_, ()), rfl, ?_⟩)
 have hx : x.1 = _ := hx
 show x.1.1 = _
 rw [hx, (sumT_is (okT_toksL r.cur.bytes)).1, els_len]
def FindR (enc : Int) (ps : List Pc) (at_ : Int) (i n : Nat) : Prop :=
 i ≤ ps.length ∧ (at_ : Int) = (toksL enc (ps.take i)).length + n ∧ (at_ = 0 → i = 0 ∧ n = 0) ∧ (0 < at_ → ∃ q, ps[i]? = some q ∧ 0 < n ∧ n ≤ (toks enc q.2).length)
theorem toksL_take_le {enc : Int} (ps : List Pc) (i : Nat) : (toksL enc (ps.take i)).length ≤ (toksL enc ps).length := by
 have : toksL enc ps = toksL enc (ps.take i) ++ toksL enc (ps.drop i) := by unfold toksL; rw [← List.flatMap_append, List.take_append_drop]
 rw [this, List.length_append]; omega
theorem toksL_succ {enc : Int} {ps : List Pc} {i : Nat} {q : Pc} (hq : ps[i]? = some q) : toksL enc (ps.take (i + 1)) = toksL enc (ps.take i) ++ toks enc q.2 := by
 rw [List.take_add_one, hq]; simp [toksL]
theorem key_ps {T : TX} {ps : List Pc} (hq : ∀ q, q ∈ ps → PcR h T q) (i : Nat) : keyS (sumPs ((ps.map (·.1)).take i)) 0 = (toksL T.enc (ps.take i)).length := by
 have h1 : (ps.map (·.1)).take i = (ps.take i).map (·.1) := List.map_take.symm
 have hq' : ∀ q, q ∈ ps.take i → PcR h T q := fun q h => hq q (List.mem_of_mem_take h)
 rw [h1, sum_ps hq']
 unfold keyS
 rw [if_pos rfl, (sumT_is (okT_toksL fun q h => (hq' q h).bytes)).1]
theorem c_find {n : Nat} {T : TX} {at_ : Int} (r : TextR S n h T) (h0 : 0 ≤ at_) (h1 : at_ ≤ (toksL T.enc T.cur.ps).length) :
  Gives P (F_Text_find S (some T.p) at_) [.one (.int .i64), .one (.int .i64)] h fun (x : Int × Int × Unit) _ => ∃ i n : Nat, x.1 = i ∧ x.2.1 = n ∧ FindR T.enc T.cur.ps at_ i n := by
 unfold F_Text_find Gives
 have hf := r.cur.few r.lim.2
 refine wp_ifB (fun hc => ?_) fun hc => ?_
 ·rw [leI_iff] at hc
  have : at_ = 0 := by omega
  subst this
  exact s_ret ⟨rfl, Ext.refl _, (0, 0, ()), rfl, 0, 0, rfl, rfl, Nat.zero_le _, rfl, fun _ => ⟨rfl, rfl⟩, fun h => absurd h (by decide)⟩
 rw [leI_not] at hc
 refine s_root r ?_
 refine wp_call (R := fun (x : Int × Unit) _ => Any.Found (part S T.Z) T.cur.t.list 0 at_ x.1) (c_Find (part_ok S T.Z (P := P)) r.cur.nd r.cur.wf (r.cur.room r.lim.2)) fun ⟨(f : Int), _⟩ h2 e2 hx => ?_
 have hx : (f = 0 ∧ at_ ≤ 0) ∨ (1 ≤ f ∧ f ≤ T.cur.t.list.length ∧ at_ ≤ keyS (sumPs (T.cur.t.list.take f.toNat)) 0 ∧ keyS (sumPs (T.cur.t.list.take (f.toNat - 1))) 0 < at_) ∨ (f = T.cur.t.list.length + 1 ∧ keyS (sumPs T.cur.t.list) 0 < at_) := hx
 dsimp only
 have r2 := r.ext e2
 have hlen : T.cur.t.list.length = T.cur.ps.length := by rw [r.cur.ls, List.length_map]
 have hps : T.cur.ps.length ≤ 1099511627776 := by have h1 := W_len (part_ok S T.Z (P := P)) T.cur.t.list; have h2 := Nat.le_trans h1 hf.2; rw [← hlen]; exact h2
 rw [r.cur.ls] at hx
 simp only [key_ps r.cur.pcs] at hx
 rw [List.length_map] at hx
 have hsum : keyS (sumPs (T.cur.ps.map (·.1))) 0 = (toksL T.enc T.cur.ps).length := by
  have := key_ps r.cur.pcs T.cur.ps.length
  rwa [List.take_of_length_le (by simp), List.take_of_length_le (Nat.le_refl _)] at this
 rw [hsum] at hx
 obtain ⟨g1, g2, g3, g4⟩ : 1 ≤ f ∧ f ≤ T.cur.ps.length ∧ at_ ≤ (toksL T.enc (T.cur.ps.take f.toNat)).length ∧ ((toksL T.enc (T.cur.ps.take (f.toNat - 1))).length : Int) < at_ := by
  rcases hx with ⟨_, hx⟩ | hx | ⟨_, hx⟩
  ·omega
  ·exact hx
  ·omega
 refine s_root r2 ?_
 rw [sub_ok (by omega) (by omega)]
 refine wp_call (R := fun (x : Sums × Unit) _ => x.1 = sumPs (T.cur.t.list.take (f - 1).toNat)) (c_Upto' (part_ok S T.Z (P := P)) r2.cur.nd r2.cur.wf (r2.cur.room r2.lim.2)) fun ⟨(s : Sums), _⟩ h3 e3 hs => ?_
 have hs : s = _ := hs
 dsimp only
 have hi : (f - 1).toNat = f.toNat - 1 := by omega
 have hs1 : s.1 = (toksL T.enc (T.cur.ps.take (f.toNat - 1))).length := by
  have := key_ps r.cur.pcs (f.toNat - 1)
  rw [hs, hi, r.cur.ls, ← this]
  rfl
 obtain ⟨q, hq⟩ : ∃ q, T.cur.ps[f.toNat - 1]? = some q := ⟨T.cur.ps[f.toNat - 1]'(by omega), List.getElem?_eq_getElem (by omega)⟩
 have hsc := toksL_succ (enc := T.enc) hq
 rw [show f.toNat - 1 + 1 = f.toNat by omega] at hsc
 rw [hsc, List.length_append] at g3
 rw [hs1, sub_ok (by omega) (by omega)]
 refine s_ret ⟨rfl, e2.trans e3, (_, _, ()), rfl, f.toNat - 1, (at_ - (toksL T.enc (T.cur.ps.take (f.toNat - 1))).length).toNat, ?_, ?_, by omega, by omega, fun h => by omega, fun _ => ⟨q, hq, by omega, by omega⟩⟩
 ·show f - 1 = _; omega
 ·show at_ - _ = _; omega
end Go.Sw.Piece

set_option linter.unusedVariables false
set_option linter.unusedSimpArgs false
set_option maxRecDepth 100000
namespace Go.Sw.Piece
open Go.Sw.Any Go.Sw.Codec
open Go.Sw.Tree (iv s_putAll s_newP s_getP s_getT s_putP eqI_self Placed cell_own wp_whileG minI_eq)
variable {P : Program} {S : Ids} {h : Heap} {Q : Nat → List Value → Heap → Prop}
def cutB (S : Ids) (t : Option Addr) (a : Addr) (m : Int) (fin : Addr → Addr → Prog) : Prog :=
 .both (.load (.agg PB) (some a) fun (r : Part) => grd (someB t) <| grd (someB t) <| .load (.one (.int .i64)) (shiftTo t 0) fun (n : Int) =>
  .call (F_part_cut S r n m) [.agg PB, .agg PB] fun (c : Part × Part × Unit) =>
  .alloc (Bs.inj PB zP) fun A => .check (shiftTo t 0) [i64v n] <| .check (some a) (Bs.inj PB r) <|
  .alloc (Bs.inj PB zP) fun B => .check (shiftTo t 0) [i64v n] <| .check (some a) (Bs.inj PB r) <|
  .store (some A) (Bs.inj PB c.1) <| .store (some B) (Bs.inj PB c.2.1) <| fin A B) <|
 .both (.load (.agg PB) (some a) fun (r : Part) => grd (someB t) <| grd (someB t) <| .load (.one (.int .i64)) (shiftTo t 0) fun (n : Int) =>
  .call (F_part_cut S r n m) [.agg PB, .agg PB] fun (c : Part × Part × Unit) =>
  .alloc (Bs.inj PB zP) fun A => .check (shiftTo t 0) [i64v n] <| .check (some a) (Bs.inj PB r) <|
  .alloc (Bs.inj PB zP) fun B => .check (shiftTo t 0) [i64v n] <| .check (some a) (Bs.inj PB r) <|
  .store (some B) (Bs.inj PB c.1) <| .store (some A) (Bs.inj PB c.2.1) <| fin B A) <|
 .both (.load (.agg PB) (some a) fun (r : Part) => grd (someB t) <| grd (someB t) <| .load (.one (.int .i64)) (shiftTo t 0) fun (n : Int) =>
  .alloc (Bs.inj PB zP) fun A => .check (shiftTo t 0) [i64v n] <| .check (some a) (Bs.inj PB r) <|
  .call (F_part_cut S r n m) [.agg PB, .agg PB] fun (c : Part × Part × Unit) =>
  .alloc (Bs.inj PB zP) fun B => .check (shiftTo t 0) [i64v n] <| .check (some a) (Bs.inj PB r) <|
  .store (some A) (Bs.inj PB c.1) <| .store (some B) (Bs.inj PB c.2.1) <| fin A B) <|
 .both (.load (.agg PB) (some a) fun (r : Part) => grd (someB t) <| grd (someB t) <| .load (.one (.int .i64)) (shiftTo t 0) fun (n : Int) =>
  .alloc (Bs.inj PB zP) fun A => .check (shiftTo t 0) [i64v n] <| .check (some a) (Bs.inj PB r) <|
  .alloc (Bs.inj PB zP) fun B => .check (shiftTo t 0) [i64v n] <| .check (some a) (Bs.inj PB r) <|
  .call (F_part_cut S r n m) [.agg PB, .agg PB] fun (c : Part × Part × Unit) =>
  .store (some A) (Bs.inj PB c.1) <| .store (some B) (Bs.inj PB c.2.1) <| fin A B) <|
 .both (.load (.agg PB) (some a) fun (r : Part) => grd (someB t) <| grd (someB t) <| .load (.one (.int .i64)) (shiftTo t 0) fun (n : Int) =>
  .alloc (Bs.inj PB zP) fun A => .check (shiftTo t 0) [i64v n] <| .check (some a) (Bs.inj PB r) <|
  .call (F_part_cut S r n m) [.agg PB, .agg PB] fun (c : Part × Part × Unit) =>
  .alloc (Bs.inj PB zP) fun B => .check (shiftTo t 0) [i64v n] <| .check (some a) (Bs.inj PB r) <|
  .store (some B) (Bs.inj PB c.1) <| .store (some A) (Bs.inj PB c.2.1) <| fin B A) <|
 (.load (.agg PB) (some a) fun (r : Part) => grd (someB t) <| grd (someB t) <| .load (.one (.int .i64)) (shiftTo t 0) fun (n : Int) =>
  .alloc (Bs.inj PB zP) fun A => .check (shiftTo t 0) [i64v n] <| .check (some a) (Bs.inj PB r) <|
  .alloc (Bs.inj PB zP) fun B => .check (shiftTo t 0) [i64v n] <| .check (some a) (Bs.inj PB r) <|
  .call (F_part_cut S r n m) [.agg PB, .agg PB] fun (c : Part × Part × Unit) =>
  .store (some B) (Bs.inj PB c.1) <| .store (some A) (Bs.inj PB c.2.1) <| fin B A)
abbrev OwnP (n : Nat) (h : Heap) (a : Addr) (x : Part) : Prop := Own n 1 h ⟨some a, 7, 7⟩ (Bs.inj PB x)
theorem c_cutB (M : Meth0 P S) {n0 n1 : Nat} {T : TX} {a : Addr} {x : Part} {bs : List Int} {m : Int} {fin : Addr → Addr → Prog} (r : TextR S n0 h T) (q : PcR h T (x, bs)) (o : OwnP n1 h a x) (h0 : 0 ≤ m) (hm : m ≤ (toks T.enc bs).length)
  (hk : ∀ h' A B, Ext h h' → OwnP h.size h' A (headP T.enc x bs m.toNat) → OwnP h.size h' B (tailP T.enc x bs m.toNat) → wp P (fin A B) h' Q) : wp P (cutB S (some T.p) a m fin) h Q := by
 have al : ∀ {h' : Heap} {K : Addr → Prog}, Ext h h' → (∀ h'', Ext h' h'' → OwnP h'.size h'' ⟨h'.size, 0, none⟩ zP → wp P (K ⟨h'.size, 0, none⟩) h'' Q) →
   wp P (.alloc (Bs.inj PB zP) fun A => .check (shiftTo (some T.p) 0) [i64v T.enc] <| .check (some a) (Bs.inj PB x) <| K A) h' Q := fun {h' K} e hk =>
  s_newO (bs := PB) zP (by decide) fun h2 e2 o2 => s_ckC (r.ext (e.trans e2)).c0 (s_ckO (bs := PB) (o.ext (e.trans e2)) (hk h2 e2 o2))
 have fs : ∀ {h' : Heap} {A B : Addr} {mA mB : Nat}, Ext h h' → h.size ≤ mA → h.size ≤ mB → A.block ≠ B.block → OwnP mA h' A zP → OwnP mB h' B zP →
   wp P (.store (some A) (Bs.inj PB (headP T.enc x bs m.toNat)) <| .store (some B) (Bs.inj PB (tailP T.enc x bs m.toNat)) <| fin A B) h' Q := fun {h' A B mA mB} e hA hB hne oA oB =>
  s_stoO (bs := PB) _ oA (flatP _) fun h1 o1 u1 => s_stoO (bs := PB) _ (ob_upd oB u1 hne) (flatP _) fun h2 o2 u2 =>
   hk h2 A B (Upd.extN (Upd.extN e u1 (by intro z hz; cases hz; have := (oA.lt rfl).1; exact Nat.le_trans hA this)) u2 (by intro z hz; cases hz; have := (oB.lt rfl).1; exact Nat.le_trans hB this)) ((ob_upd o1 u2 hne.symm).mono hA) (o2.mono hB)
 have ct : ∀ {h' : Heap} {K : Part × Part × Unit → Prog}, Ext h h' → (∀ h'', Ext h' h'' → wp P (K (headP T.enc x bs m.toNat, tailP T.enc x bs m.toNat, ())) h'' Q) → wp P (.call (F_part_cut S x T.enc m) [.agg PB, .agg PB] K) h' Q := fun {h' K} e hk =>
  wp_call (c_cut M r.enc (q.lst.ext e) (show bs.length ≤ _ from Nat.le_trans q.len (by decide)) h0 hm (by have := q.tag; dsimp only at this ⊢; omega)) fun ⟨(y1 : Part), (y2 : Part), _⟩ h2 e2 ⟨hy1, hy2⟩ => by
   have hy1 : y1 = _ := hy1
   have hy2 : y2 = _ := hy2
   subst hy1; subst hy2
   exact hk h2 e2
 have st : ∀ {K : Part → Int → Prog}, wp P (K x T.enc) h Q → wp P (.load (.agg PB) (some a) fun (r : Part) => grd (someB (some T.p)) <| grd (someB (some T.p)) <| .load (.one (.int .i64)) (shiftTo (some T.p) 0) fun (n : Int) => K r n) h Q := fun hk => s_getO (bs := PB) o (s_enc r hk)
 have E0 := Ext.refl h
 unfold cutB
 refine ⟨?_, ?_, ?_, ?_, ?_, ?_⟩
 ·exact st (ct E0 fun h1 e1 => al e1 fun h2 e2 o2 => al (e1.trans e2) fun h3 e3 o3 => fs ((e1.trans e2).trans e3) (by have := e1.size; omega) (by have := e1.size; have := e2.size; omega) (by have := (o2.lt rfl).2; dsimp only at this ⊢; omega) (o2.ext e3) o3)
 ·exact st (ct E0 fun h1 e1 => al e1 fun h2 e2 o2 => al (e1.trans e2) fun h3 e3 o3 => fs ((e1.trans e2).trans e3) (by have := e1.size; have := e2.size; omega) (by have := e1.size; omega) (by have := (o2.lt rfl).2; dsimp only at this ⊢; omega) o3 (o2.ext e3))
 ·exact st (al E0 fun h1 e1 o1 => ct e1 fun h2 e2 => al (e1.trans e2) fun h3 e3 o3 => fs ((e1.trans e2).trans e3) (by omega) (by have := e1.size; have := e2.size; omega) (by have : h.size < h1.size := (o1.lt rfl).2; have := e2.size; show h.size ≠ h2.size; omega) (o1.ext (e2.trans e3)) o3)
 ·exact st (al E0 fun h1 e1 o1 => al e1 fun h2 e2 o2 => ct (e1.trans e2) fun h3 e3 => fs ((e1.trans e2).trans e3) (by omega) (by have := e1.size; omega) (by have := (o1.lt rfl).2; dsimp only at this ⊢; omega) (o1.ext (e2.trans e3)) (o2.ext e3))
 ·exact st (al E0 fun h1 e1 o1 => ct e1 fun h2 e2 => al (e1.trans e2) fun h3 e3 o3 => fs ((e1.trans e2).trans e3) (by have := e1.size; have := e2.size; omega) (by omega) (by have : h.size < h1.size := (o1.lt rfl).2; have := e2.size; show h2.size ≠ h.size; omega) o3 (o1.ext (e2.trans e3)))
 ·exact st (al E0 fun h1 e1 o1 => al e1 fun h2 e2 o2 => ct (e1.trans e2) fun h3 e3 => fs ((e1.trans e2).trans e3) (by have := e1.size; omega) (by omega) (by have := (o1.lt rfl).2; dsimp only at this ⊢; omega) (o2.ext e3) (o1.ext (e2.trans e3)))
theorem find_take {enc : Int} {ps : List Pc} {at_ : Int} {i n : Nat} (f : FindR enc ps at_ i n) (h0 : 0 ≤ at_) : (ps[i]? = none ∧ n = 0 ∧ ps = [] ∧ (toksL enc ps).take at_.toNat = toksL enc (ps.take i)) ∨
  ∃ q, ps[i]? = some q ∧ n ≤ (toks enc q.2).length ∧ (toksL enc ps).take at_.toNat = toksL enc (ps.take i) ++ (toks enc q.2).take n := by
 obtain ⟨f1, f2, f3, f4⟩ := f
 have hsplit : ∀ q, ps[i]? = some q → n ≤ (toks enc q.2).length → (toksL enc ps).take at_.toNat = toksL enc (ps.take i) ++ (toks enc q.2).take n := fun q hq hn => by
  have h1 : toksL enc ps = toksL enc (ps.take i) ++ (toks enc q.2 ++ toksL enc (ps.drop (i + 1))) := by
   have h2 := toksL_succ (enc := enc) hq
   rw [← List.append_assoc, ← h2]
   unfold toksL; rw [← List.flatMap_append, List.take_append_drop]
  have h3 : at_.toNat = (toksL enc (ps.take i)).length + n := by omega
  rw [h3, h1, List.take_append, List.take_of_length_le (by omega), Nat.add_sub_cancel_left, List.take_append_of_le_length hn]
 by_cases h : 0 < at_
 ·obtain ⟨q, hq, n0, n1⟩ := f4 h
  exact .inr ⟨q, hq, n1, hsplit q hq n1⟩
 ·obtain ⟨rfl, rfl⟩ := f3 (by omega)
  cases ps with
  | nil => exact .inl ⟨rfl, rfl, rfl, by simp [toksL]⟩
  | cons q ps => exact .inr ⟨q, rfl, Nat.zero_le _, hsplit q rfl (Nat.zero_le _)⟩
theorem c_ahead (M : Meth0 P S) {n : Nat} {T : TX} {at_ : Int} (r : TextR S n h T) (h0 : 0 ≤ at_) (h1 : at_ ≤ (toksL T.enc T.cur.ps).length) :
  Gives P (F_Text_ahead S (some T.p) at_) [.agg SB] h fun (x : Sums × Unit) _ => x.1 = sumT ((toksL T.enc T.cur.ps).take at_.toNat) := by
 unfold F_Text_ahead Gives
 have hf := r.cur.few r.lim.2
 have O := part_ok S T.Z (P := P)
 refine s_newO (bs := SB) zS (by decide) fun ha ea oa => ?_
 have ra := r.ext ea
 refine wp_call (c_find ra h0 h1) fun ⟨(i' : Int), (m' : Int), _⟩ h2 e2 ⟨i, m, hi, hm, f⟩ => ?_
 have hi : i' = i := hi
 have hm : m' = m := hm
 subst hi; subst hm
 dsimp only
 have r2 := ra.ext e2
 have hps : T.cur.ps.length ≤ 1099511627776 := by
  have hlen : T.cur.t.list.length = T.cur.ps.length := by rw [r.cur.ls, List.length_map]
  have h1 := W_len O T.cur.t.list; have h2 := Nat.le_trans h1 hf.2; rw [← hlen]; exact h2
 have hil := f.1
 refine s_root r2 (wp_call (R := fun (x : Sums × Unit) _ => x.1 = sumPs (T.cur.t.list.take ((i : Int)).toNat)) (c_Upto' O r2.cur.nd r2.cur.wf (r2.cur.room r2.lim.2)) fun ⟨(s : Sums), _⟩ h3 e3 hs => ?_)
 have hs : s = sumT (toksL T.enc (T.cur.ps.take i)) := by
  have hs : s = _ := hs
  rw [hs, Int.toNat_natCast, r.cur.ls, ← List.map_take, sum_ps fun q hq => r.cur.pcs q (List.mem_of_mem_take hq)]
 subst hs
 dsimp only
 refine s_putO (bs := SB) (z := zS) (sumT (toksL T.enc (T.cur.ps.take i))) (by decide) (flatS _) fun h4 e4 o4 => ?_
 have r4 := (r2.ext e3).ext e4
 have hbT : ∀ q, q ∈ T.cur.ps → isBytes q.2 := r.cur.bytes
 refine wp_bind (fun t vs h' => t = 0 ∧ vs = [] ∧ Ext h3 h' ∧ Own h3.size 1 h' ⟨some ⟨h3.size, 0, none⟩, 5, 5⟩ (Bs.inj SB (sumT ((toksL T.enc T.cur.ps).take at_.toNat)))) ?_ ?_
 ·rcases find_take f h0 with ⟨hq, rfl, hnil, htk⟩ | ⟨q, hq, hn, htk⟩
  ·refine s_root r4 (wp_call (R := fun (y : Part × Bool × Unit) _ => y.1 = zP ∧ y.2.1 = false) (c_AtNo O r4.cur.nd (Nat.le_of_lt (r4.cur.room r4.lim.2)) (by omega) (.inr ?_)) fun ⟨(y : Part), (ok : Bool), _⟩ h5 e5 ⟨hy, hok⟩ => ?_)
   ·have : T.cur.t.list = [] := by rw [r.cur.ls, hnil]; rfl
    show ((List.length T.cur.t.list : Nat) : Int) ≤ _
    rw [this]; simp
   ·have hok : ok = false := hok
    subst hok
    dsimp only
    refine s_newO (bs := PB) zP (by decide) fun h6 e6 o6 => s_stoO (bs := PB) y o6 (flatP _) fun h7 o7 u7 => s_ifF (s_ret ⟨rfl, rfl, ?_, ?_⟩)
    ·exact Upd.extN ((e4.trans e5).trans e6) u7 (by intro x hx; cases hx; have := e4.size; have := e5.size; dsimp only; omega)
    ·rw [htk]
     exact ob_upd ((o4.ext e5).ext e6) u7 (by have : h3.size < h4.size := (o4.lt rfl).2; have := e5.size; show h5.size ≠ h3.size; omega)
  ·have hx : T.cur.t.list[((i : Int)).toNat]? = some q.1 := by rw [Int.toNat_natCast, r.cur.ls, List.getElem?_map, hq]; rfl
   refine s_root r4 (wp_call (R := fun (y : Part × Bool × Unit) _ => y.1 = q.1 ∧ y.2.1 = true) (c_At O r4.cur.nd r4.cur.wf (Nat.le_of_lt (r4.cur.room r4.lim.2)) (by omega) hx) fun ⟨(y : Part), (ok : Bool), _⟩ h5 e5 ⟨hy, hok⟩ => ?_)
   have hok : ok = true := hok
   have hy : y = q.1 := hy
   subst hok; subst hy
   dsimp only
   refine s_newO (bs := PB) zP (by decide) fun h6 e6 o6 => s_stoO (bs := PB) q.1 o6 (flatP _) fun h7 o7 u7 => s_ifT ?_
   have e57 : Ext h4 h7 := Upd.extN (e5.trans e6) u7 (by intro x hx; cases hx; have := e5.size; dsimp only; omega)
   have r7 := r4.ext e57
   have hqm := List.mem_of_getElem? hq
   have pc := r7.cur.pcs q hqm
   refine wp_bind (fun t vs h' => t = 0 ∧ Ext h7 h' ∧ ∃ A : Addr, vs = [.pointer (some A)] ∧ OwnP h7.size h' A (headP T.enc q.1 q.2 m)) ?_ ?_
   ·refine c_cutB M (fin := fun A B => .ret 0 [.pointer (some A)]) r7 (x := q.1) (bs := q.2) pc o7 (by omega) (by omega) fun h8 A B e8 oA oB => s_ret ⟨rfl, e8, A, rfl, ?_⟩
    rw [Int.toNat_natCast] at oA; exact oA
   ·rintro t vs h8 ⟨rfl, e8, A, rfl, oA⟩
    refine s_tag (wp_cast (tys := [.one .ptr]) (some A, ()) rfl ?_)
    dsimp only
    have o48 := (o4.ext e57).ext e8
    refine s_getO (bs := SB) o48 (wp_grd rfl ?_)
    refine ⟨A.add 2, rfl, sumT ((toks T.enc q.2).take m), cells_iff.2 fun j v hj => ?_, ?_⟩
    ·rw [add_add]
     refine cells_iff.1 oA.cells _ _ ?_
     match j, hj with
     | 0, hj => exact hj
     | 1, hj => exact hj
     | 2, hj => exact hj
     | 3, hj => exact hj
     | 4, hj => exact hj
     | j + 5, hj => simp [Ty.cells, Bs.inj] at hj
    ·have v1 := VS.sumT (okT_toksL (enc := T.enc) (ps := T.cur.ps.take i) fun q hq => hbT q (List.mem_of_mem_take hq))
     have v2 := VS.sumT ((okT_toks (enc := T.enc) (hbT q hqm)).take m)
     have hl1 := toksL_take_le (enc := T.enc) T.cur.ps i
     have hl2 := toks_len (enc := T.enc) (hbT q hqm)
     have := pc.len
     refine wp_call (c_Add v1 v2 (by rw [List.length_take]; omega)) fun ⟨(o : Sums), _⟩ h9 e9 ho => ?_
     have ho : o = _ := ho
     subst ho
     dsimp only
     refine s_stoO (bs := SB) _ (o48.ext e9) (flatS _) fun h10 o10 u10 => s_ret ⟨rfl, rfl, Upd.extN (((e4.trans e57).trans e8).trans e9) u10 (by intro x hx; cases hx; exact Nat.le_refl _), ?_⟩
     rw [htk, sumT_append (okT_toksL fun q hq => hbT q (List.mem_of_mem_take hq)) ((okT_toks (hbT q hqm)).take m)]
     exact o10
 ·rintro t vs h5 ⟨rfl, rfl, e5, o5⟩
  have e25 := (e2.trans e3).trans e5
  exact s_tag (s_cast0 (s_getO (bs := SB) o5 (s_tellO (bs := SB) _ (oa.ext e25) (Nat.le_refl _) (ea.trans e25) (flatS _) fun h' e => ⟨rfl, e, (_, ()), rfl, rfl⟩)))
end Go.Sw.Piece

set_option linter.unusedVariables false
set_option linter.unusedSimpArgs false
set_option maxRecDepth 100000
namespace Go.Sw.Piece
open Go.Sw.Any Go.Sw.Codec
open Go.Sw.Tree (iv s_putAll s_newP s_getP s_getT s_putP eqI_self Placed cell_own wp_whileG minI_eq)
variable {P : Program} {S : Ids} {h : Heap} {Q : Nat → List Value → Heap → Prop}
abbrev EdD := Int × Int × (Sl × List Int) × Unit
abbrev Eds := Sl × List EdD
def putsOf (es : List EdD) : List Int := es.flatMap fun e => e.2.2.1.2
def Plc (len : Int) : Int → List EdD → Prop
 | _, [] => True
 | at_, e :: es => at_ ≤ e.1 ∧ e.1 ≤ e.2.1 ∧ e.2.1 ≤ len ∧ Plc len e.2.1 es
def sizeL (enc : Int) (l : List Int) : Int := (l.map (sizeF enc)).sum
def goneE (ts : List (Int × Int)) (es : List EdD) : Int := (es.map fun e => (offs (ts.take e.2.1.toNat) : Int) - offs (ts.take e.1.toNat)).sum
def fitsE (enc : Int) (l : List Int) : Prop := ∀ a, a ∈ l → 0 < sizeF enc a
inductive RefR (enc limit : Int) (ts : List (Int × Int)) (es : List EdD) : Int → Prop where
 | many : 70000 < es.length → RefR enc limit ts es 3
 | place : es.length ≤ 70000 → ¬ Plc ts.length 0 es → RefR enc limit ts es 2
 | fit : es.length ≤ 70000 → Plc ts.length 0 es → ¬ fitsE enc (putsOf es) → RefR enc limit ts es 11
 | full : es.length ≤ 70000 → Plc ts.length 0 es → fitsE enc (putsOf es) → limit < offs ts + sizeL enc (putsOf es) - goneE ts es → RefR enc limit ts es 50
 | ok : es.length ≤ 70000 → Plc ts.length 0 es → fitsE enc (putsOf es) → offs ts + sizeL enc (putsOf es) - goneE ts es ≤ limit → RefR enc limit ts es 0
theorem offs_take_le (ts : List (Int × Int)) (n : Nat) : offs (ts.take n) ≤ offs ts := by
 have := offs_append (ts.take n) (ts.drop n)
 rw [List.take_append_drop] at this; omega
end Go.Sw.Piece

set_option linter.unusedVariables false
set_option linter.unusedSimpArgs false
set_option maxRecDepth 100000
namespace Go.Sw.Piece
open Go.Sw.Any Go.Sw.Codec
open Go.Sw.Tree (iv s_putAll s_newP s_getP s_getT s_putP eqI_self Placed cell_own wp_whileG minI_eq)
variable {P : Program} {S : Ids} {h : Heap} {Q : Nat → List Value → Heap → Prop}
abbrev tk (enc a : Int) : Int × Int := (a, sizeF enc a)
theorem Nd.mono {I : Inst} {Z' : Nat → Prop} (hz : ∀ i, i < h.size → I.Z i → Z' i) : ∀ {t : Bt I.It} {p : Option Addr}, Nd I h p t → Nd { I with Z := Z' } h p t
 | .nil, _, n => n
 | .node l x r, p, ⟨a, pl, pr, e1, c, n1, n2⟩ => ⟨a, pl, pr, e1, ⟨c.1, hz _ (by have := cell_lt (cells_iff.1 c.1 0 _ rfl); rwa [add_block] at this) c.2.1, c.2.2⟩, Nd.mono hz n1, Nd.mono hz n2⟩
theorem part_mono {Z Z' : Nat → Prop} {t : Bt Part} {p : Option Addr} (n : Nd (part S Z) h p t) (hz : ∀ i, i < h.size → Z i → Z' i) : Nd (part S Z') h p t := Nd.mono (I := part S Z) hz n
end Go.Sw.Piece

set_option linter.unusedVariables false
set_option linter.unusedSimpArgs false
set_option maxRecDepth 100000
namespace Go.Sw.Piece
open Go.Sw.Any Go.Sw.Codec
open Go.Sw.Tree (iv s_putAll s_newP s_getP s_getT s_putP eqI_self Placed cell_own wp_whileG minI_eq)
variable {P : Program} {S : Ids} {h : Heap} {Q : Nat → List Value → Heap → Prop}
def cP (l : List Part) : List Value := l.flatMap fun r => Bs.inj PB r
theorem cP_append (l m : List Part) : cP (l ++ m) = cP l ++ cP m := by simp [cP]
theorem cP_one (x : Part) : cP [x] = Bs.inj PB x := by simp [cP]
theorem cP_len (l : List Part) : (cP l).length = l.length * 7 := by
 induction l with
 | nil => rfl
 | cons x l ih => unfold cP at ih ⊢; rw [List.flatMap_cons, List.length_append, ih, inj_len, List.length_cons]; simp; omega
abbrev OwnPs (n : Nat) (h : Heap) (s : Sl) (l : List Part) : Prop := Own n 7 h s (cP l)
theorem OwnPs.len {n : Nat} {s : Sl} {l : List Part} (o : OwnPs n h s l) : s.len = l.length := by
 have := o.1
 rw [cP_len] at this; omega
structure FG where
 ad : Sl
 A : List Int
 Z : Nat → Prop
 qs : List Pc
 ps : Sl
 seg : List Int
def TX.at_ (T : TX) (g : FG) : TX := { T with ad := g.ad, A := g.A, Z := g.Z }
structure FrI (S : Ids) (n : Nat) (T : TX) (m : Nat) (a1 a2 a5 a6 : Addr) (done : List Int) (h : Heap) (g : FG) : Prop where
 t : TextR S n h (T.at_ g)
 o1 : Own m 1 h ⟨some a1, 1, 1⟩ [.pointer (some T.p)]
 o2 : Own m 1 h ⟨some a2, 1, 1⟩ [slv g.ps]
 o5 : Own m 1 h ⟨some a5, 1, 1⟩ [i64v (g.A.length - (g.seg.flatMap (putF T.enc)).length : Nat)]
 o6 : Own m 1 h ⟨some a6, 1, 1⟩ [i64v g.seg.length]
 op : OwnPs m h g.ps (g.qs.map (·.1))
 dj : a1.block ≠ a2.block ∧ a1.block ≠ a5.block ∧ a1.block ≠ a6.block ∧ a2.block ≠ a5.block ∧ a2.block ≠ a6.block ∧ a5.block ≠ a6.block
 pd : ∀ b, g.ps.base = some b → b.block ≠ a1.block ∧ b.block ≠ a2.block ∧ b.block ≠ a5.block ∧ b.block ≠ a6.block ∧ ¬ g.Z b.block
 zd : ¬ g.Z a1.block ∧ ¬ g.Z a2.block ∧ ¬ g.Z a5.block ∧ ¬ g.Z a6.block
 zn : ∀ i, g.Z i → T.Z i ∨ m ≤ i
 pcs : ∀ q, q ∈ g.qs → PcR h (T.at_ g) q ∧ q.1.2.1 = -1
 all : g.A = T.A ++ done.flatMap (putF T.enc)
 put : bytesL g.qs ++ g.seg.flatMap (putF T.enc) = done.flatMap (putF T.enc)
 tks : toksL T.enc g.qs ++ g.seg.map (tk T.enc) = done.map (tk T.enc)
 fits : ∀ a, a ∈ done → 0 < sizeF T.enc a
 few : g.seg.length ≤ 128
theorem upd_own {n size c d : Nat} {h' : Heap} {s : Sl} {b : Addr} {vs : List Value} (o : Own n size h s vs) (u : Upd ⟨some b, c, d⟩ h h') (hne : ∀ a, s.base = some a → b.block ≠ a.block) : Own n size h' s vs :=
 o.keep fun x hx => u.2.1 _ (o.lt hx).2 fun y hy => by cases hy; exact hne x hx
theorem upd_chg {c d : Nat} {b : Addr} {h' : Heap} (u : Upd ⟨some b, c, d⟩ h h') : Chg (fun i => i = b.block) h h' := Chg.of_upd u fun x hx _ => by cases hx; rfl
end Go.Sw.Piece

set_option linter.unusedVariables false
set_option linter.unusedSimpArgs false
set_option maxRecDepth 100000
namespace Go.Sw.Piece
open Go.Sw.Any Go.Sw.Codec
open Go.Sw.Tree (iv s_putAll s_newP s_getP s_getT s_putP eqI_self Placed cell_own wp_whileG minI_eq)
variable {P : Program} {S : Ids} {h : Heap} {Q : Nat → List Value → Heap → Prop}
def wfoot (T : TX) (i : Nat) : Prop := i = T.p.block ∨ ∃ b, T.ad.base = some b ∧ b.block = i
structure FrJ (S : Ids) (n : Nat) (T : TX) (h0 : Heap) (a1 a2 a5 a6 : Addr) (done : List Int) (h : Heap) (g : FG) : Prop where
 f : FrI S n T h0.size a1 a2 a5 a6 done h g
 c : Chg (wfoot T) h0 h
 zm : ∀ i, T.Z i → g.Z i
 adc : ∀ b, g.ad.base = some b → T.ad.base = some b ∨ h0.size ≤ b.block
structure FreshR (S : Ids) (n : Nat) (T : TX) (h0 : Heap) (l : List Int) (h : Heap) (g : FG) : Prop where
 t : TextR S n h (T.at_ g)
 op : OwnPs h0.size h g.ps (g.qs.map (·.1))
 pd : ∀ b, g.ps.base = some b → ¬ g.Z b.block
 zn : ∀ i, g.Z i → T.Z i ∨ h0.size ≤ i
 zm : ∀ i, T.Z i → g.Z i
 pcs : ∀ q, q ∈ g.qs → PcR h (T.at_ g) q ∧ q.1.2.1 = -1
 all : g.A = T.A ++ l.flatMap (putF T.enc)
 put : bytesL g.qs = l.flatMap (putF T.enc)
 tks : toksL T.enc g.qs = l.map (tk T.enc)
 adc : ∀ b, g.ad.base = some b → T.ad.base = some b ∨ h0.size ≤ b.block
end Go.Sw.Piece

set_option linter.unusedVariables false
set_option linter.unusedSimpArgs false
set_option maxRecDepth 100000
namespace Go.Sw.Piece
open Go.Sw.Any Go.Sw.Codec
open Go.Sw.Tree (iv s_putAll s_newP s_getP s_getT s_putP eqI_self Placed cell_own wp_whileG minI_eq)
variable {P : Program} {S : Ids} {h : Heap} {Q : Nat → List Value → Heap → Prop}
theorem offs_pos {ts : List (Int × Int)} (h : okT ts) (hl : 0 < ts.length) : 0 < offs ts := by
 cases ts with
 | nil => simp at hl
 | cons t ts => have := h t (List.mem_cons_self ..); rw [offs_cons]; omega
theorem els_append (enc : Int) (a b : List Pc) : els enc (a ++ b) = els enc a ++ els enc b := by simp [els]
theorem els_one (enc : Int) (q : Pc) : els enc [q] = elsP enc q := by simp [els]
theorem els_split {enc : Int} {ps : List Pc} {i : Nat} {q : Pc} (hq : ps[i]? = some q) : els enc ps = els enc (ps.take i) ++ elsP enc q ++ els enc (ps.drop (i + 1)) := by
 have hlt := (List.getElem?_eq_some_iff.1 hq).1
 have he := (List.getElem?_eq_some_iff.1 hq).2
 have h2 : ps = ps.take i ++ [q] ++ ps.drop (i + 1) := by
  rw [← he, List.append_assoc]
  show ps = ps.take i ++ (ps[i] :: ps.drop (i + 1))
  rw [← List.drop_eq_getElem_cons hlt, List.take_append_drop]
 conv => lhs; rw [h2]
 rw [els_append, els_append, els_one]
theorem elsP_len (enc : Int) (q : Pc) : (elsP enc q).length = (toks enc q.2).length := elsF_len ..
theorem elsF_fst (tag : Int) : ∀ (ts : List (Int × Int)) (o : Nat), (elsF tag o ts).map (·.1) = ts.map (·.1)
 | [], _ => rfl
 | t :: ts, o => by simp only [elsF, List.map_cons, elsF_fst tag ts]
theorem els_fst (enc : Int) : ∀ (ps : List Pc), (els enc ps).map (·.1) = (toksL enc ps).map (·.1)
 | [] => rfl
 | q :: ps => by
  have := els_fst enc ps
  unfold els toksL at this ⊢
  rw [List.flatMap_cons, List.flatMap_cons, List.map_append, List.map_append, this]
  unfold elsP; rw [elsF_fst]
structure Nxt (T T' : TX) (m : Nat) : Prop where
 p : T'.p = T.p
 enc : T'.enc = T.enc
 limit : T'.limit = T.limit
 kept : T'.kept = T.kept
 zm : ∀ i, T.Z i → T'.Z i
 zn : ∀ i, T'.Z i → T.Z i ∨ m ≤ i
 adc : ∀ b, T'.ad.base = some b → T.ad.base = some b ∨ m ≤ b.block
end Go.Sw.Piece

set_option linter.unusedVariables false
set_option linter.unusedSimpArgs false
set_option maxRecDepth 100000
namespace Go.Sw.Piece
open Go.Sw.Any Go.Sw.Codec
open Go.Sw.Tree (iv s_putAll s_newP s_getP s_getT s_putP eqI_self Placed cell_own wp_whileG minI_eq)
variable {P : Program} {S : Ids} {h : Heap} {Q : Nat → List Value → Heap → Prop}
theorem wp_callW {m : Prog} {tys : List Ty} {K : Ts.den tys → Prog} {R : Nat → List Value → Heap → Prop} (g : wp P m h R) (hk : ∀ t vs h', R t vs h' → t = 0 ∧ ∃ x, vs = Ts.inj tys x ∧ wp P (K x) h' Q) : wp P (.call m tys K) h Q := wp_mono m hk g
theorem its_own {n : Nat} {Z : Nat → Prop} {s : Sl} {l : List Part} (o : OwnPs n h s l) (hw : ∀ x, x ∈ l → VS (wtP x) (sumP x)) : Its (part S Z) h s l := ⟨o.rd, o.2.1, o.2.2.1, hw⟩
theorem pcs_le {T : TX} : ∀ {ps : List Pc}, (∀ q, q ∈ ps → PcR h T q) → ps.length ≤ (bytesL ps).length
 | [], _ => Nat.le_refl _
 | q :: ps, hq => by
  have h1 := pcs_le (ps := ps) fun x hx => hq x (List.mem_cons_of_mem _ hx)
  have h2 := (hq q (List.mem_cons_self ..)).ne
  unfold bytesL at h1 ⊢
  rw [List.flatMap_cons, List.length_append, List.length_cons]; omega
theorem bytesL_append (a b : List Pc) : bytesL (a ++ b) = bytesL a ++ bytesL b := by simp [bytesL]
end Go.Sw.Piece

set_option linter.unusedVariables false
set_option linter.unusedSimpArgs false
set_option maxRecDepth 100000
namespace Go.Sw.Piece
open Go.Sw.Any Go.Sw.Codec
open Go.Sw.Tree (iv s_putAll s_newP s_getP s_getT s_putP eqI_self Placed cell_own wp_whileG minI_eq)
variable {P : Program} {S : Ids} {h : Heap} {Q : Nat → List Value → Heap → Prop}
abbrev El := Int × Int
def one1 (E : List El) (e : EdD) : List El := E.take e.1.toNat ++ e.2.2.1.2.map (fun a => (a, -1)) ++ E.drop e.2.1.toNat
def allE (E : List El) (es : List EdD) : List El := es.foldr (fun e E => one1 E e) E
structure ChangeR (S : Ids) (n : Nat) (T : TX) (h0 h : Heap) (es : List EdD) (r : Int) (T' : TX) : Prop where
 ref : RefR T.enc T.limit (toksL T.enc T.cur.ps) es r
 t : TextR S n h T'
 nx : Nxt T T' h0.size
 els : els T.enc T'.cur.ps = if r = 0 then allE (els T.enc T.cur.ps) es else els T.enc T.cur.ps
 len : T'.A.length ≤ T.A.length + 4 * (putsOf es).length
end Go.Sw.Piece

set_option linter.unusedVariables false
set_option linter.unusedSimpArgs false
set_option maxRecDepth 100000
namespace Go.Sw.Piece
open Go.Sw.Any Go.Sw.Codec
open Go.Sw.Tree (iv s_putAll s_newP s_getP s_getT s_putP eqI_self Placed cell_own wp_whileG minI_eq)
variable {P : Program} {S : Ids} {h : Heap} {Q : Nat → List Value → Heap → Prop}
structure Cl0 (P : Program) (S : Ids) : Prop where
 it : ∀ (y : Value) (a b : Option Addr), Dyn P (.func (.func S.f_Tree_part_Items_1) #[] #[.pointer a, .pointer b]) [y] (F_Tree_part_Items_1 S y a b)
 wk : ∀ (p : Option Addr) (i : Int) (a b : Option Addr), Dyn P (.func (.func S.f_Tree_part_Items_1_1) #[] #[.pointer a, .pointer b]) [.pointer p, iv i] (F_Tree_part_Items_1_1 S p i a b)
 atoms : ∀ (a t : Int) (p : Option Addr), Dyn P (.func (.func S.f_Text_Atoms_1) #[] #[.pointer p]) [iv a, iv t] (F_Text_Atoms_1 S a t p)
structure Cl1 (P : Program) (S : Ids) : Prop extends Cl0 P S where
 tags : ∀ (a t : Int) (p : Option Addr), Dyn P (.func (.func S.f_Text_Tags_1) #[] #[.pointer p]) [iv a, iv t] (F_Text_Tags_1 S a t p)
structure Cl (P : Program) (S : Ids) : Prop extends Cl1 P S where
 chunks : ∀ (y : Value) (a b : Option Addr), Dyn P (.func (.func S.f_Text_Chunks_1) #[] #[.pointer a, .pointer b]) [y] (F_Text_Chunks_1 S y a b)
instance : Coe (Cl P S) (Cl1 P S) := ⟨Cl.toCl1⟩
instance : Coe (Cl1 P S) (Cl0 P S) := ⟨Cl1.toCl0⟩
theorem Cl0.clos (C : Cl0 P S) (Z : Nat → Prop) : Clos P (part S Z) := ⟨fun y a b => C.it y a b, fun p i a b => C.wk p i a b⟩
structure ItR (h : Heap) (root : Option Addr) (i : Int) (a b : Addr) : Prop where
 ca : Sw.cell h a = some (.pointer root)
 cb : Sw.cell h b = some (iv i)
theorem c_ItemsF {p : Option Addr} {i : Int} : Gives P (F_Tree_part_Items S (p, ()) i) [.one .any] h fun (y : Value × Unit) h' => ∃ a b, y.1 = .func (.func S.f_Tree_part_Items_1) #[] #[.pointer (some a), .pointer (some b)] ∧ ItR h' p i a b ∧ h.size ≤ a.block ∧ h.size ≤ b.block := by
 unfold F_Tree_part_Items Gives
 refine s_newP p fun h1 e1 o1 => fun el => ?_
 have e2 : Ext h1 (h1.push (.cells [iv i].toArray el)) := Ext.push ..
 have q2 : Own h1.size 1 (h1.push (.cells [iv i].toArray el)) ⟨some ⟨h1.size, 0, none⟩, 1, 1⟩ [iv i] := own_alloc rfl (by decide) (by decide)
 generalize (h1.push (.cells [iv i].toArray el)) = h2 at e2 q2 ⊢
 exact s_ret ⟨rfl, e1.trans e2, (_, ()), rfl, _, _, rfl, ⟨cell_own (o1.ext e2), cell_own q2⟩, Nat.le_refl _, e1.size⟩
theorem wp_rangeP (C : Cl0 P S) {n : Nat} {T : TX} {i : Int} {a b : Addr} {body : Option Addr × Unit → Prog} {K : Nat → Prog} (t : TextR S n h T) (hi : fitsI .i64 i) (it : ItR h T.cur.root i a b) (J : Nat → Heap → Prop) (F : Nat → Heap → Prop)
  (sJ : ∀ k a b, J k a → Chg (own h.size 4) a b → J k b) (sF : ∀ k a b, F k a → Chg (own h.size 4) a b → F k b)
  (hr : ∀ k q h1 c, (T.cur.ps.drop i.toNat)[k]? = some q → J k h1 → h.size + 4 ≤ h1.size → OwnP (h.size + 4) h1 c q.1 → wp P (body (some c, ())) h1 fun tag _ h2 => Held (fun i => own h.size 4 i ∨ ((T.Z i ∨ i = a.block ∨ i = b.block) ∧ i < h.size)) h1 h2 ∧ (tag = 0 → J (k + 1) h2) ∧ (tag ≠ 0 → F tag h2))
  (j0 : J 0 h)
  (hk : ∀ j h5, h.size + 2 ≤ h5.size → (j = 0 ∧ J (T.cur.ps.drop i.toNat).length h5 ∨ j ≠ 0 ∧ F j h5) → wp P (K j) h5 fun t vs h6 => Held (own h.size 1) h5 h6 ∧ ∀ h7, Chg (own h.size 1) h6 h7 → h7.size = h6.size → Q t vs h7) :
  wp P (.range (.func (.func S.f_Tree_part_Items_1) #[] #[.pointer (some a), .pointer (some b)]) [.agg PB] [.one .ptr] (fun (r : Part × Unit) =>
   .alloc (Bs.inj PB zP) fun (c : Addr) => .store (some c) (Bs.inj PB r.1) <| .ret 0 [.pointer (some c)]) body K) h Q := by
 let Z : Nat → Prop := fun i => T.Z i ∨ i = a.block ∨ i = b.block
 have nd : Nd (part S Z) h T.cur.root T.cur.t := part_mono t.cur.nd fun _ _ h => .inl h
 have itg := iter_items (part_ok S Z (P := P)) (C.clos Z) nd (Nat.le_of_lt (t.cur.room t.lim.2)) hi it.ca it.cb (.inr (.inl rfl)) (.inr (.inr rfl))
 refine wp_range (A := AL (part S Z) (T.cur.t.list.drop i.toNat)) (N := (T.cur.t.list.drop i.toNat).length) (Z := Z) (m := 2) (h0 := h) itg (Held.refl _ _) J F sJ sF (fun k hp h1 args ⟨r, _, e⟩ => ⟨(r, ()), e⟩) ?_ j0 ?_
 ·rintro k hp h1 ⟨x, u⟩ hkN j hps c hs1 hz1 ⟨r, hrr, hre⟩
  have hx : Bs.inj PB x = Bs.inj PB r := by
   have h1 := congrArg (fun l => l.head?) hre
   simp only [Ts.inj, List.head?_cons, Option.some.injEq] at h1
   have h2 : (Value.agg (Bs.inj PB x).toArray) = Value.agg (Bs.inj PB r).toArray := h1
   injection h2 with h2
   exact List.toArray_inj h2
  dsimp only
  rw [hx]
  have hq : ∃ q, (T.cur.ps.drop i.toNat)[k]? = some q ∧ r = q.1 := by
   have h1 : (T.cur.t.list.drop i.toNat)[k]? = some r := hrr
   rw [t.cur.ls, ← List.map_drop, List.getElem?_map] at h1
   cases hq : (T.cur.ps.drop i.toNat)[k]? with
   | none => rw [hq] at h1; cases h1
   | some q => rw [hq] at h1; exact ⟨q, rfl, (Option.some.inj h1).symm⟩
  obtain ⟨q, hq, rfl⟩ := hq
  refine s_newO (bs := PB) zP (by decide) fun h2 e2 o2 => s_stoO (bs := PB) q.1 o2 (flatP _) fun h3 o3 u3 => s_ret ⟨rfl, (some ⟨h1.size, 0, none⟩, ()), rfl, ?_, fun h3' c3 hs3 => ?_⟩
  ·exact Held.of_ext (Upd.extN e2 u3 (by intro z hz; cases hz; exact Nat.le_refl _))
  ·have e13 : Ext h1 h3 := Upd.extN e2 u3 (by intro z hz; cases hz; exact Nat.le_refl _)
   refine hr k q h3' _ hq ?_ (by have := e13.size; omega) ((c3.own o3 fun z hz hw => by cases hz; have := hw.2; dsimp only at this; omega).mono (by omega))
   exact sJ _ _ _ (sJ _ _ _ (sJ _ _ _ j c) (Chg.of_ext e13)) c3
 ·intro j h5 hs5 hz5 hx
  refine hk j h5 hs5 ?_
  have : (T.cur.t.list.drop i.toNat).length = (T.cur.ps.drop i.toNat).length := by rw [t.cur.ls, List.length_drop, List.length_drop, List.length_map]
  rw [← this]; exact hx
theorem s_copyAt {n : Nat} {k : IntKind} {s x : Sl} {pre mid post l : List Int} {i : Nat} {K : Nat → Prog} (ho : OwnL n k h s (pre ++ mid ++ post)) (hx : Lst k h x l) (hl : l.length = mid.length) (h0 : 0 < l.length) (hi : i = pre.length)
  (hk : ∀ h', OwnL n k h' s (pre ++ l ++ post) → Upd s h h' → h'.size = h.size → wp P (K l.length) h' Q) : wp P (.copy 1 ⟨cutBase s.base s.cap i 1, subN s.len i, subN s.cap i⟩ x K) h Q := by
 subst hi
 have hxl := hx.len
 have hsl := ho.len
 simp only [List.length_append] at hsl
 obtain ⟨o1, o2, o3, o4⟩ := ho.own
 cases hb : s.base with
 | none => rw [hb] at o4; simp only at o4; omega
 | some a =>
  rw [hb] at o4
  obtain ⟨b, off, spot⟩ := a
  obtain ⟨e0, e1, e2, cs, elem, e3, e4, e5⟩ := o4
  simp only at e0 e1 e2 e3
  subst e0; subst e1
  have hcut : cutBase (some (⟨b, 0, none⟩ : Addr)) s.cap pre.length 1 = some ⟨b, pre.length, none⟩ := by
   unfold cutBase; rw [if_neg (by omega)]; simp [add_mk]
  rw [hcut]
  have hmin : min x.len (subN s.len pre.length) = l.length := by unfold subN; omega
  obtain ⟨w, cs', c1, c2, c3, c4, c5, c6⟩ := puts_block (vs := l.map (.int k)) (i := 0) (off := pre.length) e3 (by intro y hy; obtain ⟨z, _, rfl⟩ := List.mem_map.1 hy; rfl) (by rw [List.length_map]; simp at e4; omega)
  refine ⟨l.map (.int k), ?_, ?_⟩
  ·rw [hmin]
   have := hx.rd.firsts
   rw [hxl] at this; exact this
  ·dsimp only
   rw [hmin]
   refine ⟨w, hk _ ⟨⟨by simp at o1 ⊢; omega, o2, o3, ?_⟩, ?_⟩ ⟨by unfold puts; omega, fun j hj hne => c6 j fun e => (hne _ hb) e.symm, fun a e => by unfold puts; rw [thaw_putFrom]; exact e⟩ (by unfold puts; omega)⟩
   ·rw [hb]
    refine ⟨rfl, rfl, e2, cs', elem, c1, by rw [c2, e4], fun j v hj => ?_⟩
    rw [List.map_append, List.map_append] at hj
    by_cases hj1 : j < pre.length
    ·rw [List.append_assoc, List.getElem?_append_left (by rw [List.length_map]; exact hj1)] at hj
     rw [c4 j (by omega)]
     exact e5 j v (by rw [List.map_append, List.map_append, List.append_assoc, List.getElem?_append_left (by rw [List.length_map]; exact hj1)]; exact hj)
    ·by_cases hj2 : j < pre.length + l.length
     ·rw [List.getElem?_append_left (by simp; omega), List.getElem?_append_right (by simp; omega), List.length_map] at hj
      have := c3 (j - pre.length) v hj
      rw [show pre.length + 0 + (j - pre.length) = j by omega] at this; exact this
     ·rw [List.getElem?_append_right (by simp; omega)] at hj
      rw [c4 j (by simp; omega)]
      refine e5 j v ?_
      rw [List.map_append, List.map_append, List.getElem?_append_right (by simp; omega)]
      simp only [List.length_append, List.length_map] at hj ⊢
      rw [show j - (pre.length + mid.length) = j - (pre.length + l.length) by omega]; exact hj
   ·intro y hy
    rcases List.mem_append.1 hy with hy | hy
    ·rcases List.mem_append.1 hy with hy | hy
     ·exact ho.wf y (List.mem_append_left _ (List.mem_append_left _ hy))
     ·exact hx.wf y hy
    ·exact ho.wf y (List.mem_append_right _ hy)
end Go.Sw.Piece

set_option linter.unusedVariables false
set_option linter.unusedSimpArgs false
set_option maxRecDepth 100000
namespace Go.Sw.Piece
open Go.Sw.Any Go.Sw.Codec
open Go.Sw.Tree (iv s_putAll s_newP s_getP s_getT s_putP eqI_self Placed cell_own wp_whileG minI_eq)
variable {P : Program} {S : Ids} {h : Heap} {Q : Nat → List Value → Heap → Prop}
theorem s_mkZ {k : IntKind} {bytes n : Nat} {K : Sl → Prog} (h1 : n < 2 ^ 63) (h2 : bytes * n ≤ 2 ^ 48) (hk : ∀ h' r, Ext h h' → OwnL h.size k h' r (List.replicate n 0) → wp P (K r) h' Q) : wp P (.mk bytes [.int k 0] (n : Int) (n : Int) K) h Q := by
 refine ⟨⟨by omega, Int.le_refl _, by omega, by exact_mod_cast h2⟩, fun elem => hk _ _ (Ext.push ..) ⟨⟨by simp, by simp, by dsimp only; omega, ?_⟩, fun x hx => by rw [(List.mem_replicate.1 hx).2]; exact fits_zero k⟩⟩
 refine ⟨rfl, rfl, Nat.le_refl _, _, elem, Array.getElem?_push_size, ?_, fun i v hi => ?_⟩
 ·rw [zeros_one]; simp
 ·rw [zeros_one]
  rw [List.map_replicate] at hi
  rw [List.getElem?_toArray]
  simpa using hi
theorem s_new1 (v : Value) {K : Addr → Prog} (hk : ∀ h', Ext h h' → Own h.size 1 h' ⟨some ⟨h.size, 0, none⟩, 1, 1⟩ [v] → h'.size = h.size + 1 → wp P (K ⟨h.size, 0, none⟩) h' Q) : wp P (.alloc [v] K) h Q :=
 fun el => hk _ (Ext.push ..) (own_alloc rfl (by decide) (by decide)) (by simp)
abbrev Cel (n : Nat) (h : Heap) (a : Addr) (v : Value) : Prop := Own n 1 h ⟨some a, 1, 1⟩ [v]
theorem s_cel {n : Nat} {a : Addr} {b : B} {x : b.den} {K : b.den → Prog} (o : Cel n h a (b.inj x)) (hk : wp P (K x) h Q) : wp P (.load (.one b) (some a) K) h Q := wp_load1 a x rfl (cell_own o) hk
theorem s_celput {n : Nat} {a : Addr} {v : Value} (w : Value) {K : Prog} (o : Cel n h a v) (hw : flat w = true) (hk : ∀ h', Cel n h' a w → Upd ⟨some a, 1, 1⟩ h h' → wp P K h' Q) : wp P (.store (some a) [w] K) h Q :=
 s_putAll [w] o rfl (by intro u hu; rw [List.mem_singleton.1 hu]; exact hw) hk
theorem s_newput (z w : Value) {K : Addr → Prog} (hw : flat w = true) (hk : ∀ h', Ext h h' → Cel h.size h' ⟨h.size, 0, none⟩ w → wp P (K ⟨h.size, 0, none⟩) h' Q) : wp P (.alloc [z] fun a => .store (some a) [w] (K a)) h Q :=
 s_new1 z fun h1 e1 o1 _ => s_celput w o1 hw fun h2 o2 u2 => hk h2 (Upd.extN e1 u2 (by intro x hx; cases hx; exact Nat.le_refl _)) o2
theorem Keep.chg {n : Nat} {F : Nat → Prop} {a b c : Heap} (k : Keep n a b) (c' : Chg F b c) (hn : n ≤ b.size) (hf : ∀ i, F i → n ≤ i) : Keep n a c := Keep.trans k (c'.keep hn fun i hi x => by have := hf i x; omega)
end Go.Sw.Piece

set_option linter.unusedVariables false
set_option linter.unusedSimpArgs false
set_option maxRecDepth 100000
namespace Go.Sw.Piece
open Go.Sw.Any Go.Sw.Codec
open Go.Sw.Tree (iv s_putAll s_newP s_getP s_getT s_putP eqI_self Placed cell_own wp_whileG minI_eq)
variable {P : Program} {S : Ids} {h : Heap} {Q : Nat → List Value → Heap → Prop}
theorem elsF_get (tag : Int) : ∀ (ts : List (Int × Int)) (o w : Nat) (t : Int × Int), ts[w]? = some t → (elsF tag o ts)[w]? = some (t.1, if tag < 0 then -1 else tag + ((o + offs (ts.take w) : Nat) : Int))
 | [], o, w, t, h => by simp at h
 | x :: ts, o, 0, t, h => by simp at h; subst h; simp [elsF, offs]
 | x :: ts, o, w + 1, t, h => by
  have := elsF_get tag ts (o + x.2.toNat) w t (by simpa using h)
  simp only [elsF, List.getElem?_cons_succ, List.take_succ_cons, offs_cons]
  rw [this, Nat.add_assoc]
structure See (P : Program) (see : Value) (f : El → Int) (cc : Addr) : Prop where
 flat : flat see = true
 go : ∀ (h : Heap) (m : Nat) (e : El) (s : Sl) (l : List Int) (Q : Nat → List Value → Heap → Prop) (K : Unit → Prog), m ≤ h.size → Cel m h cc (slv s) → OwnL m .i64 h s l → fitsI .i64 e.1 → fitsI .i64 e.2 → l.length ≤ 1099511627776 → (∀ x, s.base = some x → x.block ≠ cc.block) →
  (∀ h' s', Cel m h' cc (slv s') → OwnL m .i64 h' s' (l ++ [f e]) → Chg (fun i => i = cc.block ∨ ∃ x, s.base = some x ∧ x.block = i) h h' → (∀ x, s'.base = some x → s.base = some x ∨ h.size ≤ x.block) → wp P (K ()) h' Q) → wp P (.callv see [iv e.1, iv e.2] [] K) h Q
theorem see_push {m : Nat} {cc : Addr} {s : Sl} {l : List Int} {v : Int} {K : Prog} (hm : m ≤ h.size) (oc : Cel m h cc (slv s)) (ol : OwnL m .i64 h s l) (hv : fitsI .i64 v) (hl : l.length ≤ 1099511627776) (hne : ∀ x, s.base = some x → x.block ≠ cc.block)
  (hk : ∀ h' s', Cel m h' cc (slv s') → OwnL m .i64 h' s' (l ++ [v]) → Chg (fun i => i = cc.block ∨ ∃ x, s.base = some x ∧ x.block = i) h h' → (∀ x, s'.base = some x → s.base = some x ∨ h.size ≤ x.block) → wp P K h' Q) :
  wp P (.load (.one .sl) (some cc) fun (l1 : Sl) => .alloc [iv v] fun (a2 : Addr) => .append 1 8 [iv 0] l1 ⟨some a2, 1, 1⟩ fun (l3 : Sl) => .store (some cc) [slv l3] K) h Q := by
 refine s_cel (b := .sl) (x := s) oc (s_push ol hm hv (by omega) (by omega) fun r h1 k1 o1 u1 b1 => ?_)
 have c1 : Chg (fun i => ∃ x, s.base = some x ∧ x.block = i) h h1 := Chg.of_upd u1 fun x hx _ => ⟨x, hx, rfl⟩
 have hcc : cc.block < h.size := (oc.lt rfl).2
 refine s_celput (slv r) (c1.own oc fun x hx ⟨y, hy, e⟩ => by cases hx; exact hne y hy e) rfl fun h2 o2 u2 => hk h2 r o2 (o1.upd u2 fun a b ha hb => ?_) ?_ b1
 ·cases hb
  rcases b1 a ha with hx | hx
  ·exact (hne a hx).symm
  ·omega
 ·exact (c1.mono fun i _ e => .inr e).trans ((upd_chg u2).mono fun i _ e => .inl e) fun i _ x => x
theorem see_atoms (C : Cl0 P S) (cc : Addr) : See P (.func (.func S.f_Text_Atoms_1) #[] #[.pointer (some cc)]) (·.1) cc :=
 ⟨rfl, fun h m e s l Q K hm oc ol h1 h2 hl hne hk => wp_dyn (C.atoms _ _ _) (see_push hm oc ol h1 hl hne fun h' s' a b c d => s_ret ⟨rfl, (), rfl, hk h' s' a b c d⟩)⟩
theorem see_tags (C : Cl1 P S) (cc : Addr) : See P (.func (.func S.f_Text_Tags_1) #[] #[.pointer (some cc)]) (·.2) cc :=
 ⟨rfl, fun h m e s l Q K hm oc ol h1 h2 hl hne hk => wp_dyn (C.tags _ _ _) (see_push hm oc ol h2 hl hne fun h' s' a b c d => s_ret ⟨rfl, (), rfl, hk h' s' a b c d⟩)⟩
def cutL (E : List El) (from_ to : Int) : List El := (E.take (min to E.length).toNat).drop (max from_ 0).toNat
structure WJ (S : Ids) (P : Program) (n : Nat) (T : TX) (h0 : Heap) (hr m0 : Nat) (a1 a2 a7 a8 cc : Addr) (see : Value) (f : El → Int) (R : List El) (m cnt v : Nat) (h : Heap) (s : Sl) : Prop where
 c : Chg (fun i => i = cc.block) h0 h
 sz : hr ≤ h.size
 t : TextR S n h T
 o1 : Cel h0.size h a1 (.pointer (some T.p))
 o2 : Cel h0.size h a2 see
 o7 : Cel h0.size h a7 (i64v ((m - v : Nat) : Int))
 o8 : Cel h0.size h a8 (i64v ((cnt - (v - m) : Nat) : Int))
 oc : Cel m0 h cc (slv s)
 ol : OwnL m0 .i64 h s (((R.take v).drop m).map f)
 sb : ∀ x, s.base = some x → hr + 4 ≤ x.block ∧ 0 < ((R.take v).drop m).length
 lt : a1.block < hr ∧ a2.block < hr ∧ a7.block < hr ∧ a8.block < hr ∧ cc.block < h0.size ∧ h0.size ≤ hr
variable {n : Nat} {T : TX} {h0 : Heap} {hr m0 : Nat} {a1 a2 a7 a8 cc : Addr} {see : Value} {f : El → Int} {R : List El} {m cnt v : Nat} {s : Sl}
theorem WJ.chg {h' : Heap} {F : Nat → Prop} (j : WJ S P n T h0 hr m0 a1 a2 a7 a8 cc see f R m cnt v h s) (c : Chg F h h') (hF : ∀ i, F i → hr ≤ i ∧ ∀ x, s.base = some x → x.block ≠ i) (hz : ∀ i, T.Z i → i < h0.size) : WJ S P n T h0 hr m0 a1 a2 a7 a8 cc see f R m cnt v h' s := by
 obtain ⟨l1, l2, l7, l8, lc, lh⟩ := j.lt
 exact ⟨j.c.trans (c.mono fun i _ x => x) fun i hi x => by have := (hF i x).1; omega, Nat.le_trans j.sz c.1, j.t.chg c fun i hi x => by have := (hF i x).1; have := hz i hi; omega,
  c.own j.o1 fun x hx y => by cases hx; have := (hF _ y).1; omega, c.own j.o2 fun x hx y => by cases hx; have := (hF _ y).1; omega, c.own j.o7 fun x hx y => by cases hx; have := (hF _ y).1; omega, c.own j.o8 fun x hx y => by cases hx; have := (hF _ y).1; omega,
  c.own j.oc fun x hx y => by cases hx; have := (hF _ y).1; omega, c.ownL j.ol fun x hx y => (hF _ y).2 x hx rfl, j.sb, j.lt⟩
theorem WJ.ext {h' : Heap} (j : WJ S P n T h0 hr m0 a1 a2 a7 a8 cc see f R m cnt v h s) (c : Ext h h') (hz : ∀ i, T.Z i → i < h0.size) : WJ S P n T h0 hr m0 a1 a2 a7 a8 cc see f R m cnt v h' s :=
 j.chg (F := fun _ => False) (Chg.of_ext c) (fun i x => x.elim) hz
theorem own_ne {k : IntKind} {n' : Nat} {l : List Int} {c x : Addr} {q : Part} (o : OwnL m0 k h s l) (hl : 0 < l.length) (hx : s.base = some x) (oc : OwnP n' h c q) : x.block ≠ c.block := by
 intro e
 obtain ⟨_, _, _, o4⟩ := id o.own
 rw [hx] at o4
 obtain ⟨x0, x1, _⟩ := o4
 obtain ⟨_, _, _, c4⟩ := id oc
 obtain ⟨c0, c1, _⟩ := c4
 obtain ⟨y, ey, cy⟩ := o.lst.rd.at (i := 0) hl
 rw [hx] at ey; cases ey
 have cc := cells_iff.1 oc.cells 0 _ rfl
 have : x = c := by
  obtain ⟨xb, xo, xs⟩ := x
  obtain ⟨cb, co, cs⟩ := c
  dsimp only at e x0 x1 c0 c1
  subst e; subst x0; subst x1; subst c0; subst c1; rfl
 rw [this] at cy
 rw [cc] at cy
 cases cy
theorem told_succ {E : El} (hv : R[v]? = some E) (hm : m ≤ v) : (R.take (v + 1)).drop m = (R.take v).drop m ++ [E] := by
 rw [List.take_add_one, hv]
 rw [List.drop_append_of_le_length (by rw [List.length_take]; have := (List.getElem?_eq_some_iff.1 hv).1; omega)]; rfl
theorem told_skip (hm : v < m) : (R.take (v + 1)).drop m = [] ∧ (R.take v).drop m = [] := by
 constructor <;> exact List.drop_of_length_le (by rw [List.length_take]; omega)
theorem c_pass (hs : See P see f cc) {c : Addr} {q : Part} {E : El} {tag at_ : Int} {nr : Nat} {W : Nat → Prop} (j : WJ S P n T h0 hr m0 a1 a2 a7 a8 cc see f R m cnt v h s) (hm0 : m0 ≤ h0.size) (hz : ∀ i, T.Z i → i < h0.size) (hcz : ¬ T.Z cc.block) (hd : a1.block ≠ a7.block ∧ a1.block ≠ a8.block ∧ a2.block ≠ a7.block ∧ a2.block ≠ a8.block ∧ a7.block ≠ a8.block)
  (hge : h0.size ≤ a1.block ∧ h0.size ≤ a2.block ∧ h0.size ≤ a7.block ∧ h0.size ≤ a8.block) (hv : R[v]? = some E) (hlt : v - m < cnt) (hbig : m ≤ 1099511627776 ∧ cnt ≤ 1099511627776 ∧ v ≤ 1099511627776) (oc : OwnP (hr + 4) h c q) (htag : q.2.1 = tag) (hE : E.2 = if tag < 0 then -1 else tag + at_) (hfit : fitsI .i64 E.1 ∧ fitsI .i64 E.2 ∧ -9223372036854775808 ≤ tag + at_ ∧ tag + at_ ≤ 9223372036854775807)
  (hW : ∀ i, W i → i ≠ a7.block ∧ i ≠ a8.block ∧ i ≠ cc.block ∧ i < hr + 4) :
  wp P (.bind
     (.load (.one (.int .i64)) (some a7) fun (n239 : Int) =>
     ifB (gtI n239 0)
      (.load (.one (.int .i64)) (some a7) fun (n240 : Int) =>
      .store (some a7) [i64v (subI .i64 n240 1)] <|
      .ret 0 []) <|
     .bind
      (grd (someB (some c)) <|
      .load (.one (.int .i64)) (shiftTo (some c) 1) fun (n252 : Int) =>
      ifB (ltI n252 0)
       (.load (.one .any) (some a2) fun (c253 : Value) =>
       .callv c253 [i64v E.1, i64v (-1)] [] fun (u254 : Unit) =>
       .ret 0 []) <|
      .load (.one .any) (some a2) fun (c255 : Value) =>
      grd (someB (some c)) <|
      .load (.one (.int .i64)) (shiftTo (some c) 1) fun (n256 : Int) =>
      .callv c255 [i64v E.1, i64v (addI .i64 n256 at_)] [] fun (u257 : Unit) =>
      .ret 0 []) fun (k258 : Nat) =>
     fun (vs259 : List Value) =>
     ifB (eqN k258 0)
      (.cast [] vs259 fun (u260 : Unit) =>
      .load (.one (.int .i64)) (some a8) fun (n261 : Int) =>
      .store (some a8) [i64v (subI .i64 n261 1)] <|
      .load (.one (.int .i64)) (some a8) fun (n262 : Int) =>
      ifB (eqI n262 0)
       (.ret 1 []) <|
      .ret 0 []) <|
     .fail) fun k vs => .ret k vs) h fun tg vs h' => vs = [] ∧ Held W h h' ∧ OwnP (hr + 4) h' c q ∧ ∃ s', WJ S P n T h0 hr m0 a1 a2 a7 a8 cc see f R m cnt (v + 1) h' s' ∧ ((tg = 0 ∧ v + 1 - m < cnt) ∨ (tg = 1 ∧ v + 1 = m + cnt)) := by
 obtain ⟨l1, l2, l7, l8, lc, lh⟩ := j.lt
 obtain ⟨d17, d18, d27, d28, d78⟩ := hd
 have hc4 : hr + 4 ≤ c.block := (oc.lt rfl).1
 refine wp_bind (fun tg vs h' => vs = [] ∧ Held W h h' ∧ OwnP (hr + 4) h' c q ∧ ∃ s', WJ S P n T h0 hr m0 a1 a2 a7 a8 cc see f R m cnt (v + 1) h' s' ∧ ((tg = 0 ∧ v + 1 - m < cnt) ∨ (tg = 1 ∧ v + 1 = m + cnt))) ?_ fun t vs h' hx => s_ret hx
 refine s_cel (b := .int .i64) (x := ((m - v : Nat) : Int)) j.o7 (wp_ifB (fun hc => ?_) fun hc => ?_)
 ·rw [gtI_iff] at hc
  obtain ⟨k1, k2⟩ := told_skip (R := R) (show v < m by omega)
  refine s_cel (b := .int .i64) (x := ((m - v : Nat) : Int)) j.o7 ?_
  rw [sub_ok (by omega) (by omega)]
  refine s_celput (i64v (((m - v : Nat) : Int) - 1)) j.o7 rfl fun h1 o1 u1 => s_ret ⟨rfl, ?_, ?_, s, ?_, .inl ⟨rfl, by omega⟩⟩
  ·exact Held.of_chg (upd_chg u1) fun i hi hw e => (hW i hw).1 e
  ·exact upd_own oc u1 fun x hx => by cases hx; omega
  ·have cg : Chg (fun i => i = a7.block) h h1 := upd_chg u1
   refine ⟨j.c.trans cg fun i hi e => by have e : i = a7.block := e; omega, Nat.le_trans j.sz cg.1, j.t.chg cg fun i hi e => by have := hz i hi; have e : i = a7.block := e; omega, cg.own j.o1 fun x hx e => by cases hx; exact d17 e, cg.own j.o2 fun x hx e => by cases hx; exact d27 e, ?_, ?_, cg.own j.oc fun x hx e => by cases hx; have e : cc.block = a7.block := e; omega, ?_, fun x hx => ?_, j.lt⟩
   ·rw [show ((m - (v + 1) : Nat) : Int) = ((m - v : Nat) : Int) - 1 by omega]; exact o1
   ·rw [show cnt - (v + 1 - m) = cnt - (v - m) by omega]; exact cg.own j.o8 fun x hx e => by cases hx; exact d78 e.symm
   ·rw [k1, ← k2]; exact cg.ownL j.ol fun x hx e => by have := (j.sb x hx).1; have e : x.block = a7.block := e; omega
   ·have := j.sb x hx; rw [k2] at this; exact absurd this.2 (by simp)
 ·rw [gtI_not] at hc
  have hmv : m ≤ v := by omega
  have hts := told_succ hv hmv
  have htl : ((R.take v).drop m).length = v - m := by rw [List.length_drop, List.length_take]; have := (List.getElem?_eq_some_iff.1 hv).1; omega
  have c1 : Sw.cell h (c.add 1) = some (i64v tag) := by rw [← htag]; exact cells_iff.1 oc.cells 1 _ rfl
  have neW : ∀ x, s.base = some x → x.block ≠ c.block := fun x hx => own_ne j.ol (by rw [List.length_map]; exact (j.sb x hx).2) hx oc
  have tell : ∀ {K : Unit → Prog} {Q : Nat → List Value → Heap → Prop}, (∀ h' s', Held W h h' → OwnP (hr + 4) h' c q → h.size ≤ h'.size → WJ S P n T h0 hr m0 a1 a2 a7 a8 cc see f R m (cnt + 0) v h s → (Chg (fun i => i = cc.block ∨ ∃ x, s.base = some x ∧ x.block = i) h h') → Cel m0 h' cc (slv s') → OwnL m0 .i64 h' s' (((R.take (v + 1)).drop m).map f) → (∀ x, s'.base = some x → s.base = some x ∨ h.size ≤ x.block) → wp P (K ()) h' Q) → wp P (.callv see [iv E.1, iv E.2] [] K) h Q := fun hk =>
   hs.go h m0 E s _ _ _ (by have := j.c.1; omega) j.oc j.ol hfit.1 hfit.2.1 (by rw [List.length_map, htl]; omega) (fun x hx => by have := (j.sb x hx).1; omega) fun h' s' o1 o2 cg b1 =>
    hk h' s' (Held.of_chg cg fun i hi hw e => by
     rcases e with e | ⟨x, hx, e⟩
     ·exact (hW i hw).2.2.1 e
     ·have := (j.sb x hx).1; have := (hW i hw).2.2.2; omega) (cg.own oc fun x hx e => by
     cases hx
     rcases e with e | ⟨y, hy, e⟩
     ·omega
     ·exact neW y hy e) cg.1 j cg o1 (by rw [hts, List.map_append]; exact o2) b1
  refine wp_bind (fun tg vs h' => tg = 0 ∧ vs = [] ∧ Held W h h' ∧ OwnP (hr + 4) h' c q ∧ ∃ s', Chg (fun i => i = cc.block ∨ ∃ x, s.base = some x ∧ x.block = i) h h' ∧ Cel m0 h' cc (slv s') ∧ OwnL m0 .i64 h' s' (((R.take (v + 1)).drop m).map f) ∧ ∀ x, s'.base = some x → s.base = some x ∨ h.size ≤ x.block) ?_ ?_
  ·refine wp_grd rfl (wp_load1 (b := .int .i64) (c.add 1) tag rfl c1 (wp_ifB (fun hc => ?_) fun hc => ?_))
   ·rw [ltI_iff] at hc
    rw [if_pos hc] at hE
    rw [← hE]
    exact s_cel (b := .any) (x := see) j.o2 (tell fun h' s' w o sz _ cg o1 o2 b1 => s_ret ⟨rfl, rfl, w, o, s', cg, o1, o2, b1⟩)
   ·rw [ltI_not] at hc
    rw [if_neg (by omega)] at hE
    refine s_cel (b := .any) (x := see) j.o2 (wp_grd rfl (wp_load1 (b := .int .i64) (c.add 1) tag rfl c1 ?_))
    rw [add_ok hfit.2.2.1 hfit.2.2.2, ← hE]
    exact tell fun h' s' w o sz _ cg o1 o2 b1 => s_ret ⟨rfl, rfl, w, o, s', cg, o1, o2, b1⟩
  ·rintro tg vs h1 ⟨rfl, rfl, w1, oc1, s', cg, o1, o2, b1⟩
   have o81 : Cel h0.size h1 a8 (i64v ((cnt - (v - m) : Nat) : Int)) := cg.own j.o8 fun x hx e => by
    cases hx
    rcases e with e | ⟨y, hy, e⟩
    ·omega
    ·have := (j.sb y hy).1; omega
   refine s_tag (s_cast0 (s_cel (b := .int .i64) (x := ((cnt - (v - m) : Nat) : Int)) o81 ?_))
   rw [sub_ok (by omega) (by omega)]
   refine s_celput (i64v (((cnt - (v - m) : Nat) : Int) - 1)) o81 rfl fun h2 o82 u2 => ?_
   have e8 : ((cnt - (v - m) : Nat) : Int) - 1 = ((cnt - (v + 1 - m) : Nat) : Int) := by omega
   have cg2 : Chg (fun i => i = a8.block) h1 h2 := upd_chg u2
   have old : ∀ {a : Addr} {x : Value}, Cel h0.size h a x → a.block < hr → h0.size ≤ a.block → a.block ≠ a8.block → Cel h0.size h2 a x := fun o q1 q2 q3 => cg2.own (cg.own o fun x hx e => by
    cases hx
    rcases e with e | ⟨y, hy, e⟩
    ·omega
    ·have := (j.sb y hy).1; omega) fun x hx e => by cases hx; exact q3 e
   have sb' : ∀ x, s'.base = some x → hr + 4 ≤ x.block := fun x hx => by
    rcases b1 x hx with hy | hy
    ·exact (j.sb x hy).1
    ·have : c.block < h.size := (oc.lt rfl).2; omega
   have J2 : WJ S P n T h0 hr m0 a1 a2 a7 a8 cc see f R m cnt (v + 1) h2 s' := by
    refine ⟨?_, ?_, ?_, old j.o1 l1 hge.1 d18, old j.o2 l2 hge.2.1 d28, ?_, by rw [← e8]; exact o82, cg2.own o1 fun x hx e => by cases hx; have e : cc.block = a8.block := e; omega, cg2.ownL o2 fun x hx e => by have := sb' x hx; have e : x.block = a8.block := e; omega, fun x hx => ⟨sb' x hx, by rw [hts, List.length_append]; simp⟩, j.lt⟩
    ·refine (j.c.trans cg fun i hi e => ?_).trans cg2 fun i hi e => by have e : i = a8.block := e; omega
     rcases e with e | ⟨y, hy, e⟩
     ·exact e
     ·have := (j.sb y hy).1; omega
    ·have := cg.1; have := cg2.1; have := j.sz; omega
    ·refine TextR.chg (TextR.chg j.t cg fun i hi e => ?_) cg2 fun i hi e => by have := hz i hi; have e : i = a8.block := e; omega
     rcases e with e | ⟨y, hy, e⟩
     ·exact hcz (e ▸ hi)
     ·have := (j.sb y hy).1; have := hz i hi; omega
    ·have := old j.o7 l7 hge.2.2.1 d78
     rw [show m - (v + 1) = m - v by omega]; exact this
   have w2 : Held W h h2 := w1.trans (Held.of_chg cg2 fun i hi hw e => (hW i hw).2.1 e)
   have oc2 : OwnP (hr + 4) h2 c q := cg2.own oc1 fun x hx e => by cases hx; have e : c.block = a8.block := e; omega
   refine s_cel (b := .int .i64) (x := (((cnt - (v - m) : Nat) : Int) - 1)) o82 (wp_ifB (fun hx => ?_) fun hx => ?_)
   ·rw [eqI_iff] at hx
    exact s_ret ⟨rfl, w2, oc2, s', J2, .inr ⟨rfl, by omega⟩⟩
   ·rw [eqI_not] at hx
    exact s_ret ⟨rfl, w2, oc2, s', J2, .inl ⟨rfl, by omega⟩⟩
end Go.Sw.Piece

set_option linter.unusedVariables false
set_option linter.unusedSimpArgs false
set_option maxRecDepth 100000
namespace Go.Sw.Piece
open Go.Sw.Any Go.Sw.Codec
open Go.Sw.Tree (iv s_putAll s_newP s_getP s_getT s_putP eqI_self Placed cell_own wp_whileG minI_eq)
variable {P : Program} {S : Ids} {h : Heap} {Q : Nat → List Value → Heap → Prop}
theorem maxI_eq (a b : Int) : maxI a b = max a b := by unfold maxI; split <;> omega
theorem elsP_get {enc : Int} {q : Pc} {w : Nat} {t : Int × Int} (hw : (toks enc q.2)[w]? = some t) : (elsP enc q)[w]? = some (t.1, if q.1.2.1 < 0 then -1 else q.1.2.1 + (offs ((toks enc q.2).take w) : Int)) := by
 have := elsF_get q.1.2.1 (toks enc q.2) 0 w t hw
 unfold elsP
 rw [this, Nat.zero_add]
theorem c_walkT (M : Meth0 P S) (C : Cl0 P S) {n m0 : Nat} {T : TX} {from_ to : Int} {see : Value} {f : El → Int} {cc : Addr} (t : TextR S n h T) (hs : See P see f cc) (oc : Cel m0 h cc (slv ⟨none, 0, 0⟩)) (hm0 : m0 ≤ h.size) (hcz : ¬ T.Z cc.block) (hto : fitsI .i64 to) :
  wp P (F_Text_walk S (some T.p) from_ to see) h fun tg vs h' => tg = 0 ∧ vs = [] ∧ Chg (fun i => i = cc.block) h h' ∧ ∃ s, Cel m0 h' cc (slv s) ∧ OwnL m0 .i64 h' s ((cutL (els T.enc T.cur.ps) from_ to).map f) := by
 unfold F_Text_walk
 rw [fits_i64] at hto
 have hf := t.cur.few t.lim.2
 have hEl : (els T.enc T.cur.ps).length = (toksL T.enc T.cur.ps).length := els_len ..
 have lo := t.lo
 have hcl : cc.block < h.size := (oc.lt rfl).2
 refine s_new1 _ fun h1 e1 o1 z1 => wp_grd hs.flat (s_new1 _ fun h2 e2 o2 z2 => ?_)
 have e02 := e1.trans e2
 refine s_cel (b := .ptr) (x := some T.p) (o1.ext e2) (wp_call (c_Len (t.ext e02)) fun ⟨(L : Int), _⟩ h3 e3 hL => ?_)
 have hL : L = (els T.enc T.cur.ps).length := hL
 subst hL
 dsimp only
 rw [maxI_eq, minI_eq]
 have e03 := e02.trans e3
 have hcutE : cutL (els T.enc T.cur.ps) from_ to = ((els T.enc T.cur.ps).take (min to (els T.enc T.cur.ps).length).toNat).drop (max from_ 0).toNat := rfl
 refine wp_ifB (fun hc => ?_) fun hc => ?_
 ·rw [geI_iff] at hc
  refine s_ret ⟨rfl, rfl, Chg.of_ext e03, ⟨none, 0, 0⟩, oc.ext e03, ?_⟩
  have : cutL (els T.enc T.cur.ps) from_ to = [] := by rw [hcutE]; exact List.drop_of_length_le (by rw [List.length_take]; omega)
  rw [this]; exact OwnL.nil _ _ _
 rw [geI_not] at hc
 generalize hfr : max from_ 0 = fr at *
 generalize htt : min to ((els T.enc T.cur.ps).length : Int) = tt at *
 have hfr0 : 0 ≤ fr := by omega
 have httL : tt ≤ (els T.enc T.cur.ps).length := by omega
 have t3 := t.ext e03
 refine s_cel (b := .ptr) (x := some T.p) (o1.ext (e2.trans e3)) (wp_call (c_find t3 hfr0 (by omega)) fun ⟨(i' : Int), (m' : Int), _⟩ h4 e4 ⟨i, m, hi, hm, fi⟩ => ?_)
 have hi : i' = i := hi
 have hm : m' = m := hm
 subst hi; subst hm
 dsimp only
 have hil := fi.1
 have hfe := fi.2.1
 have hpsl := pcs_le t.cur.pcs
 have hsm := t.cur.small
 refine s_newput _ (i64v (m : Int)) rfl fun h5 e5 o5 => s_newput _ (i64v (subI .i64 tt fr)) rfl fun h6 e6 o6 => ?_
 rw [sub_ok (by omega) (by omega)] at o6
 have e36 := (e4.trans e5).trans e6
 have e06 := e03.trans e36
 refine s_cel (b := .ptr) (x := some T.p) (o1.ext ((e2.trans e3).trans e36)) (s_root (t.ext e06) (wp_call c_ItemsF fun ⟨y, _⟩ h7 e7 hy => ?_))
 obtain ⟨a, b, hy, itr, ha, hb⟩ := hy
 have hy : y = _ := hy
 subst hy
 dsimp only
 have e07 := e06.trans e7
 have t7 := t.ext e07
 generalize hR : els T.enc (T.cur.ps.drop i) = R
 have hsplit : els T.enc T.cur.ps = els T.enc (T.cur.ps.take i) ++ R := by rw [← hR, ← els_append, List.take_append_drop]
 have hRl : R.length + (els T.enc (T.cur.ps.take i)).length = (els T.enc T.cur.ps).length := by rw [hsplit, List.length_append]; omega
 rw [← els_len] at hfe
 have hfm : fr.toNat = (els T.enc (T.cur.ps.take i)).length + m := by omega
 generalize hcnt : (tt - fr).toNat = cnt
 have hres : (R.take (m + cnt)).drop m = cutL (els T.enc T.cur.ps) from_ to := by
  rw [hcutE]
  have h1 : tt.toNat = fr.toNat + cnt := by omega
  have hd : ∀ A : List El, (A ++ R).drop (A.length + m) = R.drop m := fun A => by rw [← List.drop_drop, List.drop_left' rfl]
  rw [List.drop_take, List.drop_take, h1, Nat.add_sub_cancel_left, Nat.add_sub_cancel_left, hfm, hsplit, hd]
 have s12 := e1.size; have s23 := e3.size; have s45 := e5.size
 have g1 : h1.size < h2.size + 0 := by omega
 have p2 : h1.size < h2.size := by omega
 have p5 : h4.size < h5.size := (o5.lt rfl).2
 have p6 : h5.size < h6.size := (o6.lt rfl).2
 have s4 := e4.size; have s7 := e7.size
 let A1 : Addr := ⟨h.size, 0, none⟩
 let A2 : Addr := ⟨h1.size, 0, none⟩
 let A7 : Addr := ⟨h4.size, 0, none⟩
 let A8 : Addr := ⟨h5.size, 0, none⟩
 let V : Nat → Nat := fun k => (els T.enc ((T.cur.ps.drop i).take k)).length
 let J : Nat → Heap → Prop := fun k h' => ∃ s, WJ S P n T h h7.size m0 A1 A2 A7 A8 cc see f R m cnt (V k) h' s ∧ V k - m < cnt
 let F : Nat → Heap → Prop := fun tg h' => tg = 1 ∧ ∃ s, WJ S P n T h h7.size m0 A1 A2 A7 A8 cc see f R m cnt (m + cnt) h' s
 have hz : ∀ i, T.Z i → i < h.size := fun i hi => (lo i hi).2
 have stab : ∀ {v s a b}, WJ S P n T h h7.size m0 A1 A2 A7 A8 cc see f R m cnt v a s → Chg (own h7.size 4) a b → WJ S P n T h h7.size m0 A1 A2 A7 A8 cc see f R m cnt v b s := fun j c =>
  j.chg c (fun i o => ⟨o.1, fun x hx e => by have := (j.sb x hx).1; have := o.2; omega⟩) hz
 have J0 : J 0 h7 := by
  refine ⟨⟨none, 0, 0⟩, ⟨Chg.of_ext e07, Nat.le_refl _, t7, (o1.ext (((e2.trans e3).trans e36).trans e7)), (o2.ext ((e3.trans e36).trans e7)).mono e1.size, ?_, ?_, oc.ext e07, ?_, fun x hx => (by cases hx), ?_⟩, ?_⟩
  ·have : V 0 = 0 := rfl
   rw [this, Nat.sub_zero]; exact (o5.ext (e6.trans e7)).mono (by have := e03.size; omega)
  ·have h1 : V 0 = 0 := rfl
   rw [h1, Nat.zero_sub, Nat.sub_zero]
   have h2 : ((cnt : Nat) : Int) = tt - fr := by omega
   rw [h2]; exact (o6.ext e7).mono (by have := e03.size; omega)
  ·have : V 0 = 0 := rfl
   rw [this]; simp; exact OwnL.nil _ _ _
  ·refine ⟨?_, ?_, ?_, ?_, hcl, e07.size⟩
   ·show h.size < h7.size; omega
   ·show h1.size < h7.size; omega
   ·show h4.size < h7.size; omega
   ·show h5.size < h7.size; omega
  ·have : V 0 = 0 := rfl
   omega
 have hbm : m ≤ 1099511627776 ∧ cnt ≤ 1099511627776 := by omega
 refine wp_rangeP C t7 (i := (i : Int)) (fits_i64.2 (by omega)) itr J F (fun k a b ⟨s, j, l⟩ c => ⟨s, stab j c, l⟩) (fun k a b ⟨h1, s, j⟩ c => ⟨h1, s, stab j c⟩) ?_ J0 ?_
 ·rintro k q h8 c hq ⟨s, j, hlt⟩ hs8 ocP
  rw [Int.toNat_natCast] at hq
  have hqm := List.mem_of_mem_drop (List.mem_of_getElem? hq)
  have pc0 := t.cur.pcs q hqm
  have hby := pc0.bytes
  have okt := okT_toks (enc := T.enc) hby
  have hVs : V (k + 1) = V k + (toks T.enc q.2).length := by
   show (els T.enc ((T.cur.ps.drop i).take (k + 1))).length = (els T.enc ((T.cur.ps.drop i).take k)).length + _
   rw [List.take_add_one, hq, els_append, List.length_append]
   congr 1
   show (els T.enc [q]).length = _
   rw [els_one, elsP_len]
  have hRs : R = els T.enc ((T.cur.ps.drop i).take k) ++ elsP T.enc q ++ els T.enc ((T.cur.ps.drop i).drop (k + 1)) := by rw [← hR]; exact els_split hq
  have hRq : ∀ w E, (elsP T.enc q)[w]? = some E → R[V k + w]? = some E := fun w E hE => by
   have hwl := (List.getElem?_eq_some_iff.1 hE).1
   rw [hRs, List.append_assoc, List.getElem?_append_right (by show (els T.enc ((T.cur.ps.drop i).take k)).length ≤ V k + w; exact Nat.le_add_right _ _)]
   have : V k + w - (els T.enc ((T.cur.ps.drop i).take k)).length = w := by show (els T.enc ((T.cur.ps.drop i).take k)).length + w - _ = w; omega
   rw [this, List.getElem?_append_left hwl]; exact hE
  have hVR : V k + (toks T.enc q.2).length ≤ R.length := by
   rw [hRs, List.length_append, List.length_append, elsP_len]
   show (els T.enc ((T.cur.ps.drop i).take k)).length + _ ≤ (els T.enc ((T.cur.ps.drop i).take k)).length + _ + _; omega
  let W : Nat → Prop := fun i => own h7.size 4 i ∨ ((T.Z i ∨ i = a.block ∨ i = b.block) ∧ i < h7.size)
  have hW : ∀ i, W i → i ≠ A7.block ∧ i ≠ A8.block ∧ i ≠ cc.block ∧ i < h7.size + 4 := fun i hw => by
   show i ≠ h4.size ∧ i ≠ h5.size ∧ i ≠ cc.block ∧ i < h7.size + 4
   rcases hw with o | ⟨hz' | hz' | hz', hlt⟩
   ·have := o.1; have := o.2; omega
   ·have := hz i hz'; have : i ≠ cc.block := fun e => hcz (e ▸ hz'); omega
   ·omega
   ·omega
  refine wp_whileG (G := Nat) (fun w (r : Int × Unit) h' => w ≤ (toks T.enc q.2).length ∧ r.1 = offs ((toks T.enc q.2).take w) ∧ Held W h8 h' ∧ OwnP (h7.size + 4) h' c q.1 ∧ ∃ s, WJ S P n T h h7.size m0 A1 A2 A7 A8 cc see f R m cnt (V k + w) h' s ∧ V k + w - m < cnt) (fun w => (toks T.enc q.2).length - w)
   (fun tg vs h' => vs = [] ∧ Held W h8 h' ∧ ((tg = 4 ∧ J (k + 1) h') ∨ (tg = 1 ∧ F 1 h'))) 0 ⟨Nat.zero_le _, rfl, Held.refl _ _, ocP, s, j, hlt⟩ ?_ ?_
  ·rintro w ⟨(at_ : Int), u⟩ h9 ⟨hw, hat, H9, oc9, s9, j9, hlt9⟩
   dsimp only at hat ⊢
   subst hat
   obtain ⟨hbn, htk⟩ := toks_at (enc := T.enc) hby w hw
   have hle := hbn.le hby
   have pc9 := j9.t.cur.pcs q hqm
   have hq9 : Sw.cell h9 (c.add 0) = some (slv q.1.1) := cells_iff.1 oc9.cells 0 _ rfl
   have hql := pc0.lst.len
   have hlen := pc0.len
   refine wp_grd rfl (wp_load1 (b := .sl) (c.add 0) q.1.1 rfl hq9 (wp_ifB (fun hc => ?_) fun hc => ?_))
   ·rw [ltI_iff, natI_def, hql] at hc
    have hkl : offs ((toks T.enc q.2).take w) < q.2.length := by omega
    have htc := toks_cons (enc := T.enc) (hby.drop (offs ((toks T.enc q.2).take w))) (by rw [List.length_drop]; omega)
    rw [htk] at htc
    have hwlt : w < (toks T.enc q.2).length := by
     by_cases hx : w < (toks T.enc q.2).length
     ·exact hx
     ·rw [List.drop_of_length_le (by omega)] at htc; cases htc
    rw [List.drop_eq_getElem_cons hwlt, List.cons.injEq] at htc
    have hget := elsP_get (enc := T.enc) (q := q) (List.getElem?_eq_getElem hwlt)
    have hsz := okt _ (List.getElem_mem hwlt)
    have hfa := toks_fits (enc := T.enc) hby _ (List.getElem_mem hwlt)
    have hoff : offs ((toks T.enc q.2).take (w + 1)) = offs ((toks T.enc q.2).take w) + (toks T.enc q.2)[w].2.toNat := by
     rw [List.take_add_one, List.getElem?_eq_getElem hwlt, offs_append]; simp [offs]
    refine s_cel (b := .ptr) (x := some T.p) j9.o1 (s_enc j9.t (wp_grd rfl (wp_load1 (b := .sl) (c.add 0) q.1.1 rfl hq9 (wp_call (c_Next M pc9.lst) fun ⟨(x : Int), (sz : Int), _⟩ h10 e10 hx => ?_))))
    have hx : (x, sz) = firstF T.enc (q.2.drop (offs ((toks T.enc q.2).take w))) := by
     rcases hx with ⟨hno, _, _⟩ | ⟨_, _, _, hx⟩
     ·rcases hno with h | h | h
      ·exact absurd t.enc h
      ·omega
      ·omega
     ·rw [Int.toNat_natCast] at hx; exact hx
    rw [← htc.1] at hx
    have hx1 : x = (toks T.enc q.2)[w].1 := congrArg Prod.fst hx
    have hx2 : sz = (toks T.enc q.2)[w].2 := congrArg Prod.snd hx
    dsimp only
    generalize hEE : ((toks T.enc q.2)[w].1, if q.1.2.1 < 0 then (-1 : Int) else q.1.2.1 + (offs ((toks T.enc q.2).take w) : Int)) = E at hget
    have hE1 : x = E.1 := by rw [hx1, ← hEE]
    have htg := pc0.tag
    rw [hE1]
    refine wp_bind _ (c_pass (nr := 0) (W := W) (tag := q.1.2.1) (at_ := (offs ((toks T.enc q.2).take w) : Nat)) (c := c) (E := E) hs (j9.ext e10 hz) hm0 hz hcz ⟨by show h.size ≠ h4.size; have := e03.size; omega, by show h.size ≠ h5.size; have := e03.size; omega, by show h1.size ≠ h4.size; omega, by show h1.size ≠ h5.size; omega, by show h4.size ≠ h5.size; omega⟩
     ⟨Nat.le_refl _, e1.size, by show h.size ≤ h4.size; have := e03.size; omega, by show h.size ≤ h5.size; have := e03.size; omega⟩ (hRq w E hget) hlt9 ⟨hbm.1, hbm.2, by omega⟩ (oc9.ext e10) rfl (by rw [← hEE]) ⟨by rw [← hEE]; exact hfa, by rw [← hEE, fits_i64]; dsimp only; split <;> omega, by omega, by omega⟩ hW) ?_
    rintro tg vs h11 ⟨rfl, H11, oc11, s11, j11, ⟨rfl, hl11⟩ | ⟨rfl, hl11⟩⟩
    ·have HH := (H9.trans (Held.of_ext e10)).trans H11
     refine s_skip (by decide) (s_tag (s_cast0 ?_))
     rw [add_ok (by omega) (by omega)]
     refine s_ret ⟨fun _ => ⟨w + 1, (_, ()), rfl, ⟨hwlt, ?_, HH, oc11, s11, j11, hl11⟩, by omega⟩, fun h => absurd rfl h⟩
     show _ = ((offs ((toks T.enc q.2).take (w + 1)) : Nat) : Int)
     rw [hoff]; omega
    ·have HH := (H9.trans (Held.of_ext e10)).trans H11
     refine s_tag (s_cast0 (s_ret ⟨fun h => absurd h (by decide), fun _ => ⟨rfl, HH, .inr ⟨rfl, rfl, s11, ?_⟩⟩⟩))
     rw [← hl11]; exact j11
   ·rw [ltI_not, natI_def, hql] at hc
    have hwe : w = (toks T.enc q.2).length := by
     have : (toks T.enc q.2).drop w = [] := by rw [← htk]; exact toks_nil (by rw [List.length_drop]; omega)
     rw [List.drop_eq_nil_iff] at this; omega
    subst hwe
    refine s_ret ⟨fun h => absurd h (by decide), fun _ => ⟨rfl, H9, .inl ⟨rfl, s9, ?_⟩⟩⟩
    show WJ S P n T h h7.size m0 A1 A2 A7 A8 cc see f R m cnt (V (k + 1)) h9 s9 ∧ V (k + 1) - m < cnt
    rw [hVs]; exact ⟨j9, hlt9⟩
  ·rintro tg vs h9 ⟨rfl, H9, ⟨rfl, j9⟩ | ⟨rfl, f9⟩⟩
   ·exact s_tag (s_cast0 (s_ret ⟨H9, fun _ => j9, fun h => absurd rfl h⟩))
   ·exact s_skip (by decide) (s_tag (s_cast0 (s_ret ⟨H9, fun h => absurd h (by decide), fun _ => f9⟩)))
 ·intro k h8 hs8 hx
  rcases hx with ⟨rfl, s, j, hlt⟩ | ⟨hk0, rfl, s, j⟩
  ·exfalso
   have hV : V (T.cur.ps.drop i).length = R.length := by
    show (els T.enc ((T.cur.ps.drop i).take (T.cur.ps.drop i).length)).length = _
    rw [List.take_length, hR]
   rw [Int.toNat_natCast, hV] at hlt
   omega
  ·refine s_tag (s_ret ⟨Held.refl _ _, fun h9 c9 _ => ?_⟩)
   have j9 := stab j (c9.mono fun i _ o => ⟨o.1, by have := o.2; omega⟩)
   refine ⟨rfl, rfl, j9.c, s, j9.oc, ?_⟩
   have := j9.ol
   rw [hres] at this; exact this
theorem c_Atoms (M : Meth0 P S) (C : Cl0 P S) {n : Nat} {T : TX} {from_ to : Int} (t : TextR S n h T) (hto : fitsI .i64 to) : Gives P (F_Text_Atoms S (some T.p) from_ to) [.one .sl] h fun (y : Sl × Unit) h' => OwnL h.size .i64 h' y.1 ((cutL (els T.enc T.cur.ps) from_ to).map (·.1)) := by
 unfold F_Text_Atoms Gives
 refine s_new1 _ fun h1 e1 o1 z1 => wp_callW (c_walkT M C (t.ext e1) (see_atoms C _) o1 e1.size (fun hz => by have : h.size < h.size := (t.lo _ hz).2; omega) hto) fun tg vs h2 hx => ?_
 obtain ⟨rfl, rfl, c2, s, o2, ol⟩ := hx
 refine ⟨rfl, (), rfl, s_cel (b := .sl) (x := s) o2 (s_ret ⟨rfl, ?_, (s, ()), rfl, ol⟩)⟩
 exact Keep.chg (e1.keep (Nat.le_refl _)) c2 e1.size fun i e => Nat.le_of_eq e.symm
theorem c_Tags (M : Meth0 P S) (C : Cl1 P S) {n : Nat} {T : TX} {from_ to : Int} (t : TextR S n h T) (hto : fitsI .i64 to) : Gives P (F_Text_Tags S (some T.p) from_ to) [.one .sl] h fun (y : Sl × Unit) h' => OwnL h.size .i64 h' y.1 ((cutL (els T.enc T.cur.ps) from_ to).map (·.2)) := by
 unfold F_Text_Tags Gives
 refine s_new1 _ fun h1 e1 o1 z1 => wp_callW (c_walkT M C (t.ext e1) (see_tags C _) o1 e1.size (fun hz => by have : h.size < h.size := (t.lo _ hz).2; omega) hto) fun tg vs h2 hx => ?_
 obtain ⟨rfl, rfl, c2, s, o2, ol⟩ := hx
 refine ⟨rfl, (), rfl, s_cel (b := .sl) (x := s) o2 (s_ret ⟨rfl, ?_, (s, ()), rfl, ol⟩)⟩
 exact Keep.chg (e1.keep (Nat.le_refl _)) c2 e1.size fun i e => Nat.le_of_eq e.symm
end Go.Sw.Piece

set_option linter.unusedVariables false
set_option linter.unusedSimpArgs false
set_option maxRecDepth 100000
namespace Go.Sw.Piece
open Go.Sw.Any Go.Sw.Codec
open Go.Sw.Tree (iv s_putAll s_newP s_getP s_getT s_putP eqI_self Placed cell_own wp_whileG minI_eq)
variable {P : Program} {S : Ids} {h : Heap} {Q : Nat → List Value → Heap → Prop}
theorem s_copyAll {n : Nat} {k : IntKind} {s x : Sl} {old l : List Int} {K : Nat → Prog} (ho : OwnL n k h s old) (hx : Lst k h x l) (hl : l.length = old.length)
  (hk : ∀ h', OwnL n k h' s l → Upd s h h' → wp P (K l.length) h' Q) : wp P (.copy 1 s x K) h Q := by
 cases l with
 | nil =>
  have h0 : old = [] := List.eq_nil_of_length_eq_zero hl.symm
  subst h0
  have hs : s.len = 0 := ho.len
  have hxl : x.len = 0 := hx.len
  have hmin : min x.len s.len = 0 := by omega
  refine ⟨[], ?_, ?_⟩
  ·rw [hmin]; have := hx.rd.firsts; rw [hxl] at this; exact this
  ·rw [hmin]
   cases hb : s.base with
   | none => exact hk h ho ⟨Nat.le_refl _, fun _ _ _ => rfl, fun _ e => e⟩
   | some a => exact ⟨trivial, hk h ho ⟨Nat.le_refl _, fun _ _ _ => rfl, fun _ e => e⟩⟩
 | cons y l =>
  have := s_copyAt (P := P) (Q := Q) (K := K) (s := s) (x := x) (pre := []) (mid := old) (post := []) (l := y :: l) (i := 0) (by simpa using ho) hx hl (by simp) rfl fun h' o u z => hk h' (by simpa using o) u
  rw [cutBase_zero, show subN s.len 0 = s.len from rfl, show subN s.cap 0 = s.cap from rfl] at this
  exact this
theorem elsF_append (tag : Int) : ∀ (a b : List (Int × Int)) (o : Nat), elsF tag o (a ++ b) = elsF tag o a ++ elsF tag (o + offs a) b
 | [], b, o => by simp [elsF, offs]
 | x :: a, b, o => by simp only [List.cons_append, elsF, elsF_append tag a b, offs_cons, Nat.add_assoc]
def Ld (enc : Int) (lo : Sl) (l : List Int) (q : Pc) : Prop := ∃ a e : Nat, a < e ∧ e ≤ l.length ∧ q.2 = (l.take e).drop a ∧ q.1 = mkP ⟨cutBase lo.base e a 1, e - a, e - a⟩ a (toks enc q.2)
theorem ld_pcr {m : Nat} {T : TX} {enc : Int} {lo : Sl} {l : List Int} {q : Pc} (ol : OwnL m .u8 h lo l) (hT : T.enc = enc) (had : T.ad = ⟨none, 0, 0⟩) (hz : ∀ b, lo.base = some b → T.Z b.block ∧ b.block ≠ T.p.block) (hlen : l.length ≤ 65536) (ld : Ld enc lo l q) : PcR h T q := by
 obtain ⟨a, e, hae, hel, h2, h1⟩ := ld
 have hlol := ol.len
 have hcap := ol.lst.cap
 have hmax := ol.lst.max
 have hl1 := (ol.lst.take (n := e) (m := e) hel (Nat.le_refl _) (by omega)).tail (i := a) (by rw [List.length_take]; omega)
 dsimp only at hl1
 have hl2 : q.2.length = e - a := by rw [h2, List.length_drop, List.length_take]; omega
 have hb : q.1.1 = ⟨cutBase lo.base e a 1, e - a, e - a⟩ := by rw [h1]; rfl
 have ht : q.1.2.1 = a := by rw [h1]; rfl
 refine ⟨by rw [hb, h2]; exact hl1, by omega, by rw [hT, hb, ht]; exact h1, by rw [ht]; omega, by omega, fun x hx => ?_⟩
 rw [hb] at hx
 have hx : cutBase lo.base e a 1 = some x := hx
 unfold cutBase at hx
 rw [if_neg (by omega)] at hx
 cases hlb : lo.base with
 | none => rw [hlb] at hx; simp at hx
 | some b =>
  rw [hlb] at hx
  have hx : b.add (a * 1) = x := Option.some.inj hx
  subst hx
  rw [add_block]
  exact ⟨(hz b hlb).1, (hz b hlb).2, fun c hc => by rw [had] at hc; cases hc⟩
inductive OpenR (S : Ids) (h0 h : Heap) (enc limit : Int) (l : List Int) : Option Addr → Int → Prop where
 | enc : ¬ known enc → OpenR S h0 h enc limit l none 10
 | arg : known enc → ¬ (0 ≤ limit ∧ limit ≤ 65536) → OpenR S h0 h enc limit l none 1
 | full : known enc → 0 ≤ limit ∧ limit ≤ 65536 → limit < l.length → OpenR S h0 h enc limit l none 50
 | ok (T : TX) : known enc → 0 ≤ limit ∧ limit ≤ 65536 → l.length ≤ limit → TextR S h0.size h T → T.enc = enc → T.limit = limit → T.kept = [] → T.A = [] → els enc T.cur.ps = elsF 0 0 (toks enc l) → bytesL T.cur.ps = l → (∀ i, T.Z i → h0.size ≤ i) → OpenR S h0 h enc limit l (some T.p) 0
theorem c_Open (M : Meth0 P S) {enc limit : Int} {b : Sl} {l : List Int} (hb : Lst .u8 h b l) :
  Gives P (F_piece_Open S enc b limit) [.one .ptr, .one (.int .i64)] h fun (y : Option Addr × Int × Unit) h' => OpenR S h h' enc limit l y.1 y.2.1 := by
 unfold F_piece_Open Gives
 have hbl := hb.len
 have hby : isBytes l := hb.wf
 refine bind_bool (¬ known enc) ?_ fun bb h1 e1 h1b => wp_ifB (fun hx => s_ret ⟨rfl, e1, (none, 10, ()), rfl, .enc (h1b.1 hx)⟩) fun hx => ?_
 ·unfold known
  refine wp_ifB (fun hc => s_ret ⟨rfl, Ext.refl _, true, rfl, ?_⟩) fun hc => s_ret ⟨rfl, Ext.refl _, _, rfl, ?_⟩
  ·rw [ltI_iff] at hc; exact Iff.intro (fun _ => by omega) fun _ => rfl
  ·rw [ltI_not] at hc; rw [gtI_iff]; omega
 have he : known enc := by
  by_cases hk : known enc
  ·exact hk
  ·rw [h1b.2 hk] at hx; cases hx
 refine bind_bool (¬ (0 ≤ limit ∧ limit ≤ 65536)) ?_ fun bb h2 e2 h2b => wp_ifB (fun hx => s_ret ⟨rfl, e1.trans e2, (none, 1, ()), rfl, .arg he (h2b.1 hx)⟩) fun hx => ?_
 ·refine wp_ifB (fun hc => s_ret ⟨rfl, Ext.refl _, true, rfl, ?_⟩) fun hc => s_ret ⟨rfl, Ext.refl _, _, rfl, ?_⟩
  ·rw [ltI_iff] at hc; exact Iff.intro (fun _ => by omega) fun _ => rfl
  ·rw [ltI_not] at hc; rw [gtI_iff]; omega
 have hlim : 0 ≤ limit ∧ limit ≤ 65536 := by
  by_cases hk : 0 ≤ limit ∧ limit ≤ 65536
  ·exact hk
  ·rw [h2b.2 hk] at hx; cases hx
 have e02 := e1.trans e2
 refine wp_ifB (fun hc => s_ret ⟨rfl, e02, (none, 50, ()), rfl, .full he hlim (by rw [gtI_iff, natI_def, hbl] at hc; omega)⟩) fun hc => ?_
 rw [gtI_not, natI_def, hbl] at hc
 have hnat : natI b.len = (l.length : Int) := by rw [natI_def, hbl]
 rw [hnat]
 have okt := okT_toks (enc := enc) hby
 have htl := toks_len (enc := enc) hby
 have hto := toks_offs (enc := enc) hby
 refine s_mkZ (k := .u8) (by omega) (by omega) fun h3 lo e3 olo => s_copyAll olo (hb.ext (e02.trans e3)) (by simp) fun h4 ol4 u4 => ?_
 have e24 : Ext h2 h4 := Upd.extN e3 u4 (fun a ha => (olo.own.lt ha).1)
 have hlol := ol4.len
 refine fun el => ?_
 have e5 : Ext h4 (h4.push (.cells [i64v enc, i64v limit, .pointer none, .slice none 0 0].toArray el)) := Ext.push ..
 have o5 : Own h4.size 1 (h4.push (.cells [i64v enc, i64v limit, .pointer none, .slice none 0 0].toArray el)) ⟨some ⟨h4.size, 0, none⟩, 4, 4⟩ [i64v enc, i64v limit, .pointer none, .slice none 0 0] := own_alloc rfl (by decide) (by decide)
 generalize h4.push (.cells [i64v enc, i64v limit, .pointer none, .slice none 0 0].toArray el) = h5 at e5 o5 ⊢
 have e05 := (e02.trans e24).trans e5
 have ol5 := ol4.ext e5
 have hcapL := ol5.lst.cap
 have hmaxL := ol5.lst.max
 refine wp_whileG (G := Nat × List Pc) (fun g (r : Sl × Int × Unit) h' => g.1 ≤ (toks enc l).length ∧ r.2.1 = offs ((toks enc l).take g.1) ∧ Ext h5 h' ∧ OwnPs h5.size h' r.1 (g.2.map (·.1)) ∧ (∀ q, q ∈ g.2 → Ld enc lo l q) ∧ els enc g.2 = elsF 0 0 ((toks enc l).take g.1) ∧ bytesL g.2 = l.take (offs ((toks enc l).take g.1)) ∧ g.2.length ≤ g.1) (fun g => (toks enc l).length - g.1)
  (fun tg vs h' => tg = 3 ∧ Ext h5 h' ∧ ∃ (s : Sl) (ps : List Pc), vs = [slv s] ∧ OwnPs h5.size h' s (ps.map (·.1)) ∧ (∀ q, q ∈ ps → Ld enc lo l q) ∧ els enc ps = elsF 0 0 (toks enc l) ∧ bytesL ps = l) (0, []) ⟨Nat.zero_le _, rfl, Ext.refl _, Own.nil _ _ _, (fun q hq => by cases hq), rfl, by simp [bytesL, offs], Nat.le_refl _⟩ ?_ ?_
 ·rintro ⟨k, ps⟩ ⟨(s : Sl), (at_ : Int), u⟩ h6 ⟨hk, hat, e6, os, hld, hel, hbs, hpn⟩
  dsimp only at hk hat os hld hel hbs hpn ⊢
  subst hat
  have hbk := toks_at (enc := enc) hby k hk
  have hkl := hbk.1.le hby
  have hLn : natI lo.len = (l.length : Int) := by rw [natI_def, hlol]
  rw [hLn]
  refine wp_ifB (fun hc => ?_) fun hc => ?_
  ·rw [ltI_iff] at hc
   have hklt : k < (toks enc l).length := by
    by_cases hx : k < (toks enc l).length
    ·exact hx
    ·rw [List.take_of_length_le (by omega), hto] at hc; omega
   have ol6 := ol5.ext e6
   refine wp_whileG (G := Nat) (fun w (r : Int × Int × Unit) h' => k + w ≤ (toks enc l).length ∧ w ≤ 128 ∧ r.1 = offs ((toks enc l).take (k + w)) ∧ r.2.1 = w ∧ Ext h6 h') (fun w => (toks enc l).length - w)
    (fun tg vs h' => tg = 5 ∧ Ext h6 h' ∧ ∃ w, 1 ≤ w ∧ k + w ≤ (toks enc l).length ∧ vs = [i64v (offs ((toks enc l).take (k + w)))]) 0 ⟨by omega, by omega, rfl, rfl, Ext.refl _⟩ ?_ ?_
   ·rintro w ⟨(en : Int), (n : Int), u⟩ h7 ⟨hkw, hw, hen, hn, e7⟩
    dsimp only at hen hn ⊢
    subst hen; subst hn
    obtain ⟨hbn, htk⟩ := toks_at (enc := enc) hby (k + w) hkw
    have hle := hbn.le hby
    have hmono : offs ((toks enc l).take k) ≤ offs ((toks enc l).take (k + w)) := by
     have : (toks enc l).take k = ((toks enc l).take (k + w)).take k := by rw [List.take_take, Nat.min_eq_left (by omega)]
     rw [this]; exact offs_take_le _ _
    refine bind_bool (offs ((toks enc l).take (k + w)) < l.length ∧ w < 128) ?_ fun bb h8 e8 hb8 => wp_ifB (fun hx => ?_) fun hx => ?_
    ·refine wp_ifB (fun hc => s_ret ⟨rfl, Ext.refl _, _, rfl, ?_⟩) fun hc => s_ret ⟨rfl, Ext.refl _, false, rfl, ?_⟩
     ·rw [ltI_iff] at hc ⊢; omega
     ·rw [ltI_not] at hc; exact Iff.intro (fun h => by cases h) fun h => by omega
    ·obtain ⟨hlt, hw128⟩ := hb8.1 hx
     have hwlt : k + w < (toks enc l).length := by
      by_cases hx : k + w < (toks enc l).length
      ·exact hx
      ·rw [List.take_of_length_le (by omega), hto] at hlt; omega
     have htc := toks_cons (enc := enc) (hby.drop (offs ((toks enc l).take (k + w)))) (by rw [List.length_drop]; omega)
     rw [htk, List.drop_eq_getElem_cons hwlt, List.cons.injEq] at htc
     have hsz := okt _ (List.getElem_mem hwlt)
     have hoff : offs ((toks enc l).take (k + (w + 1))) = offs ((toks enc l).take (k + w)) + (toks enc l)[k + w].2.toNat := by
      rw [show k + (w + 1) = (k + w) + 1 by omega, List.take_add_one, List.getElem?_eq_getElem hwlt, offs_append]; simp [offs]
     refine wp_call (c_Next M (ol6.ext (e7.trans e8)).lst) fun ⟨(x : Int), (sz : Int), _⟩ h9 e9 hx9 => ?_
     have hx9 : (x, sz) = firstF enc (l.drop (offs ((toks enc l).take (k + w)))) := by
      rcases hx9 with ⟨hno, _, _⟩ | ⟨_, _, _, hx⟩
      ·rcases hno with h | h | h
       ·exact absurd he h
       ·omega
       ·omega
      ·rw [Int.toNat_natCast] at hx; exact hx
     rw [← htc.1] at hx9
     have hx2 : sz = (toks enc l)[k + w].2 := congrArg Prod.snd hx9
     dsimp only
     rw [add_ok (by omega) (by omega), add_ok (a := (w : Int)) (by omega) (by omega)]
     refine s_ret ⟨fun _ => ⟨w + 1, (_, _, ()), rfl, ⟨by omega, by omega, ?_, by dsimp only; omega, (e7.trans e8).trans e9⟩, by omega⟩, fun h => absurd rfl h⟩
     dsimp only
     rw [hoff]; omega
    ·have hno : ¬ (offs ((toks enc l).take (k + w)) < l.length ∧ w < 128) := fun k => by rw [hb8.2 k] at hx; cases hx
     refine s_ret ⟨fun h => absurd h (by decide), fun _ => ⟨rfl, e7.trans e8, w, ?_, hkw, rfl⟩⟩
     by_cases h0 : w = 0
     ·subst h0; exact absurd ⟨by rw [Nat.add_zero]; omega, by omega⟩ hno
     ·omega
   ·rintro tg vs h7 ⟨rfl, e7, w, hw1, hkw, rfl⟩
    refine s_tag (s_castI ?_)
    have hbn := (toks_at (enc := enc) hby (k + w) hkw).1
    have hle := hbn.le hby
    have htt := toks_take (enc := enc) hby (k + w) hkw
    have hsub : ((toks enc l).take (k + w)).take k = (toks enc l).take k := by rw [List.take_take, Nat.min_eq_left (by omega)]
    have hoapp := offs_append (((toks enc l).take (k + w)).take k) (((toks enc l).take (k + w)).drop k)
    rw [List.take_append_drop, hsub] at hoapp
    have hpos := offs_pos (((okt.take (k + w)).drop k)) (by rw [List.length_drop, List.length_take]; omega)
    have htd := (toks_at (enc := enc) (hby.take (offs ((toks enc l).take (k + w)))) k (by rw [htt, List.length_take]; omega)).2
    rw [htt, hsub] at htd
    generalize hA : offs ((toks enc l).take k) = A at *
    generalize hE : offs ((toks enc l).take (k + w)) = E at *
    have hAE : A < E := by omega
    have tA : toN (A : Int) = A := by rw [toN_def]; omega
    have tE : toN (E : Int) = E := by rw [toN_def]; omega
    dsimp only
    refine s_grd (andB_iff.2 ⟨leB_ok (by omega) (by omega), andB_iff.2 ⟨leB_ok (by omega) (by rw [tE]; omega), leB_ok (by omega) (by rw [tE]; omega)⟩⟩) ?_
    rw [tA, tE]
    have ol7 := (ol5.ext e6).ext e7
    have hl1 := (ol7.lst.take (n := E) (m := E) hle (Nat.le_refl _) (by omega)).tail (i := A) (by rw [List.length_take]; omega)
    dsimp only at hl1
    refine wp_call (c_newPart M he (tag := (A : Int)) hl1 (by rw [List.length_drop, List.length_take]; omega)) fun ⟨(y : Part), _⟩ h8 e8 hy => ?_
    have hy : y = mkP ⟨cutBase lo.base E A 1, E - A, E - A⟩ A (toks enc ((l.take E).drop A)) := hy
    dsimp only
    have e68 := e7.trans e8
    have hsl := OwnPs.len os
    rw [List.length_map] at hsl
    refine wp_push (n := h5.size) (new := Bs.inj PB y) (os.ext e68) (Nat.le_trans e6.size e68.size) rfl (flatP _) rfl (by show (s.len + 1) * 64 ≤ _; omega) (by omega) fun r h9 a9 b9 u9 d9 => s_ret ⟨fun _ => ⟨(k + w, ps ++ [(y, (l.take E).drop A)]), (r, (E : Int), ()), rfl, ⟨hkw, by dsimp only; rw [hE], ?_, ?_, ?_, ?_, ?_, by dsimp only; rw [List.length_append]; simp; omega⟩, by dsimp only; omega⟩, fun h => absurd rfl h⟩
    ·exact Upd.extN (e6.trans e68) u9 (fun a ha => (os.lt ha).1)
    ·rw [List.map_append]
     show Own h5.size 7 h9 r (cP (_ ++ [y]))
     rw [cP_append, cP_one]; exact a9
    ·intro q hq
     rcases List.mem_append.1 hq with hq | hq
     ·exact hld q hq
     ·rw [List.mem_singleton.1 hq]
      exact ⟨A, E, hAE, hle, rfl, hy⟩
    ·dsimp only
     rw [els_append, els_one, hel]
     have h1 : (toks enc l).take (k + w) = (toks enc l).take k ++ ((toks enc l).take (k + w)).drop k := by rw [← hsub, List.take_append_drop]
     conv => rhs; rw [h1]
     rw [elsF_append, hA]
     congr 1
     unfold elsP
     dsimp only
     rw [htd, hy]
     show elsF (A : Int) 0 _ = _
     have : (A : Int) = tagF 0 A := by unfold tagF; simp
     rw [this, elsF_tag]
    ·dsimp only
     rw [bytesL_append, hbs, hE]
     have : l.take A = (l.take E).take A := by rw [List.take_take, Nat.min_eq_left (by omega)]
     rw [this]
     simp [bytesL, List.take_append_drop]
  ·rw [ltI_not] at hc
   have hke : k = (toks enc l).length := by
    by_cases hx : k < (toks enc l).length
    ·have h1 := offs_append ((toks enc l).take k) ((toks enc l).drop k)
     rw [List.take_append_drop, hto] at h1
     have := offs_pos (okt.drop k) (by rw [List.length_drop]; omega)
     omega
    ·omega
   subst hke
   rw [List.take_length] at hel hbs
   rw [hto, List.take_length] at hbs
   exact s_ret ⟨fun h => absurd h (by decide), fun _ => ⟨rfl, e6, s, ps, rfl, os, hld, hel, hbs⟩⟩
 ·rintro tg vs h6 ⟨rfl, e6, s, ps, rfl, os, hld, hel, hbs⟩
  refine s_tag (wp_cast (tys := [.one .sl]) (s, ()) rfl ?_)
  dsimp only
  have e06 := e05.trans e6
  have hlo : ∀ b, lo.base = some b → h.size ≤ b.block ∧ b.block < h4.size := fun b hb => by have := ol4.own.lt hb; have := e02.size; omega
  have e04 := e02.trans e24
  let Z : Nat → Prop := fun i => h.size ≤ i
  let T0 : TX := { p := ⟨h4.size, 0, none⟩, enc := enc, limit := limit, cur := ⟨none, .nil, ps⟩, kept := [], ad := ⟨none, 0, 0⟩, A := [], Z := Z }
  have pc6 : ∀ q, q ∈ ps → PcR h6 T0 q := fun q hq => ld_pcr (ol5.ext e6) rfl rfl (fun b hb => ⟨(hlo b hb).1, by show b.block ≠ h4.size; have := (hlo b hb).2; omega⟩) (by omega) (hld q hq)
  have hwM : ∀ x, x ∈ ps.map (·.1) → VS (wtP x) (sumP x) := fun x hx => by
   obtain ⟨q, hq, rfl⟩ := List.mem_map.1 hx
   exact (pc6 q hq).wt.2
  have its : Its (part S Z) h6 s (ps.map (·.1)) := its_own os hwM
  have hfr : Fresh (part S Z) h6 := fun i hi => Nat.le_trans e06.size hi
  have hWm : ((ps.map (·.1)).map wtP).sum = (toksL enc ps).length := W_ps pc6
  have hmt := (toksL_le (enc := enc) fun q hq => (pc6 q hq).bytes).1
  rw [hbs] at hmt
  have hof := c_Of (part_ok S Z (P := P)) its (show (part S Z).W (ps.map (·.1)) ≤ 4398046511104 from by
   have : (part S Z).W (ps.map (·.1)) = (toksL enc ps).length := hWm
   rw [this]; omega) hfr
  rw [← g_Of S Z] at hof
  refine wp_call (R := fun (y : TR × Unit) h' => ∃ t' : Bt Part, Nd (part S Z) h' y.1.1 t' ∧ t'.list = ps.map (·.1)) (Gives.mono hof fun y h' e ⟨t', q1, q2, _⟩ => ⟨t', q1, q2⟩) fun ⟨⟨(root : Option Addr), _⟩, _⟩ h7 e7 ⟨t', nd, hl'⟩ => ?_
  have nd : Nd (part S Z) h7 root t' := nd
  dsimp only
  have o7 := o5.ext (e6.trans e7)
  refine s_setC' (.pointer root) o7 (by simp) rfl fun h8 o8 u8 => ?_
  have o8 : Own h4.size 1 h8 ⟨some ⟨h4.size, 0, none⟩, 4, 4⟩ [i64v enc, i64v limit, .pointer root, .slice none 0 0] := o8
  have e08 : Ext h h8 := Upd.extN (e06.trans e7) u8 (by intro x hx; cases hx; exact e04.size)
  have ol8 : OwnL h2.size .u8 h8 lo l := ((ol5.ext e6).ext e7).upd u8 fun x y hx hy => by cases hy; have := (hlo x hx).2; show h4.size ≠ x.block; omega
  have hp8 : h4.size < h8.size := (o8.lt rfl).2
  let T : TX := { p := ⟨h4.size, 0, none⟩, enc := enc, limit := limit, cur := ⟨root, t', ps⟩, kept := [], ad := ⟨none, 0, 0⟩, A := [], Z := fun i => h.size ≤ i ∧ i < h8.size }
  have nd8 : Nd (part S Z) h8 root t' := nd.updK u8 fun b hb => by
   cases hb
   have := cells_iff.1 o7.cells 0 _ rfl
   rw [add_zero'] at this
   exact ⟨_, _, this⟩
  refine s_ret ⟨rfl, e08, (some ⟨h4.size, 0, none⟩, 0, ()), rfl, .ok T he hlim (by omega) ⟨he, hlim, o8.mono e04.size, OwnL.nil _ _ _, fun b hb => (by cases hb), fun b hb => (by cases hb), ⟨part_mono nd8 fun i hi hz => ⟨hz, hi⟩, hl', fun q hq => ld_pcr ol8 rfl rfl (fun b hb => ⟨⟨(hlo b hb).1, by have := (hlo b hb).2; omega⟩, by show b.block ≠ h4.size; have := (hlo b hb).2; omega⟩) (by omega) (hld q hq), ?_⟩, fun s hs => (by cases hs), ⟨e04.size, hp8⟩, fun b hb => (by cases hb), fun i hi => hi⟩ rfl rfl rfl rfl hel hbs fun i hi => hi.1⟩
  show (bytesL ps).length ≤ _
  rw [hbs]; omega
end Go.Sw.Piece

set_option linter.unusedVariables false
set_option linter.unusedSimpArgs false
set_option maxRecDepth 100000
namespace Go.Sw.Piece
open Go.Sw.Any Go.Sw.Codec
open Go.Sw.Tree (iv s_putAll s_newP s_getP s_getT s_putP eqI_self Placed cell_own wp_whileG minI_eq)
variable {P : Program} {S : Ids} {h : Heap} {Q : Nat → List Value → Heap → Prop}
end Go.Sw.Piece

set_option linter.unusedVariables false
set_option linter.unusedSimpArgs false
set_option maxRecDepth 100000
namespace Go.Sw.Piece
open Go.Sw.Any Go.Sw.Codec
open Go.Sw.Tree (iv s_putAll s_newP s_getP s_getT s_putP eqI_self Placed cell_own wp_whileG minI_eq)
variable {P : Program} {S : Ids} {h : Heap} {Q : Nat → List Value → Heap → Prop}
end Go.Sw.Piece

set_option linter.unusedVariables false
set_option linter.unusedSimpArgs false
set_option maxRecDepth 100000
namespace Go.Sw.Piece
open Go.Sw.Any Go.Sw.Codec
open Go.Sw.Tree (iv s_putAll s_newP s_getP s_getT s_putP eqI_self Placed cell_own wp_whileG minI_eq)
variable {P : Program} {S : Ids} {h : Heap} {Q : Nat → List Value → Heap → Prop}
end Go.Sw.Piece

set_option linter.unusedVariables false
set_option linter.unusedSimpArgs false
set_option maxRecDepth 100000
namespace Go.Sw.Piece
open Go.Sw.Any Go.Sw.Codec
open Go.Sw.Tree (iv s_putAll s_newP s_getP s_getT s_putP eqI_self Placed cell_own wp_whileG minI_eq)
variable {P : Program} {S : Ids} {h : Heap} {Q : Nat → List Value → Heap → Prop}
structure Opened (S : Ids) (h0 h : Heap) (enc limit : Int) (l : List Int) (T : TX) : Prop where
 t : TextR S h0.size h T
 en : T.enc = enc
 li : T.limit = limit
 kept : T.kept = []
 A : T.A = []
 el : Piece.els enc T.cur.ps = elsF 0 0 (toks enc l)
 bytes : bytesL T.cur.ps = l
 z : ∀ i, T.Z i → h0.size ≤ i
end Go.Sw.Piece

set_option linter.unusedVariables false
set_option linter.unusedSimpArgs false
set_option maxRecDepth 100000
namespace Go.Sw.Piece
open Go.Sw.Any Go.Sw.Codec
variable {P : Program} {S : Ids} {h : Heap} {Q : Nat → List Value → Heap → Prop}
end Go.Sw.Piece

set_option linter.unusedVariables false
set_option linter.unusedSimpArgs false
set_option maxRecDepth 100000
namespace Go.Sw.Piece
open Go.Sw.Any Go.Sw.Codec
open Go.Sw.Tree (iv s_putAll s_newP s_getP s_getT s_putP eqI_self Placed cell_own wp_whileG minI_eq)
variable {P : Program} {S : Ids} {h : Heap} {Q : Nat → List Value → Heap → Prop}
structure MI (S : Ids) (h0 : Heap) (p0 : Addr) (enc : Int) (i : Nat) (h : Heap) (T : TX) (s : Sl) (L : List Int) : Prop where
 k : Keep h0.size h0 h
 t : TextR S h0.size h T
 p : T.p = p0
 en : T.enc = enc
 li : T.limit = 65536
 A : T.A.length ≤ 4 * i
 z : ∀ i, T.Z i → h0.size ≤ i
 el : els enc T.cur.ps = L.map fun a => (a, -1)
 fit : ∀ a, a ∈ L → 0 < sizeF enc a
 len : L.length ≤ i
 ol : OwnL h0.size .i64 h s L
 nz : ∀ b, s.base = some b → ¬ T.Z b.block
end Go.Sw.Piece

set_option linter.unusedVariables false
set_option linter.unusedSimpArgs false
set_option maxRecDepth 100000
namespace Go.Sw.Piece
open Go.Sw.Any Go.Sw.Codec
open Go.Sw.Tree (iv s_putAll s_newP s_getP s_getT s_putP eqI_self Placed cell_own wp_whileG minI_eq)
variable {P : Program} {S : Ids} {h : Heap} {Q : Nat → List Value → Heap → Prop}
abbrev at0 (b : Nat) : Addr := ⟨b, 0, none⟩
abbrev slb (b k : Nat) : Sl := ⟨some (at0 b), k, k⟩
def Reg (n : Nat) (h : Heap) (b : Nat) (vs : List Value) : Prop :=
 n ≤ b ∧ ∃ (cs : Array Value) (elem : TypeId), h[b]? = some (.cells cs elem) ∧ vs.length ≤ cs.size ∧ ∀ (i : Nat) (v : Value), vs[i]? = some v → cs[i]? = some v
def Blk (n : Nat) (h : Heap) (b k : Nat) : Prop := n ≤ b ∧ ∃ (cs : Array Value) (elem : TypeId), h[b]? = some (.cells cs elem) ∧ k ≤ cs.size
structure PenS where
 ob : Nat
 all : Option Nat
 pu : Sl
 ws : List Nat
def allSl : Option Nat → Sl
 | none => ⟨none, 0, 0⟩
 | some b => slb b 200
def penM (s : PenS) (i : Nat) : Prop := i = s.ob ∨ ∃ a, s.pu.base = some a ∧ a.block = i
def penW (s : PenS) (i : Nat) : Prop := s.all = some i ∨ i ∈ s.ws
structure PenR (n : Nat) (h : Heap) (s : PenS) : Prop where
 ob : Own n 1 h ⟨some (at0 s.ob), 2, 2⟩ [slv (allSl s.all), slv s.pu]
 all : ∀ b, s.all = some b → Blk n h b 600
 pu : Own n 1 h s.pu (s.ws.map fun b => slv (slb b 400))
 ws : ∀ b, b ∈ s.ws → Blk n h b 400
 nd : s.ws.Nodup
 na : ∀ b, s.all = some b → b ∉ s.ws
 mw : ∀ i, penM s i → ¬ penW s i
 mm : ∀ a, s.pu.base = some a → a.block ≠ s.ob
 few : s.ws.length ≤ 8
def PenO (n : Nat) (h : Heap) (p : Option Addr) : Option PenS → Prop
 | none => p = none
 | some s => p = some (at0 s.ob) ∧ PenR n h s
def oM : Option PenS → Nat → Prop
 | none, _ => False
 | some s, i => penM s i
def oZ : Option PenS → Nat → Prop
 | none, _ => False
 | some s, i => penM s i ∨ penW s i
def RoleA (s : Option PenS) (b : Nat) : Prop := (∃ t, s = some t ∧ t.all = some b) ∨ ¬ oZ s b
def RoleW (s : Option PenS) (j b : Nat) : Prop := (∃ t, s = some t ∧ t.ws[j]? = some b) ∨ ¬ oZ s b
end Go.Sw.Piece

set_option linter.unusedVariables false
set_option linter.unusedSimpArgs false
set_option maxRecDepth 100000
namespace Go.Sw.Piece
open Go.Sw.Any Go.Sw.Codec
open Go.Sw.Tree (iv s_putAll s_newP s_getP s_getT s_putP eqI_self Placed cell_own wp_whileG minI_eq)
variable {P : Program} {S : Ids} {h : Heap} {Q : Nat → List Value → Heap → Prop}
structure PenEd (n : Nat) (h h' : Heap) (p : Option Addr) (s s' : Option PenS) (b k : Nat) : Prop where
 pen : PenO n h' p s'
 chg : Chg (oM s) h h'
 blk : Blk n h' b (k * 3)
 zone : ∀ i, oZ s' i → oZ s i ∨ h.size ≤ i
 old : oZ s b ∨ h.size ≤ b
 role : RoleA s' b
structure PenPu (n : Nat) (h h' : Heap) (p : Option Addr) (s s' : Option PenS) (i b k : Nat) : Prop where
 pen : PenO n h' p s'
 chg : Chg (oM s) h h'
 blk : Blk n h' b k
 zone : ∀ i, oZ s' i → oZ s i ∨ h.size ≤ i
 old : oZ s b ∨ h.size ≤ b
 role : RoleW s' i b
 new : (∃ t, s' = some t ∧ t.ws[i]? = some b) ∨ h.size ≤ b
 ra : ∀ c, c < h.size → RoleA s c → RoleA s' c
 rw : ∀ j c, c < h.size → RoleW s j c → RoleW s' j c
end Go.Sw.Piece

set_option linter.unusedVariables false
set_option linter.unusedSimpArgs false
set_option maxRecDepth 100000
namespace Go.Sw.Piece
open Go.Sw.Any Go.Sw.Codec
open Go.Sw.Tree (iv s_putAll s_newP s_getP s_getT s_putP eqI_self Placed cell_own wp_whileG minI_eq)
variable {P : Program} {S : Ids} {h : Heap} {Q : Nat → List Value → Heap → Prop}
abbrev putLen (e : EdD) : Nat := e.2.2.1.2.length
def putSl (room : Nat) (e : EdD) (b : Nat) : Sl := if e.2.2.1.1.base = none then ⟨none, 0, 0⟩ else ⟨some (at0 b), putLen e, putLen e + room⟩
abbrev edC (room : Nat) (e : EdD) (b : Nat) : List Value := [i64v e.1, i64v e.2.1, slv (putSl room e b)]
abbrev markC (i : Nat) : List Value := [i64v (-771 - (i : Int)), i64v (-772), .slice none 0 0]
def markE (m k : Nat) : List Int := (List.range k).map fun (j : Nat) => 771 + ((m : Int) + (j : Int))
def putC (room : Nat) (e : EdD) : List Value := (e.2.2.1.2 ++ markE (putLen e) room).map (.int .i64)
structure HI (n : Nat) (h0 : Heap) (p : Option Addr) (s0 : Option PenS) (x : Eds) (room hb a2 i k : Nat) (h : Heap) (s : Option PenS) (ws : List Nat) (pu : Sl) : Prop where
 chg : Chg (oZ s0) h0 h
 pen : PenO n h p s
 zone : ∀ i, oZ s i → oZ s0 i ∨ h0.size ≤ i
 ob : Own h0.size 1 h ⟨some (at0 a2), 3, 3⟩ [i64v room, slv (slb hb (x.2.length + room)), slv pu]
 obz : ¬ oZ s a2
 obb : a2 ≠ hb ∧ a2 ∉ ws
 blk : Blk n h hb ((x.2.length + room) * 3)
 ra : RoleA s hb
 old : ∀ b, b = hb ∨ b ∈ ws → oZ s0 b ∨ h0.size ≤ b
 len : ws.length = k
 le : k ≤ x.2.length
 el : ∀ (j : Nat) (e : EdD) (b : Nat), j < i → x.2[j]? = some e → ws[j]? = some b → Cells h ⟨hb, j * 3, none⟩ (edC room e b)
 w : ∀ (j : Nat) (e : EdD) (b : Nat), x.2[j]? = some e → ws[j]? = some b → Reg n h b (putC room e)
 rw : ∀ (j b : Nat), ws[j]? = some b → RoleW s j b
 nd : (hb :: ws).Nodup
 put : ∃ vs : List Value, Own h0.size 1 h pu vs ∧ vs.length = k ∧ ∀ (j : Nat) (e : EdD) (b : Nat), x.2[j]? = some e → ws[j]? = some b → vs[j]? = some (slv (slb b (putLen e + room)))
 pub : ∀ a, pu.base = some a → a.block ≠ hb ∧ a.block ∉ ws ∧ ¬ oZ s a.block ∧ a.block ≠ a2
variable {n : Nat} {h0 : Heap} {p : Option Addr} {s0 : Option PenS} {x : Eds} {room hb a2 i k : Nat} {s : Option PenS} {ws : List Nat} {pu : Sl}
structure NewW (n : Nat) (h0 : Heap) (s0 : Option PenS) (hb a2 : Nat) (s : Option PenS) (ws : List Nat) (pu : Sl) (k b : Nat) : Prop where
 role : RoleW s k b
 na : b ≠ a2 ∧ b ≠ hb ∧ b ∉ ws ∧ (∀ a, pu.base = some a → a.block ≠ b)
 old : oZ s0 b ∨ h0.size ≤ b
end Go.Sw.Piece

set_option linter.unusedVariables false
set_option linter.unusedSimpArgs false
set_option maxRecDepth 100000
namespace Go.Sw.Piece
open Go.Sw.Any Go.Sw.Codec
open Go.Sw.Tree (iv s_putAll s_newP s_getP s_getT s_putP eqI_self Placed cell_own wp_whileG minI_eq)
variable {P : Program} {S : Ids} {h : Heap} {Q : Nat → List Value → Heap → Prop}
variable {n : Nat} {h0 : Heap} {p : Option Addr} {s0 : Option PenS} {x : Eds} {room hb a2 i k : Nat} {s : Option PenS} {ws : List Nat} {pu : Sl}
structure HandR (n : Nat) (h : Heap) (x : Eds) (room hb : Nat) (ws : List Nat) (pu : Sl) : Prop where
 len : ws.length = x.2.length
 blk : Blk n h hb ((x.2.length + room) * 3)
 el : ∀ (j : Nat) (e : EdD) (b : Nat), x.2[j]? = some e → ws[j]? = some b → Cells h ⟨hb, j * 3, none⟩ (edC room e b)
 mks : ∀ j : Nat, j < room → Cells h ⟨hb, (x.2.length + j) * 3, none⟩ (markC (x.2.length + j))
 w : ∀ (j : Nat) (e : EdD) (b : Nat), x.2[j]? = some e → ws[j]? = some b → Reg n h b (putC room e)
 nd : (hb :: ws).Nodup
 put : ∃ vs : List Value, Own n 1 h pu vs ∧ vs.length = x.2.length ∧ ∀ (j : Nat) (e : EdD) (b : Nat), x.2[j]? = some e → ws[j]? = some b → vs[j]? = some (slv (slb b (putLen e + room)))
 pub : ∀ a, pu.base = some a → a.block ≠ hb ∧ a.block ∉ ws
end Go.Sw.Piece

set_option linter.unusedVariables false
set_option linter.unusedSimpArgs false
set_option maxRecDepth 100000
namespace Go.Sw.Piece
open Go.Sw.Any Go.Sw.Codec
open Go.Sw.Tree (iv s_putAll s_newP s_getP s_getT s_putP eqI_self Placed cell_own wp_whileG minI_eq)
variable {P : Program} {S : Ids} {h : Heap} {Q : Nat → List Value → Heap → Prop}
variable {n : Nat} {p : Option Addr} {x : Eds} {room hb : Nat} {s : Option PenS} {ws : List Nat} {pu : Sl}
end Go.Sw.Piece

set_option linter.unusedVariables false
set_option linter.unusedSimpArgs false
set_option maxRecDepth 100000
namespace Go.Sw.Piece
open Go.Sw.Any Go.Sw.Codec
open Go.Sw.Tree (iv s_putAll s_newP s_getP s_getT s_putP eqI_self Placed cell_own wp_whileG minI_eq)
variable {P : Program} {S : Ids} {h : Heap} {Q : Nat → List Value → Heap → Prop}
variable {n : Nat} {p : Option Addr} {x : Eds} {room hb : Nat} {s : Option PenS} {ws : List Nat} {pu : Sl}
structure WrR (S : Ids) (n : Nat) (T : TX) (p : Option Addr) (s : Option PenS) (h0 h : Heap) (es : List EdD) (r : Int) (T' : TX) (s' : Option PenS) : Prop where
 ref : RefR T.enc T.limit (toksL T.enc T.cur.ps) es r
 t : TextR S n h T'
 nx : Nxt T T' h0.size
 els : els T.enc T'.cur.ps = if r = 0 then allE (els T.enc T.cur.ps) es else els T.enc T.cur.ps
 len : T'.A.length ≤ T.A.length + 4 * (putsOf es).length
 chg : Chg (fun i => wfoot T i ∨ oZ s i) h0 h
 pen : PenO n h p s'
 zone : ∀ i, oZ s' i → oZ s i ∨ h0.size ≤ i
 far : ∀ i, T'.Z i → ¬ oZ s' i
end Go.Sw.Piece

set_option linter.unusedVariables false
set_option linter.unusedSimpArgs false
set_option maxRecDepth 100000
namespace Go.Sw.Piece
open Go.Sw.Any Go.Sw.Codec
variable {P : Program} {S : Ids} {h : Heap} {Q : Nat → List Value → Heap → Prop}
theorem sum_mem_le {α : Type} (f : α → Nat) {l : List α} {y : α} (hy : y ∈ l) : f y ≤ (l.map f).sum := by
 induction l with
 | nil => cases hy
 | cons z l ih =>
  rw [List.map_cons, List.sum_cons]
  rcases List.mem_cons.1 hy with rfl | hy
  ·omega
  ·have := ih hy; omega
def tg (x : El) : Bool := decide (x.2 ≠ -1)
end Go.Sw.Piece

set_option linter.unusedVariables false
set_option linter.unusedSimpArgs false
set_option maxRecDepth 100000
namespace Go.Sw.Piece
open Go.Sw.Any Go.Sw.Codec
open Go.Sw.Tree (iv s_putAll s_newP s_getP s_getT s_putP eqI_self Placed cell_own wp_whileG minI_eq)
variable {P : Program} {S : Ids} {h : Heap} {Q : Nat → List Value → Heap → Prop}
end Go.Sw.Piece
namespace Go.Sw
open Go.Sw.Piece
open Go.Sw.Any Go.Sw.Codec
open Go.Sw.Tree (iv s_putAll s_newP s_getP s_getT s_putP eqI_self Placed cell_own wp_whileG minI_eq)
variable {P : Program} {S : Ids} {h : Heap} {Q : Nat → List Value → Heap → Prop}
theorem Lst.sub {k : IntKind} {s : Sl} {l : List Int} (hr : Lst k h s l) {i j : Nat} (hi : i ≤ j) (hj : j ≤ l.length) : Lst k h ⟨cutBase s.base s.cap i 1, subN j i, subN s.cap i⟩ ((l.drop i).take (j - i)) := by
 have h1 := hr.tail (i := i) (by omega)
 have hl := hr.len
 have hc := hr.cap
 have hm := hr.max
 exact h1.take (n := j - i) (m := s.cap - i) (by rw [List.length_drop]; omega) (by omega) (by omega)
end Go.Sw
namespace Go.Sw.Piece
open Go.Sw.Any Go.Sw.Codec
open Go.Sw.Tree (iv s_putAll s_newP s_getP s_getT s_putP eqI_self Placed cell_own wp_whileG minI_eq)
variable {P : Program} {S : Ids} {h : Heap} {Q : Nat → List Value → Heap → Prop}
end Go.Sw.Piece

set_option linter.unusedVariables false
set_option linter.unusedSimpArgs false
set_option maxRecDepth 100000
namespace Go.Sw.Piece
open Go.Sw.Any Go.Sw.Codec
open Go.Sw.Tree (iv s_putAll s_newP s_getP s_getT s_putP eqI_self Placed cell_own wp_whileG minI_eq)
variable {P : Program} {S : Ids} {h : Heap} {Q : Nat → List Value → Heap → Prop}
structure On (S : Ids) (n : Nat) (T0 : TX) (hm : Heap) (am : Nat) (h : Heap) (T : TX) : Prop where
 t : TextR S n h T
 nx : Nxt T0 T hm.size
 chg : Chg T0.Z hm h
 A : T.A.length ≤ am
 sm : (bytesL T.cur.ps).length ≤ T.limit
variable {n am : Nat} {T0 T : TX} {hm : Heap}
end Go.Sw.Piece

set_option linter.unusedVariables false
set_option linter.unusedSimpArgs false
set_option maxRecDepth 100000
namespace Go.Sw.Piece
open Go.Sw.Any Go.Sw.Codec
open Go.Sw.Tree (iv s_putAll s_newP s_getP s_getT s_putP eqI_self Placed cell_own wp_whileG minI_eq)
variable {P : Program} {S : Ids} {h : Heap} {Q : Nat → List Value → Heap → Prop}
structure GI (F : Nat → Prop) (hz : Heap) (n a3 : Nat) (h : Heap) (sA sT : Sl) (LA LT : List Int) : Prop where
 held : Held F hz h
 fz : ∀ i, F i → i < hz.size ∧ i ≠ a3 ∧ (∀ a, sA.base = some a → a.block ≠ i) ∧ ∀ a, sT.base = some a → a.block ≠ i
 o3 : Own 0 1 h ⟨some (at0 a3), 3, 3⟩ [slv sA, slv sT, .slice none 0 0]
 la : OwnL n .i64 h sA LA
 lt : OwnL n .i64 h sT LT
 ne : ∀ a b, sA.base = some a → sT.base = some b → a.block ≠ b.block
 an : a3 < n
 nh : n ≤ h.size
variable {F : Nat → Prop} {hz : Heap} {n a3 : Nat} {sA sT : Sl} {LA LT : List Int}
end Go.Sw.Piece

set_option linter.unusedVariables false
set_option linter.unusedSimpArgs false
set_option maxRecDepth 100000
namespace Go.Sw.Piece
open Go.Sw.Any Go.Sw.Codec
open Go.Sw.Tree (iv s_putAll s_newP s_getP s_getT s_putP eqI_self Placed cell_own wp_whileG minI_eq)
variable {P : Program} {S : Ids} {h : Heap} {Q : Nat → List Value → Heap → Prop}
variable {F : Nat → Prop} {hz : Heap} {n a3 : Nat} {sA sT : Sl} {LA LT : List Int}
abbrev SE := Sl × Sl × Sl × Unit
structure ShowR (m : Nat) (h : Heap) (enc : Int) (q : SE) (E : List El) : Prop where
 a : OwnL m .i64 h q.1 (E.map (·.1))
 t : OwnL m .i64 h q.2.1 (E.map (·.2))
 b : OwnL m .u8 h q.2.2.1 ((E.map (·.1)).flatMap (putF enc))
end Go.Sw.Piece

set_option linter.unusedVariables false
set_option linter.unusedSimpArgs false
set_option maxRecDepth 100000
namespace Go.Sw.Piece
open Go.Sw.Any Go.Sw.Codec
open Go.Sw.Tree (iv s_putAll s_newP s_getP s_getT s_putP eqI_self Placed cell_own wp_whileG minI_eq)
variable {P : Program} {S : Ids} {h : Heap} {Q : Nat → List Value → Heap → Prop}
end Go.Sw.Piece

set_option linter.unusedVariables false
set_option linter.unusedSimpArgs false
set_option maxRecDepth 100000
namespace Go.Sw.Piece
open Go.Sw.Any Go.Sw.Codec
open Go.Sw.Tree (iv s_putAll s_newP s_getP s_getT s_putP eqI_self Placed cell_own wp_whileG minI_eq)
variable {P : Program} {S : Ids} {h : Heap} {Q : Nat → List Value → Heap → Prop}
structure RI (h0 : Heap) (n a : Nat) (enc limit : Int) (h : Heap) (sA sT : Sl) (LA LT : List Int) : Prop where
 k : Ext h0 h
 o : Own h0.size 1 h ⟨some (at0 a), 5, 5⟩ [i64v enc, i64v limit, slv sA, slv sT, .slice none 0 0]
 la : OwnL n .i64 h sA LA
 lt : OwnL n .i64 h sT LT
 ne : ∀ a b, sA.base = some a → sT.base = some b → a.block ≠ b.block
 an : a < n
 nh : n ≤ h.size
variable {h0 : Heap} {n a : Nat} {enc limit : Int} {sA sT : Sl} {LA LT : List Int}
structure RX where
 b : Nat
 enc : Int
 limit : Int
 sa : Sl
 st : Sl
 sk : Sl
 E : List El
 K : List (Sl × Sl × List El)
 Z : Nat → Prop
def Shows (n : Nat) (h : Heap) (k : Sl × Sl × List El) : Prop := OwnL n .i64 h k.1 (k.2.2.map (·.1)) ∧ OwnL n .i64 h k.2.1 (k.2.2.map (·.2))
def inK (k : Sl × Sl × List El) (i : Nat) : Prop := (∃ a, k.1.base = some a ∧ a.block = i) ∨ ∃ a, k.2.1.base = some a ∧ a.block = i
structure RefT (n : Nat) (h : Heap) (R : RX) : Prop where
 enc : known R.enc
 lim : 0 ≤ R.limit ∧ R.limit ≤ 65536
 ob : Own n 1 h ⟨some (at0 R.b), 5, 5⟩ [i64v R.enc, i64v R.limit, slv R.sa, slv R.st, slv R.sk]
 cur : Shows n h (R.sa, R.st, R.E)
 sk : Own n 2 h R.sk (R.K.flatMap fun k => [slv k.1, slv k.2.1])
 kept : ∀ k, k ∈ R.K → Shows n h k
 zb : R.Z R.b
 zc : ∀ i, inK (R.sa, R.st, R.E) i → R.Z i ∧ i ≠ R.b ∧ ∀ a, R.sk.base = some a → a.block ≠ i
 zk : ∀ k, k ∈ R.K → ∀ i, inK k i → R.Z i ∧ i ≠ R.b ∧ ∀ a, R.sk.base = some a → a.block ≠ i
 zs : ∀ a, R.sk.base = some a → R.Z a.block ∧ a.block ≠ R.b
 lo : ∀ i, R.Z i → n ≤ i ∧ i < h.size
 fit : ∀ a, a ∈ R.E.map (·.1) → 0 < sizeF R.enc a
inductive ROpenR (h0 h : Heap) (enc limit : Int) (l : List Int) : Option Addr → Int → Prop where
 | enc : ¬ known enc → ROpenR h0 h enc limit l none 10
 | arg : known enc → ¬ (0 ≤ limit ∧ limit ≤ 65536) → ROpenR h0 h enc limit l none 1
 | full : known enc → 0 ≤ limit ∧ limit ≤ 65536 → limit < l.length → ROpenR h0 h enc limit l none 50
 | ok (R : RX) : known enc → 0 ≤ limit ∧ limit ≤ 65536 → l.length ≤ limit → RefT h0.size h R → R.enc = enc → R.limit = limit → R.K = [] → R.E = elsF 0 0 (toks enc l) → (∀ i, R.Z i → h0.size ≤ i) → ROpenR h0 h enc limit l (some (at0 R.b)) 0
end Go.Sw.Piece

set_option linter.unusedVariables false
set_option linter.unusedSimpArgs false
set_option maxRecDepth 100000
namespace Go.Sw.Piece
open Go.Sw.Any Go.Sw.Codec
open Go.Sw.Tree (iv s_putAll s_newP s_getP s_getT s_putP eqI_self Placed cell_own wp_whileG minI_eq)
variable {P : Program} {S : Ids} {h : Heap} {Q : Nat → List Value → Heap → Prop}
structure PairR (S : Ids) (n : Nat) (h : Heap) (T : TX) (R : RX) : Prop where
 t : TextR S n h T
 r : RefT n h R
 enc : R.enc = T.enc
 limit : R.limit = T.limit
 E : R.E = els T.enc T.cur.ps
 sm : (bytesL T.cur.ps).length ≤ T.limit
 far : ∀ i, T.Z i → ¬ R.Z i
end Go.Sw.Piece

set_option linter.unusedVariables false
set_option linter.unusedSimpArgs false
set_option maxRecDepth 100000
namespace Go.Sw.Piece
open Go.Sw.Any Go.Sw.Codec
open Go.Sw.Tree (iv s_putAll s_newP s_getP s_getT s_putP eqI_self Placed cell_own wp_whileG minI_eq)
variable {P : Program} {S : Ids} {h : Heap} {Q : Nat → List Value → Heap → Prop}
end Go.Sw.Piece
