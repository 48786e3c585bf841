/-
  The tree's programs over any kind of things.
-/
import Derived.Test.YtjhnjehmbgaciaaSwU5
import Derived.Test.YtjhnjehmbgaciaaSwFcodec
import Derived.Test.YtjhnjehmbgaciaaSwCC
set_option linter.unusedVariables false
set_option linter.unusedSimpArgs false
set_option maxRecDepth 100000
namespace Go.Sw.Any

/-- A kind of things, and of what they add up to. -/
structure Inst where
  iB : List B
  sB : List B
  zi : Bs.den iB
  zs : Bs.den sB
  mF : Bs.den iB → Prog
  aF : Bs.den sB → Bs.den sB → Prog
  kF : Bs.den sB → Int → Prog
  f1 : FuncId
  f2 : FuncId
  okI : Bs.den iB → Prop
  wt : Bs.den iB → Nat
  V : Nat → Bs.den sB → Prop
  meas : Bs.den iB → Bs.den sB
  add : Bs.den sB → Bs.den sB → Bs.den sB
  key : Bs.den sB → Int → Int
  Z : Nat → Prop
abbrev Inst.It (I : Inst) : Type := Bs.den I.iB
abbrev Inst.Su (I : Inst) : Type := Bs.den I.sB
def Inst.ni (I : Inst) : Nat := I.iB.length
def Inst.ns (I : Inst) : Nat := I.sB.length

def G_count (I : Inst) (n : (Option Addr)) : Prog :=
  ifB (noneB n)
    (.ret 0 [(Value.int IntKind.i64 0)]) <|
  grd (someB n) <|
  grd (someB n) <|
  .load (Ty.one (B.int IntKind.i64)) (shiftTo n (I.ni + 2)) fun (n1 : Int) =>
  .ret 0 [(Value.int IntKind.i64 n1)]
def G_tall (I : Inst) (n : (Option Addr)) : Prog :=
  ifB (noneB n)
    (.ret 0 [(Value.int IntKind.i64 0)]) <|
  grd (someB n) <|
  grd (someB n) <|
  .load (Ty.one (B.int IntKind.i64)) (shiftTo n (I.ni + 3)) fun (n1 : Int) =>
  .ret 0 [(Value.int IntKind.i64 n1)]
def G_of (I : Inst) (l : (Option Addr)) (x : (Bs.den I.iB)) (r : (Option Addr)) : Prog :=
  .alloc (Bs.inj I.iB x) fun (a1 : Addr) =>
  .load (Ty.agg I.iB) (Option.some a1) fun (r2 : (Bs.den I.iB)) =>
  .call (G_count I l) [(Ty.one (B.int IntKind.i64))] fun (r3 : (Int × Unit)) =>
  .check (Option.some a1) (Bs.inj I.iB r2) <|
  .call (G_count I r) [(Ty.one (B.int IntKind.i64))] fun (r4 : (Int × Unit)) =>
  .check (Option.some a1) (Bs.inj I.iB r2) <|
  .call (G_tall I l) [(Ty.one (B.int IntKind.i64))] fun (r5 : (Int × Unit)) =>
  .check (Option.some a1) (Bs.inj I.iB r2) <|
  .call (G_tall I r) [(Ty.one (B.int IntKind.i64))] fun (r6 : (Int × Unit)) =>
  .check (Option.some a1) (Bs.inj I.iB r2) <|
  .alloc ([(Value.pointer l), (Value.pointer r)] ++ (Bs.inj I.iB r2 ++ ([(Value.int IntKind.i64 (addI IntKind.i64 (addI IntKind.i64 r3.1 1) r4.1)), (Value.int IntKind.i64 (addI IntKind.i64 (maxI r5.1 r6.1) 1))] ++ Bs.inj I.sB I.zs))) fun (a7 : Addr) =>
  .load (Ty.agg I.iB) (Option.some a1) fun (r8 : (Bs.den I.iB)) =>
  .call (I.mF r8) [(Ty.agg I.sB)] fun (r9 : ((Bs.den I.sB) × Unit)) =>
  .store (shiftTo (Option.some a7) (I.ni + 4)) (Bs.inj I.sB r9.1) <|
  .bind
    (ifB (notB (noneB l))
      (grd (someB l) <|
      grd (someB l) <|
      .load (Ty.agg I.sB) (shiftTo l (I.ni + 4)) fun (r28 : (Bs.den I.sB)) =>
      .load (Ty.agg I.sB) (shiftTo (Option.some a7) (I.ni + 4)) fun (r29 : (Bs.den I.sB)) =>
      .call (I.aF r28 r29) [(Ty.agg I.sB)] fun (r30 : ((Bs.den I.sB) × Unit)) =>
      .store (shiftTo (Option.some a7) (I.ni + 4)) (Bs.inj I.sB r30.1) <|
      .ret 0 []) <|
    .ret 0 []) fun (k31 : Nat) =>
  fun (vs32 : (List Value)) =>
  ifB (eqN k31 0)
    (.cast [] vs32 fun (u33 : Unit) =>
    .bind
      (ifB (notB (noneB r))
        (.load (Ty.agg I.sB) (shiftTo (Option.some a7) (I.ni + 4)) fun (r40 : (Bs.den I.sB)) =>
        grd (someB r) <|
        grd (someB r) <|
        .load (Ty.agg I.sB) (shiftTo r (I.ni + 4)) fun (r41 : (Bs.den I.sB)) =>
        .call (I.aF r40 r41) [(Ty.agg I.sB)] fun (r42 : ((Bs.den I.sB) × Unit)) =>
        .store (shiftTo (Option.some a7) (I.ni + 4)) (Bs.inj I.sB r42.1) <|
        .ret 0 []) <|
      .ret 0 []) fun (k43 : Nat) =>
    fun (vs44 : (List Value)) =>
    ifB (eqN k43 0)
      (.cast [] vs44 fun (u45 : Unit) =>
      .ret 0 [(Value.pointer (Option.some a7))]) <|
    .fail) <|
  .fail
def Gr_build (fuelN : Nat) (I : Inst) (items : Sl) : Prog :=
  match fuelN with
  | 0 => .fail
  | fuelN + 1 =>
  ifB (eqI (natI items.len) 0)
    (.ret 0 [(Value.pointer Option.none)]) <|
  grd (notB Bool.false) <|
  grd (leB (quoI IntKind.i64 (natI items.len) 2) items.cap) <|
  grd (andB (someB items.base) (inB (quoI IntKind.i64 (natI items.len) 2) items.len)) <|
  .load (Ty.agg I.iB) (shiftTo items.base (mulN (toN (quoI IntKind.i64 (natI items.len) 2)) I.ni)) fun (r1 : (Bs.den I.iB)) =>
  grd (leB (addI IntKind.i64 (quoI IntKind.i64 (natI items.len) 2) 1) items.len) <|
  .call (Gr_build fuelN I (⟨(cutBase items.base items.cap 0 I.ni), (subN (toN (quoI IntKind.i64 (natI items.len) 2)) 0), (subN items.cap 0)⟩)) [(Ty.one B.ptr)] fun (r2 : ((Option Addr) × Unit)) =>
  .check (shiftTo items.base (mulN (toN (quoI IntKind.i64 (natI items.len) 2)) I.ni)) (Bs.inj I.iB r1) <|
  .call (Gr_build fuelN I (⟨(cutBase items.base items.cap (toN (addI IntKind.i64 (quoI IntKind.i64 (natI items.len) 2) 1)) I.ni), (subN items.len (toN (addI IntKind.i64 (quoI IntKind.i64 (natI items.len) 2) 1))), (subN items.cap (toN (addI IntKind.i64 (quoI IntKind.i64 (natI items.len) 2) 1)))⟩)) [(Ty.one B.ptr)] fun (r3 : ((Option Addr) × Unit)) =>
  .check (shiftTo items.base (mulN (toN (quoI IntKind.i64 (natI items.len) 2)) I.ni)) (Bs.inj I.iB r1) <|
  .call (G_of I r2.1 r1 r3.1) [(Ty.one B.ptr)] fun (r4 : ((Option Addr) × Unit)) =>
  .ret 0 [(Value.pointer r4.1)]
def G_build (I : Inst) (items : Sl) : Prog := .ex fun fuelN => Gr_build fuelN I items
def G_Of (I : Inst) (items : Sl) : Prog :=
  .alloc [(Value.pointer Option.none)] fun (a1 : Addr) =>
  .call (G_build I items) [(Ty.one B.ptr)] fun (r2 : ((Option Addr) × Unit)) =>
  .store (Option.some a1) [(Value.pointer r2.1)] <|
  .load (Ty.agg [B.ptr]) (Option.some a1) fun (r3 : ((Option Addr) × Unit)) =>
  .ret 0 [(Value.agg (#[(Value.pointer r3.1)]))]
def G_Size (I : Inst) (t : ((Option Addr) × Unit)) : Prog :=
  .alloc [(Value.pointer t.1)] fun (a1 : Addr) =>
  .load (Ty.one B.ptr) (shiftTo (Option.some a1) 0) fun (p2 : (Option Addr)) =>
  .call (G_count I p2) [(Ty.one (B.int IntKind.i64))] fun (r3 : (Int × Unit)) =>
  .ret 0 [(Value.int IntKind.i64 r3.1)]
def G_even (I : Inst) (l : (Option Addr)) (x : (Bs.den I.iB)) (r : (Option Addr)) : Prog :=
  .alloc (Bs.inj I.iB x) fun (a1 : Addr) =>
  .call (G_tall I l) [(Ty.one (B.int IntKind.i64))] fun (r2 : (Int × Unit)) =>
  .call (G_tall I r) [(Ty.one (B.int IntKind.i64))] fun (r3 : (Int × Unit)) =>
  ifB (gtI r2.1 (addI IntKind.i64 r3.1 1))
    (grd (someB l) <|
    grd (someB l) <|
    .load (Ty.one B.ptr) (shiftTo l 0) fun (p4 : (Option Addr)) =>
    grd (someB l) <|
    grd (someB l) <|
    .load (Ty.one B.ptr) (shiftTo l 1) fun (p5 : (Option Addr)) =>
    .call (G_tall I p4) [(Ty.one (B.int IntKind.i64))] fun (r6 : (Int × Unit)) =>
    .check (shiftTo l 1) [(Value.pointer p5)] <|
    .call (G_tall I p5) [(Ty.one (B.int IntKind.i64))] fun (r7 : (Int × Unit)) =>
    ifB (geI r6.1 r7.1)
      (grd (someB l) <|
      grd (someB l) <|
      .load (Ty.one B.ptr) (shiftTo l 0) fun (p8 : (Option Addr)) =>
      grd (someB l) <|
      grd (someB l) <|
      .load (Ty.agg I.iB) (shiftTo l 2) fun (r9 : (Bs.den I.iB)) =>
      grd (someB l) <|
      grd (someB l) <|
      .load (Ty.one B.ptr) (shiftTo l 1) fun (p10 : (Option Addr)) =>
      .load (Ty.agg I.iB) (Option.some a1) fun (r11 : (Bs.den I.iB)) =>
      .call (G_of I p10 r11 r) [(Ty.one B.ptr)] fun (r12 : ((Option Addr) × Unit)) =>
      .check (shiftTo l 2) (Bs.inj I.iB r9) <|
      .check (shiftTo l 0) [(Value.pointer p8)] <|
      .call (G_of I p8 r9 r12.1) [(Ty.one B.ptr)] fun (r13 : ((Option Addr) × Unit)) =>
      .ret 0 [(Value.pointer r13.1)]) <|
    grd (someB l) <|
    grd (someB l) <|
    .load (Ty.one B.ptr) (shiftTo l 1) fun (p14 : (Option Addr)) =>
    grd (someB l) <|
    grd (someB l) <|
    .load (Ty.one B.ptr) (shiftTo l 0) fun (p15 : (Option Addr)) =>
    grd (someB l) <|
    grd (someB l) <|
    .load (Ty.agg I.iB) (shiftTo l 2) fun (r16 : (Bs.den I.iB)) =>
    grd (someB p14) <|
    grd (someB p14) <|
    .load (Ty.one B.ptr) (shiftTo p14 0) fun (p17 : (Option Addr)) =>
    grd (someB p14) <|
    grd (someB p14) <|
    .load (Ty.agg I.iB) (shiftTo p14 2) fun (r18 : (Bs.den I.iB)) =>
    grd (someB p14) <|
    grd (someB p14) <|
    .load (Ty.one B.ptr) (shiftTo p14 1) fun (p19 : (Option Addr)) =>
    .load (Ty.agg I.iB) (Option.some a1) fun (r20 : (Bs.den I.iB)) =>
    .call (G_of I p15 r16 p17) [(Ty.one B.ptr)] fun (r21 : ((Option Addr) × Unit)) =>
    .check (Option.some a1) (Bs.inj I.iB r20) <|
    .check (shiftTo p14 1) [(Value.pointer p19)] <|
    .check (shiftTo p14 2) (Bs.inj I.iB r18) <|
    .call (G_of I p19 r20 r) [(Ty.one B.ptr)] fun (r22 : ((Option Addr) × Unit)) =>
    .check (shiftTo p14 2) (Bs.inj I.iB r18) <|
    .call (G_of I r21.1 r18 r22.1) [(Ty.one B.ptr)] fun (r23 : ((Option Addr) × Unit)) =>
    .ret 0 [(Value.pointer r23.1)]) <|
  .call (G_tall I r) [(Ty.one (B.int IntKind.i64))] fun (r24 : (Int × Unit)) =>
  .call (G_tall I l) [(Ty.one (B.int IntKind.i64))] fun (r25 : (Int × Unit)) =>
  ifB (gtI r24.1 (addI IntKind.i64 r25.1 1))
    (grd (someB r) <|
    grd (someB r) <|
    .load (Ty.one B.ptr) (shiftTo r 1) fun (p26 : (Option Addr)) =>
    grd (someB r) <|
    grd (someB r) <|
    .load (Ty.one B.ptr) (shiftTo r 0) fun (p27 : (Option Addr)) =>
    .call (G_tall I p26) [(Ty.one (B.int IntKind.i64))] fun (r28 : (Int × Unit)) =>
    .check (shiftTo r 0) [(Value.pointer p27)] <|
    .call (G_tall I p27) [(Ty.one (B.int IntKind.i64))] fun (r29 : (Int × Unit)) =>
    ifB (geI r28.1 r29.1)
      (.load (Ty.agg I.iB) (Option.some a1) fun (r30 : (Bs.den I.iB)) =>
      grd (someB r) <|
      grd (someB r) <|
      .load (Ty.one B.ptr) (shiftTo r 0) fun (p31 : (Option Addr)) =>
      grd (someB r) <|
      grd (someB r) <|
      .load (Ty.agg I.iB) (shiftTo r 2) fun (r32 : (Bs.den I.iB)) =>
      grd (someB r) <|
      grd (someB r) <|
      .load (Ty.one B.ptr) (shiftTo r 1) fun (p33 : (Option Addr)) =>
      .call (G_of I l r30 p31) [(Ty.one B.ptr)] fun (r34 : ((Option Addr) × Unit)) =>
      .check (shiftTo r 1) [(Value.pointer p33)] <|
      .check (shiftTo r 2) (Bs.inj I.iB r32) <|
      .call (G_of I r34.1 r32 p33) [(Ty.one B.ptr)] fun (r35 : ((Option Addr) × Unit)) =>
      .ret 0 [(Value.pointer r35.1)]) <|
    grd (someB r) <|
    grd (someB r) <|
    .load (Ty.one B.ptr) (shiftTo r 0) fun (p36 : (Option Addr)) =>
    .load (Ty.agg I.iB) (Option.some a1) fun (r37 : (Bs.den I.iB)) =>
    grd (someB p36) <|
    grd (someB p36) <|
    .load (Ty.one B.ptr) (shiftTo p36 0) fun (p38 : (Option Addr)) =>
    grd (someB p36) <|
    grd (someB p36) <|
    .load (Ty.agg I.iB) (shiftTo p36 2) fun (r39 : (Bs.den I.iB)) =>
    grd (someB p36) <|
    grd (someB p36) <|
    .load (Ty.one B.ptr) (shiftTo p36 1) fun (p40 : (Option Addr)) =>
    grd (someB r) <|
    grd (someB r) <|
    .load (Ty.agg I.iB) (shiftTo r 2) fun (r41 : (Bs.den I.iB)) =>
    grd (someB r) <|
    grd (someB r) <|
    .load (Ty.one B.ptr) (shiftTo r 1) fun (p42 : (Option Addr)) =>
    .call (G_of I l r37 p38) [(Ty.one B.ptr)] fun (r43 : ((Option Addr) × Unit)) =>
    .check (shiftTo r 1) [(Value.pointer p42)] <|
    .check (shiftTo r 2) (Bs.inj I.iB r41) <|
    .check (shiftTo p36 1) [(Value.pointer p40)] <|
    .check (shiftTo p36 2) (Bs.inj I.iB r39) <|
    .call (G_of I p40 r41 p42) [(Ty.one B.ptr)] fun (r44 : ((Option Addr) × Unit)) =>
    .check (shiftTo p36 2) (Bs.inj I.iB r39) <|
    .call (G_of I r43.1 r39 r44.1) [(Ty.one B.ptr)] fun (r45 : ((Option Addr) × Unit)) =>
    .ret 0 [(Value.pointer r45.1)]) <|
  .load (Ty.agg I.iB) (Option.some a1) fun (r46 : (Bs.den I.iB)) =>
  .call (G_of I l r46 r) [(Ty.one B.ptr)] fun (r47 : ((Option Addr) × Unit)) =>
  .ret 0 [(Value.pointer r47.1)]
def Gr_join (fuelN : Nat) (I : Inst) (l : (Option Addr)) (x : (Bs.den I.iB)) (r : (Option Addr)) : Prog :=
  match fuelN with
  | 0 => .fail
  | fuelN + 1 =>
  .alloc (Bs.inj I.iB x) fun (a1 : Addr) =>
  .call (G_tall I l) [(Ty.one (B.int IntKind.i64))] fun (r2 : (Int × Unit)) =>
  .call (G_tall I r) [(Ty.one (B.int IntKind.i64))] fun (r3 : (Int × Unit)) =>
  ifB (gtI r2.1 (addI IntKind.i64 r3.1 1))
    (grd (someB l) <|
    grd (someB l) <|
    .load (Ty.one B.ptr) (shiftTo l 0) fun (p4 : (Option Addr)) =>
    grd (someB l) <|
    grd (someB l) <|
    .load (Ty.agg I.iB) (shiftTo l 2) fun (r5 : (Bs.den I.iB)) =>
    grd (someB l) <|
    grd (someB l) <|
    .load (Ty.one B.ptr) (shiftTo l 1) fun (p6 : (Option Addr)) =>
    .load (Ty.agg I.iB) (Option.some a1) fun (r7 : (Bs.den I.iB)) =>
    .call (Gr_join fuelN I p6 r7 r) [(Ty.one B.ptr)] fun (r8 : ((Option Addr) × Unit)) =>
    .check (shiftTo l 2) (Bs.inj I.iB r5) <|
    .check (shiftTo l 0) [(Value.pointer p4)] <|
    .call (G_even I p4 r5 r8.1) [(Ty.one B.ptr)] fun (r9 : ((Option Addr) × Unit)) =>
    .ret 0 [(Value.pointer r9.1)]) <|
  .call (G_tall I r) [(Ty.one (B.int IntKind.i64))] fun (r10 : (Int × Unit)) =>
  .call (G_tall I l) [(Ty.one (B.int IntKind.i64))] fun (r11 : (Int × Unit)) =>
  ifB (gtI r10.1 (addI IntKind.i64 r11.1 1))
    (.load (Ty.agg I.iB) (Option.some a1) fun (r12 : (Bs.den I.iB)) =>
    grd (someB r) <|
    grd (someB r) <|
    .load (Ty.one B.ptr) (shiftTo r 0) fun (p13 : (Option Addr)) =>
    grd (someB r) <|
    grd (someB r) <|
    .load (Ty.agg I.iB) (shiftTo r 2) fun (r14 : (Bs.den I.iB)) =>
    grd (someB r) <|
    grd (someB r) <|
    .load (Ty.one B.ptr) (shiftTo r 1) fun (p15 : (Option Addr)) =>
    .call (Gr_join fuelN I l r12 p13) [(Ty.one B.ptr)] fun (r16 : ((Option Addr) × Unit)) =>
    .check (shiftTo r 1) [(Value.pointer p15)] <|
    .check (shiftTo r 2) (Bs.inj I.iB r14) <|
    .call (G_even I r16.1 r14 p15) [(Ty.one B.ptr)] fun (r17 : ((Option Addr) × Unit)) =>
    .ret 0 [(Value.pointer r17.1)]) <|
  .load (Ty.agg I.iB) (Option.some a1) fun (r18 : (Bs.den I.iB)) =>
  .call (G_of I l r18 r) [(Ty.one B.ptr)] fun (r19 : ((Option Addr) × Unit)) =>
  .ret 0 [(Value.pointer r19.1)]
def G_join (I : Inst) (l : (Option Addr)) (x : (Bs.den I.iB)) (r : (Option Addr)) : Prog := .ex fun fuelN => Gr_join fuelN I l x r
def Gr_cut (fuelN : Nat) (I : Inst) (n : (Option Addr)) (i : Int) : Prog :=
  match fuelN with
  | 0 => .fail
  | fuelN + 1 =>
  ifB (noneB n)
    (.ret 0 [(Value.pointer Option.none), (Value.pointer Option.none)]) <|
  grd (someB n) <|
  grd (someB n) <|
  .load (Ty.one B.ptr) (shiftTo n 0) fun (p1 : (Option Addr)) =>
  .call (G_count I p1) [(Ty.one (B.int IntKind.i64))] fun (r2 : (Int × Unit)) =>
  ifB (leI i r2.1)
    (grd (someB n) <|
    grd (someB n) <|
    .load (Ty.one B.ptr) (shiftTo n 0) fun (p3 : (Option Addr)) =>
    .call (Gr_cut fuelN I p3 i) [(Ty.one B.ptr), (Ty.one B.ptr)] fun (r4 : ((Option Addr) × ((Option Addr) × Unit))) =>
    grd (someB n) <|
    grd (someB n) <|
    .load (Ty.agg I.iB) (shiftTo n 2) fun (r5 : (Bs.den I.iB)) =>
    grd (someB n) <|
    grd (someB n) <|
    .load (Ty.one B.ptr) (shiftTo n 1) fun (p6 : (Option Addr)) =>
    .call (G_join I r4.2.1 r5 p6) [(Ty.one B.ptr)] fun (r7 : ((Option Addr) × Unit)) =>
    .ret 0 [(Value.pointer r4.1), (Value.pointer r7.1)]) <|
  grd (someB n) <|
  grd (someB n) <|
  .load (Ty.one B.ptr) (shiftTo n 1) fun (p8 : (Option Addr)) =>
  .call (Gr_cut fuelN I p8 (subI IntKind.i64 (subI IntKind.i64 i r2.1) 1)) [(Ty.one B.ptr), (Ty.one B.ptr)] fun (r9 : ((Option Addr) × ((Option Addr) × Unit))) =>
  grd (someB n) <|
  grd (someB n) <|
  .load (Ty.one B.ptr) (shiftTo n 0) fun (p10 : (Option Addr)) =>
  grd (someB n) <|
  grd (someB n) <|
  .load (Ty.agg I.iB) (shiftTo n 2) fun (r11 : (Bs.den I.iB)) =>
  .call (G_join I p10 r11 r9.1) [(Ty.one B.ptr)] fun (r12 : ((Option Addr) × Unit)) =>
  .ret 0 [(Value.pointer r12.1), (Value.pointer r9.2.1)]
def G_cut (I : Inst) (n : (Option Addr)) (i : Int) : Prog := .ex fun fuelN => Gr_cut fuelN I n i
def Gr_first (fuelN : Nat) (I : Inst) (n : (Option Addr)) : Prog :=
  match fuelN with
  | 0 => .fail
  | fuelN + 1 =>
  .alloc (Bs.inj I.iB I.zi) fun (a1 : Addr) =>
  grd (someB n) <|
  grd (someB n) <|
  .load (Ty.one B.ptr) (shiftTo n 0) fun (p2 : (Option Addr)) =>
  ifB (noneB p2)
    (grd (someB n) <|
    grd (someB n) <|
    .load (Ty.agg I.iB) (shiftTo n 2) fun (r3 : (Bs.den I.iB)) =>
    grd (someB n) <|
    grd (someB n) <|
    .load (Ty.one B.ptr) (shiftTo n 1) fun (p4 : (Option Addr)) =>
    .store (Option.some a1) (Bs.inj I.iB r3) <|
    .check (shiftTo n 1) [(Value.pointer p4)] <|
    .load (Ty.agg I.iB) (Option.some a1) fun (r5 : (Bs.den I.iB)) =>
    .ret 0 [(Value.agg (Bs.inj I.iB r5).toArray), (Value.pointer p4)]) <|
  grd (someB n) <|
  grd (someB n) <|
  .load (Ty.one B.ptr) (shiftTo n 0) fun (p6 : (Option Addr)) =>
  .call (Gr_first fuelN I p6) [(Ty.agg I.iB), (Ty.one B.ptr)] fun (r7 : ((Bs.den I.iB) × ((Option Addr) × Unit))) =>
  .alloc (Bs.inj I.iB I.zi) fun (a8 : Addr) =>
  .store (Option.some a8) (Bs.inj I.iB r7.1) <|
  .load (Ty.agg I.iB) (Option.some a8) fun (r9 : (Bs.den I.iB)) =>
  grd (someB n) <|
  grd (someB n) <|
  .load (Ty.agg I.iB) (shiftTo n 2) fun (r10 : (Bs.den I.iB)) =>
  grd (someB n) <|
  grd (someB n) <|
  .load (Ty.one B.ptr) (shiftTo n 1) fun (p11 : (Option Addr)) =>
  .call (G_even I r7.2.1 r10 p11) [(Ty.one B.ptr)] fun (r12 : ((Option Addr) × Unit)) =>
  .check (Option.some a8) (Bs.inj I.iB r9) <|
  .store (Option.some a1) (Bs.inj I.iB r9) <|
  .load (Ty.agg I.iB) (Option.some a1) fun (r13 : (Bs.den I.iB)) =>
  .ret 0 [(Value.agg (Bs.inj I.iB r13).toArray), (Value.pointer r12.1)]
def G_first (I : Inst) (n : (Option Addr)) : Prog := .ex fun fuelN => Gr_first fuelN I n
def G_both (I : Inst) (l : (Option Addr)) (r : (Option Addr)) : Prog :=
  ifB (noneB r)
    (.ret 0 [(Value.pointer l)]) <|
  .call (G_first I r) [(Ty.agg I.iB), (Ty.one B.ptr)] fun (r1 : ((Bs.den I.iB) × ((Option Addr) × Unit))) =>
  .alloc (Bs.inj I.iB I.zi) fun (a2 : Addr) =>
  .store (Option.some a2) (Bs.inj I.iB r1.1) <|
  .load (Ty.agg I.iB) (Option.some a2) fun (r3 : (Bs.den I.iB)) =>
  .call (G_join I l r3 r1.2.1) [(Ty.one B.ptr)] fun (r4 : ((Option Addr) × Unit)) =>
  .ret 0 [(Value.pointer r4.1)]
def G_Replace (I : Inst) (t : ((Option Addr) × Unit)) (from_ : Int) (to : Int) (items : Sl) : Prog :=
  .alloc [(Value.pointer t.1)] fun (a1 : Addr) =>
  .alloc [(Value.pointer Option.none)] fun (a2 : Addr) =>
  .bind
    (ifB (ltI from_ 0)
      (.ret 0 [(Value.bool Bool.true)]) <|
    ifB (gtI from_ to)
      (.ret 0 [(Value.bool Bool.true)]) <|
    .load (Ty.agg [B.ptr]) (Option.some a1) fun (r17 : ((Option Addr) × Unit)) =>
    .call (G_Size I (r17.1, ())) [(Ty.one (B.int IntKind.i64))] fun (r18 : (Int × Unit)) =>
    .ret 0 [(Value.bool (gtI to r18.1))]) fun (k19 : Nat) =>
  fun (vs20 : (List Value)) =>
  ifB (eqN k19 0)
    (.cast [(Ty.one B.bool)] vs20 fun (r21 : (Bool × Unit)) =>
    ifB r21.1
      (.store (Option.some a2) [(Value.pointer Option.none)] <|
      .load (Ty.agg [B.ptr]) (Option.some a2) fun (r22 : ((Option Addr) × Unit)) =>
      .ret 0 [(Value.agg (#[(Value.pointer r22.1)])), (Value.int IntKind.i64 1)]) <|
    .load (Ty.one B.ptr) (shiftTo (Option.some a1) 0) fun (p23 : (Option Addr)) =>
    .call (G_cut I p23 from_) [(Ty.one B.ptr), (Ty.one B.ptr)] fun (r24 : ((Option Addr) × ((Option Addr) × Unit))) =>
    .load (Ty.one B.ptr) (shiftTo (Option.some a1) 0) fun (p25 : (Option Addr)) =>
    .call (G_cut I p25 to) [(Ty.one B.ptr), (Ty.one B.ptr)] fun (r26 : ((Option Addr) × ((Option Addr) × Unit))) =>
    .call (G_build I items) [(Ty.one B.ptr)] fun (r27 : ((Option Addr) × Unit)) =>
    .call (G_both I r24.1 r27.1) [(Ty.one B.ptr)] fun (r28 : ((Option Addr) × Unit)) =>
    .call (G_both I r28.1 r26.2.1) [(Ty.one B.ptr)] fun (r29 : ((Option Addr) × Unit)) =>
    .store (Option.some a2) [(Value.pointer r29.1)] <|
    .load (Ty.agg [B.ptr]) (Option.some a2) fun (r30 : ((Option Addr) × Unit)) =>
    .ret 0 [(Value.agg (#[(Value.pointer r30.1)])), (Value.int IntKind.i64 0)]) <|
  .fail
def G_Upto (I : Inst) (t : ((Option Addr) × Unit)) (i : Int) : Prog :=
  .alloc [(Value.pointer t.1)] fun (a1 : Addr) =>
  .alloc (Bs.inj I.sB I.zs) fun (a2 : Addr) =>
  .alloc (Bs.inj I.sB I.zs) fun (a3 : Addr) =>
  .load (Ty.agg [B.ptr]) (Option.some a1) fun (r4 : ((Option Addr) × Unit)) =>
  .call (G_Size I (r4.1, ())) [(Ty.one (B.int IntKind.i64))] fun (r5 : (Int × Unit)) =>
  .load (Ty.one B.ptr) (shiftTo (Option.some a1) 0) fun (p6 : (Option Addr)) =>
  .bind
    (.loop [(Ty.one (B.int IntKind.i64)), (Ty.one B.ptr)] ((minI i r5.1), (p6, ())) fun (r207 : (Int × ((Option Addr) × Unit))) =>
      .bind
        (ifB (notB (noneB r207.2.1))
          (.ret 0 [(Value.bool (gtI r207.1 0))]) <|
        .ret 0 [(Value.bool Bool.false)]) fun (k240 : Nat) =>
      fun (vs241 : (List Value)) =>
      ifB (eqN k240 0)
        (.cast [(Ty.one B.bool)] vs241 fun (r242 : (Bool × Unit)) =>
        ifB r242.1
          (grd (someB r207.2.1) <|
          grd (someB r207.2.1) <|
          .load (Ty.one B.ptr) (shiftTo r207.2.1 0) fun (p243 : (Option Addr)) =>
          .call (G_count I p243) [(Ty.one (B.int IntKind.i64))] fun (r244 : (Int × Unit)) =>
          ifB (leI r207.1 r244.1)
            (grd (someB r207.2.1) <|
            grd (someB r207.2.1) <|
            .load (Ty.one B.ptr) (shiftTo r207.2.1 0) fun (p245 : (Option Addr)) =>
            .ret 0 [(Value.int IntKind.i64 r207.1), (Value.pointer p245)]) <|
          .bind
            (grd (someB r207.2.1) <|
            grd (someB r207.2.1) <|
            .load (Ty.one B.ptr) (shiftTo r207.2.1 0) fun (p259 : (Option Addr)) =>
            ifB (notB (noneB p259))
              (.load (Ty.agg I.sB) (Option.some a3) fun (r260 : (Bs.den I.sB)) =>
              grd (someB r207.2.1) <|
              grd (someB r207.2.1) <|
              .load (Ty.one B.ptr) (shiftTo r207.2.1 0) fun (p261 : (Option Addr)) =>
              grd (someB p261) <|
              grd (someB p261) <|
              .load (Ty.agg I.sB) (shiftTo p261 (I.ni + 4)) fun (r262 : (Bs.den I.sB)) =>
              .call (I.aF r260 r262) [(Ty.agg I.sB)] fun (r263 : ((Bs.den I.sB) × Unit)) =>
              .store (Option.some a3) (Bs.inj I.sB r263.1) <|
              .ret 0 []) <|
            .ret 0 []) fun (k264 : Nat) =>
          fun (vs265 : (List Value)) =>
          ifB (eqN k264 0)
            (.cast [] vs265 fun (u266 : Unit) =>
            .load (Ty.agg I.sB) (Option.some a3) fun (r267 : (Bs.den I.sB)) =>
            grd (someB r207.2.1) <|
            grd (someB r207.2.1) <|
            .load (Ty.agg I.iB) (shiftTo r207.2.1 2) fun (r268 : (Bs.den I.iB)) =>
            .call (I.mF r268) [(Ty.agg I.sB)] fun (r269 : ((Bs.den I.sB) × Unit)) =>
            .check (Option.some a3) (Bs.inj I.sB r267) <|
            .call (I.aF r267 r269.1) [(Ty.agg I.sB)] fun (r270 : ((Bs.den I.sB) × Unit)) =>
            .store (Option.some a3) (Bs.inj I.sB r270.1) <|
            grd (someB r207.2.1) <|
            grd (someB r207.2.1) <|
            .load (Ty.one B.ptr) (shiftTo r207.2.1 1) fun (p271 : (Option Addr)) =>
            .ret 0 [(Value.int IntKind.i64 (subI IntKind.i64 (subI IntKind.i64 r207.1 r244.1) 1)), (Value.pointer p271)]) <|
          .fail) <|
        .ret 2 []) <|
      .fail) fun (k272 : Nat) =>
  fun (vs273 : (List Value)) =>
  ifB (eqN k272 2)
    (.cast [] vs273 fun (u274 : Unit) =>
    .load (Ty.agg I.sB) (Option.some a3) fun (r275 : (Bs.den I.sB)) =>
    .store (Option.some a2) (Bs.inj I.sB r275) <|
    .load (Ty.agg I.sB) (Option.some a2) fun (r276 : (Bs.den I.sB)) =>
    .ret 0 [(Value.agg (Bs.inj I.sB r276).toArray)]) <|
  .fail
def G_At (I : Inst) (t : ((Option Addr) × Unit)) (i : Int) : Prog :=
  .alloc [(Value.pointer t.1)] fun (a1 : Addr) =>
  .alloc (Bs.inj I.iB I.zi) fun (a2 : Addr) =>
  .load (Ty.one B.ptr) (shiftTo (Option.some a1) 0) fun (p3 : (Option Addr)) =>
  .bind
    (.loop [(Ty.one (B.int IntKind.i64)), (Ty.one B.ptr)] (i, (p3, ())) fun (r63 : (Int × ((Option Addr) × Unit))) =>
      .bind
        (ifB (notB (noneB r63.2.1))
          (.ret 0 [(Value.bool (geI r63.1 0))]) <|
        .ret 0 [(Value.bool Bool.false)]) fun (k72 : Nat) =>
      fun (vs73 : (List Value)) =>
      ifB (eqN k72 0)
        (.cast [(Ty.one B.bool)] vs73 fun (r74 : (Bool × Unit)) =>
        ifB r74.1
          (grd (someB r63.2.1) <|
          grd (someB r63.2.1) <|
          .load (Ty.one B.ptr) (shiftTo r63.2.1 0) fun (p75 : (Option Addr)) =>
          .call (G_count I p75) [(Ty.one (B.int IntKind.i64))] fun (r76 : (Int × Unit)) =>
          ifB (eqI r63.1 r76.1)
            (grd (someB r63.2.1) <|
            grd (someB r63.2.1) <|
            .load (Ty.agg I.iB) (shiftTo r63.2.1 2) fun (r77 : (Bs.den I.iB)) =>
            .store (Option.some a2) (Bs.inj I.iB r77) <|
            .ret 1 [(Value.pointer (Option.some a2)), (Value.bool Bool.true)]) <|
          ifB (ltI r63.1 r76.1)
            (grd (someB r63.2.1) <|
            grd (someB r63.2.1) <|
            .load (Ty.one B.ptr) (shiftTo r63.2.1 0) fun (p78 : (Option Addr)) =>
            .ret 0 [(Value.int IntKind.i64 r63.1), (Value.pointer p78)]) <|
          grd (someB r63.2.1) <|
          grd (someB r63.2.1) <|
          .load (Ty.one B.ptr) (shiftTo r63.2.1 1) fun (p79 : (Option Addr)) =>
          .ret 0 [(Value.int IntKind.i64 (subI IntKind.i64 (subI IntKind.i64 r63.1 r76.1) 1)), (Value.pointer p79)]) <|
        .ret 2 []) <|
      .fail) fun (k80 : Nat) =>
  fun (vs81 : (List Value)) =>
  ifB (eqN k80 2)
    (.cast [] vs81 fun (u82 : Unit) =>
    .alloc (Bs.inj I.iB I.zi) fun (a83 : Addr) =>
    .load (Ty.agg I.iB) (Option.some a83) fun (r84 : (Bs.den I.iB)) =>
    .store (Option.some a2) (Bs.inj I.iB r84) <|
    .load (Ty.agg I.iB) (Option.some a2) fun (r85 : (Bs.den I.iB)) =>
    .ret 0 [(Value.agg (Bs.inj I.iB r85).toArray), (Value.bool Bool.false)]) <|
  ifB (eqN k80 1)
    (.cast [(Ty.one B.ptr), (Ty.one B.bool)] vs81 fun (r86 : ((Option Addr) × (Bool × Unit))) =>
    .load (Ty.agg I.iB) r86.1 fun (r87 : (Bs.den I.iB)) =>
    .ret 0 [(Value.agg (Bs.inj I.iB r87).toArray), (Value.bool r86.2.1)]) <|
  .fail
def G_Sum (I : Inst) (t : ((Option Addr) × Unit)) : Prog :=
  .alloc [(Value.pointer t.1)] fun (a1 : Addr) =>
  .alloc (Bs.inj I.sB I.zs) fun (a2 : Addr) =>
  .load (Ty.one B.ptr) (shiftTo (Option.some a1) 0) fun (p3 : (Option Addr)) =>
  ifB (noneB p3)
    (.alloc (Bs.inj I.sB I.zs) fun (a4 : Addr) =>
    .load (Ty.agg I.sB) (Option.some a4) fun (r5 : (Bs.den I.sB)) =>
    .store (Option.some a2) (Bs.inj I.sB r5) <|
    .load (Ty.agg I.sB) (Option.some a2) fun (r6 : (Bs.den I.sB)) =>
    .ret 0 [(Value.agg (Bs.inj I.sB r6).toArray)]) <|
  .load (Ty.one B.ptr) (shiftTo (Option.some a1) 0) fun (p7 : (Option Addr)) =>
  grd (someB p7) <|
  grd (someB p7) <|
  .load (Ty.agg I.sB) (shiftTo p7 (I.ni + 4)) fun (r8 : (Bs.den I.sB)) =>
  .store (Option.some a2) (Bs.inj I.sB r8) <|
  .load (Ty.agg I.sB) (Option.some a2) fun (r9 : (Bs.den I.sB)) =>
  .ret 0 [(Value.agg (Bs.inj I.sB r9).toArray)]
def G_Find (I : Inst) (t : ((Option Addr) × Unit)) (k : Int) (n : Int) : Prog :=
  .alloc [(Value.pointer t.1)] fun (a1 : Addr) =>
  ifB (leI n 0)
    (.ret 0 [(Value.int IntKind.i64 0)]) <|
  .alloc (Bs.inj I.sB I.zs) fun (a2 : Addr) =>
  .load (Ty.one B.ptr) (shiftTo (Option.some a1) 0) fun (p3 : (Option Addr)) =>
  .bind
    (.loop [(Ty.one (B.int IntKind.i64)), (Ty.one B.ptr)] ((0 : Int), (p3, ())) fun (r137 : (Int × ((Option Addr) × Unit))) =>
      ifB (notB (noneB r137.2.1))
        (.load (Ty.agg I.sB) (Option.some a2) fun (r138 : (Bs.den I.sB)) =>
        .alloc (Bs.inj I.sB I.zs) fun (a139 : Addr) =>
        .store (Option.some a139) (Bs.inj I.sB r138) <|
        .bind
          (grd (someB r137.2.1) <|
          grd (someB r137.2.1) <|
          .load (Ty.one B.ptr) (shiftTo r137.2.1 0) fun (p160 : (Option Addr)) =>
          ifB (notB (noneB p160))
            (.load (Ty.agg I.sB) (Option.some a2) fun (r161 : (Bs.den I.sB)) =>
            grd (someB r137.2.1) <|
            grd (someB r137.2.1) <|
            .load (Ty.one B.ptr) (shiftTo r137.2.1 0) fun (p162 : (Option Addr)) =>
            grd (someB p162) <|
            grd (someB p162) <|
            .load (Ty.agg I.sB) (shiftTo p162 (I.ni + 4)) fun (r163 : (Bs.den I.sB)) =>
            .call (I.aF r161 r163) [(Ty.agg I.sB)] fun (r164 : ((Bs.den I.sB) × Unit)) =>
            .store (Option.some a139) (Bs.inj I.sB r164.1) <|
            .ret 0 []) <|
          .ret 0 []) fun (k165 : Nat) =>
        fun (vs166 : (List Value)) =>
        ifB (eqN k165 0)
          (.cast [] vs166 fun (u167 : Unit) =>
          .load (Ty.agg I.sB) (Option.some a139) fun (r168 : (Bs.den I.sB)) =>
          .call (I.kF r168 k) [(Ty.one (B.int IntKind.i64))] fun (r169 : (Int × Unit)) =>
          ifB (geI r169.1 n)
            (grd (someB r137.2.1) <|
            grd (someB r137.2.1) <|
            .load (Ty.one B.ptr) (shiftTo r137.2.1 0) fun (p170 : (Option Addr)) =>
            .ret 0 [(Value.int IntKind.i64 r137.1), (Value.pointer p170)]) <|
          grd (someB r137.2.1) <|
          grd (someB r137.2.1) <|
          .load (Ty.one B.ptr) (shiftTo r137.2.1 0) fun (p171 : (Option Addr)) =>
          .call (G_count I p171) [(Ty.one (B.int IntKind.i64))] fun (r172 : (Int × Unit)) =>
          .load (Ty.agg I.sB) (Option.some a139) fun (r173 : (Bs.den I.sB)) =>
          grd (someB r137.2.1) <|
          grd (someB r137.2.1) <|
          .load (Ty.agg I.iB) (shiftTo r137.2.1 2) fun (r174 : (Bs.den I.iB)) =>
          .call (I.mF r174) [(Ty.agg I.sB)] fun (r175 : ((Bs.den I.sB) × Unit)) =>
          .check (Option.some a139) (Bs.inj I.sB r173) <|
          .call (I.aF r173 r175.1) [(Ty.agg I.sB)] fun (r176 : ((Bs.den I.sB) × Unit)) =>
          .store (Option.some a2) (Bs.inj I.sB r176.1) <|
          .load (Ty.agg I.sB) (Option.some a2) fun (r177 : (Bs.den I.sB)) =>
          .call (I.kF r177 k) [(Ty.one (B.int IntKind.i64))] fun (r178 : (Int × Unit)) =>
          ifB (geI r178.1 n)
            (.ret 1 [(Value.int IntKind.i64 (addI IntKind.i64 r137.1 (addI IntKind.i64 r172.1 1)))]) <|
          grd (someB r137.2.1) <|
          grd (someB r137.2.1) <|
          .load (Ty.one B.ptr) (shiftTo r137.2.1 1) fun (p179 : (Option Addr)) =>
          .ret 0 [(Value.int IntKind.i64 (addI IntKind.i64 r137.1 (addI IntKind.i64 r172.1 1))), (Value.pointer p179)]) <|
        .fail) <|
      .ret 2 [(Value.int IntKind.i64 r137.1)]) fun (k180 : Nat) =>
  fun (vs181 : (List Value)) =>
  ifB (eqN k180 2)
    (.cast [(Ty.one (B.int IntKind.i64))] vs181 fun (r182 : (Int × Unit)) =>
    .ret 0 [(Value.int IntKind.i64 (addI IntKind.i64 r182.1 1))]) <|
  ifB (eqN k180 1)
    (.cast [(Ty.one (B.int IntKind.i64))] vs181 fun (r183 : (Int × Unit)) =>
    .ret 0 [(Value.int IntKind.i64 r183.1)]) <|
  .fail
def G_Items1 (I : Inst) (yield : Value) (x1 : (Option Addr)) (x2 : (Option Addr)) : Prog :=
  grd (flatB yield) <|
  .alloc [yield] fun (a1 : Addr) =>
  .alloc [Value.nilFunc] fun (a2 : Addr) =>
  .store (Option.some a2) [(Value.func (Fn.func I.f2) #[] (#[(Value.pointer (Option.some a2)), (Value.pointer (Option.some a1))]))] <|
  .load (Ty.one B.any) (Option.some a2) fun (c3 : Value) =>
  grd (someB x1) <|
  .load (Ty.one B.ptr) (shiftTo x1 0) fun (p4 : (Option Addr)) =>
  .load (Ty.one (B.int IntKind.i64)) x2 fun (n5 : Int) =>
  .callv c3 [(Value.pointer p4), (Value.int IntKind.i64 (maxI 0 n5))] [(Ty.one B.bool)] fun (r6 : (Bool × Unit)) =>
  .ret 0 []
def G_Walk (I : Inst) (n : (Option Addr)) (from_ : Int) (x2 : (Option Addr)) (x3 : (Option Addr)) : Prog :=
  .bind
    (ifB (noneB n)
      (.ret 0 [(Value.bool Bool.true)]) <|
    grd (someB n) <|
    grd (someB n) <|
    .load (Ty.one (B.int IntKind.i64)) (shiftTo n (I.ni + 2)) fun (n55 : Int) =>
    .ret 0 [(Value.bool (geI from_ n55))]) fun (k56 : Nat) =>
  fun (vs57 : (List Value)) =>
  ifB (eqN k56 0)
    (.cast [(Ty.one B.bool)] vs57 fun (r58 : (Bool × Unit)) =>
    ifB r58.1
      (.ret 0 [(Value.bool Bool.true)]) <|
    grd (someB n) <|
    grd (someB n) <|
    .load (Ty.one B.ptr) (shiftTo n 0) fun (p59 : (Option Addr)) =>
    .call (G_count I p59) [(Ty.one (B.int IntKind.i64))] fun (r60 : (Int × Unit)) =>
    .bind
      (ifB (ltI from_ r60.1)
        (.load (Ty.one B.any) x2 fun (c85 : Value) =>
        grd (someB n) <|
        grd (someB n) <|
        .load (Ty.one B.ptr) (shiftTo n 0) fun (p86 : (Option Addr)) =>
        .callv c85 [(Value.pointer p86), (Value.int IntKind.i64 from_)] [(Ty.one B.bool)] fun (r87 : (Bool × Unit)) =>
        .ret 0 [(Value.bool (notB r87.1))]) <|
      .ret 0 [(Value.bool Bool.false)]) fun (k88 : Nat) =>
    fun (vs89 : (List Value)) =>
    ifB (eqN k88 0)
      (.cast [(Ty.one B.bool)] vs89 fun (r90 : (Bool × Unit)) =>
      ifB r90.1
        (.ret 0 [(Value.bool Bool.false)]) <|
      .bind
        (ifB (leI from_ r60.1)
          (.load (Ty.one B.any) x3 fun (c100 : Value) =>
          grd (someB n) <|
          grd (someB n) <|
          .load (Ty.agg I.iB) (shiftTo n 2) fun (r101 : (Bs.den I.iB)) =>
          .callv c100 [(Value.agg (Bs.inj I.iB r101).toArray)] [(Ty.one B.bool)] fun (r102 : (Bool × Unit)) =>
          .ret 0 [(Value.bool (notB r102.1))]) <|
        .ret 0 [(Value.bool Bool.false)]) fun (k103 : Nat) =>
      fun (vs104 : (List Value)) =>
      ifB (eqN k103 0)
        (.cast [(Ty.one B.bool)] vs104 fun (r105 : (Bool × Unit)) =>
        ifB r105.1
          (.ret 0 [(Value.bool Bool.false)]) <|
        .load (Ty.one B.any) x2 fun (c106 : Value) =>
        grd (someB n) <|
        grd (someB n) <|
        .load (Ty.one B.ptr) (shiftTo n 1) fun (p107 : (Option Addr)) =>
        .callv c106 [(Value.pointer p107), (Value.int IntKind.i64 (maxI 0 (subI IntKind.i64 (subI IntKind.i64 from_ r60.1) 1)))] [(Ty.one B.bool)] fun (r108 : (Bool × Unit)) =>
        .ret 0 [(Value.bool r108.1)]) <|
      .fail) <|
    .fail) <|
  .fail
end Go.Sw.Any

set_option linter.unusedVariables false
set_option linter.unusedSimpArgs false
set_option maxRecDepth 100000
namespace Go.Sw.Any
open Go.Sw.Tree (iv s_putAll s_newP s_getP s_getT s_putP small_ne cells_upd wp_whileG least TR)
variable {P : Program} {I : Inst} {h : Heap} {Q : Nat → List Value → Heap → Prop}

/-- What comes is of Z. -/
def Fresh (I : Inst) (h : Heap) : Prop := ∀ i, h.size ≤ i → I.Z i
theorem Fresh.ext {h h' : Heap} (f : Fresh I h) (e : Ext h h') : Fresh I h' := fun i hi => f i (Nat.le_trans e.size hi)
theorem Fresh.chg {F : Nat → Prop} {h h' : Heap} (f : Fresh I h) (e : Chg F h h') : Fresh I h' := fun i hi => f i (Nat.le_trans e.1 hi)
/-- The laws of a kind of things. -/
structure Inst.Ok (P : Program) (I : Inst) : Prop where
  i1 : 1 ≤ I.ni ∧ I.ni ≤ 100
  s1 : 1 ≤ I.ns ∧ I.ns ≤ 100
  fi : ∀ (x : I.It) v, v ∈ Bs.inj I.iB x → flat v = true
  fs : ∀ (x : I.Su) v, v ∈ Bs.inj I.sB x → flat v = true
  w1 : ∀ x, 1 ≤ I.wt x
  v0 : I.V 0 I.zs
  vm : ∀ x, I.okI x → I.V (I.wt x) (I.meas x)
  va : ∀ n m s o, I.V n s → I.V m o → I.V (n + m) (I.add s o)
  mono : ∀ n m s, I.V n s → n ≤ m → I.V m s
  az : ∀ n s, I.V n s → I.add s I.zs = s
  za : ∀ n s, I.V n s → I.add I.zs s = s
  assoc : ∀ n m k x y z, I.V n x → I.V m y → I.V k z → I.add (I.add x y) z = I.add x (I.add y z)
  key0 : ∀ k, I.key I.zs k = 0
  kmono : ∀ n m s o k, I.V n s → I.V m o → I.key s k ≤ I.key (I.add s o) k
  cm : ∀ (h : Heap) x, I.okI x → Gives P (I.mF x) [.agg I.sB] h fun (y : I.Su × Unit) _ => y.1 = I.meas x
  ca : ∀ (h : Heap) n m s o, I.V n s → I.V m o → n + m ≤ 4398046511104 → Gives P (I.aF s o) [.agg I.sB] h fun (y : I.Su × Unit) _ => y.1 = I.add s o
  ck : ∀ (h : Heap) n s k, I.V n s → n ≤ 4398046511104 → Gives P (I.kF s k) [.one (.int .i64)] h fun (y : Int × Unit) _ => y.1 = I.key s k

def Inst.sum (I : Inst) (l : List I.It) : I.Su := l.foldl (fun s r => I.add s (I.meas r)) I.zs
def Inst.W (I : Inst) (l : List I.It) : Nat := (l.map I.wt).sum
def Inst.wf (I : Inst) (l : List I.It) : Prop := ∀ r, r ∈ l → I.okI r

theorem W_append (l m : List I.It) : I.W (l ++ m) = I.W l + I.W m := by simp [Inst.W]
theorem W_cons (x : I.It) (l : List I.It) : I.W (x :: l) = I.wt x + I.W l := by simp [Inst.W]
theorem W_len (O : I.Ok P) (l : List I.It) : l.length ≤ I.W l := by
  induction l with
  | nil => exact Nat.le_refl _
  | cons x l ih => rw [W_cons]; have := O.w1 x; simp only [List.length_cons]; omega
theorem W_take (l : List I.It) (n : Nat) : I.W (l.take n) ≤ I.W l := by
  have := W_append (l.take n) (l.drop n)
  rw [List.take_append_drop] at this; omega
theorem W_drop (l : List I.It) (n : Nat) : I.W (l.drop n) ≤ I.W l := by
  have := W_append (l.take n) (l.drop n)
  rw [List.take_append_drop] at this; omega

theorem V.fold (O : I.Ok P) {l : List I.It} (hl : I.wf l) : ∀ {n : Nat} {s : I.Su}, I.V n s → I.V (n + I.W l) (l.foldl (fun s r => I.add s (I.meas r)) s) := by
  induction l with
  | nil => intro n s v; exact v
  | cons r l ih =>
    intro n s v
    have := ih (fun x hx => hl x (List.mem_cons_of_mem _ hx)) (O.va _ _ _ _ v (O.vm r (hl r (List.mem_cons_self ..))))
    exact O.mono _ _ _ this (by rw [W_cons]; omega)
theorem V.sum (O : I.Ok P) {l : List I.It} (hl : I.wf l) : I.V (I.W l) (I.sum l) := O.mono _ _ _ (V.fold O hl O.v0) (by omega)
theorem fold_add (O : I.Ok P) {l : List I.It} (hl : I.wf l) : ∀ {n m : Nat} {s o : I.Su}, I.V n s → I.V m o →
    l.foldl (fun s r => I.add s (I.meas r)) (I.add s o) = I.add s (l.foldl (fun s r => I.add s (I.meas r)) o) := by
  induction l with
  | nil => intros; rfl
  | cons r l ih =>
    intro n m s o v w
    have hr := O.vm r (hl r (List.mem_cons_self ..))
    simp only [List.foldl_cons]
    rw [O.assoc _ _ _ _ _ _ v w hr]
    exact ih (fun x hx => hl x (List.mem_cons_of_mem _ hx)) v (O.va _ _ _ _ w hr)
theorem sum_append (O : I.Ok P) {l m : List I.It} (hl : I.wf l) (hm : I.wf m) : I.sum (l ++ m) = I.add (I.sum l) (I.sum m) := by
  unfold Inst.sum
  rw [List.foldl_append]
  have := fold_add O hm (V.sum O hl) O.v0
  rw [O.az _ _ (V.sum O hl)] at this
  exact this
theorem sum_snoc (l : List I.It) (r : I.It) : I.sum (l ++ [r]) = I.add (I.sum l) (I.meas r) := by unfold Inst.sum; rw [List.foldl_append]; rfl
theorem sum_nil : I.sum [] = I.zs := rfl

theorem inj_len : ∀ (bs : List B) (x : Bs.den bs), (Bs.inj bs x).length = bs.length := by
  intro bs
  induction bs with
  | nil => intro x; rfl
  | cons b bs ih => intro x; simp [Bs.inj, ih]

/-! ### Objects of some cells -/
theorem s_newO {bs : List B} (x : Bs.den bs) (hs : bs.length ≤ 100) {K : Addr → Prog} (hk : ∀ h', Ext h h' → Own h.size 1 h' ⟨some ⟨h.size, 0, none⟩, bs.length, bs.length⟩ (Bs.inj bs x) → wp P (K ⟨h.size, 0, none⟩) h' Q) : wp P (.alloc (Bs.inj bs x) K) h Q :=
  fun elem => hk _ (Ext.push ..) (own_alloc (by rw [inj_len]; omega) (by decide) (by omega))
theorem s_getO {bs : List B} {n c d : Nat} {a : Addr} {x : Bs.den bs} {K : Bs.den bs → Prog} (ho : Own n 1 h ⟨some a, c, d⟩ (Bs.inj bs x)) (hk : wp P (K x) h Q) : wp P (.load (.agg bs) (some a) K) h Q := ⟨a, rfl, x, ho.cells, hk⟩
theorem s_ckO {bs : List B} {n c d : Nat} {a : Addr} {x : Bs.den bs} {K : Prog} (ho : Own n 1 h ⟨some a, c, d⟩ (Bs.inj bs x)) (hk : wp P K h Q) : wp P (.check (some a) (Bs.inj bs x) K) h Q := s_check0 rfl ho.cells hk
theorem s_stoO {bs : List B} {n c d : Nat} {a : Addr} {x : Bs.den bs} (y : Bs.den bs) {K : Prog} (ho : Own n 1 h ⟨some a, c, d⟩ (Bs.inj bs x)) (hf : ∀ v, v ∈ Bs.inj bs y → flat v = true)
    (hk : ∀ h', Own n 1 h' ⟨some a, c, d⟩ (Bs.inj bs y) → Upd ⟨some a, c, d⟩ h h' → wp P K h' Q) : wp P (.store (some a) (Bs.inj bs y) K) h Q := s_putAll (Bs.inj bs y) ho (by rw [inj_len, inj_len]) hf hk
theorem s_putO {bs : List B} {z : Bs.den bs} (y : Bs.den bs) (hs : bs.length ≤ 100) (hf : ∀ v, v ∈ Bs.inj bs y → flat v = true) {K : Addr → Prog}
    (hk : ∀ h', Ext h h' → Own h.size 1 h' ⟨some ⟨h.size, 0, none⟩, bs.length, bs.length⟩ (Bs.inj bs y) → wp P (K ⟨h.size, 0, none⟩) h' Q) : wp P (.alloc (Bs.inj bs z) fun a => .store (some a) (Bs.inj bs y) (K a)) h Q :=
  s_newO z hs fun h1 e1 o1 => s_stoO y o1 hf fun h2 o2 u2 => hk h2 (Upd.extN e1 u2 (by intro a ha; cases ha; exact Nat.le_refl _)) o2
theorem s_tellO {bs : List B} {n c d : Nat} {a : Addr} {x : Bs.den bs} (y : Bs.den bs) {R : Nat → List Value → Heap → Prop} {h0 : Heap} (ho : Own n 1 h ⟨some a, c, d⟩ (Bs.inj bs x)) (hn : h0.size ≤ n) (e : Ext h0 h) (hf : ∀ v, v ∈ Bs.inj bs y → flat v = true)
    (hr : ∀ h', Ext h0 h' → R 0 [.agg (Bs.inj bs y).toArray] h') : wp P (.store (some a) (Bs.inj bs y) <| .load (.agg bs) (some a) fun r => .ret 0 [.agg (Bs.inj bs r).toArray]) h R :=
  s_stoO y ho hf fun h1 o1 u1 => s_getO o1 (s_ret (hr h1 (Upd.extN e u1 (by intro b hb; cases hb; have := (ho.lt rfl).1; exact Nat.le_trans hn this))))
theorem ob_upd {n c d c' d' : Nat} {h' : Heap} {a b : Addr} {vs : List Value} (o : Own n 1 h ⟨some a, c, d⟩ vs) (u : Upd ⟨some b, c', d'⟩ h h') (hne : b.block ≠ a.block) : Own n 1 h' ⟨some a, c, d⟩ vs :=
  o.keep fun x hx => u.2.1 _ (o.lt hx).2 fun y hy => by cases hx; cases hy; exact hne

/-! ### Lists of things -/
def cI (I : Inst) (l : List I.It) : List Value := l.flatMap fun r => Bs.inj I.iB r
theorem cI_len (l : List I.It) : (cI I l).length = l.length * I.ni := by
  unfold cI
  induction l with
  | nil => simp
  | cons r l ih => rw [List.flatMap_cons, List.length_append, ih, inj_len, List.length_cons, Nat.add_mul]; unfold Inst.ni; omega
theorem cI_cons (x : I.It) (l : List I.It) : cI I (x :: l) = Bs.inj I.iB x ++ cI I l := by simp [cI]
theorem cI_at (l : List I.It) : ∀ (j : Nat) (r : I.It), l[j]? = some r → ∀ (i : Nat) (v : Value), (Bs.inj I.iB r)[i]? = some v → (cI I l)[j * I.ni + i]? = some v := by
  induction l with
  | nil => intro j r h; simp at h
  | cons x l ih =>
    intro j r h i v hv
    have hx := inj_len I.iB x
    rw [cI_cons]
    cases j with
    | zero =>
      simp at h; subst h
      have := (List.getElem?_eq_some_iff.1 hv).1
      rw [List.getElem?_append_left (by omega)]
      simpa using hv
    | succ j =>
      have := ih j r (by simpa using h) i v hv
      have h2 : (j + 1) * I.ni = j * I.ni + I.ni := Nat.succ_mul ..
      have h3 : (Bs.inj I.iB x).length = I.ni := hx
      rw [List.getElem?_append_right (by omega), h3, show (j + 1) * I.ni + i - I.ni = j * I.ni + i by omega]; exact this
theorem cI_take (l : List I.It) (n : Nat) : (cI I l).take (n * I.ni) = cI I (l.take n) := by
  induction l generalizing n with
  | nil => simp [cI]
  | cons x l ih =>
    cases n with
    | zero => simp [cI]
    | succ n =>
      have hx : (Bs.inj I.iB x).length = I.ni := inj_len _ _
      have h2 : (n + 1) * I.ni = I.ni + n * I.ni := by rw [Nat.succ_mul]; omega
      rw [cI_cons, List.take_succ_cons, cI_cons, h2, List.take_append, List.take_of_length_le (by omega), hx, Nat.add_sub_cancel_left, ih]
theorem cI_drop (l : List I.It) (n : Nat) : (cI I l).drop (n * I.ni) = cI I (l.drop n) := by
  induction l generalizing n with
  | nil => simp [cI]
  | cons x l ih =>
    cases n with
    | zero => simp
    | succ n =>
      have hx : (Bs.inj I.iB x).length = I.ni := inj_len _ _
      have h2 : (n + 1) * I.ni = I.ni + n * I.ni := by rw [Nat.succ_mul]; omega
      rw [cI_cons, List.drop_succ_cons, h2, List.drop_append, List.drop_of_length_le (by omega), hx, Nat.add_sub_cancel_left, ih, List.nil_append]
theorem wf_append {l m : List I.It} (a : I.wf l) (b : I.wf m) : I.wf (l ++ m) := fun r hr => (List.mem_append.1 hr).elim (a r) (b r)
theorem wf_take {l : List I.It} (a : I.wf l) (n : Nat) : I.wf (l.take n) := fun r hr => a r (List.mem_of_mem_take hr)
theorem wf_drop {l : List I.It} (a : I.wf l) (n : Nat) : I.wf (l.drop n) := fun r hr => a r (List.mem_of_mem_drop hr)
structure Its (I : Inst) (h : Heap) (s : Sl) (l : List I.It) : Prop where
  rd : Rd I.ni h s (cI I l)
  cap : s.len ≤ s.cap
  max : s.cap < 2 ^ 63
  wf : I.wf l
theorem Its.len (O : I.Ok P) {s : Sl} {l : List I.It} (r : Its I h s l) : s.len = l.length := by
  have := r.rd.1
  rw [cI_len] at this
  exact Nat.eq_of_mul_eq_mul_right O.i1.1 this
theorem Its.ext {h' : Heap} {s : Sl} {l : List I.It} (r : Its I h s l) (e : Ext h h') : Its I h' s l := ⟨e.rd r.rd, r.cap, r.max, r.wf⟩
theorem Its.take (O : I.Ok P) {s : Sl} {l : List I.It} (hr : Its I h s l) {n m : Nat} (hn : n ≤ l.length) (hm : n ≤ m) (hm' : m < 2 ^ 63) : Its I h ⟨s.base, n, m⟩ (l.take n) :=
  ⟨by have := Rd.take hr.rd (n := n) (by rw [hr.len O]; exact hn) m; rw [cI_take] at this; exact this, hm, hm', wf_take hr.wf n⟩
theorem Its.drop (O : I.Ok P) {s : Sl} {l : List I.It} (hr : Its I h s l) {i m : Nat} (hi : i ≤ l.length) (hm : s.len - i ≤ m) (hm' : m < 2 ^ 63) : Its I h ⟨cutBase s.base s.cap i I.ni, s.len - i, m⟩ (l.drop i) :=
  ⟨by have := Rd.drop hr.rd (i := i) (by rw [hr.len O]; exact hi) hr.cap m; rw [cI_drop] at this; exact this, hm, hm', wf_drop hr.wf i⟩

theorem its_cells {s : Sl} {l : List I.It} {j : Nat} {r : I.It} (hr : Its I h s l) (h1 : 1 ≤ I.ni) (hj : l[j]? = some r) : ∃ a, s.base = some a ∧ Cells h (a.add (j * I.ni)) (Bs.inj I.iB r) := by
  have hl : (Bs.inj I.iB r).length = I.ni := inj_len _ _
  obtain ⟨a, e, c⟩ := hr.rd.2 _ _ (cI_at l j r hj 0 _ (List.getElem?_eq_getElem (by omega)))
  refine ⟨a, e, cells_iff.2 fun i v hi => ?_⟩
  obtain ⟨a', e', c'⟩ := hr.rd.2 _ _ (cI_at l j r hj i v hi)
  rw [e] at e'; cases e'
  rw [add_add]; exact c'
/-- l[j]. -/
theorem s_atI (O : I.Ok P) {s : Sl} {l : List I.It} {K : I.It → Prog} {j : Int} (hr : Its I h s l) (h0 : 0 ≤ j) (h1 : j < l.length)
    (hk : ∀ r, l[j.toNat]? = some r → wp P (K r) h Q) : wp P (grd (andB (someB s.base) (inB j s.len)) (.load (.agg I.iB) (shiftTo s.base (mulN (toN j) I.ni)) K)) h Q := by
  have hj : l[j.toNat]? = some l[j.toNat] := List.getElem?_eq_getElem (by omega)
  obtain ⟨a, e, c⟩ := its_cells hr O.i1.1 hj
  have := hr.len O
  exact wp_grd (andB_iff.2 ⟨by simp [someB, e], inB_is.2 ⟨h0, by omega⟩⟩) ⟨a.add (j.toNat * I.ni), by simp [shiftTo, e, mulN, toN], l[j.toNat], c, hk _ hj⟩
theorem s_sameI (O : I.Ok P) {s : Sl} {l : List I.It} {K : Prog} {j : Nat} {r : I.It} (hr : Its I h s l) (hj : l[j]? = some r) (hk : wp P K h Q) : wp P (.check (shiftTo s.base (mulN j I.ni)) (Bs.inj I.iB r) K) h Q := by
  obtain ⟨a, e, c⟩ := its_cells hr O.i1.1 hj
  exact ⟨⟨a.add (j * I.ni), by simp [shiftTo, e, mulN], c⟩, hk⟩

/-! ### Nodes -/
inductive Bt (α : Type) where
  | nil
  | node (l : Bt α) (x : α) (r : Bt α)
def Bt.list {α : Type} : Bt α → List α
  | .nil => []
  | .node l x r => l.list ++ x :: r.list
def Bt.ht {α : Type} : Bt α → Nat
  | .nil => 0
  | .node l _ r => max l.ht r.ht + 1
theorem Bt.ht_le {α : Type} : ∀ t : Bt α, t.ht ≤ t.list.length
  | .nil => Nat.le_refl _
  | .node l x r => by have := l.ht_le; have := r.ht_le; simp only [Bt.ht, Bt.list, List.length_append, List.length_cons]; omega
theorem node_len {α : Type} (l r : Bt α) (x : α) : (Bt.node l x r).list.length = l.list.length + 1 + r.list.length := by simp [Bt.list]; omega

def headV (I : Inst) (pl pr : Option Addr) (t : Bt I.It) (x : I.It) : List Value := [.pointer pl, .pointer pr] ++ (Bs.inj I.iB x ++ [iv t.list.length, iv t.ht])
theorem headV_len (pl pr : Option Addr) (t : Bt I.It) (x : I.It) : (headV I pl pr t x).length = I.ni + 4 := by
  simp only [headV, List.length_append, List.length_cons, List.length_nil, inj_len]; unfold Inst.ni; omega
def NdC (I : Inst) (h : Heap) (a : Addr) (pl pr : Option Addr) (l : Bt I.It) (x : I.It) (r : Bt I.It) : Prop := Cells h a (headV I pl pr (.node l x r) x ++ Bs.inj I.sB (I.sum (Bt.node l x r).list)) ∧ I.Z a.block ∧ a.off = 0 ∧ a.spot = none
def Nd (I : Inst) (h : Heap) : Option Addr → Bt I.It → Prop
  | p, .nil => p = none
  | p, .node l x r => ∃ a pl pr, p = some a ∧ NdC I h a pl pr l x r ∧ Nd I h pl l ∧ Nd I h pr r
theorem NdC.ext {h' : Heap} {a : Addr} {pl pr : Option Addr} {l r : Bt I.It} {x : I.It} (c : NdC I h a pl pr l x r) (e : Ext h h') : NdC I h' a pl pr l x r := ⟨e.cells c.1, c.2⟩
theorem Nd.ext {h' : Heap} (e : Ext h h') : ∀ {t : Bt I.It} {p : Option Addr}, Nd I h p t → Nd I h' p t
  | .nil, _, n => n
  | .node l x r, p, ⟨a, pl, pr, e1, c, n1, n2⟩ => ⟨a, pl, pr, e1, c.ext e, Nd.ext e n1, Nd.ext e n2⟩
theorem Nd.chg {F : Nat → Prop} {h' : Heap} (e : Chg F h h') (hF : ∀ i, i < h.size → I.Z i → ¬ F i) : ∀ {t : Bt I.It} {p : Option Addr}, Nd I h p t → Nd I h' p t
  | .nil, _, n => n
  | .node l x r, p, ⟨a, pl, pr, e1, c, n1, n2⟩ => ⟨a, pl, pr, e1, ⟨cells_iff.2 fun j v hj => by
      have q := cells_iff.1 c.1 j v hj
      have hlt := cell_lt q
      have hz := c.2.1
      rw [add_block] at hlt
      rw [cell_of_block (h := h) (by rw [add_block]; exact e.2.1 _ hlt (hF _ hlt hz))]; exact q, c.2⟩, Nd.chg e hF n1, Nd.chg e hF n2⟩
theorem wf_left {l r : Bt I.It} {x : I.It} (w : I.wf (Bt.node l x r).list) : I.wf l.list := fun y hy => w y (by simp [Bt.list, hy])
theorem wf_right {l r : Bt I.It} {x : I.It} (w : I.wf (Bt.node l x r).list) : I.wf r.list := fun y hy => w y (by simp [Bt.list, hy])
theorem wf_mid {l r : Bt I.It} {x : I.It} (w : I.wf (Bt.node l x r).list) : I.okI x := w x (by simp [Bt.list])
theorem node_W (l r : Bt I.It) (x : I.It) : I.W (Bt.node l x r).list = I.W l.list + I.wt x + I.W r.list := by simp only [Bt.list]; rw [W_append, W_cons]; omega
theorem sum_node (O : I.Ok P) {l r : Bt I.It} {x : I.It} (w : I.wf (Bt.node l x r).list) : I.sum (Bt.node l x r).list = I.add (I.add (I.sum l.list) (I.meas x)) (I.sum r.list) := by
  have h1 : I.wf [x] := fun y hy => by rw [List.mem_singleton.1 hy]; exact wf_mid w
  rw [show (Bt.node l x r).list = (l.list ++ [x]) ++ r.list by simp [Bt.list], sum_append O (wf_append (wf_left w) h1) (wf_right w), sum_snoc]

/-- Some cells in the middle. -/
theorem cells_mid {a : Addr} {pre mid post : List Value} {j : Nat} (c : Cells h a (pre ++ (mid ++ post))) (hj : j = pre.length) : Cells h (a.add j) mid :=
  cells_iff.2 fun i v hi => by
    rw [add_add]
    refine cells_iff.1 c (j + i) v ?_
    rw [List.getElem?_append_right (by omega), show j + i - pre.length = i by omega, List.getElem?_append_left (List.getElem?_eq_some_iff.1 hi).1]; exact hi
theorem NdC.item {a : Addr} {pl pr : Option Addr} {l r : Bt I.It} {x : I.It} (c : NdC I h a pl pr l x r) : Cells h (a.add 2) (Bs.inj I.iB x) := by
  replace c := c.1
  unfold headV at c
  rw [List.append_assoc, List.append_assoc] at c
  exact cells_mid c rfl
theorem NdC.sum {a : Addr} {pl pr : Option Addr} {l r : Bt I.It} {x : I.It} (c : NdC I h a pl pr l x r) : Cells h (a.add (I.ni + 4)) (Bs.inj I.sB (I.sum (Bt.node l x r).list)) :=
  cells_mid (post := []) (by rw [List.append_nil]; exact c.1) (headV_len ..).symm
theorem NdC.nums {a : Addr} {pl pr : Option Addr} {l r : Bt I.It} {x : I.It} (c : NdC I h a pl pr l x r) : Sw.cell h (a.add (I.ni + 2)) = some (iv (Bt.node l x r).list.length) ∧ Sw.cell h (a.add (I.ni + 3)) = some (iv (Bt.node l x r).ht) := by
  replace c := c.1
  unfold headV at c
  rw [← List.append_assoc [Value.pointer pl, Value.pointer pr] (Bs.inj I.iB x), List.append_assoc] at c
  have := cells_mid (j := I.ni + 2) c (by simp only [List.length_append, List.length_cons, List.length_nil, inj_len]; unfold Inst.ni; omega)
  have h0 := cells_iff.1 this 0 _ rfl
  have h1 := cells_iff.1 this 1 _ rfl
  rw [add_zero'] at h0
  rw [add_add] at h1
  exact ⟨h0, h1⟩
theorem NdC.left {a : Addr} {pl pr : Option Addr} {l r : Bt I.It} {x : I.It} (c : NdC I h a pl pr l x r) : Sw.cell h (a.add 0) = some (.pointer pl) := cells_iff.1 c.1 0 _ rfl
theorem NdC.right {a : Addr} {pl pr : Option Addr} {l r : Bt I.It} {x : I.It} (c : NdC I h a pl pr l x r) : Sw.cell h (a.add 1) = some (.pointer pr) := cells_iff.1 c.1 1 _ rfl

theorem q_left {a : Addr} {pl pr : Option Addr} {l r : Bt I.It} {x : I.It} {K : Option Addr → Prog} (c : NdC I h a pl pr l x r) (hk : wp P (K pl) h Q) : wp P (grd (someB (some a)) <| grd (someB (some a)) <| .load (.one .ptr) (shiftTo (some a) 0) K) h Q :=
  wp_grd rfl (wp_grd rfl (wp_load1 (b := .ptr) (a.add 0) pl rfl c.left hk))
theorem q_right {a : Addr} {pl pr : Option Addr} {l r : Bt I.It} {x : I.It} {K : Option Addr → Prog} (c : NdC I h a pl pr l x r) (hk : wp P (K pr) h Q) : wp P (grd (someB (some a)) <| grd (someB (some a)) <| .load (.one .ptr) (shiftTo (some a) 1) K) h Q :=
  wp_grd rfl (wp_grd rfl (wp_load1 (b := .ptr) (a.add 1) pr rfl c.right hk))
theorem q_item {a : Addr} {pl pr : Option Addr} {l r : Bt I.It} {x : I.It} {K : I.It → Prog} (c : NdC I h a pl pr l x r) (hk : wp P (K x) h Q) : wp P (grd (someB (some a)) <| grd (someB (some a)) <| .load (.agg I.iB) (shiftTo (some a) 2) K) h Q :=
  wp_grd rfl (wp_grd rfl ⟨a.add 2, rfl, x, c.item, hk⟩)
theorem q_sum {a : Addr} {pl pr : Option Addr} {l r : Bt I.It} {x : I.It} {K : I.Su → Prog} (c : NdC I h a pl pr l x r) (hk : wp P (K (I.sum (Bt.node l x r).list)) h Q) : wp P (grd (someB (some a)) <| grd (someB (some a)) <| .load (.agg I.sB) (shiftTo (some a) (I.ni + 4)) K) h Q :=
  wp_grd rfl (wp_grd rfl ⟨a.add (I.ni + 4), rfl, _, c.sum, hk⟩)
theorem q_ckL {a : Addr} {pl pr : Option Addr} {l r : Bt I.It} {x : I.It} {K : Prog} (c : NdC I h a pl pr l x r) (hk : wp P K h Q) : wp P (.check (shiftTo (some a) 0) [.pointer pl] K) h Q :=
  s_check0 rfl (cells_iff.2 fun i v hi => by match i, hi with | 0, hi => simp at hi; subst hi; rw [add_zero']; exact c.left | i + 1, hi => simp at hi) hk
theorem q_ckR {a : Addr} {pl pr : Option Addr} {l r : Bt I.It} {x : I.It} {K : Prog} (c : NdC I h a pl pr l x r) (hk : wp P K h Q) : wp P (.check (shiftTo (some a) 1) [.pointer pr] K) h Q :=
  s_check0 rfl (cells_iff.2 fun i v hi => by match i, hi with | 0, hi => simp at hi; subst hi; rw [add_zero']; exact c.right | i + 1, hi => simp at hi) hk
theorem q_ckI {a : Addr} {pl pr : Option Addr} {l r : Bt I.It} {x : I.It} {K : Prog} (c : NdC I h a pl pr l x r) (hk : wp P K h Q) : wp P (.check (shiftTo (some a) 2) (Bs.inj I.iB x) K) h Q :=
  s_check0 rfl c.item hk

theorem c_count {p : Option Addr} {t : Bt I.It} (ht : Nd I h p t) : Gives P (G_count I p) [.one (.int .i64)] h fun (x : Int × Unit) _ => x.1 = t.list.length := by
  unfold G_count Gives
  cases t with
  | nil => obtain rfl := ht; exact s_ifT (s_ret ⟨rfl, Ext.refl _, (0, ()), rfl, rfl⟩)
  | node l x r =>
    obtain ⟨a, pl, pr, rfl, c, _, _⟩ := ht
    exact s_ifF (wp_grd rfl (wp_grd rfl (wp_load1 (b := .int .i64) (a.add (I.ni + 2)) _ rfl c.nums.1 (s_ret ⟨rfl, Ext.refl _, (((Bt.node l x r).list.length : Nat), ()), rfl, rfl⟩))))
theorem c_tall {p : Option Addr} {t : Bt I.It} (ht : Nd I h p t) : Gives P (G_tall I p) [.one (.int .i64)] h fun (x : Int × Unit) _ => x.1 = t.ht := by
  unfold G_tall Gives
  cases t with
  | nil => obtain rfl := ht; exact s_ifT (s_ret ⟨rfl, Ext.refl _, (0, ()), rfl, rfl⟩)
  | node l x r =>
    obtain ⟨a, pl, pr, rfl, c, _, _⟩ := ht
    exact s_ifF (wp_grd rfl (wp_grd rfl (wp_load1 (b := .int .i64) (a.add (I.ni + 3)) _ rfl c.nums.2 (s_ret ⟨rfl, Ext.refl _, (((Bt.node l x r).ht : Nat), ()), rfl, rfl⟩))))

/-- The part of an object at its end, read and written. -/
theorem s_getEnd {bs : List B} {n m c j : Nat} {a : Addr} {pre : List Value} {x : Bs.den bs} {K : Bs.den bs → Prog} (ho : Own n 1 h ⟨some a, m, c⟩ (pre ++ Bs.inj bs x)) (hj : j = pre.length) (hk : wp P (K x) h Q) : wp P (.load (.agg bs) (shiftTo (some a) j) K) h Q :=
  ⟨a.add j, rfl, x, cells_mid (post := []) (by rw [List.append_nil]; exact ho.cells) hj, hk⟩

theorem c_of (O : I.Ok P) {pl pr : Option Addr} {l r : Bt I.It} {x : I.It} (nl : Nd I h pl l) (nr : Nd I h pr r) (hw : I.wf (Bt.node l x r).list) (hroom : I.W (Bt.node l x r).list ≤ 4398046511104) (hfr : Fresh I h := by repeat (first | assumption | refine Fresh.ext ?_ (by assumption))) :
    Gives P (G_of I pl x pr) [.one .ptr] h fun (y : Option Addr × Unit) h' => Nd I h' y.1 (.node l x r) := by
  have hx := wf_mid hw
  have hl := node_len l r x
  have hlw := W_len O (Bt.node l x r).list
  have hnw := node_W l r x
  have hsum := sum_node O hw
  have vl := V.sum O (wf_left hw)
  have vr := V.sum O (wf_right hw)
  have vm := O.vm x hx
  have g1 := l.ht_le; have g2 := r.ht_le
  unfold G_of Gives
  refine s_newO x O.i1.2 fun h1 e1 o1 => s_getO o1 ?_
  have ck : ∀ {h'} {K : Prog} {Q : Nat → List Value → Heap → Prop}, Ext h1 h' → wp P K h' Q → wp P (.check (some ⟨h.size, 0, none⟩) (Bs.inj I.iB x) K) h' Q := fun e hk => s_ckO (o1.ext e) hk
  refine wp_call (c_count (nl.ext e1)) fun y h2 e2 hy => ck e2 (wp_call (c_count (nr.ext (e1.trans e2))) fun z h3 e3 hz => ck (e2.trans e3) (wp_call (c_tall (nl.ext ((e1.trans e2).trans e3))) fun y' h4 e4 hy' =>
    ck ((e2.trans e3).trans e4) (wp_call (c_tall (nr.ext (((e1.trans e2).trans e3).trans e4))) fun z' h5 e5 hz' => ck (((e2.trans e3).trans e4).trans e5) ?_)))
  obtain ⟨(y : Int), w1⟩ := y
  obtain ⟨(z : Int), w2⟩ := z
  obtain ⟨(y' : Int), w3⟩ := y'
  obtain ⟨(z' : Int), w4⟩ := z'
  dsimp only at hy hz hy' hz' ⊢
  have e15 := ((e2.trans e3).trans e4).trans e5
  have hcnt : addI .i64 (addI .i64 y 1) z = (((Bt.node l x r).list.length : Nat) : Int) := by
    rw [add_ok (a := y) (by omega) (by omega), add_ok (by omega) (by omega)]; omega
  have htl : addI .i64 (maxI y' z') 1 = (((Bt.node l x r).ht : Nat) : Int) := by
    have : maxI y' z' = max y' z' := by unfold maxI; split <;> omega
    rw [this, add_ok (by omega) (by omega)]; simp only [Bt.ht]; omega
  have hlist : ([Value.pointer pl, Value.pointer pr] ++ (Bs.inj I.iB x ++ ([iv ((Bt.node l x r).list.length : Nat), iv ((Bt.node l x r).ht : Nat)] ++ Bs.inj I.sB I.zs))) = headV I pl pr (.node l x r) x ++ Bs.inj I.sB I.zs := by
    simp only [headV, List.append_assoc]
  rw [hcnt, htl, hlist]
  intro elem
  have hhl := headV_len pl pr (Bt.node l x r) x
  have i1 := O.i1
  have s1 := O.s1
  have nsl : (Bs.inj I.sB I.zs).length = I.ns := inj_len _ _
  have o6 : Own h5.size 1 (h5.push (.cells (headV I pl pr (.node l x r) x ++ Bs.inj I.sB I.zs).toArray elem)) ⟨some ⟨h5.size, 0, none⟩, I.ni + 4 + I.ns, I.ni + 4 + I.ns⟩ (headV I pl pr (.node l x r) x ++ Bs.inj I.sB I.zs) :=
    own_alloc (by rw [List.length_append]; omega) (by decide) (by omega)
  have e6 : Ext h5 (h5.push (.cells (headV I pl pr (.node l x r) x ++ Bs.inj I.sB I.zs).toArray elem)) := Ext.push ..
  generalize (h5.push (.cells (headV I pl pr (.node l x r) x ++ Bs.inj I.sB I.zs).toArray elem)) = h6 at o6 e6 ⊢
  have e05 : Ext h h5 := e1.trans e15
  refine s_getO (o1.ext (e15.trans e6)) (wp_call (O.cm _ x hx) fun m h7 e7 hm => ?_)
  obtain ⟨m, w5⟩ := m
  dsimp only at hm
  subst hm
  refine s_putEnd (Bs.inj I.sB (I.meas x)) (o6.ext e7) hhl.symm (by rw [inj_len, inj_len]) (O.fs _) fun h8 o8 u8 => ?_
  have e58 : Ext h5 h8 := Upd.extN (e6.trans e7) u8 (by intro a ha; cases ha; exact Nat.le_refl _)
  have nl8 := nl.ext (e05.trans e58)
  have nr8 := nr.ext (e05.trans e58)
  refine wp_bind (fun t vs h' => t = 0 ∧ vs = [] ∧ Ext h5 h' ∧ Own h5.size 1 h' ⟨some ⟨h5.size, 0, none⟩, I.ni + 4 + I.ns, I.ni + 4 + I.ns⟩ (headV I pl pr (.node l x r) x ++ Bs.inj I.sB (I.add (I.sum l.list) (I.meas x)))) ?_ ?_
  · cases l with
    | nil =>
      obtain rfl := nl8
      refine s_ifF (s_ret ⟨rfl, rfl, e58, ?_⟩)
      rw [show I.sum (Bt.nil : Bt I.It).list = I.zs from rfl, O.za _ _ vm]; exact o8
    | node ll lx lr =>
      obtain ⟨a, ql, qr, rfl, c, _, _⟩ := nl8
      refine s_ifT (q_sum c (s_getEnd o8 hhl.symm (wp_call (O.ca _ _ _ _ _ vl vm (by omega)) fun m h9 e9 hm => ?_)))
      obtain ⟨m, w6⟩ := m
      dsimp only at hm
      subst hm
      refine s_putEnd (Bs.inj I.sB (I.add (I.sum (Bt.node ll lx lr).list) (I.meas x))) (o8.ext e9) hhl.symm (by rw [inj_len, inj_len]) (O.fs _) fun h10 o10 u10 => s_ret ⟨rfl, rfl, Upd.extN (e58.trans e9) u10 (by intro a ha; cases ha; exact Nat.le_refl _), o10⟩
  · rintro t vs h9 ⟨rfl, rfl, e59, o9⟩
    have nr9 := nr.ext (e05.trans e59)
    refine s_tag (s_cast0 ?_)
    refine wp_bind (fun t vs h' => t = 0 ∧ vs = [] ∧ Ext h5 h' ∧ Own h5.size 1 h' ⟨some ⟨h5.size, 0, none⟩, I.ni + 4 + I.ns, I.ni + 4 + I.ns⟩ (headV I pl pr (.node l x r) x ++ Bs.inj I.sB (I.sum (Bt.node l x r).list))) ?_ ?_
    · cases r with
      | nil =>
        obtain rfl := nr9
        refine s_ifF (s_ret ⟨rfl, rfl, e59, ?_⟩)
        rw [hsum, show I.sum (Bt.nil : Bt I.It).list = I.zs from rfl, O.az _ _ (O.va _ _ _ _ vl vm)]; exact o9
      | node ll lx lr =>
        obtain ⟨a, ql, qr, rfl, c, _, _⟩ := nr9
        refine s_ifT (s_getEnd o9 hhl.symm (q_sum c (wp_call (O.ca _ _ _ _ _ (O.va _ _ _ _ vl vm) vr (by omega)) fun m h10 e10 hm => ?_)))
        obtain ⟨m, w6⟩ := m
        dsimp only at hm
        rw [← hsum] at hm
        subst hm
        refine s_putEnd (Bs.inj I.sB (I.sum (Bt.node l x (.node ll lx lr)).list)) (o9.ext e10) hhl.symm (by rw [inj_len, inj_len]) (O.fs _) fun h11 o11 u11 => s_ret ⟨rfl, rfl, Upd.extN (e59.trans e10) u11 (by intro a ha; cases ha; exact Nat.le_refl _), o11⟩
    · rintro t vs h10 ⟨rfl, rfl, e60, o10⟩
      exact s_tag (s_cast0 (s_ret ⟨rfl, e05.trans e60, (some ⟨h5.size, 0, none⟩, ()), rfl, ⟨h5.size, 0, none⟩, pl, pr, rfl, ⟨o10.cells, hfr _ e05.size, rfl, rfl⟩, nl.ext (e05.trans e60), nr.ext (e05.trans e60)⟩))

theorem Nd.upd {n m c : Nat} {ws : List Value} {b : Addr} {h h' : Heap} (u : Upd ⟨some b, m, c⟩ h h') (ho : Own n 1 h ⟨some b, m, c⟩ ws) (hc : c < I.ni + 4 + I.ns) : ∀ {t : Bt I.It} {p : Option Addr}, Nd I h p t → Nd I h' p t
  | .nil, _, n => n
  | .node l x r, p, ⟨a, pl, pr, e1, hcc, n1, n2⟩ => ⟨a, pl, pr, e1, ⟨cells_upd u hcc.1 (small_ne ho hcc.1 (by rw [List.length_append, headV_len, inj_len]; exact hc)), hcc.2⟩, Nd.upd u ho hc n1, Nd.upd u ho hc n2⟩

/-- A block that begins with a number is no node. -/
theorem Nd.updK {s : Sl} {h h' : Heap} (u : Upd s h h') (hk : ∀ b, s.base = some b → ∃ k x, Sw.cell h ⟨b.block, 0, none⟩ = some (.int k x)) : ∀ {t : Bt I.It} {p : Option Addr}, Nd I h p t → Nd I h' p t
  | .nil, _, n => n
  | .node l x r, p, ⟨a, pl, pr, e1, c, n1, n2⟩ => ⟨a, pl, pr, e1, ⟨cells_iff.2 fun j v hj => by
      have q := cells_iff.1 c.1 j v hj
      have hlt := cell_lt q
      rw [add_block] at hlt
      have hne : ∀ b, s.base = some b → b.block ≠ a.block := fun b hb e => by
        obtain ⟨k, z, hz⟩ := hk b hb
        have h0 := c.left
        have ha : a = ⟨b.block, 0, none⟩ := by
          obtain ⟨ab, ao, sp⟩ := a
          have h1 := c.2.2.1; have h2 := c.2.2.2
          dsimp only at h1 h2 e
          subst h1; subst h2; rw [e]
        rw [add_zero', ha, hz] at h0
        cases h0
      rw [cell_of_block (h := h) (by rw [add_block]; exact u.2.1 _ hlt hne)]; exact q, c.2⟩, Nd.updK u hk n1, Nd.updK u hk n2⟩

end Go.Sw.Any

set_option linter.unusedVariables false
set_option linter.unusedSimpArgs false
set_option maxRecDepth 100000
namespace Go.Sw.Any
open Go.Sw.Tree (iv s_putAll s_newP s_getP s_getT s_putP small_ne cells_upd wp_whileG least TR minI_eq eqI_self Placed)
variable {P : Program} {I : Inst} {h : Heap} {Q : Nat → List Value → Heap → Prop}

/-- Two sides whose heights differ by one at most, all the way down. -/
def Bt.Avl {α : Type} : Bt α → Prop
  | .nil => True
  | .node l _ r => l.Avl ∧ r.Avl ∧ l.ht ≤ r.ht + 1 ∧ r.ht ≤ l.ht + 1

/-- As low as can be. -/
def Bt.Full {α : Type} (t : Bt α) : Prop := t.list.length < 2 ^ t.ht ∧ (2 ^ t.ht ≤ 2 * t.list.length ∨ t.ht = 0) ∧ t.Avl
theorem full_nil : (Bt.nil : Bt I.It).Full := ⟨by simp [Bt.list, Bt.ht], .inr rfl, trivial⟩
theorem full_node {l r : Bt I.It} {x : I.It} (hl : l.Full) (hr : r.Full) (h1 : r.list.length ≤ l.list.length) (h2 : l.list.length ≤ r.list.length + 1) : (Bt.node l x r).Full := by
  obtain ⟨a1, a2, a3⟩ := hl
  obtain ⟨b1, b2, b3⟩ := hr
  have hn := node_len l r x
  have c1 : r.ht ≤ l.ht := by
    rcases b2 with b2 | b2
    · have : 2 ^ r.ht < 2 ^ (l.ht + 1) := by rw [Nat.pow_succ]; omega
      have := (Nat.pow_lt_pow_iff_right (by decide : 1 < 2)).1 this
      omega
    · omega
  have c2 : l.ht ≤ r.ht + 1 := by
    rcases a2 with a2 | a2
    · have : 2 ^ l.ht ≤ 2 ^ (r.ht + 1) := by rw [Nat.pow_succ]; omega
      exact (Nat.pow_le_pow_iff_right (by decide : 1 < 2)).1 this
    · omega
  have hh : (Bt.node l x r).ht = l.ht + 1 := by simp only [Bt.ht]; omega
  refine ⟨?_, .inl ?_, a3, b3, c2, by omega⟩
  · rw [hh, hn, Nat.pow_succ]; omega
  · rw [hh, hn, Nat.pow_succ]
    rcases a2 with a2 | a2
    · omega
    · rw [a2]; omega

/-- What even answers. -/
def Even (l : Bt I.It) (x : I.It) (r t : Bt I.It) : Prop := t.list = l.list ++ x :: r.list ∧
  (l.Avl → r.Avl → l.ht ≤ r.ht + 2 → r.ht ≤ l.ht + 2 → t.Avl ∧ max l.ht r.ht ≤ t.ht ∧ t.ht ≤ max l.ht r.ht + 1 ∧ (l.ht ≤ r.ht + 1 → r.ht ≤ l.ht + 1 → t.ht = max l.ht r.ht + 1))
def Join (l : Bt I.It) (x : I.It) (r t : Bt I.It) : Prop := t.list = l.list ++ x :: r.list ∧ (l.Avl → r.Avl → t.Avl ∧ max l.ht r.ht ≤ t.ht ∧ t.ht ≤ max l.ht r.ht + 1)

theorem even_1 {ll lr r : Bt I.It} {lx x : I.It} (h1 : r.ht + 1 < (Bt.node ll lx lr).ht) (h2 : lr.ht ≤ ll.ht) : Even (.node ll lx lr) x r (.node ll lx (.node lr x r)) := by
  refine ⟨by simp [Bt.list], fun ⟨a1, a2, a3, a4⟩ a5 a6 a7 => ?_⟩
  simp only [Bt.ht, Bt.Avl] at *
  refine ⟨⟨a1, ⟨a2, a5, ?_, ?_⟩, ?_, ?_⟩, ?_, ?_, ?_⟩ <;> omega
theorem even_2 {ll m1 m2 r : Bt I.It} {lx x mx : I.It} (h1 : r.ht + 1 < (Bt.node ll lx (.node m1 mx m2)).ht) (h2 : ll.ht < (Bt.node m1 mx m2).ht) : Even (.node ll lx (.node m1 mx m2)) x r (.node (.node ll lx m1) mx (.node m2 x r)) := by
  refine ⟨by simp [Bt.list], fun ⟨a1, ⟨b1, b2, b3, b4⟩, a3, a4⟩ a5 a6 a7 => ?_⟩
  simp only [Bt.ht, Bt.Avl] at *
  refine ⟨⟨⟨a1, b1, ?_, ?_⟩, ⟨b2, a5, ?_, ?_⟩, ?_, ?_⟩, ?_, ?_, ?_⟩ <;> omega
theorem even_3 {l rl rr : Bt I.It} {rx x : I.It} (h1 : l.ht + 1 < (Bt.node rl rx rr).ht) (h2 : rl.ht ≤ rr.ht) : Even l x (.node rl rx rr) (.node (.node l x rl) rx rr) := by
  refine ⟨by simp [Bt.list], fun a5 ⟨a1, a2, a3, a4⟩ a6 a7 => ?_⟩
  simp only [Bt.ht, Bt.Avl] at *
  refine ⟨⟨⟨a5, a1, ?_, ?_⟩, a2, ?_, ?_⟩, ?_, ?_, ?_⟩ <;> omega
theorem even_4 {l m1 m2 rr : Bt I.It} {rx x mx : I.It} (h1 : l.ht + 1 < (Bt.node (.node m1 mx m2) rx rr).ht) (h2 : rr.ht < (Bt.node m1 mx m2).ht) : Even l x (.node (.node m1 mx m2) rx rr) (.node (.node l x m1) mx (.node m2 rx rr)) := by
  refine ⟨by simp [Bt.list], fun a5 ⟨⟨b1, b2, b3, b4⟩, a2, a3, a4⟩ a6 a7 => ?_⟩
  simp only [Bt.ht, Bt.Avl] at *
  refine ⟨⟨⟨a5, b1, ?_, ?_⟩, ⟨b2, a2, ?_, ?_⟩, ?_, ?_⟩, ?_, ?_, ?_⟩ <;> omega
theorem even_5 {l r : Bt I.It} {x : I.It} (h1 : l.ht ≤ r.ht + 1) (h2 : r.ht ≤ l.ht + 1) : Even l x r (.node l x r) := by
  refine ⟨by simp [Bt.list], fun a b _ _ => ?_⟩
  simp only [Bt.ht, Bt.Avl] at *
  refine ⟨⟨a, b, ?_, ?_⟩, ?_, ?_, ?_⟩ <;> first | omega | (intros; first | trivial | omega)
theorem join_1 {ll lr r t1 t : Bt I.It} {lx x : I.It} (h1 : r.ht + 1 < (Bt.node ll lx lr).ht) (j : Join lr x r t1) (e : Even ll lx t1 t) : Join (.node ll lx lr) x r t := by
  refine ⟨by rw [e.1, j.1]; simp [Bt.list], fun ⟨a1, a2, a3, a4⟩ a5 => ?_⟩
  obtain ⟨j1, j2, j3⟩ := j.2 a2 a5
  simp only [Bt.ht] at *
  obtain ⟨e1, e2, e3, e4⟩ := e.2 a1 j1 (by omega) (by omega)
  refine ⟨e1, ?_, ?_⟩ <;> (by_cases hx : ll.ht ≤ t1.ht + 1 <;> by_cases hy : t1.ht ≤ ll.ht + 1 <;> first | (have := e4 hx hy; omega) | omega)
theorem join_2 {l rl rr t1 t : Bt I.It} {rx x : I.It} (h1 : l.ht + 1 < (Bt.node rl rx rr).ht) (j : Join l x rl t1) (e : Even t1 rx rr t) : Join l x (.node rl rx rr) t := by
  refine ⟨by rw [e.1, j.1]; simp [Bt.list], fun a5 ⟨a1, a2, a3, a4⟩ => ?_⟩
  obtain ⟨j1, j2, j3⟩ := j.2 a5 a1
  simp only [Bt.ht] at *
  obtain ⟨e1, e2, e3, e4⟩ := e.2 j1 a2 (by omega) (by omega)
  refine ⟨e1, ?_, ?_⟩ <;> (by_cases hx : t1.ht ≤ rr.ht + 1 <;> by_cases hy : rr.ht ≤ t1.ht + 1 <;> first | (have := e4 hx hy; omega) | omega)
theorem join_3 {l r : Bt I.It} {x : I.It} (h1 : l.ht ≤ r.ht + 1) (h2 : r.ht ≤ l.ht + 1) : Join l x r (.node l x r) := by
  refine ⟨by simp [Bt.list], fun a b => ?_⟩
  simp only [Bt.ht, Bt.Avl] at *
  refine ⟨⟨a, b, ?_, ?_⟩, ?_, ?_⟩ <;> omega

theorem wf_sub {L M : List I.It} (w : I.wf L) (hm : ∀ y, y ∈ M → y ∈ L) : I.wf M := fun y hy => w y (hm y hy)

theorem c_even (O : I.Ok P) {pl pr : Option Addr} {l r : Bt I.It} {x : I.It} (nl : Nd I h pl l) (nr : Nd I h pr r) (hw : I.wf (Bt.node l x r).list) (hroom : I.W (Bt.node l x r).list ≤ 4398046511104) (hfr : Fresh I h := by repeat (first | assumption | refine Fresh.ext ?_ (by assumption))) :
    Gives P (G_even I pl x pr) [.one .ptr] h fun (y : Option Addr × Unit) h' => ∃ t, Nd I h' y.1 t ∧ Even l x r t := by
  have hx := wf_mid hw
  have hl := node_len l r x; have hlw := node_W (I := I) l r x; have hll := W_len O (Bt.node l x r).list
  have g1 := l.ht_le; have g2 := r.ht_le
  unfold G_even Gives
  refine s_newO x O.i1.2 fun h1 e1 o1 => ?_
  have ld : ∀ {h'} {K : I.It → Prog} {Q : Nat → List Value → Heap → Prop}, Ext h1 h' → wp P (K x) h' Q → wp P (.load (.agg I.iB) (some ⟨h.size, 0, none⟩) K) h' Q := fun e hk => s_getO (o1.ext e) hk
  have ck : ∀ {h'} {K : Prog} {Q : Nat → List Value → Heap → Prop}, Ext h1 h' → wp P K h' Q → wp P (.check (some ⟨h.size, 0, none⟩) (Bs.inj I.iB x) K) h' Q := fun e hk => s_ckO (o1.ext e) hk
  have nl1 := nl.ext e1
  have nr1 := nr.ext e1
  refine wp_call (c_tall nl1) fun y h2 e2 hy => wp_call (c_tall (nr1.ext e2)) fun z h3 e3 hz => ?_
  obtain ⟨(y : Int), w1⟩ := y
  obtain ⟨(z : Int), w2⟩ := z
  dsimp only at hy hz ⊢
  subst hy; subst hz
  have e13 := e2.trans e3
  have nl3 := nl1.ext e13
  have nr3 := nr1.ext e13
  rw [add_ok (by omega) (by omega)]
  refine wp_ifB (fun hc => ?_) fun hc => ?_
  · rw [gtI_iff] at hc
    cases l with
    | nil => simp only [Bt.ht] at hc; omega
    | node ll lx lr =>
      have hll := node_len ll lr lx; have hllw := node_W (I := I) ll lr lx; have hlll := W_len O (Bt.node ll lx lr).list
      obtain ⟨a, ql, qr, rfl, c, n1, n2⟩ := nl3
      have c : NdC I h3 a ql qr ll lx lr := c
      refine q_left c (q_right c (wp_call (c_tall n1) fun y h4 e4 hy => q_ckR (c.ext e4) (wp_call (c_tall (n2.ext e4)) fun z h5 e5 hz => ?_)))
      obtain ⟨(y : Int), w1⟩ := y
      obtain ⟨(z : Int), w2⟩ := z
      dsimp only at hy hz ⊢
      subst hy; subst hz
      have e35 := e4.trans e5
      have c5 := c.ext e35
      have n15 := n1.ext e35
      have n25 := n2.ext e35
      have nr5 := nr3.ext e35
      have e15 := e13.trans e35
      refine wp_ifB (fun hg => ?_) fun hg => ?_
      · rw [geI_iff] at hg
        refine q_left c5 (q_item c5 (q_right c5 (ld e15 (wp_call (c_of O (x := x) n25 nr5 (wf_sub hw (by intro y hy; simp only [Bt.list, List.mem_append, List.mem_cons] at hy ⊢; grind)) (by rw [node_W]; omega)) fun p h6 e6 hp => ?_))))
        obtain ⟨(p : Option Addr), w3⟩ := p
        dsimp only at hp ⊢
        have hev := even_1 (x := x) (r := r) (lx := lx) (by omega) (show lr.ht ≤ ll.ht by omega)
        refine q_ckI (c5.ext e6) (q_ckL (c5.ext e6) (wp_call (c_of O (x := lx) (n15.ext e6) hp (by rw [hev.1]; exact hw) (by rw [hev.1]; exact hroom)) fun p h7 e7 hp => ?_))
        obtain ⟨(p : Option Addr), w4⟩ := p
        exact s_ret ⟨rfl, e1.trans ((e15.trans e6).trans e7), (p, ()), rfl, _, hp, hev⟩
      · rw [geI_not] at hg
        cases lr with
        | nil => simp only [Bt.ht] at hg; omega
        | node m1 mx m2 =>
          have hmm := node_len m1 m2 mx; have hmmw := node_W (I := I) m1 m2 mx; have hmml := W_len O (Bt.node m1 mx m2).list
          obtain ⟨a', ml, mr, rfl, c', k1, k2⟩ := n25
          have c' : NdC I h5 a' ml mr m1 mx m2 := c'
          have hev := even_2 (x := x) (r := r) (lx := lx) (ll := ll) (m1 := m1) (mx := mx) (m2 := m2) (by omega) (by omega)
          refine q_right c5 (q_left c5 (q_item c5 (q_left c' (q_item c' (q_right c' (ld e15 (wp_call (c_of O (x := lx) n15 k1 (wf_sub hw (by intro y hy; simp only [Bt.list, List.mem_append, List.mem_cons] at hy ⊢; grind)) (by rw [node_W]; omega)) fun p h6 e6 hp => ?_)))))))
          obtain ⟨(p : Option Addr), w3⟩ := p
          dsimp only at hp ⊢
          refine ck (e15.trans e6) (q_ckR (c'.ext e6) (q_ckI (c'.ext e6) (wp_call (c_of O (x := x) (k2.ext e6) (nr5.ext e6) (wf_sub hw (by intro y hy; simp only [Bt.list, List.mem_append, List.mem_cons] at hy ⊢; grind)) (by rw [node_W]; omega)) fun p' h7 e7 hp' => ?_)))
          obtain ⟨(p' : Option Addr), w4⟩ := p'
          dsimp only at hp' ⊢
          refine q_ckI (c'.ext (e6.trans e7)) (wp_call (c_of O (x := mx) (hp.ext e7) hp' (by rw [hev.1]; exact hw) (by rw [hev.1]; exact hroom)) fun p'' h8 e8 hp'' => ?_)
          obtain ⟨(p'' : Option Addr), w5⟩ := p''
          exact s_ret ⟨rfl, e1.trans (((e15.trans e6).trans e7).trans e8), (p'', ()), rfl, _, hp'', hev⟩
  · rw [gtI_not] at hc
    refine wp_call (c_tall nr3) fun y h4 e4 hy => wp_call (c_tall (nl3.ext e4)) fun z h5 e5 hz => ?_
    obtain ⟨(y : Int), w1⟩ := y
    obtain ⟨(z : Int), w2⟩ := z
    dsimp only at hy hz ⊢
    subst hy; subst hz
    have e35 := e4.trans e5
    have nl5 := nl3.ext e35
    have nr5 := nr3.ext e35
    have e15 := e13.trans e35
    rw [add_ok (by omega) (by omega)]
    refine wp_ifB (fun hd => ?_) fun hd => ?_
    · rw [gtI_iff] at hd
      cases r with
      | nil => simp only [Bt.ht] at hd; omega
      | node rl rx rr =>
        have hrr := node_len rl rr rx; have hrrw := node_W (I := I) rl rr rx; have hrrl := W_len O (Bt.node rl rx rr).list
        obtain ⟨a, ql, qr, rfl, c, n1, n2⟩ := nr5
        have c : NdC I h5 a ql qr rl rx rr := c
        refine q_right c (q_left c (wp_call (c_tall n2) fun y h6 e6 hy => q_ckL (c.ext e6) (wp_call (c_tall (n1.ext e6)) fun z h7 e7 hz => ?_)))
        obtain ⟨(y : Int), w1⟩ := y
        obtain ⟨(z : Int), w2⟩ := z
        dsimp only at hy hz ⊢
        subst hy; subst hz
        have e57 := e6.trans e7
        have c7 := c.ext e57
        have n17 := n1.ext e57
        have n27 := n2.ext e57
        have nl7 := nl5.ext e57
        have e17 := e15.trans e57
        refine wp_ifB (fun hg => ?_) fun hg => ?_
        · rw [geI_iff] at hg
          refine ld e17 (q_left c7 (q_item c7 (q_right c7 (wp_call (c_of O (x := x) nl7 n17 (wf_sub hw (by intro y hy; simp only [Bt.list, List.mem_append, List.mem_cons] at hy ⊢; grind)) (by rw [node_W]; omega)) fun p h8 e8 hp => ?_))))
          obtain ⟨(p : Option Addr), w3⟩ := p
          dsimp only at hp ⊢
          have hev := even_3 (x := x) (l := l) (rx := rx) (rl := rl) (rr := rr) (by omega) (by omega)
          refine q_ckR (c7.ext e8) (q_ckI (c7.ext e8) (wp_call (c_of O (x := rx) hp (n27.ext e8) (by rw [hev.1]; exact hw) (by rw [hev.1]; exact hroom)) fun p h9 e9 hp => ?_))
          obtain ⟨(p : Option Addr), w4⟩ := p
          exact s_ret ⟨rfl, e1.trans ((e17.trans e8).trans e9), (p, ()), rfl, _, hp, hev⟩
        · rw [geI_not] at hg
          cases rl with
          | nil => simp only [Bt.ht] at hg; omega
          | node m1 mx m2 =>
            have hmm := node_len m1 m2 mx; have hmmw := node_W (I := I) m1 m2 mx; have hmml := W_len O (Bt.node m1 mx m2).list
            obtain ⟨a', ml, mr, rfl, c', k1, k2⟩ := n17
            have c' : NdC I h7 a' ml mr m1 mx m2 := c'
            have hev := even_4 (x := x) (l := l) (rx := rx) (m1 := m1) (mx := mx) (m2 := m2) (rr := rr) (by omega) (by omega)
            refine q_left c7 (ld e17 (q_left c' (q_item c' (q_right c' (q_item c7 (q_right c7 (wp_call (c_of O (x := x) nl7 k1 (wf_sub hw (by intro y hy; simp only [Bt.list, List.mem_append, List.mem_cons] at hy ⊢; grind)) (by rw [node_W]; omega)) fun p h8 e8 hp => ?_)))))))
            obtain ⟨(p : Option Addr), w3⟩ := p
            dsimp only at hp ⊢
            refine q_ckR (c7.ext e8) (q_ckI (c7.ext e8) (q_ckR (c'.ext e8) (q_ckI (c'.ext e8) (wp_call (c_of O (x := rx) (k2.ext e8) (n27.ext e8) (wf_sub hw (by intro y hy; simp only [Bt.list, List.mem_append, List.mem_cons] at hy ⊢; grind)) (by rw [node_W]; omega)) fun p' h9 e9 hp' => ?_))))
            obtain ⟨(p' : Option Addr), w4⟩ := p'
            dsimp only at hp' ⊢
            refine q_ckI (c'.ext (e8.trans e9)) (wp_call (c_of O (x := mx) (hp.ext e9) hp' (by rw [hev.1]; exact hw) (by rw [hev.1]; exact hroom)) fun p'' h10 e10 hp'' => ?_)
            obtain ⟨(p'' : Option Addr), w5⟩ := p''
            exact s_ret ⟨rfl, e1.trans (((e17.trans e8).trans e9).trans e10), (p'', ()), rfl, _, hp'', hev⟩
    · rw [gtI_not] at hd
      refine ld e15 (wp_call (c_of O (x := x) nl5 nr5 hw hroom) fun p h6 e6 hp => ?_)
      obtain ⟨(p : Option Addr), w3⟩ := p
      exact s_ret ⟨rfl, e1.trans (e15.trans e6), (p, ()), rfl, _, hp, even_5 (by omega) (by omega)⟩

theorem c_joinR (O : I.Ok P) : ∀ (fuel : Nat) {h : Heap} {pl pr : Option Addr} {l r : Bt I.It} {x : I.It}, l.list.length + r.list.length < fuel → Nd I h pl l → Nd I h pr r → I.wf (Bt.node l x r).list → I.W (Bt.node l x r).list ≤ 4398046511104 → (hfr : Fresh I h := by repeat (first | assumption | refine Fresh.ext ?_ (by assumption))) →
    Gives P (Gr_join fuel I pl x pr) [.one .ptr] h fun (y : Option Addr × Unit) h' => ∃ t, Nd I h' y.1 t ∧ Join l x r t := by
  intro fuel
  induction fuel with
  | zero => intro h pl pr l r x hf; omega
  | succ fuel ih =>
    intro h pl pr l r x hf nl nr hw hroom hfr
    have hx := wf_mid hw
    have hl := node_len l r x; have hlw := node_W (I := I) l r x; have hll := W_len O (Bt.node l x r).list
    have g1 := l.ht_le; have g2 := r.ht_le
    unfold Gr_join Gives
    refine s_newO x O.i1.2 fun h1 e1 o1 => ?_
    have ld : ∀ {h'} {K : I.It → Prog} {Q : Nat → List Value → Heap → Prop}, Ext h1 h' → wp P (K x) h' Q → wp P (.load (.agg I.iB) (some ⟨h.size, 0, none⟩) K) h' Q := fun e hk => s_getO (o1.ext e) hk
    have nl1 := nl.ext e1
    have nr1 := nr.ext e1
    refine wp_call (c_tall nl1) fun y h2 e2 hy => wp_call (c_tall (nr1.ext e2)) fun z h3 e3 hz => ?_
    obtain ⟨(y : Int), w1⟩ := y
    obtain ⟨(z : Int), w2⟩ := z
    dsimp only at hy hz ⊢
    subst hy; subst hz
    have e13 := e2.trans e3
    have nl3 := nl1.ext e13
    have nr3 := nr1.ext e13
    rw [add_ok (by omega) (by omega)]
    refine wp_ifB (fun hc => ?_) fun hc => ?_
    · rw [gtI_iff] at hc
      cases l with
      | nil => simp only [Bt.ht] at hc; omega
      | node ll lx lr =>
        have hll := node_len ll lr lx; have hllw := node_W (I := I) ll lr lx; have hlll := W_len O (Bt.node ll lx lr).list
        obtain ⟨a, ql, qr, rfl, c, n1, n2⟩ := nl3
        have c : NdC I h3 a ql qr ll lx lr := c
        refine q_left c (q_item c (q_right c (ld e13 (wp_call (ih (x := x) (by omega) n2 nr3 (wf_sub hw (by intro y hy; simp only [Bt.list, List.mem_append, List.mem_cons] at hy ⊢; grind)) (by rw [node_W]; omega)) fun p h4 e4 hp => ?_))))
        obtain ⟨(p : Option Addr), w3⟩ := p
        obtain ⟨t1, np, hj⟩ := hp
        dsimp only at np hj ⊢
        have hlist : (Bt.node ll lx t1).list = (Bt.node (.node ll lx lr) x r).list := by simp only [Bt.list]; rw [hj.1]; simp
        refine q_ckI (c.ext e4) (q_ckL (c.ext e4) (wp_call (c_even O (x := lx) (n1.ext e4) np (by rw [hlist]; exact hw) (by rw [hlist]; exact hroom)) fun p h5 e5 hp => ?_))
        obtain ⟨(p : Option Addr), w4⟩ := p
        obtain ⟨t2, np, he⟩ := hp
        exact s_ret ⟨rfl, e1.trans ((e13.trans e4).trans e5), (p, ()), rfl, t2, np, join_1 (by omega) hj he⟩
    · rw [gtI_not] at hc
      refine wp_call (c_tall nr3) fun y h4 e4 hy => wp_call (c_tall (nl3.ext e4)) fun z h5 e5 hz => ?_
      obtain ⟨(y : Int), w1⟩ := y
      obtain ⟨(z : Int), w2⟩ := z
      dsimp only at hy hz ⊢
      subst hy; subst hz
      have e35 := e4.trans e5
      have nl5 := nl3.ext e35
      have nr5 := nr3.ext e35
      have e15 := e13.trans e35
      rw [add_ok (by omega) (by omega)]
      refine wp_ifB (fun hd => ?_) fun hd => ?_
      · rw [gtI_iff] at hd
        cases r with
        | nil => simp only [Bt.ht] at hd; omega
        | node rl rx rr =>
          have hrr := node_len rl rr rx; have hrrw := node_W (I := I) rl rr rx; have hrrl := W_len O (Bt.node rl rx rr).list
          obtain ⟨a, ql, qr, rfl, c, n1, n2⟩ := nr5
          have c : NdC I h5 a ql qr rl rx rr := c
          refine ld e15 (q_left c (q_item c (q_right c (wp_call (ih (x := x) (by omega) nl5 n1 (wf_sub hw (by intro y hy; simp only [Bt.list, List.mem_append, List.mem_cons] at hy ⊢; grind)) (by rw [node_W]; omega)) fun p h6 e6 hp => ?_))))
          obtain ⟨(p : Option Addr), w3⟩ := p
          obtain ⟨t1, np, hj⟩ := hp
          dsimp only at np hj ⊢
          have hlist : (Bt.node t1 rx rr).list = (Bt.node l x (.node rl rx rr)).list := by simp only [Bt.list]; rw [hj.1]; simp
          refine q_ckR (c.ext e6) (q_ckI (c.ext e6) (wp_call (c_even O (x := rx) np (n2.ext e6) (by rw [hlist]; exact hw) (by rw [hlist]; exact hroom)) fun p h7 e7 hp => ?_))
          obtain ⟨(p : Option Addr), w4⟩ := p
          obtain ⟨t2, np, he⟩ := hp
          exact s_ret ⟨rfl, e1.trans ((e15.trans e6).trans e7), (p, ()), rfl, t2, np, join_2 (by omega) hj he⟩
      · rw [gtI_not] at hd
        refine ld e15 (wp_call (c_of O (x := x) nl5 nr5 hw hroom) fun p h6 e6 hp => ?_)
        obtain ⟨(p : Option Addr), w3⟩ := p
        exact s_ret ⟨rfl, e1.trans (e15.trans e6), (p, ()), rfl, _, hp, join_3 (by omega) (by omega)⟩

theorem c_join (O : I.Ok P) {pl pr : Option Addr} {l r : Bt I.It} {x : I.It} (nl : Nd I h pl l) (nr : Nd I h pr r) (hw : I.wf (Bt.node l x r).list) (hroom : I.W (Bt.node l x r).list ≤ 4398046511104) (hfr : Fresh I h := by repeat (first | assumption | refine Fresh.ext ?_ (by assumption))) :
    Gives P (G_join I pl x pr) [.one .ptr] h fun (y : Option Addr × Unit) h' => ∃ t, Nd I h' y.1 t ∧ Join l x r t :=
  ⟨l.list.length + r.list.length + 1, c_joinR O _ (Nat.lt_succ_self _) nl nr hw hroom⟩

theorem c_cutR (O : I.Ok P) : ∀ (fuel : Nat) {h : Heap} {p : Option Addr} {t : Bt I.It} {i : Int}, t.list.length < fuel → Nd I h p t → I.wf t.list → I.W t.list ≤ 4398046511104 → -4398046511104 ≤ i → i ≤ 9223372036854775807 → (hfr : Fresh I h := by repeat (first | assumption | refine Fresh.ext ?_ (by assumption))) →
    Gives P (Gr_cut fuel I p i) [.one .ptr, .one .ptr] h fun (y : Option Addr × Option Addr × Unit) h' => ∃ a b, Nd I h' y.1 a ∧ Nd I h' y.2.1 b ∧ a.list = t.list.take i.toNat ∧ b.list = t.list.drop i.toNat ∧ (t.Avl → a.Avl ∧ b.Avl) := by
  intro fuel
  induction fuel with
  | zero => intro h p t i hf; omega
  | succ fuel ih =>
    intro h p t i hf nt hw hroom hi0 hi1 hfr
    unfold Gr_cut Gives
    cases t with
    | nil =>
      obtain rfl := nt
      exact s_ifT (s_ret ⟨rfl, Ext.refl _, (none, none, ()), rfl, .nil, .nil, rfl, rfl, by simp [Bt.list], by simp [Bt.list], fun _ => ⟨trivial, trivial⟩⟩)
    | node l x r =>
      have hl := node_len l r x; have hlw := node_W (I := I) l r x; have hll := W_len O (Bt.node l x r).list
      obtain ⟨a, ql, qr, rfl, c, n1, n2⟩ := nt
      have c : NdC I h a ql qr l x r := c
      refine s_ifF (q_left c (wp_call (c_count n1) fun y h1 e1 hy => ?_))
      obtain ⟨(y : Int), w1⟩ := y
      dsimp only at hy ⊢
      subst hy
      have c1 := c.ext e1
      refine wp_ifB (fun hc => ?_) fun hc => ?_
      · rw [leI_iff] at hc
        refine q_left c1 (wp_call (ih (by omega) (n1.ext e1) (wf_left hw) (by omega) hi0 hi1) fun y h2 e2 hy => ?_)
        obtain ⟨(pa : Option Addr), (pb : Option Addr), w2⟩ := y
        obtain ⟨ta, tb, na, nb, la, lb, hav⟩ := hy
        dsimp only at na nb ⊢
        have hlist : (Bt.node tb x r).list = (Bt.node l x r).list.drop i.toNat := by
          simp only [Bt.list]; rw [lb, List.drop_append_of_le_length (by omega)]
        refine q_item (c1.ext e2) (q_right (c1.ext e2) (wp_call (c_join O (x := x) nb (n2.ext (e1.trans e2)) (by rw [hlist]; exact wf_drop hw _) (by rw [hlist]; exact Nat.le_trans (W_drop _ _) hroom)) fun y h3 e3 hy => ?_))
        obtain ⟨(pc : Option Addr), w3⟩ := y
        obtain ⟨t2, nc, hj⟩ := hy
        refine s_ret ⟨rfl, (e1.trans e2).trans e3, (pa, pc, ()), rfl, ta, t2, na.ext e3, nc, ?_, ?_, fun hv => ⟨(hav hv.1).1, (hj.2 (hav hv.1).2 hv.2.1).1⟩⟩
        · rw [la]; simp only [Bt.list]; rw [List.take_append_of_le_length (by omega)]
        · rw [hj.1, ← hlist]; rfl
      · rw [leI_not] at hc
        rw [sub_ok (a := i) (by omega) (by omega), sub_ok (by omega) (by omega)]
        refine q_right c1 (wp_call (ih (i := i - l.list.length - 1) (by omega) (n2.ext e1) (wf_right hw) (by omega) (by omega) (by omega)) fun y h2 e2 hy => ?_)
        obtain ⟨(pa : Option Addr), (pb : Option Addr), w2⟩ := y
        obtain ⟨ta, tb, na, nb, la, lb, hav⟩ := hy
        dsimp only at na nb ⊢
        obtain ⟨d, hd⟩ : ∃ d : Nat, i = l.list.length + 1 + d := ⟨(i - l.list.length - 1).toNat, by omega⟩
        have h1' : i.toNat = (l.list ++ [x]).length + d := by simp; omega
        have h2' : (i - l.list.length - 1).toNat = d := by omega
        rw [h2'] at la lb
        have hbt : (Bt.node l x r).list = (l.list ++ [x]) ++ r.list := by simp [Bt.list]
        have hlist : (Bt.node l x ta).list = (Bt.node l x r).list.take i.toNat := by
          rw [hbt, h1', List.take_append, List.take_of_length_le (by omega), Nat.add_sub_cancel_left, ← la]; simp [Bt.list]
        refine q_left (c1.ext e2) (q_item (c1.ext e2) (wp_call (c_join O (x := x) (n1.ext (e1.trans e2)) na (by rw [hlist]; exact wf_take hw _) (by rw [hlist]; exact Nat.le_trans (W_take _ _) hroom)) fun y h3 e3 hy => ?_))
        obtain ⟨(pc : Option Addr), w3⟩ := y
        obtain ⟨t2, nc, hj⟩ := hy
        refine s_ret ⟨rfl, (e1.trans e2).trans e3, (pc, pb, ()), rfl, t2, tb, nc, nb.ext e3, ?_, ?_, fun hv => ⟨(hj.2 hv.1 (hav hv.2.1).1).1, (hav hv.2.1).2⟩⟩
        · rw [hj.1, ← hlist]; rfl
        · rw [lb, hbt, h1', List.drop_append, List.drop_of_length_le (show (l.list ++ [x]).length ≤ (l.list ++ [x]).length + d from Nat.le_add_right ..), Nat.add_sub_cancel_left, List.nil_append]
theorem c_cut (O : I.Ok P) {p : Option Addr} {t : Bt I.It} {i : Int} (nt : Nd I h p t) (hw : I.wf t.list) (hroom : I.W t.list ≤ 4398046511104) (hi : 0 ≤ i) (hi1 : i ≤ t.list.length) (hfr : Fresh I h := by repeat (first | assumption | refine Fresh.ext ?_ (by assumption))) :
    Gives P (G_cut I p i) [.one .ptr, .one .ptr] h fun (y : Option Addr × Option Addr × Unit) h' => ∃ a b, Nd I h' y.1 a ∧ Nd I h' y.2.1 b ∧ a.list = t.list.take i.toNat ∧ b.list = t.list.drop i.toNat ∧ (t.Avl → a.Avl ∧ b.Avl) :=
  ⟨t.list.length + 1, c_cutR O _ (Nat.lt_succ_self _) nt hw hroom (by omega) (by have := W_len O t.list; omega)⟩

/-- The first thing, and the others. -/
def First (t : Bt I.It) (x : I.It) (t' : Bt I.It) : Prop := t.list = x :: t'.list ∧ (t.Avl → t'.Avl ∧ t'.ht ≤ t.ht ∧ t.ht ≤ t'.ht + 1)

theorem c_firstR (O : I.Ok P) : ∀ (fuel : Nat) {h : Heap} {p : Option Addr} {t : Bt I.It}, t.list.length < fuel → Nd I h p t → t ≠ .nil → I.wf t.list → I.W t.list ≤ 4398046511104 → (hfr : Fresh I h := by repeat (first | assumption | refine Fresh.ext ?_ (by assumption))) →
    Gives P (Gr_first fuel I p) [(.agg I.iB), .one .ptr] h fun (y : I.It × Option Addr × Unit) h' => ∃ t', Nd I h' y.2.1 t' ∧ First t y.1 t' := by
  intro fuel
  induction fuel with
  | zero => intro h p t hf; omega
  | succ fuel ih =>
    intro h p t hf nt hne hw hroom hfr
    cases t with
    | nil => exact absurd rfl hne
    | node l x r =>
      have hl := node_len l r x; have hlw := node_W (I := I) l r x; have hll := W_len O (Bt.node l x r).list
      have hmid := wf_mid hw
      obtain ⟨a, ql, qr, rfl, c, n1, n2⟩ := nt
      have c : NdC I h a ql qr l x r := c
      unfold Gr_first Gives
      refine s_newO I.zi O.i1.2 fun h1 e1 o1 => ?_
      have i1 := O.i1
      have hni : I.iB.length = I.ni := rfl
      have c1 := c.ext e1
      refine q_left c1 ?_
      cases l with
      | nil =>
        obtain rfl := n1
        refine s_ifT (q_item c1 (q_right c1 (s_stoO x o1 (O.fi _) fun h2 o2 u2 => ?_)))
        have c2 : NdC I h2 a none qr .nil x r := ⟨cells_upd u2 c1.1 (small_ne o1 c1.1 (by rw [List.length_append, headV_len, inj_len]; omega)), c1.2⟩
        have e2 : Ext h h2 := Upd.extN e1 u2 (by intro a ha; cases ha; exact Nat.le_refl _)
        exact q_ckR c2 (s_getO o2 (s_ret ⟨rfl, e2, (x, qr, ()), rfl, r, n2.ext e2, by simp [Bt.list], fun ⟨_, b, c, d⟩ => by simp only [Bt.ht] at *; exact ⟨b, by omega, by omega⟩⟩))
      | node ll lx lr =>
        have hp : ∃ a, ql = some a := by obtain ⟨a, _, _, h1, _⟩ := n1; exact ⟨a, h1⟩
        obtain ⟨la, rfl⟩ := hp
        refine s_ifF (q_left c1 (wp_call (ih (by omega) (n1.ext e1) (by simp) (wf_left hw) (by omega)) fun y h2 e2 hy => ?_))
        obtain ⟨y1, (pq : Option Addr), w2⟩ := y
        obtain ⟨t1, nq, hfst⟩ := hy
        dsimp only at nq hfst ⊢
        refine s_putO y1 O.i1.2 (O.fi _) fun h3 e3 o3 => s_getO o3 ?_
        have e13 := e2.trans e3
        have c3 := c1.ext e13
        have hlist : (Bt.node (.node ll lx lr) x r).list = y1 :: (Bt.node t1 x r).list := by
          rw [show (Bt.node (.node ll lx lr) x r).list = (Bt.node ll lx lr).list ++ x :: r.list from rfl, hfst.1]; simp [Bt.list]
        have hlen := congrArg I.W hlist
        rw [W_cons] at hlen
        refine q_item c3 (q_right c3 (wp_call (c_even O (x := x) (nq.ext e3) (n2.ext (e1.trans e13)) (fun z hz => hw z (by rw [hlist]; exact List.mem_cons_of_mem _ hz)) (by omega)) fun y h4 e4 hy => ?_))
        obtain ⟨(pe : Option Addr), w3⟩ := y
        obtain ⟨t2, ne, hev⟩ := hy
        dsimp only at ne hev ⊢
        have e14 := e13.trans e4
        refine s_ckO (o3.ext e4) (s_stoO y1 (o1.ext e14) (O.fi _) fun h5 o5 u5 => s_getO o5 (s_ret ⟨rfl, Upd.extN (e1.trans e14) u5 (by intro a ha; cases ha; exact Nat.le_refl _), (y1, pe, ()), rfl, t2, ne.upd u5 (o1.ext e14) (by omega), ?_, ?_⟩))
        · rw [hlist, hev.1]; rfl
        · intro ⟨a1, a2, a3, a4⟩
          obtain ⟨g1, g2, g3⟩ := hfst.2 a1
          obtain ⟨k1, k2, k3, k4⟩ := hev.2 g1 a2 (by omega) (by omega)
          rw [show (Bt.node (.node ll lx lr) x r).ht = max (Bt.node ll lx lr).ht r.ht + 1 from rfl]
          refine ⟨k1, ?_, ?_⟩ <;> (by_cases hx : t1.ht ≤ r.ht + 1 <;> by_cases hy : r.ht ≤ t1.ht + 1 <;> first | (have := k4 hx hy; omega) | omega)

theorem c_both (O : I.Ok P) {pl pr : Option Addr} {l r : Bt I.It} (nl : Nd I h pl l) (nr : Nd I h pr r) (hw : I.wf (l.list ++ r.list)) (hroom : I.W (l.list ++ r.list) ≤ 4398046511104) (hfr : Fresh I h := by repeat (first | assumption | refine Fresh.ext ?_ (by assumption))) :
    Gives P (G_both I pl pr) [.one .ptr] h fun (y : Option Addr × Unit) h' => ∃ t, Nd I h' y.1 t ∧ t.list = l.list ++ r.list ∧ (l.Avl → r.Avl → t.Avl) := by
  have hlen := W_append (I := I) l.list r.list
  unfold G_both Gives
  cases r with
  | nil =>
    obtain rfl := nr
    exact s_ifT (s_ret ⟨rfl, Ext.refl _, (pl, ()), rfl, l, nl, by simp [Bt.list], fun a _ => a⟩)
  | node rl rx rr =>
    have hp : ∃ a, pr = some a := by obtain ⟨a, _, _, h1, _⟩ := nr; exact ⟨a, h1⟩
    obtain ⟨la, rfl⟩ := hp
    refine s_ifF (wp_call (R := fun (y : I.It × Option Addr × Unit) h' => ∃ t', Nd I h' y.2.1 t' ∧ First (.node rl rx rr) y.1 t') ⟨(Bt.node rl rx rr).list.length + 1, c_firstR O _ (Nat.lt_succ_self _) nr (by simp) (fun z hz => hw z (List.mem_append_right _ hz)) (by omega)⟩ fun y h1 e1 hy => ?_)
    obtain ⟨y1, (pq : Option Addr), w2⟩ := y
    obtain ⟨t1, nq, hfst⟩ := hy
    dsimp only at nq hfst ⊢
    have hlist : (Bt.node l y1 t1).list = l.list ++ (Bt.node rl rx rr).list := by rw [hfst.1]; rfl
    refine s_putO y1 O.i1.2 (O.fi _) fun h2 e2 o2 => s_getO o2 (wp_call (c_join O (x := y1) (nl.ext (e1.trans e2)) (nq.ext e2) (by rw [hlist]; exact hw) (by rw [hlist]; exact hroom)) fun y h3 e3 hy => ?_)
    obtain ⟨(pe : Option Addr), w3⟩ := y
    obtain ⟨t2, ne, hj⟩ := hy
    exact s_ret ⟨rfl, (e1.trans e2).trans e3, (pe, ()), rfl, t2, ne, by rw [hj.1, ← hlist]; rfl, fun a b => (hj.2 a (hfst.2 b).1).1⟩

end Go.Sw.Any

set_option linter.unusedVariables false
set_option linter.unusedSimpArgs false
set_option maxRecDepth 100000
namespace Go.Sw.Any
open Go.Sw.Tree (iv s_putAll s_newP s_getP s_getT s_putP small_ne cells_upd wp_whileG least TR minI_eq eqI_self Placed)
variable {P : Program} {I : Inst} {h : Heap} {Q : Nat → List Value → Heap → Prop}

theorem c_buildR (O : I.Ok P) : ∀ (fuel : Nat) {h : Heap} {items : Sl} {l : List I.It}, l.length < fuel → Its I h items l → I.W l ≤ 4398046511104 → (hfr : Fresh I h := by repeat (first | assumption | refine Fresh.ext ?_ (by assumption))) →
    Gives P (Gr_build fuel I items) [.one .ptr] h fun (y : Option Addr × Unit) h' => ∃ t : Bt I.It, Nd I h' y.1 t ∧ t.list = l ∧ t.Full := by
  intro fuel
  induction fuel with
  | zero => intro h items l hf; omega
  | succ fuel ih =>
    intro h items l hf hr hroom hfr
    have hlen := hr.len O
    have hlW := W_len O l
    have hcap := hr.cap
    have hmax := hr.max
    unfold Gr_build Gives
    refine wp_ifB (fun hc => ?_) fun hc => ?_
    · rw [eqI_iff, natI_def, hlen] at hc
      exact s_ret ⟨rfl, Ext.refl _, (none, ()), rfl, .nil, rfl, by cases l; rfl; simp at hc; omega, full_nil⟩
    · rw [eqI_not, natI_def, hlen] at hc
      have hq : quoI .i64 (natI items.len) 2 = ((l.length / 2 : Nat) : Int) := by
        rw [natI_def, hlen, quo_ok (by omega) (by omega) (by omega)]; omega
      have hk : l.length / 2 < l.length := by omega
      have hj : l[l.length / 2]? = some l[l.length / 2] := List.getElem?_eq_getElem hk
      rw [hq, add_ok (by omega) (by omega)]
      have ht : toN ((l.length / 2 : Nat) : Int) = l.length / 2 := by rw [toN_def]; omega
      have ht1 : toN (((l.length / 2 : Nat) : Int) + 1) = l.length / 2 + 1 := by rw [toN_def]; omega
      rw [ht1, show subN items.cap 0 = items.cap from rfl, cutBase_zero, show subN (toN ((l.length / 2 : Nat) : Int)) 0 = l.length / 2 by rw [ht]; rfl]
      refine s_not (s_grd (leB_ok (by omega) (by omega)) (s_atI O hr (by omega) (by omega) fun x hx => s_grd (leB_ok (by omega) (by omega)) ?_))
      rw [show ((l.length / 2 : Nat) : Int).toNat = l.length / 2 by omega] at hx
      refine wp_call (ih (l := l.take (l.length / 2)) (by rw [List.length_take]; omega) (hr.take O (by omega) (by omega) hmax) (Nat.le_trans (W_take _ _) hroom)) fun y h1 e1 hy => ?_
      obtain ⟨(pl : Option Addr), u1⟩ := y
      obtain ⟨tl, n1, l1, fl⟩ := hy
      dsimp only at n1 ⊢
      rw [ht]
      refine s_sameI O (hr.ext e1) hx ?_
      refine wp_call (ih (l := l.drop (l.length / 2 + 1)) (by rw [List.length_drop]; omega) ((hr.ext e1).drop O (by omega) (by unfold subN; omega) (by unfold subN; omega)) (Nat.le_trans (W_drop _ _) hroom)) fun y h2 e2 hy => ?_
      obtain ⟨(pr : Option Addr), u2⟩ := y
      obtain ⟨tr, n2, l2, fr⟩ := hy
      dsimp only at n2 ⊢
      refine s_sameI O (hr.ext (e1.trans e2)) hx ?_
      have hlist : (Bt.node tl x tr).list = l := by
        simp only [Bt.list]
        rw [l1, l2]
        have := List.getElem?_eq_some_iff.1 hx
        obtain ⟨_, rfl⟩ := this
        rw [← List.drop_eq_getElem_cons hk, List.take_append_drop]
      refine wp_call (c_of O (x := x) (n1.ext e2) n2 (by rw [hlist]; exact hr.wf) (by rw [hlist]; exact hroom)) fun y h3 e3 hy => ?_
      obtain ⟨(p : Option Addr), u3⟩ := y
      exact s_ret ⟨rfl, (e1.trans e2).trans e3, (p, ()), rfl, _, hy, hlist, full_node fl fr (by rw [l1, l2, List.length_take, List.length_drop]; omega) (by rw [l1, l2, List.length_take, List.length_drop]; omega)⟩

theorem c_Of (O : I.Ok P) {items : Sl} {l : List I.It} (hr : Its I h items l) (hroom : I.W l ≤ 4398046511104) (hfr : Fresh I h := by repeat (first | assumption | refine Fresh.ext ?_ (by assumption))) : Gives P (G_Of I items) [.agg [.ptr]] h fun (y : TR × Unit) h' => ∃ t : Bt I.It, Nd I h' y.1.1 t ∧ t.list = l ∧ t.Full := by
  unfold G_Of Gives
  refine s_newP none fun h1 e1 o1 => ?_
  refine wp_call (R := fun (y : Option Addr × Unit) h' => ∃ t : Bt I.It, Nd I h' y.1 t ∧ t.list = l ∧ t.Full) ⟨l.length + 1, c_buildR O _ (Nat.lt_succ_self _) (hr.ext e1) hroom⟩ fun y h2 e2 hy => ?_
  obtain ⟨(p : Option Addr), u⟩ := y
  obtain ⟨t, n, hl, hfull⟩ := hy
  dsimp only at n ⊢
  refine s_putP p (o1.ext e2) fun h3 o3 u3 => s_getT o3 (s_ret ?_)
  have e := Upd.extN (e1.trans e2) u3 (by intro a ha; cases ha; exact Nat.le_refl _)
  exact ⟨rfl, e, ((p, ()), ()), rfl, t, n.upd u3 (o1.ext e2) (by omega), hl, hfull⟩

theorem c_Size {p : Option Addr} {t : Bt I.It} (ht : Nd I h p t) : Gives P (G_Size I (p, ())) [.one (.int .i64)] h fun (x : Int × Unit) _ => x.1 = t.list.length := by
  unfold G_Size Gives
  refine s_newP p fun h1 e1 o1 => s_getP o1 (wp_call (c_count (ht.ext e1)) fun x h2 e2 hx => ?_)
  exact s_ret ⟨rfl, e1.trans e2, (x.1, ()), rfl, hx⟩

theorem c_Sum (O : I.Ok P) {p : Option Addr} {t : Bt I.It} (ht : Nd I h p t) (hw : I.wf t.list) (hroom : I.W t.list ≤ 4398046511104) : Gives P (G_Sum I (p, ())) [(.agg I.sB)] h fun (x : I.Su × Unit) _ => x.1 = I.sum t.list := by
  unfold G_Sum Gives
  refine s_newP p fun h1 e1 o1 => s_newO I.zs O.s1.2 fun h2 e2 o2 => s_getP (o1.ext e2) ?_
  cases t with
  | nil =>
    obtain rfl := ht
    exact s_ifT (s_newO I.zs O.s1.2 fun h3 e3 o3 => s_getO o3 (s_tellO I.zs (o2.ext e3) e1.size ((e1.trans e2).trans e3) (O.fs _) fun h' e => ⟨rfl, e, (I.zs, ()), rfl, rfl⟩))
  | node l x r =>
    obtain ⟨a, ql, qr, rfl, c, _, _⟩ := ht
    exact s_ifF (s_getP (o1.ext e2) (q_sum (c.ext (e1.trans e2)) (s_tellO (I.sum (Bt.node l x r).list) o2 e1.size (e1.trans e2) (O.fs _) fun h' e => ⟨rfl, e, (_, ()), rfl, rfl⟩)))

theorem W_two (l : List I.It) {i j : Nat} (h : i ≤ j) : I.W (l.take i) + I.W (l.drop j) ≤ I.W l := by
  have h1 := W_append (l.take i) (l.drop i)
  rw [List.take_append_drop] at h1
  have h2 := W_drop (l.drop i) (j - i)
  rw [List.drop_drop, show i + (j - i) = j by omega] at h2
  omega

theorem c_Replace (O : I.Ok P) {p : Option Addr} {t : Bt I.It} {items : Sl} {its : List I.It} {i j : Int} (nt : Nd I h p t) (hr : Its I h items its) (hw : I.wf t.list) (h0 : 0 ≤ i) (h1 : i ≤ j) (h2 : j ≤ t.list.length) (hroom : I.W t.list + I.W its ≤ 4398046511104) (hfr : Fresh I h := by repeat (first | assumption | refine Fresh.ext ?_ (by assumption))) :
    Gives P (G_Replace I (p, ()) i j items) [.agg [.ptr], .one (.int .i64)] h fun (y : TR × Int × Unit) h' => y.2.1 = 0 ∧ ∃ t', Nd I h' y.1.1 t' ∧ t'.list = t.list.take i.toNat ++ its ++ t.list.drop j.toNat ∧ (t.Avl → t'.Avl) := by
  unfold G_Replace Gives
  refine s_newP p fun k1 e1 o1 => s_newP none fun k2 e2 o2 => ?_
  have e02 := e1.trans e2
  have o12 := o1.ext e2
  refine bind_bool False ?_ fun b k3 e3 hb => ?_
  · refine wp_ifB (fun hz => ?_) fun hz => wp_ifB (fun hy => ?_) fun hy => s_getT o12 (wp_call (c_Size (nt.ext e02)) fun y k3 e3 hy => ?_)
    · rw [ltI_iff] at hz; omega
    · rw [gtI_iff] at hy; omega
    · obtain ⟨(y : Int), w⟩ := y
      dsimp only at hy ⊢
      refine s_ret ⟨rfl, e3, gtI j y, rfl, Iff.intro (fun hx => ?_) False.elim⟩
      rw [gtI_iff] at hx; omega
  have hbf : b = false := by cases b; rfl; exact (hb.1 rfl).elim
  subst hbf
  dsimp only
  have o13 := o12.ext e3
  have e03 := e02.trans e3
  have l1 := W_take t.list i.toNat
  have l3 := W_two t.list (i := i.toNat) (j := j.toNat) (by omega)
  refine s_ifF (s_getP o13 (wp_call (c_cut O (nt.ext e03) hw (by omega) h0 (by omega)) fun y k4 e4 hy => s_getP (o13.ext e4) (wp_call (c_cut O (nt.ext (e03.trans e4)) hw (by omega) (by omega) h2) fun z k5 e5 hz => ?_)))
  obtain ⟨(pa : Option Addr), (pb : Option Addr), w1⟩ := y
  obtain ⟨ta, tb, na, nb, la, lb, hav⟩ := hy
  obtain ⟨(pc : Option Addr), (pd : Option Addr), w2⟩ := z
  obtain ⟨tc, td, nc, nd, lc, ld, hav2⟩ := hz
  dsimp only at na nb nc nd ⊢
  have e05 := (e03.trans e4).trans e5
  refine wp_call (R := fun (y : Option Addr × Unit) h' => ∃ t : Bt I.It, Nd I h' y.1 t ∧ t.list = its ∧ t.Full) ⟨its.length + 1, c_buildR O _ (Nat.lt_succ_self _) (hr.ext e05) (by omega)⟩ fun y k6 e6 hy => ?_
  obtain ⟨(pm : Option Addr), w3⟩ := y
  obtain ⟨tm, nm, lm, fm⟩ := hy
  dsimp only at nm ⊢
  refine wp_call (c_both O ((na.ext e5).ext e6) nm (by rw [la, lm]; exact wf_append (wf_take hw _) hr.wf) (by rw [la, lm, W_append]; omega)) fun y k7 e7 hy => ?_
  obtain ⟨(pn : Option Addr), w4⟩ := y
  obtain ⟨tn, nn, ln, hav3⟩ := hy
  dsimp only at nn ⊢
  rw [la, lm] at ln
  refine wp_call (c_both O nn ((nd.ext e6).ext e7) (by rw [ln, ld]; exact wf_append (wf_append (wf_take hw _) hr.wf) (wf_drop hw _)) (by rw [ln, ld, W_append, W_append]; omega)) fun y k8 e8 hy => ?_
  obtain ⟨(pz : Option Addr), w5⟩ := y
  obtain ⟨tz, nz, lz, hav4⟩ := hy
  dsimp only at nz ⊢
  have e28 := (((((e3.trans e4).trans e5).trans e6).trans e7).trans e8)
  have o28 := o2.ext e28
  refine s_putP pz o28 fun k9 o9 u9 => s_getT o9 (s_ret ⟨rfl, Upd.extN (e02.trans e28) u9 (by intro a ha; cases ha; exact e1.size), ((pz, ()), 0, ()), rfl, rfl, tz, nz.upd u9 o28 (by omega), by rw [lz, ln, ld], fun hv => hav4 (hav3 (hav hv).1 fm.2.2) (hav2 hv).2⟩)

theorem c_At (O : I.Ok P) {p : Option Addr} {t : Bt I.It} {i : Int} {x : I.It} (nt : Nd I h p t) (hw : I.wf t.list) (hroom : I.W t.list ≤ 4398046511104) (h0 : 0 ≤ i) (hx : t.list[i.toNat]? = some x) :
    Gives P (G_At I (p, ()) i) [(.agg I.iB), .one .bool] h fun (y : I.It × Bool × Unit) h' => y.1 = x ∧ y.2.1 = true := by
  have hi := (List.getElem?_eq_some_iff.1 hx).1
  unfold G_At Gives
  refine s_newP p fun h1 e1 o1 => s_newO I.zi O.i1.2 fun h2 e2 o2 => s_getP (o1.ext e2) ?_
  refine wp_whileG (G := Bt I.It) (fun g (s : Int × Option Addr × Unit) h' => Ext h h' ∧ Nd I h' s.2.1 g ∧ 0 ≤ s.1 ∧ s.1 < g.list.length ∧ I.W g.list ≤ 4398046511104 ∧ g.list[s.1.toNat]? = some x ∧ Own h1.size 1 h' ⟨some ⟨h1.size, 0, none⟩, I.iB.length, I.iB.length⟩ (Bs.inj I.iB I.zi)) (fun g => g.list.length)
    (fun t' vs h' => t' = 1 ∧ vs = [.pointer (some ⟨h1.size, 0, none⟩), .bool true] ∧ Ext h h' ∧ Own h1.size 1 h' ⟨some ⟨h1.size, 0, none⟩, I.iB.length, I.iB.length⟩ (Bs.inj I.iB x))
    t ⟨e1.trans e2, nt.ext (e1.trans e2), h0, by first | omega | (dsimp only; omega), hroom, hx, o2⟩ ?_ ?_
  · rintro g ⟨(j : Int), (q : Option Addr), u⟩ h3 ⟨e3, nq, hj0, hj1, hg, hgx, oa⟩
    dsimp only at nq hj0 hj1 hgx ⊢
    cases g with
    | nil => simp [Bt.list] at hj1; omega
    | node l y r =>
      have hl := node_len l r y; have hlw := node_W (I := I) l r y; have hll := W_len O (Bt.node l y r).list
      obtain ⟨a, ql, qr, rfl, c, n1, n2⟩ := nq
      have c : NdC I h3 a ql qr l y r := c
      refine bind_bool True (s_ifT (s_ret ⟨rfl, Ext.refl _, geI j 0, rfl, by rw [geI_iff]; exact Iff.intro (fun _ => trivial) (fun _ => hj0)⟩)) fun b h4 e4 hb => ?_
      have hbt : b = true := hb.2 trivial
      subst hbt
      dsimp only
      have c4 := c.ext e4
      have e04 := e3.trans e4
      refine s_ifT (q_left c4 (wp_call (c_count (n1.ext e4)) fun k h5 e5 hk => ?_))
      obtain ⟨(k : Int), w⟩ := k
      dsimp only at hk ⊢
      subst hk
      have c5 := c4.ext e5
      have oa5 := (oa.ext e4).ext e5
      have e05 := e04.trans e5
      have hbt : (Bt.node l y r).list = l.list ++ y :: r.list := rfl
      rw [hbt] at hgx
      refine wp_ifB (fun hc => ?_) fun hc => wp_ifB (fun hd => ?_) fun hd => ?_
      · rw [eqI_iff] at hc
        have hxy : y = x := by
          rw [List.getElem?_append_right (by omega), show j.toNat - l.list.length = 0 by omega] at hgx
          simpa using hgx
        subst hxy
        exact q_item c5 (s_stoO y oa5 (O.fi _) fun h6 o6 u6 => s_ret ⟨fun h => absurd h (by decide), fun _ => ⟨rfl, rfl, Upd.extN e05 u6 (by intro a ha; cases ha; exact e1.size), o6⟩⟩)
      · rw [ltI_iff] at hd
        rw [List.getElem?_append_left (by omega)] at hgx
        exact q_left c5 (s_ret ⟨fun _ => ⟨l, (j, ql, ()), rfl, ⟨e05, (n1.ext e4).ext e5, hj0, hd, by omega, hgx, oa5⟩, by first | omega | (dsimp only; omega)⟩, fun h => absurd rfl h⟩)
      · rw [eqI_not] at hc
        rw [ltI_not] at hd
        rw [sub_ok (a := j) (by omega) (by omega), sub_ok (by omega) (by omega)]
        obtain ⟨d, hd'⟩ : ∃ d : Nat, j = l.list.length + 1 + d := ⟨(j - l.list.length - 1).toNat, by omega⟩
        have h2' : (j - l.list.length - 1).toNat = d := by omega
        rw [List.getElem?_append_right (by omega), show j.toNat - l.list.length = d + 1 by omega, List.getElem?_cons_succ] at hgx
        exact q_right c5 (s_ret ⟨fun _ => ⟨r, (j - l.list.length - 1, qr, ()), rfl, ⟨e05, (n2.ext e4).ext e5, by first | omega | (dsimp only; omega), by first | omega | (dsimp only; omega), by omega, by rw [h2']; exact hgx, oa5⟩, by first | omega | (dsimp only; omega)⟩, fun h => absurd rfl h⟩)
  · rintro tg vs h3 ⟨rfl, rfl, e3, oa⟩
    exact s_skip (by decide) (s_tag ⟨(some ⟨h1.size, 0, none⟩, true, ()), rfl, s_getO oa (s_ret ⟨rfl, e3, (x, true, ()), rfl, rfl, rfl⟩)⟩)

theorem c_AtNo (O : I.Ok P) {p : Option Addr} {t : Bt I.It} {i : Int} (nt : Nd I h p t) (hroom : I.W t.list ≤ 4398046511104) (hf : i ≤ 9223372036854775807) (hno : i < 0 ∨ (t.list.length : Int) ≤ i) :
    Gives P (G_At I (p, ()) i) [(.agg I.iB), .one .bool] h fun (y : I.It × Bool × Unit) h' => y.1 = I.zi ∧ y.2.1 = false := by
  unfold G_At Gives
  refine s_newP p fun h1 e1 o1 => s_newO I.zi O.i1.2 fun h2 e2 o2 => s_getP (o1.ext e2) ?_
  refine wp_whileG (G := Bt I.It) (fun g (s : Int × Option Addr × Unit) h' => Ext h h' ∧ Nd I h' s.2.1 g ∧ (s.1 < 0 ∨ (g.list.length : Int) ≤ s.1) ∧ s.1 ≤ 9223372036854775807 ∧ I.W g.list ≤ 4398046511104 ∧ Own h1.size 1 h' ⟨some ⟨h1.size, 0, none⟩, I.iB.length, I.iB.length⟩ (Bs.inj I.iB I.zi)) (fun g => g.list.length)
    (fun t' vs h' => t' = 2 ∧ vs = [] ∧ Ext h h' ∧ Own h1.size 1 h' ⟨some ⟨h1.size, 0, none⟩, I.iB.length, I.iB.length⟩ (Bs.inj I.iB I.zi))
    t ⟨e1.trans e2, nt.ext (e1.trans e2), hno, hf, hroom, o2⟩ ?_ ?_
  · rintro g ⟨(j : Int), (q : Option Addr), u⟩ h3 ⟨e3, nq, hj0, hj1, hg, oa⟩
    dsimp only at nq hj0 hj1 ⊢
    cases g with
    | nil =>
      obtain rfl := nq
      refine bind_bool False (s_ifF (s_ret ⟨rfl, Ext.refl _, false, rfl, Iff.intro (fun x => by cases x) False.elim⟩)) fun b h4 e4 hb => ?_
      have hbb : b = false := by cases b; rfl; exact (hb.1 rfl).elim
      subst hbb
      exact s_ifF (s_ret ⟨fun h => absurd h (by decide), fun _ => ⟨rfl, rfl, e3.trans e4, oa.ext e4⟩⟩)
    | node l y r =>
      have hl := node_len l r y; have hlw := node_W (I := I) l r y; have hll := W_len O (Bt.node l y r).list
      obtain ⟨a, ql, qr, rfl, c, n1, n2⟩ := nq
      have c : NdC I h3 a ql qr l y r := c
      refine bind_bool (0 ≤ j) (s_ifT (s_ret ⟨rfl, Ext.refl _, geI j 0, rfl, geI_iff⟩)) fun b h4 e4 hb => ?_
      have c4 := c.ext e4
      have e04 := e3.trans e4
      dsimp only
      refine wp_ifB (fun hc => ?_) fun hc => s_ret ⟨fun h => absurd h (by decide), fun _ => ⟨rfl, rfl, e04, oa.ext e4⟩⟩
      have h0 := hb.1 hc
      refine q_left c4 (wp_call (c_count (n1.ext e4)) fun k h5 e5 hk => ?_)
      obtain ⟨(k : Int), w⟩ := k
      dsimp only at hk ⊢
      subst hk
      have c5 := c4.ext e5
      have oa5 := (oa.ext e4).ext e5
      have e05 := e04.trans e5
      rw [show eqI j (l.list.length : Int) = false from eqI_not.2 (by omega), show ltI j (l.list.length : Int) = false from ltI_not.2 (by omega)]
      rw [sub_ok (a := j) (by omega) (by omega), sub_ok (by omega) (by omega)]
      exact s_ifF (s_ifF (q_right c5 (s_ret ⟨fun _ => ⟨r, (j - l.list.length - 1, qr, ()), rfl, ⟨e05, (n2.ext e4).ext e5, by dsimp only; omega, by dsimp only; omega, by omega, oa5⟩, by omega⟩, fun h => absurd rfl h⟩)))
  · rintro tg vs h3 ⟨rfl, rfl, e3, oa⟩
    refine s_tag (s_cast0 (s_newO I.zi O.i1.2 fun h4 e4 oz => s_getO oz (s_stoO I.zi (oa.ext e4) (O.fi _) fun h5 o5 u5 => s_getO o5 (s_ret ⟨rfl, Upd.extN (e3.trans e4) u5 (by intro a ha; cases ha; exact e1.size), (I.zi, false, ()), rfl, rfl, rfl⟩))))

end Go.Sw.Any

set_option linter.unusedVariables false
set_option linter.unusedSimpArgs false
set_option maxRecDepth 100000
namespace Go.Sw.Any
open Go.Sw.Tree (iv s_putAll s_newP s_getP s_getT s_putP small_ne cells_upd wp_whileG least TR minI_eq eqI_self Placed)
variable {P : Program} {I : Inst} {h : Heap} {Q : Nat → List Value → Heap → Prop}

theorem s_left {p : Option Addr} {l r : Bt I.It} {x : I.It} {K : Option Addr → Prog} (ht : Nd I h p (.node l x r)) (hk : ∀ q, Nd I h q l → wp P (K q) h Q) : wp P (grd (someB p) <| grd (someB p) <| .load (.one .ptr) (shiftTo p 0) K) h Q := by
  obtain ⟨a, pl, pr, rfl, c, n1, n2⟩ := ht; exact q_left c (hk pl n1)
theorem s_right {p : Option Addr} {l r : Bt I.It} {x : I.It} {K : Option Addr → Prog} (ht : Nd I h p (.node l x r)) (hk : ∀ q, Nd I h q r → wp P (K q) h Q) : wp P (grd (someB p) <| grd (someB p) <| .load (.one .ptr) (shiftTo p 1) K) h Q := by
  obtain ⟨a, pl, pr, rfl, c, n1, n2⟩ := ht; exact q_right c (hk pr n2)
theorem s_item {p : Option Addr} {l r : Bt I.It} {x : I.It} {K : I.It → Prog} (ht : Nd I h p (.node l x r)) (hk : wp P (K x) h Q) : wp P (grd (someB p) <| grd (someB p) <| .load (.agg I.iB) (shiftTo p 2) K) h Q := by
  obtain ⟨a, pl, pr, rfl, c, n1, n2⟩ := ht; exact q_item c hk
theorem s_sum {p : Option Addr} {l r : Bt I.It} {x : I.It} {K : I.Su → Prog} (ht : Nd I h p (.node l x r)) (hk : wp P (K (I.sum (Bt.node l x r).list)) h Q) : wp P (grd (someB p) <| grd (someB p) <| .load (.agg I.sB) (shiftTo p (I.ni + 4)) K) h Q := by
  obtain ⟨a, pl, pr, rfl, c, n1, n2⟩ := ht; exact q_sum c hk

theorem Nd.root {p : Option Addr} {t : Bt I.It} (ht : Nd I h p t) : noneB p = true ↔ t = .nil := by
  cases t with
  | nil => obtain rfl := ht; exact Iff.intro (fun _ => rfl) (fun _ => rfl)
  | node l x r => obtain ⟨a, _, _, rfl, _⟩ := ht; exact Iff.intro (fun h => by cases h) (fun h => by cases h)

/-- What Find tells. -/
def Found (I : Inst) (l : List I.It) (k n i : Int) : Prop :=
  (i = 0 ∧ n ≤ 0) ∨ (1 ≤ i ∧ i ≤ l.length ∧ n ≤ I.key (I.sum (l.take i.toNat)) k ∧ I.key (I.sum (l.take (i.toNat - 1))) k < n) ∨ (i = l.length + 1 ∧ I.key (I.sum l) k < n)


theorem c_Find (O : I.Ok P) {p : Option Addr} {t : Bt I.It} {k n : Int} (ht : Nd I h p t) (hw : I.wf t.list) (hroom : I.W t.list < 4398046511104) :
    Gives P (G_Find I (p, ()) k n) [.one (.int .i64)] h fun (x : Int × Unit) _ => Found I t.list k n x.1 := by
  have hWl := W_len O t.list
  have hns : I.sB.length = I.ns := rfl
  unfold G_Find Gives
  refine s_newP p fun h1 e1 o1 => wp_ifB (fun hc => ?_) fun hc => ?_
  · rw [leI_iff] at hc
    exact s_ret ⟨rfl, e1, (0, ()), rfl, .inl ⟨rfl, hc⟩⟩
  rw [leI_not] at hc
  refine s_newO I.zs O.s1.2 fun h2 e2 o2 => s_getP (o1.ext e2) ?_
  refine wp_whileG (G := Bt I.It × List I.It × List I.It) (fun g (s : Int × Option Addr × Unit) h' => Ext h1 h' ∧ Nd I h' s.2.1 g.1 ∧ t.list = g.2.1 ++ g.1.list ++ g.2.2 ∧ s.1 = g.2.1.length ∧ Own h1.size 1 h' ⟨some ⟨h1.size, 0, none⟩, I.sB.length, I.sB.length⟩ (Bs.inj I.sB (I.sum g.2.1)) ∧ I.key (I.sum g.2.1) k < n ∧
      (g.2.2 = [] ∨ n ≤ I.key (I.sum (g.2.1 ++ g.1.list)) k)) (fun g => g.1.list.length)
    (fun t' vs h' => Ext h1 h' ∧ ((t' = 2 ∧ ∃ x : Int × Unit, vs = Ts.inj [.one (.int .i64)] x ∧ x.1 = t.list.length ∧ I.key (I.sum t.list) k < n) ∨ (t' = 1 ∧ ∃ x : Int × Unit, vs = Ts.inj [.one (.int .i64)] x ∧ Found I t.list k n x.1)))
    (t, [], []) ⟨e2, ht.ext (e1.trans e2), by simp, rfl, o2, by rw [show I.sum [] = I.zs from rfl, O.key0]; exact hc, .inl rfl⟩ ?_ ?_
  · rintro ⟨t', pre, post⟩ ⟨(at_ : Int), (q : Option Addr), u⟩ h3 ⟨e3, nq, hL, hat, oa, hkey, hpost⟩
    dsimp only at nq hL hat oa hkey hpost ⊢
    have hw0 : I.wf (pre ++ t'.list ++ post) := hL ▸ hw
    have hwp : I.wf pre := fun y hy => hw0 y (by simp [hy])
    have hwt : I.wf t'.list := fun y hy => hw0 y (by simp [hy])
    have hlenL : t.list.length = pre.length + t'.list.length + post.length := by rw [hL]; simp [Nat.add_assoc]
    have hWL : I.W t.list = I.W pre + I.W t'.list + I.W post := by rw [hL, W_append, W_append]
    have hWlen := W_len O t.list
    cases t' with
    | nil =>
      obtain rfl := nq
      refine s_ifF (s_ret ⟨fun h => absurd h (by decide), fun _ => ⟨e3, .inl ⟨rfl, (at_, ()), rfl, ?_, ?_⟩⟩⟩)
      · rcases hpost with rfl | hpost
        · rw [hlenL, hat]; simp [Bt.list]
        · simp only [Bt.list, List.append_nil] at hpost; omega
      · rcases hpost with rfl | hpost
        · rw [hL]; simpa [Bt.list] using hkey
        · simp only [Bt.list, List.append_nil] at hpost; omega
    | node l x r =>
      have hq : ∃ a, q = some a := by obtain ⟨a, _, _, h1, _⟩ := nq; exact ⟨a, h1⟩
      obtain ⟨qa, rfl⟩ := hq
      have hnl := node_len l r x; have hnlw := node_W (I := I) l r x; have hnll := W_len O (Bt.node l x r).list
      have hx := wf_mid hwt
      have vp := V.sum O hwp
      have vl := V.sum O (wf_left hwt)
      have vm := O.vm x hx
      have hpl : I.sum (pre ++ l.list) = I.add (I.sum pre) (I.sum l.list) := sum_append O hwp (wf_left hwt)
      have vpl := O.va _ _ _ _ vp vl
      refine s_ifT (s_getO oa (s_putO (I.sum pre) O.s1.2 (O.fs _) fun h4 e4 ob => ?_))
      have oa := oa.ext e4
      have nq := nq.ext e4
      have e34 := e3.trans e4
      have hb3 := (oa.lt rfl).2
      -- the sum ahead of the thing
      refine wp_bind (fun t vs h' => t = 0 ∧ vs = [] ∧ Ext h3 h' ∧ Own h3.size 1 h' ⟨some ⟨h3.size, 0, none⟩, I.sB.length, I.sB.length⟩ (Bs.inj I.sB (I.sum (pre ++ l.list)))) ?_ ?_
      · refine s_left nq fun pl nl => ?_
        cases l with
        | nil =>
          obtain rfl := nl
          exact s_ifF (s_ret ⟨rfl, rfl, e4, by simpa [Bt.list] using ob⟩)
        | node ll lx lr =>
          have hp : ∃ a, pl = some a := by obtain ⟨a, _, _, h1, _⟩ := nl; exact ⟨a, h1⟩
          obtain ⟨la, rfl⟩ := hp
          refine s_ifT (s_getO oa (s_left nq fun pl nl => s_sum nl (wp_call (O.ca _ _ _ _ _ vp vl (by omega)) fun m h5 e5 hm => ?_)))
          obtain ⟨m, w5⟩ := m
          dsimp only at hm
          rw [← hpl] at hm
          subst hm
          refine s_stoO (I.sum (pre ++ (Bt.node ll lx lr).list)) (ob.ext e5) (O.fs _) fun h6 o6 u6 => s_ret ⟨rfl, rfl, Upd.extN (e4.trans e5) u6 (by intro a ha; cases ha; exact Nat.le_refl _), o6⟩
      · rintro tg vs h5 ⟨rfl, rfl, e5, ob⟩
        have oa := (‹Own h1.size 1 h3 ⟨some ⟨h1.size, 0, none⟩, I.sB.length, I.sB.length⟩ (Bs.inj I.sB (I.sum pre))›).ext e5
        have nq := (‹Nd I h3 (some qa) (.node l x r)›).ext e5
        have e35 := e3.trans e5
        refine s_tag (s_cast0 (s_getO ob (wp_call (O.ck _ _ _ _ (hpl ▸ vpl) (by omega)) fun y h6 e6 hy => ?_)))
        obtain ⟨(y : Int), w6⟩ := y
        dsimp only at hy ⊢
        subst hy
        have nq6 := nq.ext e6
        refine wp_ifB (fun hg => ?_) fun hg => ?_
        · rw [geI_iff] at hg
          refine s_left nq6 fun pl nl => s_ret ⟨fun _ => ⟨(l, pre, x :: r.list ++ post), (at_, pl, ()), rfl, ⟨e35.trans e6, nl, by rw [hL]; simp [Bt.list], hat, oa.ext e6, hkey, .inr hg⟩, by dsimp only; omega⟩, fun h => absurd rfl h⟩
        · rw [geI_not] at hg
          refine s_left nq6 fun pl nl => wp_call (c_count nl) fun c h7 e7 hc7 => ?_
          obtain ⟨(c : Int), w7⟩ := c
          dsimp only at hc7 ⊢
          subst hc7
          have nq7 := nq6.ext e7
          have ob7 := ob.ext (e6.trans e7)
          have oa7 := oa.ext (e6.trans e7)
          refine s_getO ob7 (s_item nq7 (wp_call (O.cm _ x hx) fun m h8 e8 hm => ?_))
          obtain ⟨m, w8⟩ := m
          dsimp only at hm
          subst hm
          refine s_ckO (ob7.ext e8) (wp_call (O.ca _ _ _ _ _ (hpl ▸ vpl) vm (by omega)) fun m h9 e9 hm => ?_)
          obtain ⟨m, w9⟩ := m
          dsimp only at hm
          rw [← sum_snoc] at hm
          subst hm
          have vq : I.V (I.W pre + I.W l.list + I.wt x) (I.sum (pre ++ l.list ++ [x])) := by rw [sum_snoc, hpl]; exact O.va _ _ _ _ vpl vm
          refine s_stoO (I.sum (pre ++ l.list ++ [x])) ((oa7.ext e8).ext e9) (O.fs _) fun h10 ob10 u10 => ?_
          have e10 : Ext h1 h10 := Upd.extN ((((e35.trans e6).trans e7).trans e8).trans e9) u10 (by intro a ha; cases ha; exact Nat.le_refl _)
          have nq10 : Nd I h10 (some qa) (.node l x r) := ((nq7.ext e8).ext e9).upd u10 ((oa7.ext e8).ext e9) (by omega)
          have oa := ob10
          refine s_getO oa (wp_call (O.ck _ _ _ _ vq (by omega)) fun y h11 e11 hy => ?_)
          obtain ⟨(y : Int), w11⟩ := y
          dsimp only at hy ⊢
          subst hy
          have hsum3 : addI .i64 at_ (addI .i64 ((l.list.length : Nat) : Int) 1) = ((pre.length + l.list.length + 1 : Nat) : Int) := by
            rw [add_ok (a := ((l.list.length : Nat) : Int)) (by omega) (by omega), add_ok (by omega) (by omega)]; omega
          rw [hsum3]
          have hpre : t.list.take (pre.length + l.list.length + 1) = pre ++ l.list ++ [x] := by
            rw [show t.list = (pre ++ l.list ++ [x]) ++ (r.list ++ post) by rw [hL]; simp [Bt.list]]
            exact List.take_left' (by simp [Nat.add_assoc])
          have hpre' : t.list.take (pre.length + l.list.length) = pre ++ l.list := by
            rw [show t.list = (pre ++ l.list) ++ (x :: r.list ++ post) by rw [hL]; simp [Bt.list]]
            exact List.take_left' (by simp)
          refine wp_ifB (fun hg2 => ?_) fun hg2 => ?_
          · rw [geI_iff] at hg2
            refine s_ret ⟨fun h => absurd h (by decide), fun _ => ⟨e10.trans e11, .inr ⟨rfl, (((pre.length + l.list.length + 1 : Nat) : Int), ()), rfl, .inr (.inl ⟨by dsimp only; omega, by dsimp only; omega, ?_, ?_⟩)⟩⟩⟩
            · dsimp only; rw [Int.toNat_natCast, hpre]; exact hg2
            · dsimp only; rw [Int.toNat_natCast, Nat.add_sub_cancel, hpre']; exact hg
          · rw [geI_not] at hg2
            refine s_right (nq10.ext e11) fun pr nr => s_ret ⟨fun _ => ⟨(r, pre ++ l.list ++ [x], post), (((pre.length + l.list.length + 1 : Nat) : Int), pr, ()), rfl, ⟨e10.trans e11, nr, by rw [hL]; simp [Bt.list], by simp; omega, oa.ext e11, hg2, ?_⟩, by dsimp only; omega⟩, fun h => absurd rfl h⟩
            rcases hpost with hp | hp
            · exact .inl hp
            · refine .inr ?_
              dsimp only
              rw [show pre ++ l.list ++ [x] ++ r.list = pre ++ (Bt.node l x r).list by simp [Bt.list]]; exact hp
  · rintro tg vs h3 ⟨e3, ⟨rfl, x, rfl, hx, hk⟩ | ⟨rfl, x, rfl, hx⟩⟩
    · obtain ⟨(x : Int), w⟩ := x
      dsimp only at hx
      refine s_tag ⟨(x, ()), rfl, ?_⟩
      dsimp only
      subst hx
      rw [add_ok (by omega) (by omega)]
      exact s_ret ⟨rfl, e1.trans e3, (_, ()), rfl, .inr (.inr ⟨rfl, hk⟩)⟩
    · obtain ⟨(x : Int), w⟩ := x
      exact s_skip (by decide) (s_tag ⟨(x, ()), rfl, s_ret ⟨rfl, e1.trans e3, (x, ()), rfl, hx⟩⟩)

theorem c_Upto' (O : I.Ok P) {p : Option Addr} {t : Bt I.It} {i : Int} (ht : Nd I h p t) (hw : I.wf t.list) (hroom : I.W t.list < 4398046511104) :
    Gives P (G_Upto I (p, ()) i) [(.agg I.sB)] h fun (x : I.Su × Unit) _ => x.1 = I.sum (t.list.take i.toNat) := by
  have hWl := W_len O t.list
  have hns : I.sB.length = I.ns := rfl
  unfold G_Upto Gives
  refine s_newP p fun h1 e1 o1 => s_newO I.zs O.s1.2 fun h2 e2 o2 => s_newO I.zs O.s1.2 fun h3 e3 o3 => s_getT ((o1.ext e2).ext e3) (wp_call (c_Size (ht.ext ((e1.trans e2).trans e3))) fun y h4 e4 hy => s_getP (((o1.ext e2).ext e3).ext e4) ?_)
  obtain ⟨(y : Int), w1⟩ := y
  dsimp only at hy ⊢
  subst hy
  have b2 := (o2.lt rfl).2
  have b1 := (o1.lt rfl).2
  dsimp only at b1 b2
  have e04 : Ext h h4 := (((e1.trans e2).trans e3).trans e4)
  refine wp_whileG (G := Bt I.It × List I.It × List I.It) (fun g (s : Int × Option Addr × Unit) h' => Ext h h' ∧ Nd I h' s.2.1 g.1 ∧ t.list = g.2.1 ++ g.1.list ++ g.2.2 ∧ t.list.take i.toNat = g.2.1 ++ g.1.list.take s.1.toNat ∧ s.1 ≤ g.1.list.length ∧
      Own h1.size 1 h' ⟨some ⟨h1.size, 0, none⟩, I.sB.length, I.sB.length⟩ (Bs.inj I.sB I.zs) ∧ Own h2.size 1 h' ⟨some ⟨h2.size, 0, none⟩, I.sB.length, I.sB.length⟩ (Bs.inj I.sB (I.sum g.2.1))) (fun g => g.1.list.length)
    (fun t' vs h' => t' = 2 ∧ vs = [] ∧ Ext h h' ∧ Own h1.size 1 h' ⟨some ⟨h1.size, 0, none⟩, I.sB.length, I.sB.length⟩ (Bs.inj I.sB I.zs) ∧ Own h2.size 1 h' ⟨some ⟨h2.size, 0, none⟩, I.sB.length, I.sB.length⟩ (Bs.inj I.sB (I.sum (t.list.take i.toNat))))
    (t, [], []) ⟨e04, ht.ext e04, by simp, ?_, ?_, (o2.ext e3).ext e4, o3.ext e4⟩ ?_ ?_
  · dsimp only
    rw [List.nil_append]
    have : minI i ((t.list.length : Nat) : Int) = min i (t.list.length : Int) := minI_eq ..
    rw [this]
    by_cases hi : i ≤ (t.list.length : Int)
    · rw [show min i (t.list.length : Int) = i by omega]
    · rw [show min i (t.list.length : Int) = (t.list.length : Int) by omega, List.take_of_length_le (by omega), Int.toNat_natCast, List.take_length]
  · dsimp only
    rw [minI_eq]; omega
  · rintro ⟨t', pre, post⟩ ⟨(j : Int), (q : Option Addr), u⟩ h5 ⟨e5, nq, hL, htake, hj, oz, oa⟩
    dsimp only at nq hL htake hj oz oa ⊢
    have hw0 : I.wf (pre ++ t'.list ++ post) := hL ▸ hw
    have hwp : I.wf pre := fun y hy => hw0 y (by simp [hy])
    have hwt : I.wf t'.list := fun y hy => hw0 y (by simp [hy])
    have hlenL : t.list.length = pre.length + t'.list.length + post.length := by rw [hL]; simp [Nat.add_assoc]
    have hWL : I.W t.list = I.W pre + I.W t'.list + I.W post := by rw [hL, W_append, W_append]
    have hWlen := W_len O t.list
    refine bind_bool (t' ≠ .nil ∧ 0 < j) ?_ fun b h6 e6 hb => ?_
    · cases t' with
      | nil => obtain rfl := nq; exact s_ifF (s_ret ⟨rfl, Ext.refl _, false, rfl, Iff.intro (fun x => by cases x) (fun x => absurd rfl x.1)⟩)
      | node l x r =>
        obtain ⟨a, _, _, rfl, _⟩ := nq
        exact s_ifT (s_ret ⟨rfl, Ext.refl _, gtI j 0, rfl, by rw [gtI_iff]; exact Iff.intro (fun x => ⟨by simp, x⟩) (fun x => x.2)⟩)
    have e6' := e5.trans e6
    have nq6 := nq.ext e6
    have oz6 := oz.ext e6
    have oa6 := oa.ext e6
    dsimp only
    refine wp_ifB (fun hc => ?_) fun hc => ?_
    · obtain ⟨hnn, hj0⟩ := hb.1 hc
      cases t' with
      | nil => exact absurd rfl hnn
      | node l x r =>
        have hnl := node_len l r x; have hnlw := node_W (I := I) l r x; have hnll := W_len O (Bt.node l x r).list
        have hx := wf_mid hwt
        have vp := V.sum O hwp
        have vl := V.sum O (wf_left hwt)
        have vm := O.vm x hx
        have hpl : I.sum (pre ++ l.list) = I.add (I.sum pre) (I.sum l.list) := sum_append O hwp (wf_left hwt)
        have vpl : I.V (I.W pre + I.W l.list) (I.sum (pre ++ l.list)) := hpl ▸ O.va _ _ _ _ vp vl
        refine s_left nq6 fun pl nl => wp_call (c_count nl) fun c h7 e7 hc7 => ?_
        obtain ⟨(c : Int), w7⟩ := c
        dsimp only at hc7 ⊢
        subst hc7
        have nq7 := nq6.ext e7
        refine wp_ifB (fun hg => ?_) fun hg => ?_
        · rw [leI_iff] at hg
          refine s_left nq7 fun pl nl => s_ret ⟨fun _ => ⟨(l, pre, x :: r.list ++ post), (j, pl, ()), rfl, ⟨e6'.trans e7, nl, by rw [hL]; simp [Bt.list], ?_, hg, oz6.ext e7, oa6.ext e7⟩, by dsimp only; omega⟩, fun h => absurd rfl h⟩
          dsimp only
          rw [htake]; simp only [Bt.list]
          rw [List.take_append_of_le_length (by omega)]
        · rw [leI_not] at hg
          refine wp_bind (fun t vs h' => t = 0 ∧ vs = [] ∧ Ext h h' ∧ Nd I h' q (.node l x r) ∧ Own h1.size 1 h' ⟨some ⟨h1.size, 0, none⟩, I.sB.length, I.sB.length⟩ (Bs.inj I.sB I.zs) ∧ Own h2.size 1 h' ⟨some ⟨h2.size, 0, none⟩, I.sB.length, I.sB.length⟩ (Bs.inj I.sB (I.sum (pre ++ l.list)))) ?_ ?_
          · refine s_left nq7 fun pl nl => ?_
            cases l with
            | nil =>
              obtain rfl := nl
              exact s_ifF (s_ret ⟨rfl, rfl, e6'.trans e7, nq7, oz6.ext e7, by simpa [Bt.list] using oa6.ext e7⟩)
            | node ll lx lr =>
              have hp : ∃ a, pl = some a := by obtain ⟨a, _, _, h1, _⟩ := nl; exact ⟨a, h1⟩
              obtain ⟨la, rfl⟩ := hp
              refine s_ifT (s_getO (oa6.ext e7) (s_left nq7 fun pl nl => s_sum nl (wp_call (O.ca _ _ _ _ _ vp vl (by omega)) fun m h8 e8 hm => ?_)))
              obtain ⟨m, w5⟩ := m
              dsimp only at hm
              rw [← hpl] at hm
              subst hm
              refine s_stoO (I.sum (pre ++ (Bt.node ll lx lr).list)) ((oa6.ext e7).ext e8) (O.fs _) fun h9 o9 u9 => s_ret ⟨rfl, rfl, Upd.extN ((e6'.trans e7).trans e8) u9 (by intro a ha; cases ha; dsimp only; omega),
                (nq7.ext e8).upd u9 ((oa6.ext e7).ext e8) (by omega), ob_upd ((oz6.ext e7).ext e8) u9 (by dsimp only; omega), o9⟩
          · rintro tg vs h8 ⟨rfl, rfl, e8, nq8, oz8, oa8⟩
            refine s_tag (s_cast0 (s_getO oa8 (s_item nq8 (wp_call (O.cm _ x hx) fun m h9 e9 hm => ?_))))
            obtain ⟨m, w9⟩ := m
            dsimp only at hm
            subst hm
            refine s_ckO (oa8.ext e9) (wp_call (O.ca _ _ _ _ _ vpl vm (by omega)) fun m h10 e10 hm => ?_)
            obtain ⟨m, w10⟩ := m
            dsimp only at hm
            rw [← sum_snoc] at hm
            subst hm
            have vq : I.V (I.W pre + I.W l.list + I.wt x) (I.sum (pre ++ l.list ++ [x])) := by rw [sum_snoc]; exact O.va _ _ _ _ vpl vm
            refine s_stoO (I.sum (pre ++ l.list ++ [x])) ((oa8.ext e9).ext e10) (O.fs _) fun h11 o11 u11 => ?_
            have nq11 := ((nq8.ext e9).ext e10).upd u11 ((oa8.ext e9).ext e10) (by omega)
            have hsub : subI .i64 (subI .i64 j ((l.list.length : Nat) : Int)) 1 = j - l.list.length - 1 := by
              rw [sub_ok (a := j) (by omega) (by omega), sub_ok (by omega) (by omega)]
            rw [hsub]
            refine s_right nq11 fun pr nr => s_ret ⟨fun _ => ⟨(r, pre ++ l.list ++ [x], post), (j - l.list.length - 1, pr, ()), rfl, ⟨Upd.extN ((e8.trans e9).trans e10) u11 (by intro a ha; cases ha; dsimp only; omega), nr, by rw [hL]; simp [Bt.list], ?_, by dsimp only; omega,
              ob_upd ((oz8.ext e9).ext e10) u11 (by dsimp only; omega), o11⟩, by dsimp only; omega⟩, fun h => absurd rfl h⟩
            dsimp only
            rw [htake]
            obtain ⟨d, hd⟩ : ∃ d : Nat, j = l.list.length + 1 + d := ⟨(j - l.list.length - 1).toNat, by omega⟩
            have h1' : j.toNat = (l.list ++ [x]).length + d := by simp; omega
            have h2' : (j - l.list.length - 1).toNat = d := by omega
            rw [h1', h2', show (Bt.node l x r).list = (l.list ++ [x]) ++ r.list by simp [Bt.list], List.take_append, List.take_of_length_le (by omega), Nat.add_sub_cancel_left]
            simp
    · have hno : ¬(t' ≠ .nil ∧ 0 < j) := fun x => by rw [hb.2 x] at hc; cases hc
      refine s_ret ⟨fun h => absurd h (by decide), fun _ => ⟨rfl, rfl, e6', oz6, ?_⟩⟩
      rw [htake]
      by_cases hn : t' = .nil
      · subst hn; simpa [Bt.list] using oa6
      · have hj0 : j.toNat = 0 := by have : ¬ 0 < j := fun x => hno ⟨hn, x⟩; omega
        rw [hj0, List.take_zero, List.append_nil]; exact oa6
  · rintro tg vs h5 ⟨rfl, rfl, e5, oz, oa⟩
    exact s_tag (s_cast0 (s_getO oa (s_tellO (I.sum (t.list.take i.toNat)) oz e1.size e5 (O.fs _) fun h' e => ⟨rfl, e, (_, ()), rfl, rfl⟩)))

end Go.Sw.Any

set_option linter.unusedVariables false
set_option linter.unusedSimpArgs false
set_option maxRecDepth 100000
namespace Go.Sw.Any
open Go.Sw.Tree (iv s_putAll s_newP s_getP s_getT s_putP small_ne cells_upd wp_whileG least TR minI_eq eqI_self Placed cell_own)
variable {P : Program} {I : Inst} {h : Heap} {Q : Nat → List Value → Heap → Prop}

abbrev ag (I : Inst) (r : I.It) : Value := .agg (Bs.inj I.iB r).toArray
abbrev fItems (I : Inst) (a b : Option Addr) : Value := .func (.func I.f1) #[] #[.pointer a, .pointer b]
abbrev fWalk (I : Inst) (a b : Option Addr) : Value := .func (.func I.f2) #[] #[.pointer a, .pointer b]
/-- The tree's function values. -/
structure Clos (P : Program) (I : Inst) : Prop where
  it : ∀ (y : Value) (a b : Option Addr), Dyn P (fItems I a b) [y] (G_Items1 I y a b)
  wk : ∀ (p : Option Addr) (i : Int) (a b : Option Addr), Dyn P (fWalk I a b) [.pointer p, iv i] (G_Walk I p i a b)

theorem Nd.held {h' : Heap} (e : Held I.Z h h') : ∀ {t : Bt I.It} {p : Option Addr}, Nd I h p t → Nd I h' p t
  | .nil, _, n => n
  | .node l x r, p, ⟨a, pl, pr, e1, c, n1, n2⟩ => ⟨a, pl, pr, e1, ⟨cells_iff.2 fun j v hj => e.cell (cells_iff.1 c.1 j v hj) (by rw [add_block]; exact c.2.1), c.2⟩, Nd.held e n1, Nd.held e n2⟩

/-- The walker's own. -/
structure St (h0 : Heap) (m' : Nat) (y : Value) (I : Inst) (h : Heap) : Prop where
  held : Held I.Z h0 h
  le : h0.size ≤ m'
  sz : m' + 2 ≤ h.size
  cy : Sw.cell h ⟨m', 0, none⟩ = some y
  cw : Sw.cell h ⟨m' + 1, 0, none⟩ = some (fWalk I (some ⟨m' + 1, 0, none⟩) (some ⟨m', 0, none⟩))
theorem St.step {h0 h h' : Heap} {m' : Nat} {y : Value} (s : St h0 m' y I h) (f : Held (fun i => own m' 2 i ∨ (I.Z i ∧ i < h0.size)) h h') : St h0 m' y I h' where
  held := s.held.step f fun i hi hz => .inr ⟨hz, hi⟩
  le := s.le
  sz := Nat.le_trans s.sz f.1
  cy := f.cell s.cy (.inl ⟨Nat.le_refl _, by dsimp only; omega⟩)
  cw := f.cell s.cw (.inl ⟨by dsimp only; omega, by dsimp only; omega⟩)
theorem St.more {h0 h h' : Heap} {m' : Nat} {y : Value} (s : St h0 m' y I h) (e : Ext h h') : St h0 m' y I h' := s.step (Held.of_ext e)

theorem s_any {a : Addr} {v : Value} {K : Value → Prog} (hc : Sw.cell h a = some v) (hk : wp P (K v) h Q) : wp P (.load (.one .any) (some a) K) h Q := wp_load1 (b := .any) a v rfl hc hk

theorem c_walk (O : I.Ok P) (D : Clos P I) {h0 : Heap} {m' : Nat} {y : Value} {L : List I.It} {J : Nat → Heap → Prop} {F : Heap → Prop} (sJ : ∀ k a b, J k a → Chg (own m' 2) a b → J k b)
    (hY : ∀ k r h1, L[k]? = some r → J k h1 → m' + 2 ≤ h1.size → Held I.Z h0 h1 → DynV P y [ag I r] h1 fun vs h2 => ∃ b : Bool, vs = [.bool b] ∧ Held (fun i => own m' 2 i ∨ (I.Z i ∧ i < h0.size)) h1 h2 ∧ (b = true → J (k + 1) h2) ∧ (b = false → F h2)) :
    ∀ (t : Bt I.It) {p : Option Addr} {i : Int} {k : Nat} {h : Heap}, Nd I h0 p t → I.W t.list ≤ 4398046511104 → 0 ≤ i → i ≤ 9223372036854775807 → (∀ (j : Nat) (r : I.It), t.list[j]? = some r → i.toNat ≤ j → L[k + (j - i.toNat)]? = some r) → St h0 m' y I h → J k h →
    wp P (G_Walk I p i (some ⟨m' + 1, 0, none⟩) (some ⟨m', 0, none⟩)) h fun tag vs h' => tag = 0 ∧ ∃ b : Bool, vs = [.bool b] ∧ St h0 m' y I h' ∧ (b = true → J (k + (t.list.length - i.toNat)) h') ∧ (b = false → F h') := by
  have hJ : ∀ k a b, J k a → Ext a b → J k b := fun k a b j e => sJ k a b j (Chg.of_ext e)
  intro t
  induction t with
  | nil =>
    intro p i k h nt hroom h0' h1 hL st hj
    obtain rfl := nt
    unfold G_Walk
    refine bind_bool True (s_ifT (s_ret ⟨rfl, Ext.refl _, true, rfl, Iff.intro (fun _ => trivial) fun _ => rfl⟩)) fun b h2 e2 hb => ?_
    have hbt : b = true := hb.2 trivial
    subst hbt
    exact s_ifT (s_ret ⟨rfl, true, rfl, st.more e2, fun _ => by simpa [Bt.list] using hJ _ _ _ hj e2, fun h => by cases h⟩)
  | node l x r ihl ihr =>
    intro p i k h nt hroom h0' h1 hL st hj
    have hl := node_len l r x; have hlw := node_W (I := I) l r x; have hll := W_len O (Bt.node l x r).list
    have cAt : ∀ {h'}, St h0 m' y I h' → Nd I h' p (.node l x r) := fun s => Nd.held s.held nt
    obtain ⟨a, ql, qr, rfl, c, n1, n2⟩ := nt
    have cAt : ∀ {h'}, St h0 m' y I h' → NdC I h' a ql qr l x r := fun s => ⟨cells_iff.2 fun j v hj => s.held.cell (cells_iff.1 c.1 j v hj) (by rw [add_block]; exact c.2.1), c.2⟩
    have hxL : ∀ (j : Nat) (v : I.It), l.list[j]? = some v → (Bt.node l x r).list[j]? = some v := fun j v hv => by
      show (l.list ++ x :: r.list)[j]? = _
      rw [List.getElem?_append_left (List.getElem?_eq_some_iff.1 hv).1]; exact hv
    have hxM : (Bt.node l x r).list[l.list.length]? = some x := by
      show (l.list ++ x :: r.list)[_]? = _
      rw [List.getElem?_append_right (Nat.le_refl _)]; simp
    have hxR : ∀ (j : Nat) (v : I.It), r.list[j]? = some v → (Bt.node l x r).list[l.list.length + 1 + j]? = some v := fun j v hv => by
      show (l.list ++ x :: r.list)[_]? = _
      rw [List.getElem?_append_right (by omega), show l.list.length + 1 + j - l.list.length = j + 1 by omega, List.getElem?_cons_succ]; exact hv
    unfold G_Walk
    refine bind_bool (((Bt.node l x r).list.length : Int) ≤ i) ?_ fun b h2 e2 hb => ?_
    · exact s_ifF (wp_grd rfl (wp_grd rfl (wp_load1 (b := .int .i64) (a.add (I.ni + 2)) _ rfl (cAt st).nums.1 (s_ret ⟨rfl, Ext.refl _, _, rfl, geI_iff⟩))))
    have st2 := st.more e2
    have hj2 := hJ _ _ _ hj e2
    dsimp only
    refine wp_ifB (fun hc => s_ret ⟨rfl, true, rfl, st2, fun _ => ?_, fun h => by cases h⟩) fun hc => ?_
    · have := hb.1 hc
      rw [show (Bt.node l x r).list.length - i.toNat = 0 by omega]; exact hj2
    have hlt : i < ((Bt.node l x r).list.length : Int) := by
      by_cases hx : ((Bt.node l x r).list.length : Int) ≤ i
      · rw [hb.2 hx] at hc; cases hc
      · omega
    refine q_left (cAt st2) (wp_call (c_count (Nd.held st2.held n1)) fun n h3 e3 hn => ?_)
    obtain ⟨(n : Int), w⟩ := n
    dsimp only at hn ⊢
    subst hn
    have st3 := st2.more e3
    have hj3 := hJ _ _ _ hj2 e3
    refine wp_bind (fun tg vs h' => tg = 0 ∧ ∃ b : Bool, vs = [.bool b] ∧ St h0 m' y I h' ∧ (b = true → F h') ∧ (b = false → J (k + (l.list.length - i.toNat)) h')) ?_ ?_
    · refine wp_ifB (fun hd => ?_) fun hd => ?_
      · rw [ltI_iff] at hd
        refine s_any st3.cw (q_left (cAt st3) (wp_dyn (D.wk _ _ _ _) (wp_mono _ ?_ (ihl (k := k) n1 (by omega) h0' h1 (fun j v hv hj => hL j v (hxL j v hv) hj) st3 hj3))))
        rintro tg vs h4 ⟨rfl, b, rfl, st4, t4, f4⟩
        refine ⟨rfl, (b, ()), rfl, s_ret ⟨rfl, notB b, rfl, st4, fun hb => f4 (notB_iff.1 hb), fun hb => t4 (notB_not.1 hb)⟩⟩
      · rw [ltI_not] at hd
        refine s_ret ⟨rfl, false, rfl, st3, fun h => (by cases h), fun _ => ?_⟩
        rw [show l.list.length - i.toNat = 0 by omega]; exact hj3
    rintro tg vs h4 ⟨rfl, b, rfl, st4, f4, t4⟩
    refine s_tag (s_castB (wp_ifB (fun hc => s_ret ⟨rfl, false, rfl, st4, fun h => (by cases h), fun _ => f4 hc⟩) fun hc => ?_))
    have hj4 := t4 hc
    refine wp_bind (fun tg vs h' => tg = 0 ∧ ∃ b : Bool, vs = [.bool b] ∧ St h0 m' y I h' ∧ (b = true → F h') ∧ (b = false → J (k + (l.list.length + 1 - i.toNat)) h')) ?_ ?_
    · refine wp_ifB (fun hd => ?_) fun hd => ?_
      · rw [leI_iff] at hd
        refine s_any st4.cy (q_item (cAt st4) (wp_callv ((hY _ x h4 (hL _ x hxM (by omega)) hj4 st4.sz st4.held).mono ?_)))
        rintro vs h5 ⟨b, rfl, fr, t5, f5⟩
        refine ⟨(b, ()), rfl, s_ret ⟨rfl, notB b, rfl, st4.step fr, fun hb => f5 (notB_iff.1 hb), fun hb => ?_⟩⟩
        have := t5 (notB_not.1 hb)
        rw [show k + (l.list.length + 1 - i.toNat) = k + (l.list.length - i.toNat) + 1 by omega]; exact this
      · rw [leI_not] at hd
        refine s_ret ⟨rfl, false, rfl, st4, fun h => (by cases h), fun _ => ?_⟩
        rw [show l.list.length + 1 - i.toNat = l.list.length - i.toNat by omega]; exact hj4
    rintro tg vs h5 ⟨rfl, b, rfl, st5, f5, t5⟩
    refine s_tag (s_castB (wp_ifB (fun hc => s_ret ⟨rfl, false, rfl, st5, fun h => (by cases h), fun _ => f5 hc⟩) fun hc => ?_))
    have hj5 := t5 hc
    rw [sub_ok (a := i) (by omega) (by omega), sub_ok (by omega) (by omega)]
    have hmx : maxI 0 (i - l.list.length - 1) = ((i.toNat - (l.list.length + 1) : Nat) : Int) := by unfold maxI; split <;> omega
    rw [hmx]
    refine s_any st5.cw (q_right (cAt st5) (wp_dyn (D.wk _ _ _ _) (wp_mono _ ?_ (ihr (k := k + (l.list.length + 1 - i.toNat)) n2 (by omega) (by omega) (by omega) (fun j v hv hj => ?_) st5 hj5))))
    · rintro tg vs h6 ⟨rfl, b, rfl, st6, t6, f6⟩
      refine ⟨rfl, (b, ()), rfl, s_ret ⟨rfl, b, rfl, st6, fun hb => ?_, f6⟩⟩
      have := t6 hb
      rw [Int.toNat_natCast] at this
      rw [show k + ((Bt.node l x r).list.length - i.toNat) = k + (l.list.length + 1 - i.toNat) + (r.list.length - (i.toNat - (l.list.length + 1))) by omega]; exact this
    · rw [Int.toNat_natCast] at hj ⊢
      have := hL _ v (hxR j v hv) (by omega)
      rw [show k + (l.list.length + 1 - i.toNat) + (j - (i.toNat - (l.list.length + 1))) = k + (l.list.length + 1 + j - i.toNat) by omega]; exact this

/-- What an iterator over a list calls with. -/
def AL (I : Inst) (L : List I.It) (k : Nat) (hp h1 : Heap) (args : List Value) : Prop := ∃ r, L[k]? = some r ∧ args = [ag I r]

theorem iter_items (O : I.Ok P) (D : Clos P I) {h0 : Heap} {p : Option Addr} {t : Bt I.It} {a b : Addr} {i : Int} (nt : Nd I h0 p t) (hroom : I.W t.list ≤ 4398046511104) (hi : fitsI .i64 i) (ca : Sw.cell h0 a = some (.pointer p)) (cb : Sw.cell h0 b = some (iv i)) (za : I.Z a.block) (zb : I.Z b.block) :
    IterG P (fItems I (some a) (some b)) (t.list.drop i.toNat).length (AL I (t.list.drop i.toNat)) I.Z 2 h0 := by
  intro h y J F hs hz fy sJ sF hY hj
  rw [fits_i64] at hi
  refine D.it _ _ _ h _ ?_
  unfold G_Items1
  refine wp_grd (by cases y <;> first | rfl | cases fy) fun el1 => ?_
  have e1 : Ext h (h.push (.cells [y].toArray el1)) := Ext.push ..
  have q1 : Own h.size 1 (h.push (.cells [y].toArray el1)) ⟨some ⟨h.size, 0, none⟩, 1, 1⟩ [y] := own_alloc rfl (by decide) (by decide)
  have z1 : (h.push (.cells [y].toArray el1)).size = h.size + 1 := by simp
  generalize (h.push (.cells [y].toArray el1)) = h1 at e1 q1 z1 ⊢
  intro el2
  have e2 : Ext h1 (h1.push (.cells [.nilFunc].toArray el2)) := Ext.push ..
  have q2 : Own h1.size 1 (h1.push (.cells [.nilFunc].toArray el2)) ⟨some ⟨h1.size, 0, none⟩, 1, 1⟩ [.nilFunc] := own_alloc rfl (by decide) (by decide)
  generalize (h1.push (.cells [.nilFunc].toArray el2)) = h2 at e2 q2 ⊢
  rw [z1] at q2 ⊢
  refine s_putAll [fWalk I (some ⟨h.size + 1, 0, none⟩) (some ⟨h.size, 0, none⟩)] q2 rfl (by intro v hv; rw [List.mem_singleton.1 hv]; rfl) fun h3 q3 u3 => ?_
  have e13 : Ext h1 h3 := Upd.extN e2 u3 (fun x hx => by cases hx; exact Nat.le_of_eq z1)
  have e3 : Ext h h3 := e1.trans e13
  have b3 := (q3.lt rfl).2
  dsimp only at b3
  have c3 : Sw.cell h3 ⟨h.size + 1, 0, none⟩ = some (fWalk I (some ⟨h.size + 1, 0, none⟩) (some ⟨h.size, 0, none⟩)) := by have := cells_iff.1 q3.cells 0 _ rfl; rwa [add_zero'] at this
  have cy3 : Sw.cell h3 ⟨h.size, 0, none⟩ = some y := by have := cells_iff.1 (q1.ext e13).cells 0 _ rfl; rwa [add_zero'] at this
  have hz3 : Held I.Z h0 h3 := hz.step (V := fun _ => True) (Held.of_ext e3) fun _ _ _ => trivial
  have st : St h0 h.size y I h3 := ⟨hz3, hs, b3, cy3, c3⟩
  refine s_any c3 (wp_grd rfl (wp_load1 (b := .ptr) (a.add 0) p rfl (by rw [add_zero']; exact hz3.cell ca za) (wp_load1 (b := .int .i64) b i rfl (hz3.cell cb zb) (wp_dyn (D.wk _ _ _ _) ?_))))
  have hmx : maxI 0 i = (i.toNat : Int) := by unfold maxI; split <;> omega
  rw [hmx]
  refine wp_mono _ ?_ (c_walk O D (L := t.list.drop i.toNat) sJ (fun k r h1 hk hj hs1 hz1 => hY k h1 h1 [ag I r] (List.getElem?_eq_some_iff.1 hk).1 hj (by omega) (Chg.refl _ _) hs1 hz1 ⟨r, hk, rfl⟩) t (k := 0) nt hroom (by omega) (by omega) (fun j r hr hj => ?_) st (sJ _ _ _ hj (Chg.of_ext e3)))
  · rintro tg vs h4 ⟨rfl, b, rfl, st4, t4, f4⟩
    have s4 := st4.sz
    refine ⟨rfl, (b, ()), rfl, s_ret ⟨rfl, rfl, by omega, st4.held, ?_⟩⟩
    cases b with
    | true => left; have := t4 rfl; rw [Int.toNat_natCast, Nat.zero_add] at this; rw [List.length_drop]; exact this
    | false => exact .inr (f4 rfl)
  · rw [Int.toNat_natCast] at hj ⊢
    rw [List.getElem?_drop, Nat.zero_add, show i.toNat + (j - i.toNat) = j by omega]; exact hr

end Go.Sw.Any

set_option linter.unusedVariables false
set_option linter.unusedSimpArgs false
set_option maxRecDepth 100000
namespace Go.Sw.Piece
open Go.Sw.Any
open Go.Sw.Tree (iv s_putAll s_newP s_getP s_getT s_putP eqI_self Placed cell_own cell_upd1)
variable {P : Program} {S : Ids} {h : Heap} {Q : Nat → List Value → Heap → Prop}

abbrev PB : List B := [.sl, .int .i64, .int .i64, .int .i64, .int .i64, .bool, .bool]
abbrev SB : List B := [.int .i64, .int .i64, .int .i64, .bool, .bool]
abbrev Part := Sl × Int × Int × Int × Int × Bool × Bool × Unit
abbrev Sums := Int × Int × Int × Bool × Bool × Unit
def zS : Sums := (0, 0, 0, false, false, ())
def zP : Part := (⟨none, 0, 0⟩, 0, 0, 0, 0, false, false, ())
def sumP (p : Part) : Sums := (p.2.2.1, p.2.2.2.1, p.2.2.2.2.1, p.2.2.2.2.2.1, p.2.2.2.2.2.2.1, ())
def brk (s o : Sums) : Int := if s.2.2.2.2.1 = true ∧ o.2.2.2.1 = true then 1 else 0
def addS (s o : Sums) : Sums := if s.1 = 0 then o else if o.1 = 0 then s else (s.1 + o.1, s.2.1 + o.2.1, s.2.2.1 + o.2.2.1 - brk s o, s.2.2.2.1, o.2.2.2.2.1, ())
def keyS (s : Sums) (k : Int) : Int := if k = 0 then s.1 else if k = 1 then s.2.2.1 else 0
def VS (n : Nat) (s : Sums) : Prop := 0 ≤ s.1 ∧ s.1 ≤ n ∧ 0 ≤ s.2.1 ∧ s.2.1 ≤ 4 * n ∧ 0 ≤ s.2.2.1 ∧ s.2.2.1 ≤ n ∧ (s.1 = 0 → s = zS) ∧ (s.2.2.2.1 = true → 1 ≤ s.2.2.1)
def wtP (p : Part) : Nat := max 1 p.2.2.1.toNat

theorem flatS (s : Sums) : ∀ v, v ∈ Bs.inj SB s → flat v = true := by
  intro v hv; simp only [SB, Bs.inj, List.mem_cons, List.not_mem_nil, or_false] at hv; rcases hv with rfl | rfl | rfl | rfl | rfl <;> rfl
theorem flatP (s : Part) : ∀ v, v ∈ Bs.inj PB s → flat v = true := by
  intro v hv; simp only [PB, Bs.inj, List.mem_cons, List.not_mem_nil, or_false] at hv; rcases hv with rfl | rfl | rfl | rfl | rfl | rfl | rfl <;> rfl

theorem brk_le (s o : Sums) : 0 ≤ brk s o ∧ brk s o ≤ 1 ∧ (brk s o = 1 → o.2.2.2.1 = true) := by
  unfold brk
  split
  · rename_i hx; exact ⟨by omega, by omega, fun _ => hx.2⟩
  · exact ⟨by omega, by omega, fun h => by omega⟩
theorem addS_zero_left (o : Sums) : addS zS o = o := by unfold addS; rw [if_pos (show zS.1 = 0 from rfl)]
theorem addS_l0 {x o : Sums} (h : x.1 = 0) : addS x o = o := by unfold addS; rw [if_pos h]
theorem addS_zero_right {n : Nat} {s : Sums} (v : VS n s) : addS s zS = s := by
  unfold addS
  by_cases h0 : s.1 = 0
  · rw [if_pos h0]; exact (v.2.2.2.2.2.2.1 h0).symm
  · rw [if_neg h0, if_pos (show zS.1 = 0 from rfl)]
theorem VS.mono {n m : Nat} {s : Sums} (v : VS n s) (h : n ≤ m) : VS m s := by
  obtain ⟨a, b, c, d, e, f, g, i⟩ := v
  exact ⟨a, by omega, c, by omega, e, by omega, g, i⟩
theorem VS.add {n m : Nat} {s o : Sums} (v : VS n s) (w : VS m o) : VS (n + m) (addS s o) := by
  unfold addS
  by_cases h0 : s.1 = 0
  · rw [if_pos h0]; exact w.mono (by omega)
  · rw [if_neg h0]
    by_cases h1 : o.1 = 0
    · rw [if_pos h1]; exact v.mono (by omega)
    · rw [if_neg h1]
      obtain ⟨a, b, c, d, e, f, g, i⟩ := v
      obtain ⟨a', b', c', d', e', f', g', i'⟩ := w
      obtain ⟨k1, k2, k3⟩ := brk_le s o
      have hk : brk s o ≤ o.2.2.1 := by
        by_cases h2 : brk s o = 1
        · have := i' (k3 h2); omega
        · omega
      refine ⟨by dsimp only; omega, by dsimp only; omega, by dsimp only; omega, by dsimp only; omega, by dsimp only; omega, by dsimp only; omega, fun h => by dsimp only at h; omega, fun h => ?_⟩
      have := i h
      dsimp only; omega
theorem addS_assoc {n m k : Nat} {x y z : Sums} (vx : VS n x) (vy : VS m y) (vz : VS k z) : addS (addS x y) z = addS x (addS y z) := by
  by_cases hx : x.1 = 0
  · rw [addS_l0 hx, addS_l0 hx]
  by_cases hy : y.1 = 0
  · have h1 : addS x y = x := by unfold addS; rw [if_neg hx, if_pos hy]
    have h2 : addS y z = z := by unfold addS; rw [if_pos hy]
    rw [h1, h2]
  by_cases hz : z.1 = 0
  · have h1 : addS y z = y := by unfold addS; rw [if_neg hy, if_pos hz]
    have h2 : ∀ w : Sums, w.1 ≠ 0 → addS w z = w := fun w hw => by unfold addS; rw [if_neg hw, if_pos hz]
    rw [h1]
    refine h2 _ ?_
    have := vx.1; have := vy.1
    unfold addS; rw [if_neg hx, if_neg hy]; dsimp only; omega
  have e1 : addS x y = (x.1 + y.1, x.2.1 + y.2.1, x.2.2.1 + y.2.2.1 - brk x y, x.2.2.2.1, y.2.2.2.2.1, ()) := by unfold addS; rw [if_neg hx, if_neg hy]
  have e2 : addS y z = (y.1 + z.1, y.2.1 + z.2.1, y.2.2.1 + z.2.2.1 - brk y z, y.2.2.2.1, z.2.2.2.2.1, ()) := by unfold addS; rw [if_neg hy, if_neg hz]
  have := vx.1; have := vy.1; have := vz.1
  rw [e1, e2]
  unfold addS
  dsimp only
  rw [if_neg (by omega), if_neg hz, if_neg hx, if_neg (by omega)]
  have b1 : brk (x.1 + y.1, x.2.1 + y.2.1, x.2.2.1 + y.2.2.1 - brk x y, x.2.2.2.1, y.2.2.2.2.1, ()) z = brk y z := rfl
  have b2 : brk x (y.1 + z.1, y.2.1 + z.2.1, y.2.2.1 + z.2.2.1 - brk y z, y.2.2.2.1, z.2.2.2.2.1, ()) = brk x y := rfl
  rw [b1, b2]
  congr 1
  · omega
  · congr 1
    · omega
    · congr 1; omega
theorem keyS_mono {n m : Nat} {s o : Sums} (v : VS n s) (w : VS m o) (k : Int) : keyS s k ≤ keyS (addS s o) k := by
  obtain ⟨a, b, c, d, e, f, g, i⟩ := v
  obtain ⟨a', b', c', d', e', f', g', i'⟩ := w
  unfold addS
  by_cases h0 : s.1 = 0
  · rw [if_pos h0, g h0]
    unfold keyS zS
    (repeat' split) <;> first | omega | (dsimp only; omega)
  · rw [if_neg h0]
    by_cases h1 : o.1 = 0
    · rw [if_pos h1]; exact Int.le_refl _
    · rw [if_neg h1]
      obtain ⟨k1, k2, k3⟩ := brk_le s o
      have hk : brk s o ≤ o.2.2.1 := by
        by_cases h2 : brk s o = 1
        · have := i' (k3 h2); omega
        · omega
      unfold keyS
      (repeat' split) <;> first | omega | (dsimp only; omega)

theorem c_Measure {x : Part} : Gives P (F_part_Measure S x) [.agg SB] h fun (y : Sums × Unit) _ => y.1 = sumP x := by
  unfold F_part_Measure Gives
  refine s_newO (bs := PB) x (by decide) fun h1 e1 o1 => s_newO (bs := SB) zS (by decide) fun h2 e2 o2 => ?_
  refine ⟨(⟨h.size, 0, none⟩ : Addr).add 2, rfl, sumP x, cells_iff.2 fun j v hj => ?_, ?_⟩
  · rw [add_add]
    refine cells_iff.1 (o1.ext e2).cells _ _ ?_
    match j, hj with
    | 0, hj => exact hj
    | 1, hj => exact hj
    | 2, hj => exact hj
    | 3, hj => exact hj
    | 4, hj => exact hj
    | j + 5, hj => simp [Ty.cells, Bs.inj] at hj
  · exact s_tellO (bs := SB) (sumP x) o2 e1.size (e1.trans e2) (flatS _) fun h' e => ⟨rfl, e, (sumP x, ()), rfl, rfl⟩

theorem c_Key {n : Nat} {s : Sums} {k : Int} : Gives P (F_sums_Key S s k) [.one (.int .i64)] h fun (y : Int × Unit) _ => y.1 = keyS s k := by
  unfold F_sums_Key Gives keyS
  refine s_newO (bs := SB) s (by decide) fun h1 e1 o1 => wp_ifB (fun hc => ?_) fun hc => wp_ifB (fun hd => ?_) fun hd => ?_
  · rw [eqI_iff] at hc; rw [if_pos hc]
    exact wp_load1 (b := .int .i64) _ s.1 rfl (cells_iff.1 o1.cells 0 _ rfl) (s_ret ⟨rfl, e1, (s.1, ()), rfl, rfl⟩)
  · rw [eqI_not] at hc; rw [eqI_iff] at hd; rw [if_neg hc, if_pos hd]
    exact wp_load1 (b := .int .i64) _ s.2.2.1 rfl (cells_iff.1 o1.cells 2 _ rfl) (s_ret ⟨rfl, e1, (s.2.2.1, ()), rfl, rfl⟩)
  · rw [eqI_not] at hc hd; rw [if_neg hc, if_neg hd]
    exact s_ret ⟨rfl, e1, (0, ()), rfl, rfl⟩

theorem c_Add {n m : Nat} {s o : Sums} (v : VS n s) (w : VS m o) (hn : n + m ≤ 4398046511104) : Gives P (F_sums_Add S s o) [.agg SB] h fun (y : Sums × Unit) _ => y.1 = addS s o := by
  obtain ⟨a, b, c, d, e, f, g, i⟩ := id v
  obtain ⟨a', b', c', d', e', f', g', i'⟩ := id w
  unfold F_sums_Add Gives
  refine s_newO (bs := SB) s (by decide) fun h1 e1 o1 => s_newO (bs := SB) o (by decide) fun h2 e2 o2 => s_newO (bs := SB) zS (by decide) fun h3 e3 o3 => ?_
  have e23 := e2.trans e3
  have l1 : ∀ {h'} {b : B} {j : Nat} {x : b.den} {K : b.den → Prog} {Q : Nat → List Value → Heap → Prop}, Ext h3 h' → (Bs.inj SB s)[j]? = some (b.inj x) → wp P (K x) h' Q → wp P (.load (.one b) (shiftTo (some ⟨h.size, 0, none⟩) j) K) h' Q := fun e hj hk => wp_load1 _ _ rfl (cells_iff.1 (o1.ext (e23.trans e)).cells _ _ hj) hk
  have l2 : ∀ {h'} {b : B} {j : Nat} {x : b.den} {K : b.den → Prog} {Q : Nat → List Value → Heap → Prop}, Ext h3 h' → (Bs.inj SB o)[j]? = some (b.inj x) → wp P (K x) h' Q → wp P (.load (.one b) (shiftTo (some ⟨h1.size, 0, none⟩) j) K) h' Q := fun e hj hk => wp_load1 _ _ rfl (cells_iff.1 (o2.ext (e3.trans e)).cells _ _ hj) hk
  refine l1 (b := .int .i64) (x := s.1) (Ext.refl _) rfl (wp_ifB (fun hc => ?_) fun hc => ?_)
  · rw [eqI_iff] at hc
    refine s_getO (bs := SB) (o2.ext e3) (s_tellO (bs := SB) o o3 (Nat.le_trans e1.size e2.size) (e1.trans e23) (flatS _) fun h' e => ⟨rfl, e, (o, ()), rfl, ?_⟩)
    unfold addS; rw [if_pos hc]
  rw [eqI_not] at hc
  refine l2 (b := .int .i64) (x := o.1) (Ext.refl _) rfl (wp_ifB (fun hd => ?_) fun hd => ?_)
  · rw [eqI_iff] at hd
    refine s_getO (bs := SB) (o1.ext e23) (s_tellO (bs := SB) s o3 (Nat.le_trans e1.size e2.size) (e1.trans e23) (flatS _) fun h' e => ⟨rfl, e, (s, ()), rfl, ?_⟩)
    unfold addS; rw [if_neg hc, if_pos hd]
  rw [eqI_not] at hd
  refine l1 (b := .int .i64) (x := s.1) (Ext.refl _) rfl (l2 (b := .int .i64) (x := o.1) (Ext.refl _) rfl (l1 (b := .int .i64) (x := s.2.1) (Ext.refl _) rfl (l2 (b := .int .i64) (x := o.2.1) (Ext.refl _) rfl
    (l1 (b := .int .i64) (x := s.2.2.1) (Ext.refl _) rfl (l2 (b := .int .i64) (x := o.2.2.1) (Ext.refl _) rfl (l1 (b := .bool) (x := s.2.2.2.1) (Ext.refl _) rfl (l2 (b := .bool) (x := o.2.2.2.2.1) (Ext.refl _) rfl ?_)))))))
  rw [add_ok (a := s.1) (by omega) (by omega), add_ok (a := s.2.1) (by omega) (by omega), add_ok (a := s.2.2.1) (by omega) (by omega)]
  refine s_putO (bs := SB) (z := zS) (s.1 + o.1, s.2.1 + o.2.1, s.2.2.1 + o.2.2.1, s.2.2.2.1, o.2.2.2.2.1, ()) (by decide) (flatS _) fun h4 e4 o4 => ?_
  have hadd : addS s o = (s.1 + o.1, s.2.1 + o.2.1, s.2.2.1 + o.2.2.1 - brk s o, s.2.2.2.1, o.2.2.2.2.1, ()) := by unfold addS; rw [if_neg hc, if_neg hd]
  refine wp_bind (fun t vs h' => t = 0 ∧ vs = [] ∧ Ext h3 h' ∧ Own h3.size 1 h' ⟨some ⟨h3.size, 0, none⟩, 5, 5⟩ (Bs.inj SB (addS s o))) ?_ ?_
  · refine bind_bool (s.2.2.2.2.1 = true ∧ o.2.2.2.1 = true) ?_ fun bb h5 e5 hb => wp_ifB (fun hx => ?_) fun hx => ?_
    · refine l1 (b := .bool) (x := s.2.2.2.2.1) e4 rfl (wp_ifB (fun hx => ?_) fun hx => s_ret ⟨rfl, Ext.refl _, false, rfl, Iff.intro (fun h => by cases h) fun h => by rw [h.1] at hx; cases hx⟩)
      exact l2 (b := .bool) (x := o.2.2.2.1) e4 rfl (s_ret ⟨rfl, Ext.refl _, _, rfl, fun h => ⟨hx, h⟩, fun h => h.2⟩)
    · have hbr : brk s o = 1 := by unfold brk; rw [if_pos (hb.1 hx)]
      refine wp_load1 (b := .int .i64) _ (s.2.2.1 + o.2.2.1) rfl (cells_iff.1 (o4.ext e5).cells 2 _ rfl) ?_
      rw [sub_ok (by omega) (by omega)]
      refine s_setC' (vs := Bs.inj SB (s.1 + o.1, s.2.1 + o.2.1, s.2.2.1 + o.2.2.1, s.2.2.2.1, o.2.2.2.2.1, ())) (iv (s.2.2.1 + o.2.2.1 - 1)) (o4.ext e5) (by simp [Bs.inj]) rfl fun h6 o6 u6 => s_ret ⟨rfl, rfl, ?_, ?_⟩
      · exact Upd.extN (e4.trans e5) u6 (by intro x hx; cases hx; exact Nat.le_refl _)
      · rw [hadd, hbr]; exact o6
    · refine s_ret ⟨rfl, rfl, e4.trans e5, ?_⟩
      have hbr : brk s o = 0 := by unfold brk; rw [if_neg fun k => by rw [hb.2 k] at hx; cases hx]
      rw [hadd, hbr, Int.sub_zero]; exact o4.ext e5
  · rintro t vs h5 ⟨rfl, rfl, e5, o5⟩
    exact s_tag (s_cast0 (s_getO (bs := SB) o5 (s_tellO (bs := SB) (addS s o) (o3.ext e5) (Nat.le_trans e1.size e2.size) ((e1.trans e23).trans e5) (flatS _) fun h' e => ⟨rfl, e, (addS s o, ()), rfl, rfl⟩)))

theorem VS.zero : VS 0 zS := ⟨by decide, by decide, by decide, by decide, by decide, by decide, fun _ => rfl, fun h => by cases h⟩

/-- The kind of things. -/
def part (S : Ids) (Z : Nat → Prop) : Inst where
  iB := PB
  sB := SB
  zi := zP
  zs := zS
  mF := F_part_Measure S
  aF := F_sums_Add S
  kF := F_sums_Key S
  f1 := S.f_Tree_part_Items_1
  f2 := S.f_Tree_part_Items_1_1
  okI := fun p => VS (wtP p) (sumP p)
  wt := wtP
  V := VS
  meas := sumP
  add := addS
  key := keyS
  Z := Z

theorem part_ok (S : Ids) (Z : Nat → Prop) : (part S Z).Ok P where
  i1 := (by decide : 1 ≤ 7 ∧ 7 ≤ 100)
  s1 := (by decide : 1 ≤ 5 ∧ 5 ≤ 100)
  fi := flatP
  fs := flatS
  w1 := fun x => by show 1 ≤ wtP x; unfold wtP; omega
  v0 := VS.zero
  vm := fun x h => h
  va := fun n m s o v w => v.add w
  mono := fun n m s v h => v.mono h
  az := fun n s v => addS_zero_right v
  za := fun n s v => addS_zero_left s
  assoc := fun n m k x y z a b c => addS_assoc a b c
  key0 := fun k => by show keyS zS k = 0; unfold keyS zS; (repeat' split) <;> rfl
  kmono := fun n m s o k v w => keyS_mono v w k
  cm := fun h x _ => c_Measure (S := S)
  ca := fun h n m s o v w hn => c_Add (S := S) v w hn
  ck := fun h n s k v _ => c_Key (S := S) (n := n)

variable {Z : Nat → Prop}
theorem g_build (S : Ids) (Z : Nat → Prop) : ∀ n, R_tree_build_part n S = Gr_build n (part S Z)
  | 0 => rfl
  | n + 1 => by
    funext items
    show R_tree_build_part (n + 1) S items = _
    unfold R_tree_build_part
    rw [g_build S Z n]
    rfl
theorem g_join (S : Ids) (Z : Nat → Prop) : ∀ n, R_tree_join_part n S = Gr_join n (part S Z)
  | 0 => rfl
  | n + 1 => by
    funext l x r
    show R_tree_join_part (n + 1) S l x r = _
    unfold R_tree_join_part
    rw [g_join S Z n]
    rfl
theorem g_joinF (S : Ids) (Z : Nat → Prop) : F_tree_join_part S = G_join (part S Z) := by
  funext l x r
  unfold F_tree_join_part G_join
  simp only [g_join S Z]
theorem g_cut (S : Ids) (Z : Nat → Prop) : ∀ n, R_node_part_cut n S = Gr_cut n (part S Z)
  | 0 => rfl
  | n + 1 => by
    funext p i
    show R_node_part_cut (n + 1) S p i = _
    unfold R_node_part_cut
    rw [g_cut S Z n, g_joinF S Z]
    rfl
theorem g_first (S : Ids) (Z : Nat → Prop) : ∀ n, R_node_part_first n S = Gr_first n (part S Z)
  | 0 => rfl
  | n + 1 => by
    funext p
    show R_node_part_first (n + 1) S p = _
    unfold R_node_part_first
    rw [g_first S Z n]
    rfl
theorem g_both (S : Ids) (Z : Nat → Prop) : F_tree_both_part S = G_both (part S Z) := by
  funext l r
  unfold F_tree_both_part G_both F_node_part_first G_first
  rw [g_joinF S Z]
  simp only [g_first S Z]
  rfl
theorem g_Of (S : Ids) (Z : Nat → Prop) (s : Sl) : F_tree_Of_part S s = G_Of (part S Z) s := by
  unfold F_tree_Of_part G_Of F_tree_build_part G_build
  simp only [g_build S Z]
theorem g_Replace (S : Ids) (Z : Nat → Prop) (t : Option Addr × Unit) (i j : Int) (s : Sl) : F_Tree_part_Replace S t i j s = G_Replace (part S Z) t i j s := by
  unfold F_Tree_part_Replace G_Replace F_tree_build_part G_build F_node_part_cut G_cut
  rw [g_both S Z]
  simp only [g_build S Z, g_cut S Z]
  rfl

end Go.Sw.Piece

set_option linter.unusedVariables false
set_option linter.unusedSimpArgs false
set_option maxRecDepth 100000
namespace Go.Sw.Piece
open Go.Sw.Codec

/-- The atoms of bytes, each with its size. -/
def toksN (enc : Int) : Nat → List Int → List (Int × Int)
  | 0, _ => []
  | n + 1, l => if l.length = 0 then [] else firstF enc l :: toksN enc n (l.drop (firstF enc l).2.toNat)
def toks (enc : Int) (l : List Int) : List (Int × Int) := toksN enc l.length l
theorem toksN_enough {enc : Int} : ∀ (n m : Nat) (l : List Int), isBytes l → l.length ≤ n → l.length ≤ m → toksN enc n l = toksN enc m l := by
  intro n
  induction n with
  | zero =>
    intro m l hb hn hm
    cases m with
    | zero => rfl
    | succ m => simp only [toksN]; rw [if_pos (by omega)]
  | succ n ih =>
    intro m l hb hn hm
    cases m with
    | zero => simp only [toksN]; rw [if_pos (by omega)]
    | succ m =>
      simp only [toksN]
      by_cases hz : l.length = 0
      · rw [if_pos hz, if_pos hz]
      · rw [if_neg hz, if_neg hz]
        have := firstF_size (enc := enc) (l := l) (by omega) hb
        rw [ih m _ (hb.drop _) (by rw [List.length_drop]; omega) (by rw [List.length_drop]; omega)]
theorem toks_nil {enc : Int} {l : List Int} (h : l.length = 0) : toks enc l = [] := by unfold toks; rw [h]; rfl
theorem toks_cons {enc : Int} {l : List Int} (hb : isBytes l) (h : 0 < l.length) : toks enc l = firstF enc l :: toks enc (l.drop (firstF enc l).2.toNat) := by
  have := firstF_size (enc := enc) h hb
  unfold toks
  rw [toksN_enough l.length (l.length - 1 + 1) l hb (by omega) (by omega)]
  simp only [toksN]
  rw [if_neg (by omega), toksN_enough (l.length - 1) (l.drop (firstF enc l).2.toNat).length _ (hb.drop _) (by rw [List.length_drop]; omega) (by omega)]

/-- Induction over bytes, atom by atom. -/
theorem byAtoms {enc : Int} {M : List Int → Prop} (h0 : ∀ l, l.length = 0 → M l) (h1 : ∀ l, isBytes l → 0 < l.length → M (l.drop (firstF enc l).2.toNat) → M l) : ∀ l, isBytes l → M l := by
  have : ∀ (n : Nat) (l : List Int), l.length = n → isBytes l → M l := by
    intro n
    induction n using Nat.strongRecOn with
    | ind n ih =>
      intro l hn hb
      by_cases hz : l.length = 0
      · exact h0 l hz
      · have hs := firstF_size (enc := enc) (l := l) (by omega) hb
        exact h1 l hb (by omega) (ih _ (by rw [List.length_drop]; omega) _ rfl (hb.drop _))
  exact fun l hb => this _ l rfl hb

/-- How many bytes the first n atoms have. -/
def offs (ts : List (Int × Int)) : Nat := (ts.map fun t => t.2.toNat).sum
theorem offs_nil : offs [] = 0 := rfl
theorem offs_cons (t : Int × Int) (ts : List (Int × Int)) : offs (t :: ts) = t.2.toNat + offs ts := by simp [offs]
theorem offs_append (a b : List (Int × Int)) : offs (a ++ b) = offs a + offs b := by simp [offs]

theorem toks_offs {enc : Int} {l : List Int} (hb : isBytes l) : offs (toks enc l) = l.length := by
  refine byAtoms (enc := enc) (M := fun l => offs (toks enc l) = l.length) (fun l hz => ?_) (fun l hb hl ih => ?_) l hb
  · rw [toks_nil hz, hz]; rfl
  · have hs := firstF_size (enc := enc) hl hb
    rw [toks_cons hb hl, offs_cons, ih, List.length_drop]; omega
theorem toks_size {enc : Int} {l : List Int} (hb : isBytes l) : ∀ t, t ∈ toks enc l → 1 ≤ t.2 ∧ t.2 ≤ 4 := by
  refine byAtoms (enc := enc) (M := fun l => ∀ t, t ∈ toks enc l → 1 ≤ t.2 ∧ t.2 ≤ 4) (fun l hz t ht => ?_) (fun l hb hl ih t ht => ?_) l hb
  · rw [toks_nil hz] at ht; cases ht
  · have hs := firstF_size (enc := enc) hl hb
    rw [toks_cons hb hl] at ht
    rcases List.mem_cons.1 ht with rfl | ht
    · exact ⟨hs.1, hs.2.1⟩
    · exact ih t ht
theorem toks_fits {enc : Int} {l : List Int} (hb : isBytes l) : ∀ t, t ∈ toks enc l → fitsI .i64 t.1 := by
  refine byAtoms (enc := enc) (M := fun l => ∀ t, t ∈ toks enc l → fitsI .i64 t.1) (fun l hz t ht => ?_) (fun l hb hl ih t ht => ?_) l hb
  · rw [toks_nil hz] at ht; cases ht
  · rw [toks_cons hb hl] at ht
    rcases List.mem_cons.1 ht with rfl | ht
    · exact firstF_fits hb
    · exact ih t ht
theorem toks_len {enc : Int} {l : List Int} (hb : isBytes l) : (toks enc l).length ≤ l.length ∧ (0 < l.length → 0 < (toks enc l).length) ∧ l.length ≤ 4 * (toks enc l).length := by
  refine byAtoms (enc := enc) (M := fun l => (toks enc l).length ≤ l.length ∧ (0 < l.length → 0 < (toks enc l).length) ∧ l.length ≤ 4 * (toks enc l).length) (fun l hz => ?_) (fun l hb hl ih => ?_) l hb
  · rw [toks_nil hz]; simp [hz]
  · have hs := firstF_size (enc := enc) hl hb
    have := ih.1
    have h3 := ih.2.2
    rw [List.length_drop] at this h3
    rw [toks_cons hb hl]
    simp only [List.length_cons]
    exact ⟨by omega, fun _ => by omega, by omega⟩

/-- Where the n-th atom begins. -/
theorem toks_at {enc : Int} {l : List Int} (hb : isBytes l) : ∀ n, n ≤ (toks enc l).length → Bnd enc l (offs ((toks enc l).take n)) ∧ toks enc (l.drop (offs ((toks enc l).take n))) = (toks enc l).drop n := by
  intro n
  induction n with
  | zero => intro _; rw [List.take_zero, offs_nil, List.drop_zero, List.drop_zero]; exact ⟨.zero, rfl⟩
  | succ n ih =>
    intro hn
    obtain ⟨h1, h2⟩ := ih (by omega)
    have hd : (toks enc l).drop n = (toks enc l)[n] :: (toks enc l).drop (n + 1) := List.drop_eq_getElem_cons (by omega)
    generalize hk : offs ((toks enc l).take n) = k at h1 h2
    have hkl : 0 < (l.drop k).length := by
      by_cases hz : (l.drop k).length = 0
      · rw [toks_nil hz, hd] at h2; cases h2
      · omega
    have h3 := toks_cons (enc := enc) (hb.drop k) hkl
    rw [h2, hd, List.cons.injEq] at h3
    have ht : (toks enc l).take (n + 1) = (toks enc l).take n ++ [(toks enc l)[n]] := by rw [List.take_add_one, List.getElem?_eq_getElem (by omega)]; rfl
    rw [ht, offs_append, offs_cons, offs_nil, Nat.add_zero, hk, h3.1]
    rw [List.length_drop] at hkl
    exact ⟨h1.step (by omega), by rw [← List.drop_drop, ← h3.2]⟩
/-- What is ahead of the n-th atom has just the first n. -/
theorem toks_take {enc : Int} {l : List Int} (hb : isBytes l) : ∀ n, n ≤ (toks enc l).length → toks enc (l.take (offs ((toks enc l).take n))) = (toks enc l).take n := by
  refine byAtoms (enc := enc) (M := fun l => ∀ n, n ≤ (toks enc l).length → toks enc (l.take (offs ((toks enc l).take n))) = (toks enc l).take n) (fun l hz n hn => ?_) (fun l hb hl ih n hn => ?_) l hb
  · rw [toks_nil hz]; simp [offs]; exact toks_nil rfl
  · cases n with
    | zero => simp [offs]; exact toks_nil rfl
    | succ n =>
      have hm := (toks_at hb (n + 1) hn).1
      have hs := firstF_size (enc := enc) hl hb
      have e := toks_cons (enc := enc) hb hl
      rw [e] at hm hn ⊢
      rw [List.take_succ_cons, offs_cons] at hm ⊢
      rw [List.length_cons] at hn
      have hml := hm.le hb
      generalize hmm : offs ((toks enc (l.drop (firstF enc l).2.toNat)).take n) = m' at hm hml ⊢
      have e2 := first_in_take hb hm .zero (by omega)
      rw [List.drop_zero, List.drop_zero] at e2
      rw [toks_cons (hb.take _) (by rw [List.length_take]; omega), e2, List.drop_take, Nat.add_sub_cancel_left, ← hmm, ih n (by omega)]

/-! ### Sums -/
def oneS (t : Int × Int) : Sums := (1, t.2, if t.1 = 10 ∨ t.1 = 13 then 1 else 0, decide (t.1 = 10), decide (t.1 = 13), ())
def sumT (ts : List (Int × Int)) : Sums := ts.foldl (fun s t => addS s (oneS t)) zS
theorem VS.one {t : Int × Int} (h : 1 ≤ t.2 ∧ t.2 ≤ 4) : VS 1 (oneS t) := by
  unfold oneS
  refine ⟨by dsimp only; omega, by dsimp only; omega, by dsimp only; omega, by dsimp only; omega, ?_, ?_, (fun h => by cases h), fun h => ?_⟩
  · dsimp only; split <;> omega
  · dsimp only; split <;> omega
  · dsimp only at h ⊢
    rw [decide_eq_true_eq] at h
    rw [if_pos (.inl h)]; omega
def okT (ts : List (Int × Int)) : Prop := ∀ t, t ∈ ts → 1 ≤ t.2 ∧ t.2 ≤ 4
theorem okT.left {a b : List (Int × Int)} (h : okT (a ++ b)) : okT a := fun t ht => h t (List.mem_append_left _ ht)
theorem okT.right {a b : List (Int × Int)} (h : okT (a ++ b)) : okT b := fun t ht => h t (List.mem_append_right _ ht)
theorem okT.take {a : List (Int × Int)} (h : okT a) (n : Nat) : okT (a.take n) := fun t ht => h t (List.mem_of_mem_take ht)
theorem okT.drop {a : List (Int × Int)} (h : okT a) (n : Nat) : okT (a.drop n) := fun t ht => h t (List.mem_of_mem_drop ht)
theorem foldT {ts : List (Int × Int)} (h : okT ts) : ∀ {n : Nat} {s : Sums}, VS n s → VS (n + ts.length) (ts.foldl (fun s t => addS s (oneS t)) s) := by
  induction ts with
  | nil => intro n s v; exact v
  | cons t ts ih =>
    intro n s v
    have := ih (fun x hx => h x (List.mem_cons_of_mem _ hx)) (v.add (VS.one (h t (List.mem_cons_self ..))))
    exact this.mono (by simp only [List.length_cons]; omega)
theorem VS.sumT {ts : List (Int × Int)} (h : okT ts) : VS ts.length (sumT ts) := (foldT h VS.zero).mono (by omega)
theorem foldT_add {ts : List (Int × Int)} (h : okT ts) : ∀ {n m : Nat} {s o : Sums}, VS n s → VS m o → ts.foldl (fun s t => addS s (oneS t)) (addS s o) = addS s (ts.foldl (fun s t => addS s (oneS t)) o) := by
  induction ts with
  | nil => intros; rfl
  | cons t ts ih =>
    intro n m s o v w
    have ht := VS.one (h t (List.mem_cons_self ..))
    simp only [List.foldl_cons]
    rw [addS_assoc v w ht]
    exact ih (fun x hx => h x (List.mem_cons_of_mem _ hx)) v (w.add ht)
theorem sumT_append {a b : List (Int × Int)} (ha : okT a) (hb : okT b) : sumT (a ++ b) = addS (sumT a) (sumT b) := by
  unfold Piece.sumT
  rw [List.foldl_append]
  have := foldT_add hb (VS.sumT ha) VS.zero
  rw [addS_zero_right (VS.sumT ha)] at this
  exact this
theorem sumT_snoc (a : List (Int × Int)) (t : Int × Int) : sumT (a ++ [t]) = addS (sumT a) (oneS t) := by unfold sumT; rw [List.foldl_append]; rfl
/-- How many atoms, how many bytes. -/
theorem fold_is {ts : List (Int × Int)} (h : okT ts) : ∀ {n : Nat} {s : Sums}, VS n s → (ts.foldl (fun s t => addS s (oneS t)) s).1 = s.1 + ts.length ∧ (ts.foldl (fun s t => addS s (oneS t)) s).2.1 = s.2.1 + offs ts := by
  induction ts with
  | nil => intro n s v; simp [offs]
  | cons t ts ih =>
    intro n s v
    have ht := h t (List.mem_cons_self ..)
    have h1 := ih (fun x hx => h x (List.mem_cons_of_mem _ hx)) (v.add (VS.one ht))
    have h2 : (addS s (oneS t)).1 = s.1 + 1 ∧ (addS s (oneS t)).2.1 = s.2.1 + t.2 := by
      unfold addS
      by_cases h0 : s.1 = 0
      · rw [if_pos h0]
        have hz := v.2.2.2.2.2.2.1 h0
        rw [hz]; exact ⟨rfl, by show t.2 = (0 : Int) + t.2; omega⟩
      · rw [if_neg h0, if_neg (show (oneS t).1 ≠ 0 by show (1 : Int) ≠ 0; decide)]; exact ⟨rfl, rfl⟩
    rw [List.foldl_cons, h1.1, h1.2, h2.1, h2.2, offs_cons, List.length_cons]
    omega
theorem sumT_is {ts : List (Int × Int)} (h : okT ts) : (sumT ts).1 = ts.length ∧ (sumT ts).2.1 = offs ts := by
  have h1 := fold_is h VS.zero
  have e : zS.1 = 0 ∧ zS.2.1 = 0 := ⟨rfl, rfl⟩
  rw [e.1, e.2] at h1
  unfold sumT
  omega
end Go.Sw.Piece

set_option linter.unusedVariables false
set_option linter.unusedSimpArgs false
set_option maxRecDepth 100000
namespace Go.Sw.Piece
open Go.Sw.Any Go.Sw.Codec
open Go.Sw.Tree (iv s_putAll s_newP s_getP s_getT s_putP eqI_self Placed cell_own cell_upd1 wp_whileG)
variable {P : Program} {S : Ids} {h : Heap} {Q : Nat → List Value → Heap → Prop}

theorem eqI_dec (a b : Int) : eqI a b = decide (a = b) := by
  by_cases h : a = b
  · rw [eqI_iff.2 h, decide_eq_true h]
  · rw [eqI_not.2 h, decide_eq_false h]

theorem c_single {atom size : Int} : Gives P (F_piece_single S atom size) [.agg SB] h fun (y : Sums × Unit) _ => y.1 = oneS (atom, size) := by
  unfold F_piece_single Gives
  refine s_newO (bs := SB) zS (by decide) fun h1 e1 o1 => ?_
  rw [eqI_dec, eqI_dec]
  refine s_putO (bs := SB) (z := zS) (1, size, 0, decide (atom = 10), decide (atom = 13), ()) (by decide) (flatS _) fun h2 e2 o2 => ?_
  refine wp_bind (fun t vs h' => t = 0 ∧ vs = [] ∧ Ext h1 h' ∧ Own h1.size 1 h' ⟨some ⟨h1.size, 0, none⟩, 5, 5⟩ (Bs.inj SB (oneS (atom, size)))) ?_ ?_
  · refine bind_bool (atom = 10 ∨ atom = 13) ?_ fun bb h5 e5 hb => wp_ifB (fun hx => ?_) fun hx => ?_
    · refine wp_load1 (b := .bool) _ (decide (atom = 10)) rfl (cells_iff.1 o2.cells 3 _ rfl) (wp_ifB (fun hx => s_ret ⟨rfl, Ext.refl _, true, rfl, Iff.intro (fun _ => .inl (of_decide_eq_true hx)) fun _ => rfl⟩) fun hx => ?_)
      have hx' := of_decide_eq_false hx
      exact wp_load1 (b := .bool) _ (decide (atom = 13)) rfl (cells_iff.1 o2.cells 4 _ rfl) (s_ret ⟨rfl, Ext.refl _, _, rfl, fun h => .inr (of_decide_eq_true h), fun h => decide_eq_true (h.resolve_left hx')⟩)
    · refine s_setC' (vs := Bs.inj SB (1, size, 0, decide (atom = 10), decide (atom = 13), ())) (iv 1) (o2.ext e5) (by simp [Bs.inj]) rfl fun h6 o6 u6 => s_ret ⟨rfl, rfl, Upd.extN (e2.trans e5) u6 (by intro x hx; cases hx; exact Nat.le_refl _), ?_⟩
      have : oneS (atom, size) = (1, size, 1, decide (atom = 10), decide (atom = 13), ()) := by unfold oneS; dsimp only; rw [if_pos (hb.1 hx)]
      rw [this]; exact o6
    · refine s_ret ⟨rfl, rfl, e2.trans e5, ?_⟩
      have : oneS (atom, size) = (1, size, 0, decide (atom = 10), decide (atom = 13), ()) := by unfold oneS; dsimp only; rw [if_neg fun k => by rw [hb.2 k] at hx; cases hx]
      rw [this]; exact o2.ext e5
  · rintro t vs h5 ⟨rfl, rfl, e5, o5⟩
    exact s_tag (s_cast0 (s_getO (bs := SB) o5 (s_tellO (bs := SB) (oneS (atom, size)) (o1.ext e5) (Nat.le_refl _) (e1.trans e5) (flatS _) fun h' e => ⟨rfl, e, (oneS (atom, size), ()), rfl, rfl⟩)))

/-- A piece of bytes, with its sum. -/
def mkS (b : Sl) (tag : Int) (s : Sums) : Part := (b, tag, s.1, s.2.1, s.2.2.1, s.2.2.2.1, s.2.2.2.2.1, ())
def mkP (b : Sl) (tag : Int) (ts : List (Int × Int)) : Part := mkS b tag (sumT ts)
theorem okT_toks {enc : Int} {l : List Int} (hb : isBytes l) : okT (toks enc l) := toks_size hb

theorem c_newPart (M : Meth0 P S) {enc : Int} (he : known enc) {b : Sl} {l : List Int} {tag : Int} (hb : Lst .u8 h b l) (hl : l.length ≤ 1099511627776) :
    Gives P (F_piece_newPart S enc b tag) [.agg PB] h fun (y : Part × Unit) _ => y.1 = mkP b tag (toks enc l) := by
  have hby : isBytes l := hb.wf
  have hlb := hb.len
  have okt := okT_toks (enc := enc) hby
  unfold F_piece_newPart Gives
  refine s_newO (bs := PB) zP (by decide) fun h1 e1 o1 => s_putO (bs := PB) (z := zP) (mkS b tag zS) (by decide) (flatP _) fun h2 e2 o2 => ?_
  refine wp_whileG (G := Nat) (fun n (r : Int × Unit) h' => n ≤ (toks enc l).length ∧ r.1 = offs ((toks enc l).take n) ∧ Ext h1 h' ∧ Own h1.size 1 h' ⟨some ⟨h1.size, 0, none⟩, 7, 7⟩ ([.slice b.base b.len b.cap, iv tag] ++ Bs.inj SB (sumT ((toks enc l).take n)))) (fun n => (toks enc l).length - n)
    (fun t vs h' => t = 2 ∧ vs = [] ∧ Ext h1 h' ∧ Own h1.size 1 h' ⟨some ⟨h1.size, 0, none⟩, 7, 7⟩ (Bs.inj PB (mkP b tag (toks enc l)))) 0 ⟨Nat.zero_le _, rfl, e2, o2⟩ ?_ ?_
  · rintro n ⟨(r : Int), u⟩ h3 ⟨hn, hr, e3, o3⟩
    dsimp only at hr ⊢
    subst hr
    obtain ⟨hbn, htk⟩ := toks_at (enc := enc) hby n hn
    have hle := hbn.le hby
    generalize hk : offs ((toks enc l).take n) = k at hbn htk hle ⊢
    refine wp_ifB (fun hc => ?_) fun hc => ?_
    · rw [ltI_iff, natI_def, hlb] at hc
      have hkl : k < l.length := by omega
      have htc := toks_cons (enc := enc) (hby.drop k) (by rw [List.length_drop]; omega)
      rw [htk] at htc
      have hlt : n < (toks enc l).length := by
        by_cases hx : n < (toks enc l).length
        · exact hx
        · rw [List.drop_of_length_le (by omega)] at htc; cases htc
      rw [List.drop_eq_getElem_cons hlt, List.cons.injEq] at htc
      have hsz := okt _ (List.getElem_mem hlt)
      have htake : (toks enc l).take (n + 1) = (toks enc l).take n ++ [(toks enc l)[n]] := by rw [List.take_add_one, List.getElem?_eq_getElem hlt]; rfl
      refine wp_call (c_Next M (hb.ext (e1.trans e3))) fun ⟨(a : Int), (sz : Int), _⟩ h4 e4 hx => ?_
      have hx : (a, sz) = firstF enc (l.drop k) := by
        rcases hx with ⟨hno, _, _⟩ | ⟨_, _, _, hx⟩
        · rcases hno with h | h | h
          · exact absurd he h
          · omega
          · omega
        · rw [Int.toNat_natCast] at hx; exact hx
      rw [← htc.1] at hx
      dsimp only
      refine s_getEnd (o3.ext e4) rfl (wp_call c_single fun ⟨(o : Sums), _⟩ h5 e5 hy => ?_)
      have hy : o = oneS (a, sz) := hy
      subst hy
      dsimp only
      have o5 := (o3.ext e4).ext e5
      refine s_check0 (a := (⟨h1.size, 0, none⟩ : Addr).add 2) rfl (cells_mid (post := []) (by rw [List.append_nil]; exact o5.cells) rfl) ?_
      rw [hx]
      have v1 := VS.sumT (okt.take n)
      have v2 := VS.one hsz
      have hlen := toks_len (enc := enc) hby
      refine wp_call (c_Add v1 v2 (by rw [List.length_take]; omega)) fun ⟨(o : Sums), _⟩ h6 e6 hy => ?_
      have hy : o = _ := hy
      subst hy
      dsimp only
      refine s_putEnd (Bs.inj SB (addS (sumT ((toks enc l).take n)) (oneS ((toks enc l)[n])))) (o5.ext e6) rfl rfl (flatS _) fun h7 o7 u7 => ?_
      have hsz2 : sz = (toks enc l)[n].2 := congrArg Prod.snd hx
      rw [add_ok (by omega) (by omega)]
      refine s_ret ⟨fun _ => ⟨n + 1, ((k : Int) + sz, ()), rfl, ⟨by omega, ?_, Upd.extN (((e3.trans e4).trans e5).trans e6) u7 (by intro x hx; cases hx; exact Nat.le_refl _), ?_⟩, by omega⟩, fun h => absurd rfl h⟩
      · dsimp only
        rw [htake, offs_append, offs_cons, offs_nil, hk]; omega
      · rw [htake, sumT_snoc]; exact o7
    · rw [ltI_not, natI_def, hlb] at hc
      have hkl : k = l.length := by omega
      have hnn : (toks enc l).take n = toks enc l := by
        have : (toks enc l).drop n = [] := by rw [← htk]; exact toks_nil (by rw [List.length_drop]; omega)
        have h2 := List.take_append_drop n (toks enc l)
        rw [this, List.append_nil] at h2; exact h2
      rw [hnn] at o3
      exact s_ret ⟨fun h => absurd h (by decide), fun _ => ⟨rfl, rfl, e3, o3⟩⟩
  · rintro t vs h3 ⟨rfl, rfl, e3, o3⟩
    exact s_tag (s_cast0 (s_getO (bs := PB) o3 (s_tellO (bs := PB) (mkP b tag (toks enc l)) (o1.ext e3) (Nat.le_refl _) (e1.trans e3) (flatP _) fun h' e => ⟨rfl, e, (_, ()), rfl, rfl⟩)))

/-- The tag of what is behind the first k bytes. -/
def tagF (tag : Int) (k : Nat) : Int := if 0 ≤ tag then tag + k else tag
def headP (enc : Int) (p : Part) (l : List Int) (n : Nat) : Part := mkP ⟨p.1.base, offs ((toks enc l).take n), offs ((toks enc l).take n)⟩ p.2.1 ((toks enc l).take n)
def tailP (enc : Int) (p : Part) (l : List Int) (n : Nat) : Part :=
  mkP ⟨cutBase p.1.base p.1.cap (offs ((toks enc l).take n)) 1, p.1.len - offs ((toks enc l).take n), p.1.cap - offs ((toks enc l).take n)⟩ (tagF p.2.1 (offs ((toks enc l).take n))) ((toks enc l).drop n)

theorem c_cut (M : Meth0 P S) {enc : Int} (he : known enc) {p : Part} {l : List Int} {n : Int} (hb : Lst .u8 h p.1 l) (hl : l.length ≤ 1099511627776) (h0 : 0 ≤ n) (hn : n ≤ (toks enc l).length) (ht : -1 ≤ p.2.1 ∧ p.2.1 ≤ 1099511627776) :
    Gives P (F_part_cut S p enc n) [.agg PB, .agg PB] h fun (y : Part × Part × Unit) _ => y.1 = headP enc p l n.toNat ∧ y.2.1 = tailP enc p l n.toNat := by
  have hby : isBytes l := hb.wf
  have hlb := hb.len
  have hcap := hb.cap
  have hmax := hb.max
  have okt := okT_toks (enc := enc) hby
  have hlen := toks_len (enc := enc) hby
  unfold F_part_cut Gives
  refine s_newO (bs := PB) p (by decide) fun h1 e1 o1 => s_newO (bs := PB) zP (by decide) fun h2 e2 o2 => s_newO (bs := PB) zP (by decide) fun h3 e3 o3 => ?_
  have e13 := e1.trans (e2.trans e3)
  have o1' := o1.ext (e2.trans e3)
  have ldb : ∀ {h'} {K : Sl → Prog} {Q : Nat → List Value → Heap → Prop}, Ext h3 h' → wp P (K p.1) h' Q → wp P (.load (.one .sl) (shiftTo (some ⟨h.size, 0, none⟩) 0) K) h' Q := fun e hk => wp_load1 (b := .sl) _ p.1 rfl (cells_iff.1 (o1'.ext e).cells 0 _ rfl) hk
  have ldt : ∀ {h'} {K : Int → Prog} {Q : Nat → List Value → Heap → Prop}, Ext h3 h' → wp P (K p.2.1) h' Q → wp P (.load (.one (.int .i64)) (shiftTo (some ⟨h.size, 0, none⟩) 1) K) h' Q := fun e hk => wp_load1 (b := .int .i64) _ p.2.1 rfl (cells_iff.1 (o1'.ext e).cells 1 _ rfl) hk
  have hkn := (toks_at (enc := enc) hby n.toNat (by omega)).1.le hby
  refine wp_whileG (G := Nat) (fun m (r : Int × Int × Unit) h' => m ≤ n.toNat ∧ r.1 = n - m ∧ r.2.1 = offs ((toks enc l).take m) ∧ Ext h3 h') (fun m => n.toNat - m)
    (fun t vs h' => t = 2 ∧ vs = [iv (offs ((toks enc l).take n.toNat))] ∧ Ext h3 h') 0 ⟨Nat.zero_le _, by dsimp only; omega, rfl, Ext.refl _⟩ ?_ ?_
  · rintro m ⟨(r : Int), (at_ : Int), u⟩ h4 ⟨hm, hr, hat, e4⟩
    dsimp only at hr hat ⊢
    subst hr; subst hat
    obtain ⟨hbn, htk⟩ := toks_at (enc := enc) hby m (by omega)
    have hle := hbn.le hby
    generalize hk : offs ((toks enc l).take m) = k at hbn htk hle ⊢
    refine bind_bool (m < n.toNat) ?_ fun bb h5 e5 hb5 => wp_ifB (fun hx => ?_) fun hx => ?_
    · refine wp_ifB (fun hc => ldb e4 (s_ret ⟨rfl, Ext.refl _, _, rfl, ?_⟩)) fun hc => s_ret ⟨rfl, Ext.refl _, false, rfl, ?_⟩
      · rw [gtI_iff] at hc
        rw [ltI_iff, natI_def, hlb]
        refine ⟨fun _ => by omega, fun _ => ?_⟩
        have hlt : m < (toks enc l).length := by omega
        by_cases hx : (k : Int) < l.length
        · exact hx
        · have : (toks enc l).drop m = [] := by rw [← htk]; exact toks_nil (by rw [List.length_drop]; omega)
          rw [List.drop_eq_nil_iff] at this; omega
      · rw [gtI_not] at hc
        exact Iff.intro (fun h => by cases h) fun h => by omega
    · have hmn := hb5.1 hx
      have hlt : m < (toks enc l).length := by omega
      have htake : (toks enc l).take (m + 1) = (toks enc l).take m ++ [(toks enc l)[m]] := by rw [List.take_add_one, List.getElem?_eq_getElem hlt]; rfl
      have hkl : k < l.length := by
        by_cases hx : k < l.length
        · exact hx
        · have : (toks enc l).drop m = [] := by rw [← htk]; exact toks_nil (by rw [List.length_drop]; omega)
          rw [List.drop_eq_nil_iff] at this; omega
      have htc := toks_cons (enc := enc) (hby.drop k) (by rw [List.length_drop]; omega)
      rw [htk, List.drop_eq_getElem_cons hlt, List.cons.injEq] at htc
      have hsz := okt _ (List.getElem_mem hlt)
      refine ldb (e4.trans e5) (wp_call (c_Next M (hb.ext (e13.trans (e4.trans e5)))) fun ⟨(a : Int), (sz : Int), _⟩ h6 e6 hx => ?_)
      have hx : (a, sz) = firstF enc (l.drop k) := by
        rcases hx with ⟨hno, _, _⟩ | ⟨_, _, _, hx⟩
        · rcases hno with h | h | h
          · exact absurd he h
          · omega
          · omega
        · rw [Int.toNat_natCast] at hx; exact hx
      rw [← htc.1] at hx
      have hsz2 : sz = (toks enc l)[m].2 := congrArg Prod.snd hx
      dsimp only
      rw [add_ok (by omega) (by omega), sub_ok (by omega) (by omega)]
      refine s_ret ⟨fun _ => ⟨m + 1, (n - m - 1, (k : Int) + sz, ()), rfl, ⟨by omega, by dsimp only; omega, ?_, (e4.trans e5).trans e6⟩, by omega⟩, fun h => absurd rfl h⟩
      dsimp only
      rw [htake, offs_append, offs_cons, offs_nil, hk]; omega
    · have : ¬ m < n.toNat := fun h => by rw [hb5.2 h] at hx; cases hx
      have : m = n.toNat := by omega
      subst this
      exact s_ret ⟨fun h => absurd h (by decide), fun _ => ⟨rfl, by rw [hk], e4.trans e5⟩⟩
  · rintro t vs h4 ⟨rfl, rfl, e4⟩
    unfold headP tailP
    have hta := toks_take (enc := enc) hby n.toNat (by omega)
    have htd := (toks_at (enc := enc) hby n.toNat (by omega)).2
    generalize hk : offs ((toks enc l).take n.toNat) = k at hkn hta htd ⊢
    refine s_tag (s_castI (ldt e4 ?_))
    refine bind_val (tys := [.one (.int .i64)]) (fun (x : Int × Unit) _ => x.1 = tagF p.2.1 k) ?_ fun ⟨(tg : Int), _⟩ h5 e5 hx => ?_
    · unfold tagF
      refine wp_ifB (fun hc => ?_) fun hc => ?_
      · rw [geI_iff] at hc
        rw [add_ok (by omega) (by omega), if_pos hc]
        exact s_ret ⟨rfl, Ext.refl _, (_, ()), rfl, rfl⟩
      · rw [geI_not] at hc
        rw [if_neg (by omega)]
        exact s_ret ⟨rfl, Ext.refl _, (_, ()), rfl, rfl⟩
    have hx : tg = _ := hx
    subst hx
    dsimp only
    have e35 := e4.trans e5
    have htoN : toN (k : Int) = k := by rw [toN_def]; omega
    refine ldb e35 (s_grd (andB_iff.2 ⟨leB_ok (by omega) (by omega), leB_ok (by omega) (by omega)⟩) (ldt e35 (ldb e35 (s_grd (leB_ok (by omega) (by omega)) ?_))))
    rw [htoN, show subN k 0 = k from rfl, cutBase_zero]
    have hb5 := hb.ext (e13.trans e35)
    refine wp_call (c_newPart M he (tag := p.2.1) (hb5.take (n := k) (m := k) hkn (Nat.le_refl _) (by omega)) (by rw [List.length_take]; omega)) fun ⟨(y1 : Part), _⟩ h6 e6 hy1 => ?_
    have hy1 : y1 = _ := hy1
    subst hy1
    dsimp only
    refine s_ckC (q := ⟨h.size, 0, none⟩) (j := 0) (cells_iff.1 (o1'.ext (e35.trans e6)).cells 0 _ rfl) ?_
    refine wp_call (c_newPart M he (tag := tagF p.2.1 k) ((hb5.ext e6).tail (i := k) hkn) (by rw [List.length_drop]; omega)) fun ⟨(y2 : Part), _⟩ h7 e7 hy2 => ?_
    have hy2 : y2 = _ := hy2
    subst hy2
    dsimp only
    have e37 := (e35.trans e6).trans e7
    rw [hta, htd]
    refine s_stoO (bs := PB) (mkP ⟨p.1.base, k, k⟩ p.2.1 ((toks enc l).take n.toNat)) ((o2.ext e3).ext e37) (flatP _) fun h8 o8 u8 => ?_
    have b1 := (o1.lt rfl).2
    have b2 := (o2.lt rfl).2
    dsimp only at b1 b2
    have o3' := ob_upd (o3.ext e37) u8 (by dsimp only; omega)
    refine s_stoO (bs := PB) (mkP ⟨cutBase p.1.base p.1.cap k 1, p.1.len - k, p.1.cap - k⟩ (tagF p.2.1 k) ((toks enc l).drop n.toNat)) o3' (flatP _) fun h9 o9 u9 => ?_
    have o8' := ob_upd o8 u9 (by dsimp only; omega)
    refine s_getO (bs := PB) o8' (s_getO (bs := PB) o9 (s_ret ⟨rfl, ?_, (_, _, ()), rfl, rfl, rfl⟩))
    exact Upd.extN (Upd.extN (e13.trans e37) u8 (by intro x hx; cases hx; dsimp only; have := e1.size; omega)) u9 (by intro x hx; cases hx; dsimp only; have := e1.size; have := e2.size; omega)
end Go.Sw.Piece
