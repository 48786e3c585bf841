/-
  The tree's programs over any kind of things.
-/
import Derived.Test.YteoloieadjeneaaSwU3
set_option linter.unusedVariables false
set_option linter.unusedSimpArgs false
set_option maxRecDepth 100000
namespace Go.Sw.Any

/-- A kind of things, and of what they add up to. -/
structure Inst where
  iB : List B
  sB : List B
  zi : Bs.den iB
  zs : Bs.den sB
  mF : Bs.den iB → Prog
  aF : Bs.den sB → Bs.den sB → Prog
  kF : Bs.den sB → Int → Prog
  f1 : FuncId
  f2 : FuncId
  okI : Bs.den iB → Prop
  wt : Bs.den iB → Nat
  V : Nat → Bs.den sB → Prop
  meas : Bs.den iB → Bs.den sB
  add : Bs.den sB → Bs.den sB → Bs.den sB
  key : Bs.den sB → Int → Int
abbrev Inst.It (I : Inst) : Type := Bs.den I.iB
abbrev Inst.Su (I : Inst) : Type := Bs.den I.sB
def Inst.ni (I : Inst) : Nat := I.iB.length
def Inst.ns (I : Inst) : Nat := I.sB.length

def G_count (I : Inst) (n : (Option Addr)) : Prog :=
  ifB (noneB n)
    (.ret 0 [(Value.int IntKind.i64 0)]) <|
  grd (someB n) <|
  grd (someB n) <|
  .load (Ty.one (B.int IntKind.i64)) (shiftTo n (I.ni + 2)) fun (n1 : Int) =>
  .ret 0 [(Value.int IntKind.i64 n1)]
def G_tall (I : Inst) (n : (Option Addr)) : Prog :=
  ifB (noneB n)
    (.ret 0 [(Value.int IntKind.i64 0)]) <|
  grd (someB n) <|
  grd (someB n) <|
  .load (Ty.one (B.int IntKind.i64)) (shiftTo n (I.ni + 3)) fun (n1 : Int) =>
  .ret 0 [(Value.int IntKind.i64 n1)]
def G_of (I : Inst) (l : (Option Addr)) (x : (Bs.den I.iB)) (r : (Option Addr)) : Prog :=
  .alloc (Bs.inj I.iB x) fun (a1 : Addr) =>
  .load (Ty.agg I.iB) (Option.some a1) fun (r2 : (Bs.den I.iB)) =>
  .call (G_count I l) [(Ty.one (B.int IntKind.i64))] fun (r3 : (Int × Unit)) =>
  .check (Option.some a1) (Bs.inj I.iB r2) <|
  .call (G_count I r) [(Ty.one (B.int IntKind.i64))] fun (r4 : (Int × Unit)) =>
  .check (Option.some a1) (Bs.inj I.iB r2) <|
  .call (G_tall I l) [(Ty.one (B.int IntKind.i64))] fun (r5 : (Int × Unit)) =>
  .check (Option.some a1) (Bs.inj I.iB r2) <|
  .call (G_tall I r) [(Ty.one (B.int IntKind.i64))] fun (r6 : (Int × Unit)) =>
  .check (Option.some a1) (Bs.inj I.iB r2) <|
  .alloc ([(Value.pointer l), (Value.pointer r)] ++ (Bs.inj I.iB r2 ++ ([(Value.int IntKind.i64 (addI IntKind.i64 (addI IntKind.i64 r3.1 1) r4.1)), (Value.int IntKind.i64 (addI IntKind.i64 (maxI r5.1 r6.1) 1))] ++ Bs.inj I.sB I.zs))) fun (a7 : Addr) =>
  .load (Ty.agg I.iB) (Option.some a1) fun (r8 : (Bs.den I.iB)) =>
  .call (I.mF r8) [(Ty.agg I.sB)] fun (r9 : ((Bs.den I.sB) × Unit)) =>
  .store (shiftTo (Option.some a7) (I.ni + 4)) (Bs.inj I.sB r9.1) <|
  .bind
    (ifB (notB (noneB l))
      (grd (someB l) <|
      grd (someB l) <|
      .load (Ty.agg I.sB) (shiftTo l (I.ni + 4)) fun (r28 : (Bs.den I.sB)) =>
      .load (Ty.agg I.sB) (shiftTo (Option.some a7) (I.ni + 4)) fun (r29 : (Bs.den I.sB)) =>
      .call (I.aF r28 r29) [(Ty.agg I.sB)] fun (r30 : ((Bs.den I.sB) × Unit)) =>
      .store (shiftTo (Option.some a7) (I.ni + 4)) (Bs.inj I.sB r30.1) <|
      .ret 0 []) <|
    .ret 0 []) fun (k31 : Nat) =>
  fun (vs32 : (List Value)) =>
  ifB (eqN k31 0)
    (.cast [] vs32 fun (u33 : Unit) =>
    .bind
      (ifB (notB (noneB r))
        (.load (Ty.agg I.sB) (shiftTo (Option.some a7) (I.ni + 4)) fun (r40 : (Bs.den I.sB)) =>
        grd (someB r) <|
        grd (someB r) <|
        .load (Ty.agg I.sB) (shiftTo r (I.ni + 4)) fun (r41 : (Bs.den I.sB)) =>
        .call (I.aF r40 r41) [(Ty.agg I.sB)] fun (r42 : ((Bs.den I.sB) × Unit)) =>
        .store (shiftTo (Option.some a7) (I.ni + 4)) (Bs.inj I.sB r42.1) <|
        .ret 0 []) <|
      .ret 0 []) fun (k43 : Nat) =>
    fun (vs44 : (List Value)) =>
    ifB (eqN k43 0)
      (.cast [] vs44 fun (u45 : Unit) =>
      .ret 0 [(Value.pointer (Option.some a7))]) <|
    .fail) <|
  .fail
def Gr_build (fuelN : Nat) (I : Inst) (items : Sl) : Prog :=
  match fuelN with
  | 0 => .fail
  | fuelN + 1 =>
  ifB (eqI (natI items.len) 0)
    (.ret 0 [(Value.pointer Option.none)]) <|
  grd (notB Bool.false) <|
  grd (leB (quoI IntKind.i64 (natI items.len) 2) items.cap) <|
  grd (andB (someB items.base) (inB (quoI IntKind.i64 (natI items.len) 2) items.len)) <|
  .load (Ty.agg I.iB) (shiftTo items.base (mulN (toN (quoI IntKind.i64 (natI items.len) 2)) I.ni)) fun (r1 : (Bs.den I.iB)) =>
  grd (leB (addI IntKind.i64 (quoI IntKind.i64 (natI items.len) 2) 1) items.len) <|
  .call (Gr_build fuelN I (⟨(cutBase items.base items.cap 0 I.ni), (subN (toN (quoI IntKind.i64 (natI items.len) 2)) 0), (subN items.cap 0)⟩)) [(Ty.one B.ptr)] fun (r2 : ((Option Addr) × Unit)) =>
  .check (shiftTo items.base (mulN (toN (quoI IntKind.i64 (natI items.len) 2)) I.ni)) (Bs.inj I.iB r1) <|
  .call (Gr_build fuelN I (⟨(cutBase items.base items.cap (toN (addI IntKind.i64 (quoI IntKind.i64 (natI items.len) 2) 1)) I.ni), (subN items.len (toN (addI IntKind.i64 (quoI IntKind.i64 (natI items.len) 2) 1))), (subN items.cap (toN (addI IntKind.i64 (quoI IntKind.i64 (natI items.len) 2) 1)))⟩)) [(Ty.one B.ptr)] fun (r3 : ((Option Addr) × Unit)) =>
  .check (shiftTo items.base (mulN (toN (quoI IntKind.i64 (natI items.len) 2)) I.ni)) (Bs.inj I.iB r1) <|
  .call (G_of I r2.1 r1 r3.1) [(Ty.one B.ptr)] fun (r4 : ((Option Addr) × Unit)) =>
  .ret 0 [(Value.pointer r4.1)]
def G_build (I : Inst) (items : Sl) : Prog := .ex fun fuelN => Gr_build fuelN I items
def G_Of (I : Inst) (items : Sl) : Prog :=
  .alloc [(Value.pointer Option.none)] fun (a1 : Addr) =>
  .call (G_build I items) [(Ty.one B.ptr)] fun (r2 : ((Option Addr) × Unit)) =>
  .store (Option.some a1) [(Value.pointer r2.1)] <|
  .load (Ty.agg [B.ptr]) (Option.some a1) fun (r3 : ((Option Addr) × Unit)) =>
  .ret 0 [(Value.agg (#[(Value.pointer r3.1)]))]
def G_Size (I : Inst) (t : ((Option Addr) × Unit)) : Prog :=
  .alloc [(Value.pointer t.1)] fun (a1 : Addr) =>
  .load (Ty.one B.ptr) (shiftTo (Option.some a1) 0) fun (p2 : (Option Addr)) =>
  .call (G_count I p2) [(Ty.one (B.int IntKind.i64))] fun (r3 : (Int × Unit)) =>
  .ret 0 [(Value.int IntKind.i64 r3.1)]
def G_even (I : Inst) (l : (Option Addr)) (x : (Bs.den I.iB)) (r : (Option Addr)) : Prog :=
  .alloc (Bs.inj I.iB x) fun (a1 : Addr) =>
  .call (G_tall I l) [(Ty.one (B.int IntKind.i64))] fun (r2 : (Int × Unit)) =>
  .call (G_tall I r) [(Ty.one (B.int IntKind.i64))] fun (r3 : (Int × Unit)) =>
  ifB (gtI r2.1 (addI IntKind.i64 r3.1 1))
    (grd (someB l) <|
    grd (someB l) <|
    .load (Ty.one B.ptr) (shiftTo l 0) fun (p4 : (Option Addr)) =>
    grd (someB l) <|
    grd (someB l) <|
    .load (Ty.one B.ptr) (shiftTo l 1) fun (p5 : (Option Addr)) =>
    .call (G_tall I p4) [(Ty.one (B.int IntKind.i64))] fun (r6 : (Int × Unit)) =>
    .check (shiftTo l 1) [(Value.pointer p5)] <|
    .call (G_tall I p5) [(Ty.one (B.int IntKind.i64))] fun (r7 : (Int × Unit)) =>
    ifB (geI r6.1 r7.1)
      (grd (someB l) <|
      grd (someB l) <|
      .load (Ty.one B.ptr) (shiftTo l 0) fun (p8 : (Option Addr)) =>
      grd (someB l) <|
      grd (someB l) <|
      .load (Ty.agg I.iB) (shiftTo l 2) fun (r9 : (Bs.den I.iB)) =>
      grd (someB l) <|
      grd (someB l) <|
      .load (Ty.one B.ptr) (shiftTo l 1) fun (p10 : (Option Addr)) =>
      .load (Ty.agg I.iB) (Option.some a1) fun (r11 : (Bs.den I.iB)) =>
      .call (G_of I p10 r11 r) [(Ty.one B.ptr)] fun (r12 : ((Option Addr) × Unit)) =>
      .check (shiftTo l 2) (Bs.inj I.iB r9) <|
      .check (shiftTo l 0) [(Value.pointer p8)] <|
      .call (G_of I p8 r9 r12.1) [(Ty.one B.ptr)] fun (r13 : ((Option Addr) × Unit)) =>
      .ret 0 [(Value.pointer r13.1)]) <|
    grd (someB l) <|
    grd (someB l) <|
    .load (Ty.one B.ptr) (shiftTo l 1) fun (p14 : (Option Addr)) =>
    grd (someB l) <|
    grd (someB l) <|
    .load (Ty.one B.ptr) (shiftTo l 0) fun (p15 : (Option Addr)) =>
    grd (someB l) <|
    grd (someB l) <|
    .load (Ty.agg I.iB) (shiftTo l 2) fun (r16 : (Bs.den I.iB)) =>
    grd (someB p14) <|
    grd (someB p14) <|
    .load (Ty.one B.ptr) (shiftTo p14 0) fun (p17 : (Option Addr)) =>
    grd (someB p14) <|
    grd (someB p14) <|
    .load (Ty.agg I.iB) (shiftTo p14 2) fun (r18 : (Bs.den I.iB)) =>
    grd (someB p14) <|
    grd (someB p14) <|
    .load (Ty.one B.ptr) (shiftTo p14 1) fun (p19 : (Option Addr)) =>
    .load (Ty.agg I.iB) (Option.some a1) fun (r20 : (Bs.den I.iB)) =>
    .call (G_of I p15 r16 p17) [(Ty.one B.ptr)] fun (r21 : ((Option Addr) × Unit)) =>
    .check (Option.some a1) (Bs.inj I.iB r20) <|
    .check (shiftTo p14 1) [(Value.pointer p19)] <|
    .check (shiftTo p14 2) (Bs.inj I.iB r18) <|
    .call (G_of I p19 r20 r) [(Ty.one B.ptr)] fun (r22 : ((Option Addr) × Unit)) =>
    .check (shiftTo p14 2) (Bs.inj I.iB r18) <|
    .call (G_of I r21.1 r18 r22.1) [(Ty.one B.ptr)] fun (r23 : ((Option Addr) × Unit)) =>
    .ret 0 [(Value.pointer r23.1)]) <|
  .call (G_tall I r) [(Ty.one (B.int IntKind.i64))] fun (r24 : (Int × Unit)) =>
  .call (G_tall I l) [(Ty.one (B.int IntKind.i64))] fun (r25 : (Int × Unit)) =>
  ifB (gtI r24.1 (addI IntKind.i64 r25.1 1))
    (grd (someB r) <|
    grd (someB r) <|
    .load (Ty.one B.ptr) (shiftTo r 1) fun (p26 : (Option Addr)) =>
    grd (someB r) <|
    grd (someB r) <|
    .load (Ty.one B.ptr) (shiftTo r 0) fun (p27 : (Option Addr)) =>
    .call (G_tall I p26) [(Ty.one (B.int IntKind.i64))] fun (r28 : (Int × Unit)) =>
    .check (shiftTo r 0) [(Value.pointer p27)] <|
    .call (G_tall I p27) [(Ty.one (B.int IntKind.i64))] fun (r29 : (Int × Unit)) =>
    ifB (geI r28.1 r29.1)
      (.load (Ty.agg I.iB) (Option.some a1) fun (r30 : (Bs.den I.iB)) =>
      grd (someB r) <|
      grd (someB r) <|
      .load (Ty.one B.ptr) (shiftTo r 0) fun (p31 : (Option Addr)) =>
      grd (someB r) <|
      grd (someB r) <|
      .load (Ty.agg I.iB) (shiftTo r 2) fun (r32 : (Bs.den I.iB)) =>
      grd (someB r) <|
      grd (someB r) <|
      .load (Ty.one B.ptr) (shiftTo r 1) fun (p33 : (Option Addr)) =>
      .call (G_of I l r30 p31) [(Ty.one B.ptr)] fun (r34 : ((Option Addr) × Unit)) =>
      .check (shiftTo r 1) [(Value.pointer p33)] <|
      .check (shiftTo r 2) (Bs.inj I.iB r32) <|
      .call (G_of I r34.1 r32 p33) [(Ty.one B.ptr)] fun (r35 : ((Option Addr) × Unit)) =>
      .ret 0 [(Value.pointer r35.1)]) <|
    grd (someB r) <|
    grd (someB r) <|
    .load (Ty.one B.ptr) (shiftTo r 0) fun (p36 : (Option Addr)) =>
    .load (Ty.agg I.iB) (Option.some a1) fun (r37 : (Bs.den I.iB)) =>
    grd (someB p36) <|
    grd (someB p36) <|
    .load (Ty.one B.ptr) (shiftTo p36 0) fun (p38 : (Option Addr)) =>
    grd (someB p36) <|
    grd (someB p36) <|
    .load (Ty.agg I.iB) (shiftTo p36 2) fun (r39 : (Bs.den I.iB)) =>
    grd (someB p36) <|
    grd (someB p36) <|
    .load (Ty.one B.ptr) (shiftTo p36 1) fun (p40 : (Option Addr)) =>
    grd (someB r) <|
    grd (someB r) <|
    .load (Ty.agg I.iB) (shiftTo r 2) fun (r41 : (Bs.den I.iB)) =>
    grd (someB r) <|
    grd (someB r) <|
    .load (Ty.one B.ptr) (shiftTo r 1) fun (p42 : (Option Addr)) =>
    .call (G_of I l r37 p38) [(Ty.one B.ptr)] fun (r43 : ((Option Addr) × Unit)) =>
    .check (shiftTo r 1) [(Value.pointer p42)] <|
    .check (shiftTo r 2) (Bs.inj I.iB r41) <|
    .check (shiftTo p36 1) [(Value.pointer p40)] <|
    .check (shiftTo p36 2) (Bs.inj I.iB r39) <|
    .call (G_of I p40 r41 p42) [(Ty.one B.ptr)] fun (r44 : ((Option Addr) × Unit)) =>
    .check (shiftTo p36 2) (Bs.inj I.iB r39) <|
    .call (G_of I r43.1 r39 r44.1) [(Ty.one B.ptr)] fun (r45 : ((Option Addr) × Unit)) =>
    .ret 0 [(Value.pointer r45.1)]) <|
  .load (Ty.agg I.iB) (Option.some a1) fun (r46 : (Bs.den I.iB)) =>
  .call (G_of I l r46 r) [(Ty.one B.ptr)] fun (r47 : ((Option Addr) × Unit)) =>
  .ret 0 [(Value.pointer r47.1)]
def Gr_join (fuelN : Nat) (I : Inst) (l : (Option Addr)) (x : (Bs.den I.iB)) (r : (Option Addr)) : Prog :=
  match fuelN with
  | 0 => .fail
  | fuelN + 1 =>
  .alloc (Bs.inj I.iB x) fun (a1 : Addr) =>
  .call (G_tall I l) [(Ty.one (B.int IntKind.i64))] fun (r2 : (Int × Unit)) =>
  .call (G_tall I r) [(Ty.one (B.int IntKind.i64))] fun (r3 : (Int × Unit)) =>
  ifB (gtI r2.1 (addI IntKind.i64 r3.1 1))
    (grd (someB l) <|
    grd (someB l) <|
    .load (Ty.one B.ptr) (shiftTo l 0) fun (p4 : (Option Addr)) =>
    grd (someB l) <|
    grd (someB l) <|
    .load (Ty.agg I.iB) (shiftTo l 2) fun (r5 : (Bs.den I.iB)) =>
    grd (someB l) <|
    grd (someB l) <|
    .load (Ty.one B.ptr) (shiftTo l 1) fun (p6 : (Option Addr)) =>
    .load (Ty.agg I.iB) (Option.some a1) fun (r7 : (Bs.den I.iB)) =>
    .call (Gr_join fuelN I p6 r7 r) [(Ty.one B.ptr)] fun (r8 : ((Option Addr) × Unit)) =>
    .check (shiftTo l 2) (Bs.inj I.iB r5) <|
    .check (shiftTo l 0) [(Value.pointer p4)] <|
    .call (G_even I p4 r5 r8.1) [(Ty.one B.ptr)] fun (r9 : ((Option Addr) × Unit)) =>
    .ret 0 [(Value.pointer r9.1)]) <|
  .call (G_tall I r) [(Ty.one (B.int IntKind.i64))] fun (r10 : (Int × Unit)) =>
  .call (G_tall I l) [(Ty.one (B.int IntKind.i64))] fun (r11 : (Int × Unit)) =>
  ifB (gtI r10.1 (addI IntKind.i64 r11.1 1))
    (.load (Ty.agg I.iB) (Option.some a1) fun (r12 : (Bs.den I.iB)) =>
    grd (someB r) <|
    grd (someB r) <|
    .load (Ty.one B.ptr) (shiftTo r 0) fun (p13 : (Option Addr)) =>
    grd (someB r) <|
    grd (someB r) <|
    .load (Ty.agg I.iB) (shiftTo r 2) fun (r14 : (Bs.den I.iB)) =>
    grd (someB r) <|
    grd (someB r) <|
    .load (Ty.one B.ptr) (shiftTo r 1) fun (p15 : (Option Addr)) =>
    .call (Gr_join fuelN I l r12 p13) [(Ty.one B.ptr)] fun (r16 : ((Option Addr) × Unit)) =>
    .check (shiftTo r 1) [(Value.pointer p15)] <|
    .check (shiftTo r 2) (Bs.inj I.iB r14) <|
    .call (G_even I r16.1 r14 p15) [(Ty.one B.ptr)] fun (r17 : ((Option Addr) × Unit)) =>
    .ret 0 [(Value.pointer r17.1)]) <|
  .load (Ty.agg I.iB) (Option.some a1) fun (r18 : (Bs.den I.iB)) =>
  .call (G_of I l r18 r) [(Ty.one B.ptr)] fun (r19 : ((Option Addr) × Unit)) =>
  .ret 0 [(Value.pointer r19.1)]
def G_join (I : Inst) (l : (Option Addr)) (x : (Bs.den I.iB)) (r : (Option Addr)) : Prog := .ex fun fuelN => Gr_join fuelN I l x r
def Gr_cut (fuelN : Nat) (I : Inst) (n : (Option Addr)) (i : Int) : Prog :=
  match fuelN with
  | 0 => .fail
  | fuelN + 1 =>
  ifB (noneB n)
    (.ret 0 [(Value.pointer Option.none), (Value.pointer Option.none)]) <|
  grd (someB n) <|
  grd (someB n) <|
  .load (Ty.one B.ptr) (shiftTo n 0) fun (p1 : (Option Addr)) =>
  .call (G_count I p1) [(Ty.one (B.int IntKind.i64))] fun (r2 : (Int × Unit)) =>
  ifB (leI i r2.1)
    (grd (someB n) <|
    grd (someB n) <|
    .load (Ty.one B.ptr) (shiftTo n 0) fun (p3 : (Option Addr)) =>
    .call (Gr_cut fuelN I p3 i) [(Ty.one B.ptr), (Ty.one B.ptr)] fun (r4 : ((Option Addr) × ((Option Addr) × Unit))) =>
    grd (someB n) <|
    grd (someB n) <|
    .load (Ty.agg I.iB) (shiftTo n 2) fun (r5 : (Bs.den I.iB)) =>
    grd (someB n) <|
    grd (someB n) <|
    .load (Ty.one B.ptr) (shiftTo n 1) fun (p6 : (Option Addr)) =>
    .call (G_join I r4.2.1 r5 p6) [(Ty.one B.ptr)] fun (r7 : ((Option Addr) × Unit)) =>
    .ret 0 [(Value.pointer r4.1), (Value.pointer r7.1)]) <|
  grd (someB n) <|
  grd (someB n) <|
  .load (Ty.one B.ptr) (shiftTo n 1) fun (p8 : (Option Addr)) =>
  .call (Gr_cut fuelN I p8 (subI IntKind.i64 (subI IntKind.i64 i r2.1) 1)) [(Ty.one B.ptr), (Ty.one B.ptr)] fun (r9 : ((Option Addr) × ((Option Addr) × Unit))) =>
  grd (someB n) <|
  grd (someB n) <|
  .load (Ty.one B.ptr) (shiftTo n 0) fun (p10 : (Option Addr)) =>
  grd (someB n) <|
  grd (someB n) <|
  .load (Ty.agg I.iB) (shiftTo n 2) fun (r11 : (Bs.den I.iB)) =>
  .call (G_join I p10 r11 r9.1) [(Ty.one B.ptr)] fun (r12 : ((Option Addr) × Unit)) =>
  .ret 0 [(Value.pointer r12.1), (Value.pointer r9.2.1)]
def G_cut (I : Inst) (n : (Option Addr)) (i : Int) : Prog := .ex fun fuelN => Gr_cut fuelN I n i
def Gr_first (fuelN : Nat) (I : Inst) (n : (Option Addr)) : Prog :=
  match fuelN with
  | 0 => .fail
  | fuelN + 1 =>
  .alloc (Bs.inj I.iB I.zi) fun (a1 : Addr) =>
  grd (someB n) <|
  grd (someB n) <|
  .load (Ty.one B.ptr) (shiftTo n 0) fun (p2 : (Option Addr)) =>
  ifB (noneB p2)
    (grd (someB n) <|
    grd (someB n) <|
    .load (Ty.agg I.iB) (shiftTo n 2) fun (r3 : (Bs.den I.iB)) =>
    grd (someB n) <|
    grd (someB n) <|
    .load (Ty.one B.ptr) (shiftTo n 1) fun (p4 : (Option Addr)) =>
    .store (Option.some a1) (Bs.inj I.iB r3) <|
    .check (shiftTo n 1) [(Value.pointer p4)] <|
    .load (Ty.agg I.iB) (Option.some a1) fun (r5 : (Bs.den I.iB)) =>
    .ret 0 [(Value.agg (Bs.inj I.iB r5).toArray), (Value.pointer p4)]) <|
  grd (someB n) <|
  grd (someB n) <|
  .load (Ty.one B.ptr) (shiftTo n 0) fun (p6 : (Option Addr)) =>
  .call (Gr_first fuelN I p6) [(Ty.agg I.iB), (Ty.one B.ptr)] fun (r7 : ((Bs.den I.iB) × ((Option Addr) × Unit))) =>
  .alloc (Bs.inj I.iB I.zi) fun (a8 : Addr) =>
  .store (Option.some a8) (Bs.inj I.iB r7.1) <|
  .load (Ty.agg I.iB) (Option.some a8) fun (r9 : (Bs.den I.iB)) =>
  grd (someB n) <|
  grd (someB n) <|
  .load (Ty.agg I.iB) (shiftTo n 2) fun (r10 : (Bs.den I.iB)) =>
  grd (someB n) <|
  grd (someB n) <|
  .load (Ty.one B.ptr) (shiftTo n 1) fun (p11 : (Option Addr)) =>
  .call (G_even I r7.2.1 r10 p11) [(Ty.one B.ptr)] fun (r12 : ((Option Addr) × Unit)) =>
  .check (Option.some a8) (Bs.inj I.iB r9) <|
  .store (Option.some a1) (Bs.inj I.iB r9) <|
  .load (Ty.agg I.iB) (Option.some a1) fun (r13 : (Bs.den I.iB)) =>
  .ret 0 [(Value.agg (Bs.inj I.iB r13).toArray), (Value.pointer r12.1)]
def G_first (I : Inst) (n : (Option Addr)) : Prog := .ex fun fuelN => Gr_first fuelN I n
def G_both (I : Inst) (l : (Option Addr)) (r : (Option Addr)) : Prog :=
  ifB (noneB r)
    (.ret 0 [(Value.pointer l)]) <|
  .call (G_first I r) [(Ty.agg I.iB), (Ty.one B.ptr)] fun (r1 : ((Bs.den I.iB) × ((Option Addr) × Unit))) =>
  .alloc (Bs.inj I.iB I.zi) fun (a2 : Addr) =>
  .store (Option.some a2) (Bs.inj I.iB r1.1) <|
  .load (Ty.agg I.iB) (Option.some a2) fun (r3 : (Bs.den I.iB)) =>
  .call (G_join I l r3 r1.2.1) [(Ty.one B.ptr)] fun (r4 : ((Option Addr) × Unit)) =>
  .ret 0 [(Value.pointer r4.1)]
def G_Replace (I : Inst) (t : ((Option Addr) × Unit)) (from_ : Int) (to : Int) (items : Sl) : Prog :=
  .alloc [(Value.pointer t.1)] fun (a1 : Addr) =>
  .alloc [(Value.pointer Option.none)] fun (a2 : Addr) =>
  .bind
    (ifB (ltI from_ 0)
      (.ret 0 [(Value.bool Bool.true)]) <|
    ifB (gtI from_ to)
      (.ret 0 [(Value.bool Bool.true)]) <|
    .load (Ty.agg [B.ptr]) (Option.some a1) fun (r17 : ((Option Addr) × Unit)) =>
    .call (G_Size I (r17.1, ())) [(Ty.one (B.int IntKind.i64))] fun (r18 : (Int × Unit)) =>
    .ret 0 [(Value.bool (gtI to r18.1))]) fun (k19 : Nat) =>
  fun (vs20 : (List Value)) =>
  ifB (eqN k19 0)
    (.cast [(Ty.one B.bool)] vs20 fun (r21 : (Bool × Unit)) =>
    ifB r21.1
      (.store (Option.some a2) [(Value.pointer Option.none)] <|
      .load (Ty.agg [B.ptr]) (Option.some a2) fun (r22 : ((Option Addr) × Unit)) =>
      .ret 0 [(Value.agg (#[(Value.pointer r22.1)])), (Value.int IntKind.i64 1)]) <|
    .load (Ty.one B.ptr) (shiftTo (Option.some a1) 0) fun (p23 : (Option Addr)) =>
    .call (G_cut I p23 from_) [(Ty.one B.ptr), (Ty.one B.ptr)] fun (r24 : ((Option Addr) × ((Option Addr) × Unit))) =>
    .load (Ty.one B.ptr) (shiftTo (Option.some a1) 0) fun (p25 : (Option Addr)) =>
    .call (G_cut I p25 to) [(Ty.one B.ptr), (Ty.one B.ptr)] fun (r26 : ((Option Addr) × ((Option Addr) × Unit))) =>
    .call (G_build I items) [(Ty.one B.ptr)] fun (r27 : ((Option Addr) × Unit)) =>
    .call (G_both I r24.1 r27.1) [(Ty.one B.ptr)] fun (r28 : ((Option Addr) × Unit)) =>
    .call (G_both I r28.1 r26.2.1) [(Ty.one B.ptr)] fun (r29 : ((Option Addr) × Unit)) =>
    .store (Option.some a2) [(Value.pointer r29.1)] <|
    .load (Ty.agg [B.ptr]) (Option.some a2) fun (r30 : ((Option Addr) × Unit)) =>
    .ret 0 [(Value.agg (#[(Value.pointer r30.1)])), (Value.int IntKind.i64 0)]) <|
  .fail
def G_Upto (I : Inst) (t : ((Option Addr) × Unit)) (i : Int) : Prog :=
  .alloc [(Value.pointer t.1)] fun (a1 : Addr) =>
  .alloc (Bs.inj I.sB I.zs) fun (a2 : Addr) =>
  .alloc (Bs.inj I.sB I.zs) fun (a3 : Addr) =>
  .load (Ty.agg [B.ptr]) (Option.some a1) fun (r4 : ((Option Addr) × Unit)) =>
  .call (G_Size I (r4.1, ())) [(Ty.one (B.int IntKind.i64))] fun (r5 : (Int × Unit)) =>
  .load (Ty.one B.ptr) (shiftTo (Option.some a1) 0) fun (p6 : (Option Addr)) =>
  .bind
    (.loop [(Ty.one (B.int IntKind.i64)), (Ty.one B.ptr)] ((minI i r5.1), (p6, ())) fun (r207 : (Int × ((Option Addr) × Unit))) =>
      .bind
        (ifB (notB (noneB r207.2.1))
          (.ret 0 [(Value.bool (gtI r207.1 0))]) <|
        .ret 0 [(Value.bool Bool.false)]) fun (k240 : Nat) =>
      fun (vs241 : (List Value)) =>
      ifB (eqN k240 0)
        (.cast [(Ty.one B.bool)] vs241 fun (r242 : (Bool × Unit)) =>
        ifB r242.1
          (grd (someB r207.2.1) <|
          grd (someB r207.2.1) <|
          .load (Ty.one B.ptr) (shiftTo r207.2.1 0) fun (p243 : (Option Addr)) =>
          .call (G_count I p243) [(Ty.one (B.int IntKind.i64))] fun (r244 : (Int × Unit)) =>
          ifB (leI r207.1 r244.1)
            (grd (someB r207.2.1) <|
            grd (someB r207.2.1) <|
            .load (Ty.one B.ptr) (shiftTo r207.2.1 0) fun (p245 : (Option Addr)) =>
            .ret 0 [(Value.int IntKind.i64 r207.1), (Value.pointer p245)]) <|
          .bind
            (grd (someB r207.2.1) <|
            grd (someB r207.2.1) <|
            .load (Ty.one B.ptr) (shiftTo r207.2.1 0) fun (p259 : (Option Addr)) =>
            ifB (notB (noneB p259))
              (.load (Ty.agg I.sB) (Option.some a3) fun (r260 : (Bs.den I.sB)) =>
              grd (someB r207.2.1) <|
              grd (someB r207.2.1) <|
              .load (Ty.one B.ptr) (shiftTo r207.2.1 0) fun (p261 : (Option Addr)) =>
              grd (someB p261) <|
              grd (someB p261) <|
              .load (Ty.agg I.sB) (shiftTo p261 (I.ni + 4)) fun (r262 : (Bs.den I.sB)) =>
              .call (I.aF r260 r262) [(Ty.agg I.sB)] fun (r263 : ((Bs.den I.sB) × Unit)) =>
              .store (Option.some a3) (Bs.inj I.sB r263.1) <|
              .ret 0 []) <|
            .ret 0 []) fun (k264 : Nat) =>
          fun (vs265 : (List Value)) =>
          ifB (eqN k264 0)
            (.cast [] vs265 fun (u266 : Unit) =>
            .load (Ty.agg I.sB) (Option.some a3) fun (r267 : (Bs.den I.sB)) =>
            grd (someB r207.2.1) <|
            grd (someB r207.2.1) <|
            .load (Ty.agg I.iB) (shiftTo r207.2.1 2) fun (r268 : (Bs.den I.iB)) =>
            .call (I.mF r268) [(Ty.agg I.sB)] fun (r269 : ((Bs.den I.sB) × Unit)) =>
            .check (Option.some a3) (Bs.inj I.sB r267) <|
            .call (I.aF r267 r269.1) [(Ty.agg I.sB)] fun (r270 : ((Bs.den I.sB) × Unit)) =>
            .store (Option.some a3) (Bs.inj I.sB r270.1) <|
            grd (someB r207.2.1) <|
            grd (someB r207.2.1) <|
            .load (Ty.one B.ptr) (shiftTo r207.2.1 1) fun (p271 : (Option Addr)) =>
            .ret 0 [(Value.int IntKind.i64 (subI IntKind.i64 (subI IntKind.i64 r207.1 r244.1) 1)), (Value.pointer p271)]) <|
          .fail) <|
        .ret 2 []) <|
      .fail) fun (k272 : Nat) =>
  fun (vs273 : (List Value)) =>
  ifB (eqN k272 2)
    (.cast [] vs273 fun (u274 : Unit) =>
    .load (Ty.agg I.sB) (Option.some a3) fun (r275 : (Bs.den I.sB)) =>
    .store (Option.some a2) (Bs.inj I.sB r275) <|
    .load (Ty.agg I.sB) (Option.some a2) fun (r276 : (Bs.den I.sB)) =>
    .ret 0 [(Value.agg (Bs.inj I.sB r276).toArray)]) <|
  .fail
def G_At (I : Inst) (t : ((Option Addr) × Unit)) (i : Int) : Prog :=
  .alloc [(Value.pointer t.1)] fun (a1 : Addr) =>
  .alloc (Bs.inj I.iB I.zi) fun (a2 : Addr) =>
  .load (Ty.one B.ptr) (shiftTo (Option.some a1) 0) fun (p3 : (Option Addr)) =>
  .bind
    (.loop [(Ty.one (B.int IntKind.i64)), (Ty.one B.ptr)] (i, (p3, ())) fun (r63 : (Int × ((Option Addr) × Unit))) =>
      .bind
        (ifB (notB (noneB r63.2.1))
          (.ret 0 [(Value.bool (geI r63.1 0))]) <|
        .ret 0 [(Value.bool Bool.false)]) fun (k72 : Nat) =>
      fun (vs73 : (List Value)) =>
      ifB (eqN k72 0)
        (.cast [(Ty.one B.bool)] vs73 fun (r74 : (Bool × Unit)) =>
        ifB r74.1
          (grd (someB r63.2.1) <|
          grd (someB r63.2.1) <|
          .load (Ty.one B.ptr) (shiftTo r63.2.1 0) fun (p75 : (Option Addr)) =>
          .call (G_count I p75) [(Ty.one (B.int IntKind.i64))] fun (r76 : (Int × Unit)) =>
          ifB (eqI r63.1 r76.1)
            (grd (someB r63.2.1) <|
            grd (someB r63.2.1) <|
            .load (Ty.agg I.iB) (shiftTo r63.2.1 2) fun (r77 : (Bs.den I.iB)) =>
            .store (Option.some a2) (Bs.inj I.iB r77) <|
            .ret 1 [(Value.pointer (Option.some a2)), (Value.bool Bool.true)]) <|
          ifB (ltI r63.1 r76.1)
            (grd (someB r63.2.1) <|
            grd (someB r63.2.1) <|
            .load (Ty.one B.ptr) (shiftTo r63.2.1 0) fun (p78 : (Option Addr)) =>
            .ret 0 [(Value.int IntKind.i64 r63.1), (Value.pointer p78)]) <|
          grd (someB r63.2.1) <|
          grd (someB r63.2.1) <|
          .load (Ty.one B.ptr) (shiftTo r63.2.1 1) fun (p79 : (Option Addr)) =>
          .ret 0 [(Value.int IntKind.i64 (subI IntKind.i64 (subI IntKind.i64 r63.1 r76.1) 1)), (Value.pointer p79)]) <|
        .ret 2 []) <|
      .fail) fun (k80 : Nat) =>
  fun (vs81 : (List Value)) =>
  ifB (eqN k80 2)
    (.cast [] vs81 fun (u82 : Unit) =>
    .alloc (Bs.inj I.iB I.zi) fun (a83 : Addr) =>
    .load (Ty.agg I.iB) (Option.some a83) fun (r84 : (Bs.den I.iB)) =>
    .store (Option.some a2) (Bs.inj I.iB r84) <|
    .load (Ty.agg I.iB) (Option.some a2) fun (r85 : (Bs.den I.iB)) =>
    .ret 0 [(Value.agg (Bs.inj I.iB r85).toArray), (Value.bool Bool.false)]) <|
  ifB (eqN k80 1)
    (.cast [(Ty.one B.ptr), (Ty.one B.bool)] vs81 fun (r86 : ((Option Addr) × (Bool × Unit))) =>
    .load (Ty.agg I.iB) r86.1 fun (r87 : (Bs.den I.iB)) =>
    .ret 0 [(Value.agg (Bs.inj I.iB r87).toArray), (Value.bool r86.2.1)]) <|
  .fail
def G_Sum (I : Inst) (t : ((Option Addr) × Unit)) : Prog :=
  .alloc [(Value.pointer t.1)] fun (a1 : Addr) =>
  .alloc (Bs.inj I.sB I.zs) fun (a2 : Addr) =>
  .load (Ty.one B.ptr) (shiftTo (Option.some a1) 0) fun (p3 : (Option Addr)) =>
  ifB (noneB p3)
    (.alloc (Bs.inj I.sB I.zs) fun (a4 : Addr) =>
    .load (Ty.agg I.sB) (Option.some a4) fun (r5 : (Bs.den I.sB)) =>
    .store (Option.some a2) (Bs.inj I.sB r5) <|
    .load (Ty.agg I.sB) (Option.some a2) fun (r6 : (Bs.den I.sB)) =>
    .ret 0 [(Value.agg (Bs.inj I.sB r6).toArray)]) <|
  .load (Ty.one B.ptr) (shiftTo (Option.some a1) 0) fun (p7 : (Option Addr)) =>
  grd (someB p7) <|
  grd (someB p7) <|
  .load (Ty.agg I.sB) (shiftTo p7 (I.ni + 4)) fun (r8 : (Bs.den I.sB)) =>
  .store (Option.some a2) (Bs.inj I.sB r8) <|
  .load (Ty.agg I.sB) (Option.some a2) fun (r9 : (Bs.den I.sB)) =>
  .ret 0 [(Value.agg (Bs.inj I.sB r9).toArray)]
def G_Find (I : Inst) (t : ((Option Addr) × Unit)) (k : Int) (n : Int) : Prog :=
  .alloc [(Value.pointer t.1)] fun (a1 : Addr) =>
  ifB (leI n 0)
    (.ret 0 [(Value.int IntKind.i64 0)]) <|
  .alloc (Bs.inj I.sB I.zs) fun (a2 : Addr) =>
  .load (Ty.one B.ptr) (shiftTo (Option.some a1) 0) fun (p3 : (Option Addr)) =>
  .bind
    (.loop [(Ty.one (B.int IntKind.i64)), (Ty.one B.ptr)] ((0 : Int), (p3, ())) fun (r137 : (Int × ((Option Addr) × Unit))) =>
      ifB (notB (noneB r137.2.1))
        (.load (Ty.agg I.sB) (Option.some a2) fun (r138 : (Bs.den I.sB)) =>
        .alloc (Bs.inj I.sB I.zs) fun (a139 : Addr) =>
        .store (Option.some a139) (Bs.inj I.sB r138) <|
        .bind
          (grd (someB r137.2.1) <|
          grd (someB r137.2.1) <|
          .load (Ty.one B.ptr) (shiftTo r137.2.1 0) fun (p160 : (Option Addr)) =>
          ifB (notB (noneB p160))
            (.load (Ty.agg I.sB) (Option.some a2) fun (r161 : (Bs.den I.sB)) =>
            grd (someB r137.2.1) <|
            grd (someB r137.2.1) <|
            .load (Ty.one B.ptr) (shiftTo r137.2.1 0) fun (p162 : (Option Addr)) =>
            grd (someB p162) <|
            grd (someB p162) <|
            .load (Ty.agg I.sB) (shiftTo p162 (I.ni + 4)) fun (r163 : (Bs.den I.sB)) =>
            .call (I.aF r161 r163) [(Ty.agg I.sB)] fun (r164 : ((Bs.den I.sB) × Unit)) =>
            .store (Option.some a139) (Bs.inj I.sB r164.1) <|
            .ret 0 []) <|
          .ret 0 []) fun (k165 : Nat) =>
        fun (vs166 : (List Value)) =>
        ifB (eqN k165 0)
          (.cast [] vs166 fun (u167 : Unit) =>
          .load (Ty.agg I.sB) (Option.some a139) fun (r168 : (Bs.den I.sB)) =>
          .call (I.kF r168 k) [(Ty.one (B.int IntKind.i64))] fun (r169 : (Int × Unit)) =>
          ifB (geI r169.1 n)
            (grd (someB r137.2.1) <|
            grd (someB r137.2.1) <|
            .load (Ty.one B.ptr) (shiftTo r137.2.1 0) fun (p170 : (Option Addr)) =>
            .ret 0 [(Value.int IntKind.i64 r137.1), (Value.pointer p170)]) <|
          grd (someB r137.2.1) <|
          grd (someB r137.2.1) <|
          .load (Ty.one B.ptr) (shiftTo r137.2.1 0) fun (p171 : (Option Addr)) =>
          .call (G_count I p171) [(Ty.one (B.int IntKind.i64))] fun (r172 : (Int × Unit)) =>
          .load (Ty.agg I.sB) (Option.some a139) fun (r173 : (Bs.den I.sB)) =>
          grd (someB r137.2.1) <|
          grd (someB r137.2.1) <|
          .load (Ty.agg I.iB) (shiftTo r137.2.1 2) fun (r174 : (Bs.den I.iB)) =>
          .call (I.mF r174) [(Ty.agg I.sB)] fun (r175 : ((Bs.den I.sB) × Unit)) =>
          .check (Option.some a139) (Bs.inj I.sB r173) <|
          .call (I.aF r173 r175.1) [(Ty.agg I.sB)] fun (r176 : ((Bs.den I.sB) × Unit)) =>
          .store (Option.some a2) (Bs.inj I.sB r176.1) <|
          .load (Ty.agg I.sB) (Option.some a2) fun (r177 : (Bs.den I.sB)) =>
          .call (I.kF r177 k) [(Ty.one (B.int IntKind.i64))] fun (r178 : (Int × Unit)) =>
          ifB (geI r178.1 n)
            (.ret 1 [(Value.int IntKind.i64 (addI IntKind.i64 r137.1 (addI IntKind.i64 r172.1 1)))]) <|
          grd (someB r137.2.1) <|
          grd (someB r137.2.1) <|
          .load (Ty.one B.ptr) (shiftTo r137.2.1 1) fun (p179 : (Option Addr)) =>
          .ret 0 [(Value.int IntKind.i64 (addI IntKind.i64 r137.1 (addI IntKind.i64 r172.1 1))), (Value.pointer p179)]) <|
        .fail) <|
      .ret 2 [(Value.int IntKind.i64 r137.1)]) fun (k180 : Nat) =>
  fun (vs181 : (List Value)) =>
  ifB (eqN k180 2)
    (.cast [(Ty.one (B.int IntKind.i64))] vs181 fun (r182 : (Int × Unit)) =>
    .ret 0 [(Value.int IntKind.i64 (addI IntKind.i64 r182.1 1))]) <|
  ifB (eqN k180 1)
    (.cast [(Ty.one (B.int IntKind.i64))] vs181 fun (r183 : (Int × Unit)) =>
    .ret 0 [(Value.int IntKind.i64 r183.1)]) <|
  .fail
def G_Items (I : Inst) (t : ((Option Addr) × Unit)) (from_ : Int) : Prog :=
  .alloc [(Value.pointer t.1)] fun (a1 : Addr) =>
  .alloc [(Value.int IntKind.i64 from_)] fun (a2 : Addr) =>
  .ret 0 [(Value.func (Fn.func I.f1) #[] (#[(Value.pointer (Option.some a1)), (Value.pointer (Option.some a2))]))]
def G_Items1 (I : Inst) (yield : Value) (x1 : (Option Addr)) (x2 : (Option Addr)) : Prog :=
  grd (flatB yield) <|
  .alloc [yield] fun (a1 : Addr) =>
  .alloc [Value.nilFunc] fun (a2 : Addr) =>
  .store (Option.some a2) [(Value.func (Fn.func I.f2) #[] (#[(Value.pointer (Option.some a2)), (Value.pointer (Option.some a1))]))] <|
  .load (Ty.one B.any) (Option.some a2) fun (c3 : Value) =>
  grd (someB x1) <|
  .load (Ty.one B.ptr) (shiftTo x1 0) fun (p4 : (Option Addr)) =>
  .load (Ty.one (B.int IntKind.i64)) x2 fun (n5 : Int) =>
  .callv c3 [(Value.pointer p4), (Value.int IntKind.i64 (maxI 0 n5))] [(Ty.one B.bool)] fun (r6 : (Bool × Unit)) =>
  .ret 0 []
def G_Walk (I : Inst) (n : (Option Addr)) (from_ : Int) (x2 : (Option Addr)) (x3 : (Option Addr)) : Prog :=
  .bind
    (ifB (noneB n)
      (.ret 0 [(Value.bool Bool.true)]) <|
    grd (someB n) <|
    grd (someB n) <|
    .load (Ty.one (B.int IntKind.i64)) (shiftTo n (I.ni + 2)) fun (n55 : Int) =>
    .ret 0 [(Value.bool (geI from_ n55))]) fun (k56 : Nat) =>
  fun (vs57 : (List Value)) =>
  ifB (eqN k56 0)
    (.cast [(Ty.one B.bool)] vs57 fun (r58 : (Bool × Unit)) =>
    ifB r58.1
      (.ret 0 [(Value.bool Bool.true)]) <|
    grd (someB n) <|
    grd (someB n) <|
    .load (Ty.one B.ptr) (shiftTo n 0) fun (p59 : (Option Addr)) =>
    .call (G_count I p59) [(Ty.one (B.int IntKind.i64))] fun (r60 : (Int × Unit)) =>
    .bind
      (ifB (ltI from_ r60.1)
        (.load (Ty.one B.any) x2 fun (c85 : Value) =>
        grd (someB n) <|
        grd (someB n) <|
        .load (Ty.one B.ptr) (shiftTo n 0) fun (p86 : (Option Addr)) =>
        .callv c85 [(Value.pointer p86), (Value.int IntKind.i64 from_)] [(Ty.one B.bool)] fun (r87 : (Bool × Unit)) =>
        .ret 0 [(Value.bool (notB r87.1))]) <|
      .ret 0 [(Value.bool Bool.false)]) fun (k88 : Nat) =>
    fun (vs89 : (List Value)) =>
    ifB (eqN k88 0)
      (.cast [(Ty.one B.bool)] vs89 fun (r90 : (Bool × Unit)) =>
      ifB r90.1
        (.ret 0 [(Value.bool Bool.false)]) <|
      .bind
        (ifB (leI from_ r60.1)
          (.load (Ty.one B.any) x3 fun (c100 : Value) =>
          grd (someB n) <|
          grd (someB n) <|
          .load (Ty.agg I.iB) (shiftTo n 2) fun (r101 : (Bs.den I.iB)) =>
          .callv c100 [(Value.agg (Bs.inj I.iB r101).toArray)] [(Ty.one B.bool)] fun (r102 : (Bool × Unit)) =>
          .ret 0 [(Value.bool (notB r102.1))]) <|
        .ret 0 [(Value.bool Bool.false)]) fun (k103 : Nat) =>
      fun (vs104 : (List Value)) =>
      ifB (eqN k103 0)
        (.cast [(Ty.one B.bool)] vs104 fun (r105 : (Bool × Unit)) =>
        ifB r105.1
          (.ret 0 [(Value.bool Bool.false)]) <|
        .load (Ty.one B.any) x2 fun (c106 : Value) =>
        grd (someB n) <|
        grd (someB n) <|
        .load (Ty.one B.ptr) (shiftTo n 1) fun (p107 : (Option Addr)) =>
        .callv c106 [(Value.pointer p107), (Value.int IntKind.i64 (maxI 0 (subI IntKind.i64 (subI IntKind.i64 from_ r60.1) 1)))] [(Ty.one B.bool)] fun (r108 : (Bool × Unit)) =>
        .ret 0 [(Value.bool r108.1)]) <|
      .fail) <|
    .fail) <|
  .fail
end Go.Sw.Any
