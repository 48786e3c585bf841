/-
  The shallow programs of the functions of one cut, as text (printed by program). Nothing is proved here.
-/
import Derived.Test.YteoloieadjeneaaSwSw
set_option linter.unusedVariables false
set_option maxRecDepth 100000
namespace Go.Sw
/-- The numbers of types and functions, the names of methods. -/
structure Ids where
  f_Tree_Run_Items_1 : FuncId
  f_Tree_Run_Items_1_1 : FuncId
  f_Tree_Word_Items_1 : FuncId
  f_Tree_Word_Items_1_1 : FuncId
  f_law4_nested_1 : FuncId
  f_law4_take_1 : FuncId
  f_law4_walked_1 : FuncId
  none : Unit
noncomputable section
def F_Run_Measure (S : Ids) (r : (Int × Int × Unit)) : Prog :=
  .alloc [(Value.int IntKind.i64 r.1), (Value.int IntKind.i64 r.2.1)] fun (a1 : Addr) =>
  .alloc [(Value.int IntKind.i64 0), (Value.int IntKind.i64 0), (Value.int IntKind.i64 0), (Value.int IntKind.i64 0)] fun (a2 : Addr) =>
  .load (Ty.one (B.int IntKind.i64)) (shiftTo (Option.some a1) 1) fun (n3 : Int) =>
  ifB (leI n3 0)
    (.store (Option.some a2) [(Value.int IntKind.i64 0), (Value.int IntKind.i64 0), (Value.int IntKind.i64 0), (Value.int IntKind.i64 0)] <|
    .load (Ty.agg [(B.int IntKind.i64), (B.int IntKind.i64), (B.int IntKind.i64), (B.int IntKind.i64)]) (Option.some a2) fun (r4 : (Int × (Int × (Int × (Int × Unit))))) =>
    .ret 0 [(Value.agg (#[(Value.int IntKind.i64 r4.1), (Value.int IntKind.i64 r4.2.1), (Value.int IntKind.i64 r4.2.2.1), (Value.int IntKind.i64 r4.2.2.2.1)]))]) <|
  .load (Ty.one (B.int IntKind.i64)) (shiftTo (Option.some a1) 1) fun (n5 : Int) =>
  .load (Ty.one (B.int IntKind.i64)) (shiftTo (Option.some a1) 0) fun (n6 : Int) =>
  .load (Ty.one (B.int IntKind.i64)) (shiftTo (Option.some a1) 0) fun (n7 : Int) =>
  .store (Option.some a2) [(Value.int IntKind.i64 (minI n5 1048576)), (Value.int IntKind.i64 1), (Value.int IntKind.i64 n6), (Value.int IntKind.i64 n7)] <|
  .load (Ty.agg [(B.int IntKind.i64), (B.int IntKind.i64), (B.int IntKind.i64), (B.int IntKind.i64)]) (Option.some a2) fun (r8 : (Int × (Int × (Int × (Int × Unit))))) =>
  .ret 0 [(Value.agg (#[(Value.int IntKind.i64 r8.1), (Value.int IntKind.i64 r8.2.1), (Value.int IntKind.i64 r8.2.2.1), (Value.int IntKind.i64 r8.2.2.2.1)]))]
def F_Runs_Add (S : Ids) (s : (Int × Int × Int × Int × Unit)) (o : (Int × Int × Int × Int × Unit)) : Prog :=
  .alloc [(Value.int IntKind.i64 s.1), (Value.int IntKind.i64 s.2.1), (Value.int IntKind.i64 s.2.2.1), (Value.int IntKind.i64 s.2.2.2.1)] fun (a1 : Addr) =>
  .alloc [(Value.int IntKind.i64 o.1), (Value.int IntKind.i64 o.2.1), (Value.int IntKind.i64 o.2.2.1), (Value.int IntKind.i64 o.2.2.2.1)] fun (a2 : Addr) =>
  .alloc [(Value.int IntKind.i64 0), (Value.int IntKind.i64 0), (Value.int IntKind.i64 0), (Value.int IntKind.i64 0)] fun (a3 : Addr) =>
  .load (Ty.one (B.int IntKind.i64)) (shiftTo (Option.some a1) 1) fun (n4 : Int) =>
  ifB (eqI n4 0)
    (.load (Ty.agg [(B.int IntKind.i64), (B.int IntKind.i64), (B.int IntKind.i64), (B.int IntKind.i64)]) (Option.some a2) fun (r5 : (Int × (Int × (Int × (Int × Unit))))) =>
    .store (Option.some a3) [(Value.int IntKind.i64 r5.1), (Value.int IntKind.i64 r5.2.1), (Value.int IntKind.i64 r5.2.2.1), (Value.int IntKind.i64 r5.2.2.2.1)] <|
    .load (Ty.agg [(B.int IntKind.i64), (B.int IntKind.i64), (B.int IntKind.i64), (B.int IntKind.i64)]) (Option.some a3) fun (r6 : (Int × (Int × (Int × (Int × Unit))))) =>
    .ret 0 [(Value.agg (#[(Value.int IntKind.i64 r6.1), (Value.int IntKind.i64 r6.2.1), (Value.int IntKind.i64 r6.2.2.1), (Value.int IntKind.i64 r6.2.2.2.1)]))]) <|
  .load (Ty.one (B.int IntKind.i64)) (shiftTo (Option.some a2) 1) fun (n7 : Int) =>
  ifB (eqI n7 0)
    (.load (Ty.agg [(B.int IntKind.i64), (B.int IntKind.i64), (B.int IntKind.i64), (B.int IntKind.i64)]) (Option.some a1) fun (r8 : (Int × (Int × (Int × (Int × Unit))))) =>
    .store (Option.some a3) [(Value.int IntKind.i64 r8.1), (Value.int IntKind.i64 r8.2.1), (Value.int IntKind.i64 r8.2.2.1), (Value.int IntKind.i64 r8.2.2.2.1)] <|
    .load (Ty.agg [(B.int IntKind.i64), (B.int IntKind.i64), (B.int IntKind.i64), (B.int IntKind.i64)]) (Option.some a3) fun (r9 : (Int × (Int × (Int × (Int × Unit))))) =>
    .ret 0 [(Value.agg (#[(Value.int IntKind.i64 r9.1), (Value.int IntKind.i64 r9.2.1), (Value.int IntKind.i64 r9.2.2.1), (Value.int IntKind.i64 r9.2.2.2.1)]))]) <|
  .bind
    (.load (Ty.one (B.int IntKind.i64)) (shiftTo (Option.some a1) 3) fun (n22 : Int) =>
    .load (Ty.one (B.int IntKind.i64)) (shiftTo (Option.some a2) 2) fun (n23 : Int) =>
    ifB (eqI n22 n23)
      (.ret 0 [(Value.int IntKind.i64 1)]) <|
    .ret 0 [(Value.int IntKind.i64 0)]) fun (k24 : Nat) =>
  fun (vs25 : (List Value)) =>
  ifB (eqN k24 0)
    (.cast [(Ty.one (B.int IntKind.i64))] vs25 fun (r26 : (Int × Unit)) =>
    .load (Ty.one (B.int IntKind.i64)) (shiftTo (Option.some a1) 0) fun (n27 : Int) =>
    .load (Ty.one (B.int IntKind.i64)) (shiftTo (Option.some a2) 0) fun (n28 : Int) =>
    .load (Ty.one (B.int IntKind.i64)) (shiftTo (Option.some a1) 1) fun (n29 : Int) =>
    .load (Ty.one (B.int IntKind.i64)) (shiftTo (Option.some a2) 1) fun (n30 : Int) =>
    .load (Ty.one (B.int IntKind.i64)) (shiftTo (Option.some a1) 2) fun (n31 : Int) =>
    .load (Ty.one (B.int IntKind.i64)) (shiftTo (Option.some a2) 3) fun (n32 : Int) =>
    .store (Option.some a3) [(Value.int IntKind.i64 (addI IntKind.i64 n27 n28)), (Value.int IntKind.i64 (subI IntKind.i64 (addI IntKind.i64 n29 n30) r26.1)), (Value.int IntKind.i64 n31), (Value.int IntKind.i64 n32)] <|
    .load (Ty.agg [(B.int IntKind.i64), (B.int IntKind.i64), (B.int IntKind.i64), (B.int IntKind.i64)]) (Option.some a3) fun (r33 : (Int × (Int × (Int × (Int × Unit))))) =>
    .ret 0 [(Value.agg (#[(Value.int IntKind.i64 r33.1), (Value.int IntKind.i64 r33.2.1), (Value.int IntKind.i64 r33.2.2.1), (Value.int IntKind.i64 r33.2.2.2.1)]))]) <|
  .fail
def F_law4_added (S : Ids) (l : Sl) : Prog :=
  .alloc [(Value.int IntKind.i64 0), (Value.int IntKind.i64 0), (Value.int IntKind.i64 0), (Value.int IntKind.i64 0)] fun (a1 : Addr) =>
  .alloc [(Value.int IntKind.i64 0), (Value.int IntKind.i64 0), (Value.int IntKind.i64 0), (Value.int IntKind.i64 0)] fun (a2 : Addr) =>
  .bind
    (.loop [(Ty.one (B.int IntKind.i64))] ((0 : Int), ()) fun (r23 : (Int × Unit)) =>
      ifB (ltI r23.1 (natI l.len))
        (.load (Ty.agg [(B.int IntKind.i64), (B.int IntKind.i64), (B.int IntKind.i64), (B.int IntKind.i64)]) (Option.some a2) fun (r24 : (Int × (Int × (Int × (Int × Unit))))) =>
        grd (andB (someB l.base) (inB r23.1 l.len)) <|
        .load (Ty.agg [(B.int IntKind.i64), (B.int IntKind.i64)]) (shiftTo l.base (mulN (toN r23.1) 2)) fun (r25 : (Int × (Int × Unit))) =>
        .call (F_Run_Measure S (r25.1, (r25.2.1, ()))) [(Ty.agg [(B.int IntKind.i64), (B.int IntKind.i64), (B.int IntKind.i64), (B.int IntKind.i64)])] fun (r26 : ((Int × (Int × (Int × (Int × Unit)))) × Unit)) =>
        .check (Option.some a2) [(Value.int IntKind.i64 r24.1), (Value.int IntKind.i64 r24.2.1), (Value.int IntKind.i64 r24.2.2.1), (Value.int IntKind.i64 r24.2.2.2.1)] <|
        .call (F_Runs_Add S (r24.1, (r24.2.1, (r24.2.2.1, (r24.2.2.2.1, ())))) (r26.1.1, (r26.1.2.1, (r26.1.2.2.1, (r26.1.2.2.2.1, ()))))) [(Ty.agg [(B.int IntKind.i64), (B.int IntKind.i64), (B.int IntKind.i64), (B.int IntKind.i64)])] fun (r27 : ((Int × (Int × (Int × (Int × Unit)))) × Unit)) =>
        .store (Option.some a2) [(Value.int IntKind.i64 r27.1.1), (Value.int IntKind.i64 r27.1.2.1), (Value.int IntKind.i64 r27.1.2.2.1), (Value.int IntKind.i64 r27.1.2.2.2.1)] <|
        .ret 0 [(Value.int IntKind.i64 (addI IntKind.i64 r23.1 1))]) <|
      .ret 2 []) fun (k28 : Nat) =>
  fun (vs29 : (List Value)) =>
  ifB (eqN k28 2)
    (.cast [] vs29 fun (u30 : Unit) =>
    .load (Ty.agg [(B.int IntKind.i64), (B.int IntKind.i64), (B.int IntKind.i64), (B.int IntKind.i64)]) (Option.some a2) fun (r31 : (Int × (Int × (Int × (Int × Unit))))) =>
    .store (Option.some a1) [(Value.int IntKind.i64 r31.1), (Value.int IntKind.i64 r31.2.1), (Value.int IntKind.i64 r31.2.2.1), (Value.int IntKind.i64 r31.2.2.2.1)] <|
    .load (Ty.agg [(B.int IntKind.i64), (B.int IntKind.i64), (B.int IntKind.i64), (B.int IntKind.i64)]) (Option.some a1) fun (r32 : (Int × (Int × (Int × (Int × Unit))))) =>
    .ret 0 [(Value.agg (#[(Value.int IntKind.i64 r32.1), (Value.int IntKind.i64 r32.2.1), (Value.int IntKind.i64 r32.2.2.1), (Value.int IntKind.i64 r32.2.2.2.1)]))]) <|
  .fail
def F_law4_plain (S : Ids) (l : Sl) : Prog :=
  .bind
    (.loop [(Ty.one B.sl), (Ty.one (B.int IntKind.i64))] ((⟨Option.none, 0, 0⟩ : Sl), ((0 : Int), ())) fun (r19 : (Sl × (Int × Unit))) =>
      ifB (ltI r19.2.1 (natI l.len))
        (grd (andB (someB l.base) (inB r19.2.1 l.len)) <|
        grd (someB (shiftTo l.base (mulN (toN r19.2.1) 2))) <|
        .load (Ty.one (B.int IntKind.i64)) (shiftTo (shiftTo l.base (mulN (toN r19.2.1) 2)) 0) fun (n20 : Int) =>
        grd (andB (someB l.base) (inB r19.2.1 l.len)) <|
        grd (someB (shiftTo l.base (mulN (toN r19.2.1) 2))) <|
        .load (Ty.one (B.int IntKind.i64)) (shiftTo (shiftTo l.base (mulN (toN r19.2.1) 2)) 1) fun (n21 : Int) =>
        .alloc [(Value.int IntKind.i64 n20), (Value.int IntKind.i64 n21)] fun (a22 : Addr) =>
        .append 2 16 [(Value.int IntKind.i64 0), (Value.int IntKind.i64 0)] r19.1 (⟨(Option.some a22), 1, 1⟩) fun (l23 : Sl) =>
        .ret 0 [(Value.slice l23.base l23.len l23.cap), (Value.int IntKind.i64 (addI IntKind.i64 r19.2.1 1))]) <|
      .ret 2 [(Value.slice r19.1.base r19.1.len r19.1.cap)]) fun (k24 : Nat) =>
  fun (vs25 : (List Value)) =>
  ifB (eqN k24 2)
    (.cast [(Ty.one B.sl)] vs25 fun (r26 : (Sl × Unit)) =>
    .ret 0 [(Value.slice r26.1.base r26.1.len r26.1.cap)]) <|
  .fail
def F_ref4_behind (S : Ids) (s : (Int × Int × Int × Int × Unit)) (r : (Int × Int × Unit)) : Prog :=
  .alloc [(Value.int IntKind.i64 s.1), (Value.int IntKind.i64 s.2.1), (Value.int IntKind.i64 s.2.2.1), (Value.int IntKind.i64 s.2.2.2.1)] fun (a1 : Addr) =>
  .alloc [(Value.int IntKind.i64 r.1), (Value.int IntKind.i64 r.2.1)] fun (a2 : Addr) =>
  .alloc [(Value.int IntKind.i64 0), (Value.int IntKind.i64 0), (Value.int IntKind.i64 0), (Value.int IntKind.i64 0)] fun (a3 : Addr) =>
  .load (Ty.one (B.int IntKind.i64)) (shiftTo (Option.some a2) 1) fun (n4 : Int) =>
  ifB (leI n4 0)
    (.load (Ty.agg [(B.int IntKind.i64), (B.int IntKind.i64), (B.int IntKind.i64), (B.int IntKind.i64)]) (Option.some a1) fun (r5 : (Int × (Int × (Int × (Int × Unit))))) =>
    .store (Option.some a3) [(Value.int IntKind.i64 r5.1), (Value.int IntKind.i64 r5.2.1), (Value.int IntKind.i64 r5.2.2.1), (Value.int IntKind.i64 r5.2.2.2.1)] <|
    .load (Ty.agg [(B.int IntKind.i64), (B.int IntKind.i64), (B.int IntKind.i64), (B.int IntKind.i64)]) (Option.some a3) fun (r6 : (Int × (Int × (Int × (Int × Unit))))) =>
    .ret 0 [(Value.agg (#[(Value.int IntKind.i64 r6.1), (Value.int IntKind.i64 r6.2.1), (Value.int IntKind.i64 r6.2.2.1), (Value.int IntKind.i64 r6.2.2.2.1)]))]) <|
  .bind
    (.load (Ty.one (B.int IntKind.i64)) (shiftTo (Option.some a1) 0) fun (n34 : Int) =>
    ifB (eqI n34 0)
      (.load (Ty.one (B.int IntKind.i64)) (shiftTo (Option.some a2) 0) fun (n35 : Int) =>
      .store (shiftTo (Option.some a1) 2) [(Value.int IntKind.i64 n35)] <|
      .store (shiftTo (Option.some a1) 1) [(Value.int IntKind.i64 1)] <|
      .ret 0 []) <|
    .load (Ty.one (B.int IntKind.i64)) (shiftTo (Option.some a2) 0) fun (n36 : Int) =>
    .load (Ty.one (B.int IntKind.i64)) (shiftTo (Option.some a1) 3) fun (n37 : Int) =>
    ifB (neI n36 n37)
      (.load (Ty.one (B.int IntKind.i64)) (shiftTo (Option.some a1) 1) fun (n38 : Int) =>
      .store (shiftTo (Option.some a1) 1) [(Value.int IntKind.i64 (addI IntKind.i64 n38 1))] <|
      .ret 0 []) <|
    .ret 0 []) fun (k39 : Nat) =>
  fun (vs40 : (List Value)) =>
  ifB (eqN k39 0)
    (.cast [] vs40 fun (u41 : Unit) =>
    .load (Ty.one (B.int IntKind.i64)) (shiftTo (Option.some a2) 0) fun (n42 : Int) =>
    .store (shiftTo (Option.some a1) 3) [(Value.int IntKind.i64 n42)] <|
    .bind
      (.load (Ty.one (B.int IntKind.i64)) (shiftTo (Option.some a2) 1) fun (n52 : Int) =>
      ifB (gtI n52 1048576)
        (.load (Ty.one (B.int IntKind.i64)) (shiftTo (Option.some a1) 0) fun (n53 : Int) =>
        .store (shiftTo (Option.some a1) 0) [(Value.int IntKind.i64 (addI IntKind.i64 n53 1048576))] <|
        .ret 0 []) <|
      .load (Ty.one (B.int IntKind.i64)) (shiftTo (Option.some a1) 0) fun (n54 : Int) =>
      .load (Ty.one (B.int IntKind.i64)) (shiftTo (Option.some a2) 1) fun (n55 : Int) =>
      .store (shiftTo (Option.some a1) 0) [(Value.int IntKind.i64 (addI IntKind.i64 n54 n55))] <|
      .ret 0 []) fun (k56 : Nat) =>
    fun (vs57 : (List Value)) =>
    ifB (eqN k56 0)
      (.cast [] vs57 fun (u58 : Unit) =>
      .load (Ty.agg [(B.int IntKind.i64), (B.int IntKind.i64), (B.int IntKind.i64), (B.int IntKind.i64)]) (Option.some a1) fun (r59 : (Int × (Int × (Int × (Int × Unit))))) =>
      .store (Option.some a3) [(Value.int IntKind.i64 r59.1), (Value.int IntKind.i64 r59.2.1), (Value.int IntKind.i64 r59.2.2.1), (Value.int IntKind.i64 r59.2.2.2.1)] <|
      .load (Ty.agg [(B.int IntKind.i64), (B.int IntKind.i64), (B.int IntKind.i64), (B.int IntKind.i64)]) (Option.some a3) fun (r60 : (Int × (Int × (Int × (Int × Unit))))) =>
      .ret 0 [(Value.agg (#[(Value.int IntKind.i64 r60.1), (Value.int IntKind.i64 r60.2.1), (Value.int IntKind.i64 r60.2.2.1), (Value.int IntKind.i64 r60.2.2.2.1)]))]) <|
    .fail) <|
  .fail
def F_ref4_Upto (S : Ids) (l : Sl) (i : Int) : Prog :=
  .alloc [(Value.int IntKind.i64 0), (Value.int IntKind.i64 0), (Value.int IntKind.i64 0), (Value.int IntKind.i64 0)] fun (a1 : Addr) =>
  .alloc [(Value.int IntKind.i64 0), (Value.int IntKind.i64 0), (Value.int IntKind.i64 0), (Value.int IntKind.i64 0)] fun (a2 : Addr) =>
  .bind
    (.loop [(Ty.one (B.int IntKind.i64))] ((0 : Int), ()) fun (r47 : (Int × Unit)) =>
      .bind
        (ifB (ltI r47.1 i)
          (.ret 0 [(Value.bool (ltI r47.1 (natI l.len)))]) <|
        .ret 0 [(Value.bool Bool.false)]) fun (k54 : Nat) =>
      fun (vs55 : (List Value)) =>
      ifB (eqN k54 0)
        (.cast [(Ty.one B.bool)] vs55 fun (r56 : (Bool × Unit)) =>
        ifB r56.1
          (.load (Ty.agg [(B.int IntKind.i64), (B.int IntKind.i64), (B.int IntKind.i64), (B.int IntKind.i64)]) (Option.some a2) fun (r57 : (Int × (Int × (Int × (Int × Unit))))) =>
          grd (andB (someB l.base) (inB r47.1 l.len)) <|
          .load (Ty.agg [(B.int IntKind.i64), (B.int IntKind.i64)]) (shiftTo l.base (mulN (toN r47.1) 2)) fun (r58 : (Int × (Int × Unit))) =>
          .call (F_ref4_behind S (r57.1, (r57.2.1, (r57.2.2.1, (r57.2.2.2.1, ())))) (r58.1, (r58.2.1, ()))) [(Ty.agg [(B.int IntKind.i64), (B.int IntKind.i64), (B.int IntKind.i64), (B.int IntKind.i64)])] fun (r59 : ((Int × (Int × (Int × (Int × Unit)))) × Unit)) =>
          .store (Option.some a2) [(Value.int IntKind.i64 r59.1.1), (Value.int IntKind.i64 r59.1.2.1), (Value.int IntKind.i64 r59.1.2.2.1), (Value.int IntKind.i64 r59.1.2.2.2.1)] <|
          .ret 0 [(Value.int IntKind.i64 (addI IntKind.i64 r47.1 1))]) <|
        .ret 2 []) <|
      .fail) fun (k60 : Nat) =>
  fun (vs61 : (List Value)) =>
  ifB (eqN k60 2)
    (.cast [] vs61 fun (u62 : Unit) =>
    .load (Ty.agg [(B.int IntKind.i64), (B.int IntKind.i64), (B.int IntKind.i64), (B.int IntKind.i64)]) (Option.some a2) fun (r63 : (Int × (Int × (Int × (Int × Unit))))) =>
    .store (Option.some a1) [(Value.int IntKind.i64 r63.1), (Value.int IntKind.i64 r63.2.1), (Value.int IntKind.i64 r63.2.2.1), (Value.int IntKind.i64 r63.2.2.2.1)] <|
    .load (Ty.agg [(B.int IntKind.i64), (B.int IntKind.i64), (B.int IntKind.i64), (B.int IntKind.i64)]) (Option.some a1) fun (r64 : (Int × (Int × (Int × (Int × Unit))))) =>
    .ret 0 [(Value.agg (#[(Value.int IntKind.i64 r64.1), (Value.int IntKind.i64 r64.2.1), (Value.int IntKind.i64 r64.2.2.1), (Value.int IntKind.i64 r64.2.2.2.1)]))]) <|
  .fail
def F_law4_sameRuns (S : Ids) (a : (Int × Int × Int × Int × Unit)) (b : (Int × Int × Int × Int × Unit)) : Prog :=
  .alloc [(Value.int IntKind.i64 a.1), (Value.int IntKind.i64 a.2.1), (Value.int IntKind.i64 a.2.2.1), (Value.int IntKind.i64 a.2.2.2.1)] fun (a1 : Addr) =>
  .alloc [(Value.int IntKind.i64 b.1), (Value.int IntKind.i64 b.2.1), (Value.int IntKind.i64 b.2.2.1), (Value.int IntKind.i64 b.2.2.2.1)] fun (a2 : Addr) =>
  .bind
    (.load (Ty.one (B.int IntKind.i64)) (shiftTo (Option.some a1) 0) fun (n14 : Int) =>
    .load (Ty.one (B.int IntKind.i64)) (shiftTo (Option.some a2) 0) fun (n15 : Int) =>
    ifB (eqI n14 n15)
      (.load (Ty.one (B.int IntKind.i64)) (shiftTo (Option.some a1) 1) fun (n16 : Int) =>
      .load (Ty.one (B.int IntKind.i64)) (shiftTo (Option.some a2) 1) fun (n17 : Int) =>
      ifB (eqI n16 n17)
        (.load (Ty.one (B.int IntKind.i64)) (shiftTo (Option.some a1) 2) fun (n18 : Int) =>
        .load (Ty.one (B.int IntKind.i64)) (shiftTo (Option.some a2) 2) fun (n19 : Int) =>
        ifB (eqI n18 n19)
          (.load (Ty.one (B.int IntKind.i64)) (shiftTo (Option.some a1) 3) fun (n20 : Int) =>
          .load (Ty.one (B.int IntKind.i64)) (shiftTo (Option.some a2) 3) fun (n21 : Int) =>
          .ret 0 [(Value.bool (eqI n20 n21))]) <|
        .ret 0 [(Value.bool Bool.false)]) <|
      .ret 0 [(Value.bool Bool.false)]) <|
    .ret 0 [(Value.bool Bool.false)]) fun (k22 : Nat) =>
  fun (vs23 : (List Value)) =>
  ifB (eqN k22 0)
    (.cast [(Ty.one B.bool)] vs23 fun (r24 : (Bool × Unit)) =>
    .ret 0 [(Value.bool r24.1)]) <|
  .fail
def F_Runs_Key (S : Ids) (s : (Int × Int × Int × Int × Unit)) (k : Int) : Prog :=
  .alloc [(Value.int IntKind.i64 s.1), (Value.int IntKind.i64 s.2.1), (Value.int IntKind.i64 s.2.2.1), (Value.int IntKind.i64 s.2.2.2.1)] fun (a1 : Addr) =>
  ifB (eqI k 0)
    (.load (Ty.one (B.int IntKind.i64)) (shiftTo (Option.some a1) 0) fun (n2 : Int) =>
    .ret 0 [(Value.int IntKind.i64 n2)]) <|
  ifB (eqI k 1)
    (.load (Ty.one (B.int IntKind.i64)) (shiftTo (Option.some a1) 1) fun (n3 : Int) =>
    .ret 0 [(Value.int IntKind.i64 n3)]) <|
  .ret 0 [(Value.int IntKind.i64 0)]
def F_ref4_Key (S : Ids) (s : (Int × Int × Int × Int × Unit)) (k : Int) : Prog :=
  .alloc [(Value.int IntKind.i64 s.1), (Value.int IntKind.i64 s.2.1), (Value.int IntKind.i64 s.2.2.1), (Value.int IntKind.i64 s.2.2.2.1)] fun (a1 : Addr) =>
  ifB (eqI k 0)
    (.load (Ty.one (B.int IntKind.i64)) (shiftTo (Option.some a1) 0) fun (n2 : Int) =>
    .ret 0 [(Value.int IntKind.i64 n2)]) <|
  ifB (eqI k 1)
    (.load (Ty.one (B.int IntKind.i64)) (shiftTo (Option.some a1) 1) fun (n3 : Int) =>
    .ret 0 [(Value.int IntKind.i64 n3)]) <|
  .ret 0 [(Value.int IntKind.i64 0)]
def F_law4_TreeRuns (S : Ids) (a : Sl) (b : Sl) (c : Sl) : Prog :=
  .bind
    (ifB (gtI (natI a.len) 1099511627776)
      (.ret 0 [(Value.bool Bool.true)]) <|
    ifB (gtI (natI b.len) 1099511627776)
      (.ret 0 [(Value.bool Bool.true)]) <|
    .ret 0 [(Value.bool (gtI (natI c.len) 1099511627776))]) fun (k1028 : Nat) =>
  fun (vs1029 : (List Value)) =>
  ifB (eqN k1028 0)
    (.cast [(Ty.one B.bool)] vs1029 fun (r1030 : (Bool × Unit)) =>
    ifB r1030.1
      (.ret 0 [(Value.bool Bool.true)]) <|
    .append 2 16 [(Value.int IntKind.i64 0), (Value.int IntKind.i64 0)] (⟨Option.none, 0, 0⟩) a fun (l1031 : Sl) =>
    .append 2 16 [(Value.int IntKind.i64 0), (Value.int IntKind.i64 0)] l1031 b fun (l1032 : Sl) =>
    .append 2 16 [(Value.int IntKind.i64 0), (Value.int IntKind.i64 0)] l1032 c fun (l1033 : Sl) =>
    .alloc [(Value.int IntKind.i64 3), (Value.int IntKind.i64 2)] fun (a1034 : Addr) =>
    .append 2 16 [(Value.int IntKind.i64 0), (Value.int IntKind.i64 0)] l1033 (⟨(Option.some a1034), 1, 1⟩) fun (l1035 : Sl) =>
    .call (F_law4_added S a) [(Ty.agg [(B.int IntKind.i64), (B.int IntKind.i64), (B.int IntKind.i64), (B.int IntKind.i64)])] fun (r1036 : ((Int × (Int × (Int × (Int × Unit)))) × Unit)) =>
    .alloc [(Value.int IntKind.i64 0), (Value.int IntKind.i64 0), (Value.int IntKind.i64 0), (Value.int IntKind.i64 0)] fun (a1037 : Addr) =>
    .store (Option.some a1037) [(Value.int IntKind.i64 r1036.1.1), (Value.int IntKind.i64 r1036.1.2.1), (Value.int IntKind.i64 r1036.1.2.2.1), (Value.int IntKind.i64 r1036.1.2.2.2.1)] <|
    .call (F_law4_added S b) [(Ty.agg [(B.int IntKind.i64), (B.int IntKind.i64), (B.int IntKind.i64), (B.int IntKind.i64)])] fun (r1038 : ((Int × (Int × (Int × (Int × Unit)))) × Unit)) =>
    .alloc [(Value.int IntKind.i64 0), (Value.int IntKind.i64 0), (Value.int IntKind.i64 0), (Value.int IntKind.i64 0)] fun (a1039 : Addr) =>
    .store (Option.some a1039) [(Value.int IntKind.i64 r1038.1.1), (Value.int IntKind.i64 r1038.1.2.1), (Value.int IntKind.i64 r1038.1.2.2.1), (Value.int IntKind.i64 r1038.1.2.2.2.1)] <|
    .append 2 16 [(Value.int IntKind.i64 0), (Value.int IntKind.i64 0)] (⟨Option.none, 0, 0⟩) c fun (l1040 : Sl) =>
    .alloc [(Value.int IntKind.i64 3), (Value.int IntKind.i64 2)] fun (a1041 : Addr) =>
    .append 2 16 [(Value.int IntKind.i64 0), (Value.int IntKind.i64 0)] l1040 (⟨(Option.some a1041), 1, 1⟩) fun (l1042 : Sl) =>
    .call (F_law4_added S l1042) [(Ty.agg [(B.int IntKind.i64), (B.int IntKind.i64), (B.int IntKind.i64), (B.int IntKind.i64)])] fun (r1043 : ((Int × (Int × (Int × (Int × Unit)))) × Unit)) =>
    .alloc [(Value.int IntKind.i64 0), (Value.int IntKind.i64 0), (Value.int IntKind.i64 0), (Value.int IntKind.i64 0)] fun (a1044 : Addr) =>
    .store (Option.some a1044) [(Value.int IntKind.i64 r1043.1.1), (Value.int IntKind.i64 r1043.1.2.1), (Value.int IntKind.i64 r1043.1.2.2.1), (Value.int IntKind.i64 r1043.1.2.2.2.1)] <|
    .bind
      (.both (.load (Ty.agg [(B.int IntKind.i64), (B.int IntKind.i64), (B.int IntKind.i64), (B.int IntKind.i64)]) (Option.some a1037) fun (r1550 : (Int × (Int × (Int × (Int × Unit))))) =>
      .load (Ty.agg [(B.int IntKind.i64), (B.int IntKind.i64), (B.int IntKind.i64), (B.int IntKind.i64)]) (Option.some a1039) fun (r1551 : (Int × (Int × (Int × (Int × Unit))))) =>
      .load (Ty.agg [(B.int IntKind.i64), (B.int IntKind.i64), (B.int IntKind.i64), (B.int IntKind.i64)]) (Option.some a1044) fun (r1552 : (Int × (Int × (Int × (Int × Unit))))) =>
      .call (F_Runs_Add S (r1550.1, (r1550.2.1, (r1550.2.2.1, (r1550.2.2.2.1, ())))) (r1551.1, (r1551.2.1, (r1551.2.2.1, (r1551.2.2.2.1, ()))))) [(Ty.agg [(B.int IntKind.i64), (B.int IntKind.i64), (B.int IntKind.i64), (B.int IntKind.i64)])] fun (r1553 : ((Int × (Int × (Int × (Int × Unit)))) × Unit)) =>
      .check (Option.some a1044) [(Value.int IntKind.i64 r1552.1), (Value.int IntKind.i64 r1552.2.1), (Value.int IntKind.i64 r1552.2.2.1), (Value.int IntKind.i64 r1552.2.2.2.1)] <|
      .call (F_Runs_Add S (r1553.1.1, (r1553.1.2.1, (r1553.1.2.2.1, (r1553.1.2.2.2.1, ())))) (r1552.1, (r1552.2.1, (r1552.2.2.1, (r1552.2.2.2.1, ()))))) [(Ty.agg [(B.int IntKind.i64), (B.int IntKind.i64), (B.int IntKind.i64), (B.int IntKind.i64)])] fun (r1554 : ((Int × (Int × (Int × (Int × Unit)))) × Unit)) =>
      .alloc [(Value.int IntKind.i64 0), (Value.int IntKind.i64 0), (Value.int IntKind.i64 0), (Value.int IntKind.i64 0)] fun (a1555 : Addr) =>
      .check (Option.some a1044) [(Value.int IntKind.i64 r1552.1), (Value.int IntKind.i64 r1552.2.1), (Value.int IntKind.i64 r1552.2.2.1), (Value.int IntKind.i64 r1552.2.2.2.1)] <|
      .check (Option.some a1039) [(Value.int IntKind.i64 r1551.1), (Value.int IntKind.i64 r1551.2.1), (Value.int IntKind.i64 r1551.2.2.1), (Value.int IntKind.i64 r1551.2.2.2.1)] <|
      .check (Option.some a1037) [(Value.int IntKind.i64 r1550.1), (Value.int IntKind.i64 r1550.2.1), (Value.int IntKind.i64 r1550.2.2.1), (Value.int IntKind.i64 r1550.2.2.2.1)] <|
      .store (Option.some a1555) [(Value.int IntKind.i64 r1554.1.1), (Value.int IntKind.i64 r1554.1.2.1), (Value.int IntKind.i64 r1554.1.2.2.1), (Value.int IntKind.i64 r1554.1.2.2.2.1)] <|
      .ret 0 [(Value.pointer (Option.some a1555))]) <|
      .both (.load (Ty.agg [(B.int IntKind.i64), (B.int IntKind.i64), (B.int IntKind.i64), (B.int IntKind.i64)]) (Option.some a1037) fun (r1556 : (Int × (Int × (Int × (Int × Unit))))) =>
      .load (Ty.agg [(B.int IntKind.i64), (B.int IntKind.i64), (B.int IntKind.i64), (B.int IntKind.i64)]) (Option.some a1039) fun (r1557 : (Int × (Int × (Int × (Int × Unit))))) =>
      .load (Ty.agg [(B.int IntKind.i64), (B.int IntKind.i64), (B.int IntKind.i64), (B.int IntKind.i64)]) (Option.some a1044) fun (r1558 : (Int × (Int × (Int × (Int × Unit))))) =>
      .call (F_Runs_Add S (r1556.1, (r1556.2.1, (r1556.2.2.1, (r1556.2.2.2.1, ())))) (r1557.1, (r1557.2.1, (r1557.2.2.1, (r1557.2.2.2.1, ()))))) [(Ty.agg [(B.int IntKind.i64), (B.int IntKind.i64), (B.int IntKind.i64), (B.int IntKind.i64)])] fun (r1559 : ((Int × (Int × (Int × (Int × Unit)))) × Unit)) =>
      .check (Option.some a1044) [(Value.int IntKind.i64 r1558.1), (Value.int IntKind.i64 r1558.2.1), (Value.int IntKind.i64 r1558.2.2.1), (Value.int IntKind.i64 r1558.2.2.2.1)] <|
      .alloc [(Value.int IntKind.i64 0), (Value.int IntKind.i64 0), (Value.int IntKind.i64 0), (Value.int IntKind.i64 0)] fun (a1560 : Addr) =>
      .check (Option.some a1044) [(Value.int IntKind.i64 r1558.1), (Value.int IntKind.i64 r1558.2.1), (Value.int IntKind.i64 r1558.2.2.1), (Value.int IntKind.i64 r1558.2.2.2.1)] <|
      .check (Option.some a1039) [(Value.int IntKind.i64 r1557.1), (Value.int IntKind.i64 r1557.2.1), (Value.int IntKind.i64 r1557.2.2.1), (Value.int IntKind.i64 r1557.2.2.2.1)] <|
      .check (Option.some a1037) [(Value.int IntKind.i64 r1556.1), (Value.int IntKind.i64 r1556.2.1), (Value.int IntKind.i64 r1556.2.2.1), (Value.int IntKind.i64 r1556.2.2.2.1)] <|
      .call (F_Runs_Add S (r1559.1.1, (r1559.1.2.1, (r1559.1.2.2.1, (r1559.1.2.2.2.1, ())))) (r1558.1, (r1558.2.1, (r1558.2.2.1, (r1558.2.2.2.1, ()))))) [(Ty.agg [(B.int IntKind.i64), (B.int IntKind.i64), (B.int IntKind.i64), (B.int IntKind.i64)])] fun (r1561 : ((Int × (Int × (Int × (Int × Unit)))) × Unit)) =>
      .store (Option.some a1560) [(Value.int IntKind.i64 r1561.1.1), (Value.int IntKind.i64 r1561.1.2.1), (Value.int IntKind.i64 r1561.1.2.2.1), (Value.int IntKind.i64 r1561.1.2.2.2.1)] <|
      .ret 0 [(Value.pointer (Option.some a1560))]) <|
      .load (Ty.agg [(B.int IntKind.i64), (B.int IntKind.i64), (B.int IntKind.i64), (B.int IntKind.i64)]) (Option.some a1037) fun (r1562 : (Int × (Int × (Int × (Int × Unit))))) =>
      .load (Ty.agg [(B.int IntKind.i64), (B.int IntKind.i64), (B.int IntKind.i64), (B.int IntKind.i64)]) (Option.some a1039) fun (r1563 : (Int × (Int × (Int × (Int × Unit))))) =>
      .load (Ty.agg [(B.int IntKind.i64), (B.int IntKind.i64), (B.int IntKind.i64), (B.int IntKind.i64)]) (Option.some a1044) fun (r1564 : (Int × (Int × (Int × (Int × Unit))))) =>
      .alloc [(Value.int IntKind.i64 0), (Value.int IntKind.i64 0), (Value.int IntKind.i64 0), (Value.int IntKind.i64 0)] fun (a1565 : Addr) =>
      .check (Option.some a1044) [(Value.int IntKind.i64 r1564.1), (Value.int IntKind.i64 r1564.2.1), (Value.int IntKind.i64 r1564.2.2.1), (Value.int IntKind.i64 r1564.2.2.2.1)] <|
      .check (Option.some a1039) [(Value.int IntKind.i64 r1563.1), (Value.int IntKind.i64 r1563.2.1), (Value.int IntKind.i64 r1563.2.2.1), (Value.int IntKind.i64 r1563.2.2.2.1)] <|
      .check (Option.some a1037) [(Value.int IntKind.i64 r1562.1), (Value.int IntKind.i64 r1562.2.1), (Value.int IntKind.i64 r1562.2.2.1), (Value.int IntKind.i64 r1562.2.2.2.1)] <|
      .call (F_Runs_Add S (r1562.1, (r1562.2.1, (r1562.2.2.1, (r1562.2.2.2.1, ())))) (r1563.1, (r1563.2.1, (r1563.2.2.1, (r1563.2.2.2.1, ()))))) [(Ty.agg [(B.int IntKind.i64), (B.int IntKind.i64), (B.int IntKind.i64), (B.int IntKind.i64)])] fun (r1566 : ((Int × (Int × (Int × (Int × Unit)))) × Unit)) =>
      .check (Option.some a1044) [(Value.int IntKind.i64 r1564.1), (Value.int IntKind.i64 r1564.2.1), (Value.int IntKind.i64 r1564.2.2.1), (Value.int IntKind.i64 r1564.2.2.2.1)] <|
      .call (F_Runs_Add S (r1566.1.1, (r1566.1.2.1, (r1566.1.2.2.1, (r1566.1.2.2.2.1, ())))) (r1564.1, (r1564.2.1, (r1564.2.2.1, (r1564.2.2.2.1, ()))))) [(Ty.agg [(B.int IntKind.i64), (B.int IntKind.i64), (B.int IntKind.i64), (B.int IntKind.i64)])] fun (r1567 : ((Int × (Int × (Int × (Int × Unit)))) × Unit)) =>
      .store (Option.some a1565) [(Value.int IntKind.i64 r1567.1.1), (Value.int IntKind.i64 r1567.1.2.1), (Value.int IntKind.i64 r1567.1.2.2.1), (Value.int IntKind.i64 r1567.1.2.2.2.1)] <|
      .ret 0 [(Value.pointer (Option.some a1565))]) fun (k1568 : Nat) =>
    fun (vs1569 : (List Value)) =>
    ifB (eqN k1568 0)
      (.cast [(Ty.one B.ptr)] vs1569 fun (r1570 : ((Option Addr) × Unit)) =>
      .bind
        (.both (.load (Ty.agg [(B.int IntKind.i64), (B.int IntKind.i64), (B.int IntKind.i64), (B.int IntKind.i64)]) (Option.some a1037) fun (r1813 : (Int × (Int × (Int × (Int × Unit))))) =>
        .load (Ty.agg [(B.int IntKind.i64), (B.int IntKind.i64), (B.int IntKind.i64), (B.int IntKind.i64)]) (Option.some a1039) fun (r1814 : (Int × (Int × (Int × (Int × Unit))))) =>
        .load (Ty.agg [(B.int IntKind.i64), (B.int IntKind.i64), (B.int IntKind.i64), (B.int IntKind.i64)]) (Option.some a1044) fun (r1815 : (Int × (Int × (Int × (Int × Unit))))) =>
        .call (F_Runs_Add S (r1814.1, (r1814.2.1, (r1814.2.2.1, (r1814.2.2.2.1, ())))) (r1815.1, (r1815.2.1, (r1815.2.2.1, (r1815.2.2.2.1, ()))))) [(Ty.agg [(B.int IntKind.i64), (B.int IntKind.i64), (B.int IntKind.i64), (B.int IntKind.i64)])] fun (r1816 : ((Int × (Int × (Int × (Int × Unit)))) × Unit)) =>
        .check (Option.some a1037) [(Value.int IntKind.i64 r1813.1), (Value.int IntKind.i64 r1813.2.1), (Value.int IntKind.i64 r1813.2.2.1), (Value.int IntKind.i64 r1813.2.2.2.1)] <|
        .call (F_Runs_Add S (r1813.1, (r1813.2.1, (r1813.2.2.1, (r1813.2.2.2.1, ())))) (r1816.1.1, (r1816.1.2.1, (r1816.1.2.2.1, (r1816.1.2.2.2.1, ()))))) [(Ty.agg [(B.int IntKind.i64), (B.int IntKind.i64), (B.int IntKind.i64), (B.int IntKind.i64)])] fun (r1817 : ((Int × (Int × (Int × (Int × Unit)))) × Unit)) =>
        .alloc [(Value.int IntKind.i64 0), (Value.int IntKind.i64 0), (Value.int IntKind.i64 0), (Value.int IntKind.i64 0)] fun (a1818 : Addr) =>
        .check (Option.some a1044) [(Value.int IntKind.i64 r1815.1), (Value.int IntKind.i64 r1815.2.1), (Value.int IntKind.i64 r1815.2.2.1), (Value.int IntKind.i64 r1815.2.2.2.1)] <|
        .check (Option.some a1039) [(Value.int IntKind.i64 r1814.1), (Value.int IntKind.i64 r1814.2.1), (Value.int IntKind.i64 r1814.2.2.1), (Value.int IntKind.i64 r1814.2.2.2.1)] <|
        .check (Option.some a1037) [(Value.int IntKind.i64 r1813.1), (Value.int IntKind.i64 r1813.2.1), (Value.int IntKind.i64 r1813.2.2.1), (Value.int IntKind.i64 r1813.2.2.2.1)] <|
        .store (Option.some a1818) [(Value.int IntKind.i64 r1817.1.1), (Value.int IntKind.i64 r1817.1.2.1), (Value.int IntKind.i64 r1817.1.2.2.1), (Value.int IntKind.i64 r1817.1.2.2.2.1)] <|
        .ret 0 [(Value.pointer (Option.some a1818))]) <|
        .both (.load (Ty.agg [(B.int IntKind.i64), (B.int IntKind.i64), (B.int IntKind.i64), (B.int IntKind.i64)]) (Option.some a1037) fun (r1819 : (Int × (Int × (Int × (Int × Unit))))) =>
        .load (Ty.agg [(B.int IntKind.i64), (B.int IntKind.i64), (B.int IntKind.i64), (B.int IntKind.i64)]) (Option.some a1039) fun (r1820 : (Int × (Int × (Int × (Int × Unit))))) =>
        .load (Ty.agg [(B.int IntKind.i64), (B.int IntKind.i64), (B.int IntKind.i64), (B.int IntKind.i64)]) (Option.some a1044) fun (r1821 : (Int × (Int × (Int × (Int × Unit))))) =>
        .call (F_Runs_Add S (r1820.1, (r1820.2.1, (r1820.2.2.1, (r1820.2.2.2.1, ())))) (r1821.1, (r1821.2.1, (r1821.2.2.1, (r1821.2.2.2.1, ()))))) [(Ty.agg [(B.int IntKind.i64), (B.int IntKind.i64), (B.int IntKind.i64), (B.int IntKind.i64)])] fun (r1822 : ((Int × (Int × (Int × (Int × Unit)))) × Unit)) =>
        .check (Option.some a1037) [(Value.int IntKind.i64 r1819.1), (Value.int IntKind.i64 r1819.2.1), (Value.int IntKind.i64 r1819.2.2.1), (Value.int IntKind.i64 r1819.2.2.2.1)] <|
        .alloc [(Value.int IntKind.i64 0), (Value.int IntKind.i64 0), (Value.int IntKind.i64 0), (Value.int IntKind.i64 0)] fun (a1823 : Addr) =>
        .check (Option.some a1044) [(Value.int IntKind.i64 r1821.1), (Value.int IntKind.i64 r1821.2.1), (Value.int IntKind.i64 r1821.2.2.1), (Value.int IntKind.i64 r1821.2.2.2.1)] <|
        .check (Option.some a1039) [(Value.int IntKind.i64 r1820.1), (Value.int IntKind.i64 r1820.2.1), (Value.int IntKind.i64 r1820.2.2.1), (Value.int IntKind.i64 r1820.2.2.2.1)] <|
        .check (Option.some a1037) [(Value.int IntKind.i64 r1819.1), (Value.int IntKind.i64 r1819.2.1), (Value.int IntKind.i64 r1819.2.2.1), (Value.int IntKind.i64 r1819.2.2.2.1)] <|
        .call (F_Runs_Add S (r1819.1, (r1819.2.1, (r1819.2.2.1, (r1819.2.2.2.1, ())))) (r1822.1.1, (r1822.1.2.1, (r1822.1.2.2.1, (r1822.1.2.2.2.1, ()))))) [(Ty.agg [(B.int IntKind.i64), (B.int IntKind.i64), (B.int IntKind.i64), (B.int IntKind.i64)])] fun (r1824 : ((Int × (Int × (Int × (Int × Unit)))) × Unit)) =>
        .store (Option.some a1823) [(Value.int IntKind.i64 r1824.1.1), (Value.int IntKind.i64 r1824.1.2.1), (Value.int IntKind.i64 r1824.1.2.2.1), (Value.int IntKind.i64 r1824.1.2.2.2.1)] <|
        .ret 0 [(Value.pointer (Option.some a1823))]) <|
        .load (Ty.agg [(B.int IntKind.i64), (B.int IntKind.i64), (B.int IntKind.i64), (B.int IntKind.i64)]) (Option.some a1037) fun (r1825 : (Int × (Int × (Int × (Int × Unit))))) =>
        .load (Ty.agg [(B.int IntKind.i64), (B.int IntKind.i64), (B.int IntKind.i64), (B.int IntKind.i64)]) (Option.some a1039) fun (r1826 : (Int × (Int × (Int × (Int × Unit))))) =>
        .load (Ty.agg [(B.int IntKind.i64), (B.int IntKind.i64), (B.int IntKind.i64), (B.int IntKind.i64)]) (Option.some a1044) fun (r1827 : (Int × (Int × (Int × (Int × Unit))))) =>
        .alloc [(Value.int IntKind.i64 0), (Value.int IntKind.i64 0), (Value.int IntKind.i64 0), (Value.int IntKind.i64 0)] fun (a1828 : Addr) =>
        .check (Option.some a1044) [(Value.int IntKind.i64 r1827.1), (Value.int IntKind.i64 r1827.2.1), (Value.int IntKind.i64 r1827.2.2.1), (Value.int IntKind.i64 r1827.2.2.2.1)] <|
        .check (Option.some a1039) [(Value.int IntKind.i64 r1826.1), (Value.int IntKind.i64 r1826.2.1), (Value.int IntKind.i64 r1826.2.2.1), (Value.int IntKind.i64 r1826.2.2.2.1)] <|
        .check (Option.some a1037) [(Value.int IntKind.i64 r1825.1), (Value.int IntKind.i64 r1825.2.1), (Value.int IntKind.i64 r1825.2.2.1), (Value.int IntKind.i64 r1825.2.2.2.1)] <|
        .call (F_Runs_Add S (r1826.1, (r1826.2.1, (r1826.2.2.1, (r1826.2.2.2.1, ())))) (r1827.1, (r1827.2.1, (r1827.2.2.1, (r1827.2.2.2.1, ()))))) [(Ty.agg [(B.int IntKind.i64), (B.int IntKind.i64), (B.int IntKind.i64), (B.int IntKind.i64)])] fun (r1829 : ((Int × (Int × (Int × (Int × Unit)))) × Unit)) =>
        .check (Option.some a1037) [(Value.int IntKind.i64 r1825.1), (Value.int IntKind.i64 r1825.2.1), (Value.int IntKind.i64 r1825.2.2.1), (Value.int IntKind.i64 r1825.2.2.2.1)] <|
        .call (F_Runs_Add S (r1825.1, (r1825.2.1, (r1825.2.2.1, (r1825.2.2.2.1, ())))) (r1829.1.1, (r1829.1.2.1, (r1829.1.2.2.1, (r1829.1.2.2.2.1, ()))))) [(Ty.agg [(B.int IntKind.i64), (B.int IntKind.i64), (B.int IntKind.i64), (B.int IntKind.i64)])] fun (r1830 : ((Int × (Int × (Int × (Int × Unit)))) × Unit)) =>
        .store (Option.some a1828) [(Value.int IntKind.i64 r1830.1.1), (Value.int IntKind.i64 r1830.1.2.1), (Value.int IntKind.i64 r1830.1.2.2.1), (Value.int IntKind.i64 r1830.1.2.2.2.1)] <|
        .ret 0 [(Value.pointer (Option.some a1828))]) fun (k1831 : Nat) =>
      fun (vs1832 : (List Value)) =>
      ifB (eqN k1831 0)
        (.cast [(Ty.one B.ptr)] vs1832 fun (r1833 : ((Option Addr) × Unit)) =>
        .call (F_law4_plain S l1035) [(Ty.one B.sl)] fun (r1834 : (Sl × Unit)) =>
        .call (F_ref4_Upto S r1834.1 (natI l1035.len)) [(Ty.agg [(B.int IntKind.i64), (B.int IntKind.i64), (B.int IntKind.i64), (B.int IntKind.i64)])] fun (r1835 : ((Int × (Int × (Int × (Int × Unit)))) × Unit)) =>
        .alloc [(Value.int IntKind.i64 0), (Value.int IntKind.i64 0), (Value.int IntKind.i64 0), (Value.int IntKind.i64 0)] fun (a1836 : Addr) =>
        .store (Option.some a1836) [(Value.int IntKind.i64 r1835.1.1), (Value.int IntKind.i64 r1835.1.2.1), (Value.int IntKind.i64 r1835.1.2.2.1), (Value.int IntKind.i64 r1835.1.2.2.2.1)] <|
        .bind
          (.load (Ty.agg [(B.int IntKind.i64), (B.int IntKind.i64), (B.int IntKind.i64), (B.int IntKind.i64)]) r1570.1 fun (r1946 : (Int × (Int × (Int × (Int × Unit))))) =>
          .load (Ty.agg [(B.int IntKind.i64), (B.int IntKind.i64), (B.int IntKind.i64), (B.int IntKind.i64)]) (Option.some a1836) fun (r1947 : (Int × (Int × (Int × (Int × Unit))))) =>
          .call (F_law4_sameRuns S (r1946.1, (r1946.2.1, (r1946.2.2.1, (r1946.2.2.2.1, ())))) (r1947.1, (r1947.2.1, (r1947.2.2.1, (r1947.2.2.2.1, ()))))) [(Ty.one B.bool)] fun (r1948 : (Bool × Unit)) =>
          ifB (notB r1948.1)
            (.ret 0 [(Value.bool Bool.true)]) <|
          .load (Ty.agg [(B.int IntKind.i64), (B.int IntKind.i64), (B.int IntKind.i64), (B.int IntKind.i64)]) r1833.1 fun (r1949 : (Int × (Int × (Int × (Int × Unit))))) =>
          .load (Ty.agg [(B.int IntKind.i64), (B.int IntKind.i64), (B.int IntKind.i64), (B.int IntKind.i64)]) (Option.some a1836) fun (r1950 : (Int × (Int × (Int × (Int × Unit))))) =>
          .call (F_law4_sameRuns S (r1949.1, (r1949.2.1, (r1949.2.2.1, (r1949.2.2.2.1, ())))) (r1950.1, (r1950.2.1, (r1950.2.2.1, (r1950.2.2.2.1, ()))))) [(Ty.one B.bool)] fun (r1951 : (Bool × Unit)) =>
          .ret 0 [(Value.bool (notB r1951.1))]) fun (k1952 : Nat) =>
        fun (vs1953 : (List Value)) =>
        ifB (eqN k1952 0)
          (.cast [(Ty.one B.bool)] vs1953 fun (r1954 : (Bool × Unit)) =>
          ifB r1954.1
            (.ret 0 [(Value.bool Bool.false)]) <|
          .bind
            (.loop [(Ty.one (B.int IntKind.i64))] (((-2) : Int), ()) fun (r2028 : (Int × Unit)) =>
              ifB (leI r2028.1 3)
                (.bind
                  (.load (Ty.agg [(B.int IntKind.i64), (B.int IntKind.i64), (B.int IntKind.i64), (B.int IntKind.i64)]) r1570.1 fun (r2040 : (Int × (Int × (Int × (Int × Unit))))) =>
                  .load (Ty.agg [(B.int IntKind.i64), (B.int IntKind.i64), (B.int IntKind.i64), (B.int IntKind.i64)]) (Option.some a1836) fun (r2041 : (Int × (Int × (Int × (Int × Unit))))) =>
                  .call (F_Runs_Key S (r2040.1, (r2040.2.1, (r2040.2.2.1, (r2040.2.2.2.1, ())))) r2028.1) [(Ty.one (B.int IntKind.i64))] fun (r2042 : (Int × Unit)) =>
                  .check (Option.some a1836) [(Value.int IntKind.i64 r2041.1), (Value.int IntKind.i64 r2041.2.1), (Value.int IntKind.i64 r2041.2.2.1), (Value.int IntKind.i64 r2041.2.2.2.1)] <|
                  .call (F_ref4_Key S (r2041.1, (r2041.2.1, (r2041.2.2.1, (r2041.2.2.2.1, ())))) r2028.1) [(Ty.one (B.int IntKind.i64))] fun (r2043 : (Int × Unit)) =>
                  ifB (neI r2042.1 r2043.1)
                    (.ret 0 [(Value.bool Bool.true)]) <|
                  .load (Ty.agg [(B.int IntKind.i64), (B.int IntKind.i64), (B.int IntKind.i64), (B.int IntKind.i64)]) r1570.1 fun (r2044 : (Int × (Int × (Int × (Int × Unit))))) =>
                  .load (Ty.agg [(B.int IntKind.i64), (B.int IntKind.i64), (B.int IntKind.i64), (B.int IntKind.i64)]) (Option.some a1037) fun (r2045 : (Int × (Int × (Int × (Int × Unit))))) =>
                  .call (F_Runs_Key S (r2044.1, (r2044.2.1, (r2044.2.2.1, (r2044.2.2.2.1, ())))) r2028.1) [(Ty.one (B.int IntKind.i64))] fun (r2046 : (Int × Unit)) =>
                  .check (Option.some a1037) [(Value.int IntKind.i64 r2045.1), (Value.int IntKind.i64 r2045.2.1), (Value.int IntKind.i64 r2045.2.2.1), (Value.int IntKind.i64 r2045.2.2.2.1)] <|
                  .call (F_Runs_Key S (r2045.1, (r2045.2.1, (r2045.2.2.1, (r2045.2.2.2.1, ())))) r2028.1) [(Ty.one (B.int IntKind.i64))] fun (r2047 : (Int × Unit)) =>
                  .ret 0 [(Value.bool (ltI r2046.1 r2047.1))]) fun (k2048 : Nat) =>
                fun (vs2049 : (List Value)) =>
                ifB (eqN k2048 0)
                  (.cast [(Ty.one B.bool)] vs2049 fun (r2050 : (Bool × Unit)) =>
                  ifB r2050.1
                    (.ret 1 [(Value.bool Bool.false)]) <|
                  .ret 0 [(Value.int IntKind.i64 (addI IntKind.i64 r2028.1 1))]) <|
                .fail) <|
              .ret 2 []) fun (k2051 : Nat) =>
          fun (vs2052 : (List Value)) =>
          ifB (eqN k2051 2)
            (.cast [] vs2052 fun (u2053 : Unit) =>
            .ret 0 [(Value.bool Bool.true)]) <|
          ifB (eqN k2051 1)
            (.cast [(Ty.one B.bool)] vs2052 fun (r2054 : (Bool × Unit)) =>
            .ret 0 [(Value.bool r2054.1)]) <|
          .fail) <|
        .fail) <|
      .fail) <|
    .fail) <|
  .fail
def F_node_Run_count (S : Ids) (n : (Option Addr)) : Prog :=
  ifB (noneB n)
    (.ret 0 [(Value.int IntKind.i64 0)]) <|
  grd (someB n) <|
  grd (someB n) <|
  .load (Ty.one (B.int IntKind.i64)) (shiftTo n 4) fun (n1 : Int) =>
  .ret 0 [(Value.int IntKind.i64 n1)]
def F_node_Run_tall (S : Ids) (n : (Option Addr)) : Prog :=
  ifB (noneB n)
    (.ret 0 [(Value.int IntKind.i64 0)]) <|
  grd (someB n) <|
  grd (someB n) <|
  .load (Ty.one (B.int IntKind.i64)) (shiftTo n 5) fun (n1 : Int) =>
  .ret 0 [(Value.int IntKind.i64 n1)]
def F_tree_of_Run (S : Ids) (l : (Option Addr)) (x : (Int × Int × Unit)) (r : (Option Addr)) : Prog :=
  .alloc [(Value.int IntKind.i64 x.1), (Value.int IntKind.i64 x.2.1)] fun (a1 : Addr) =>
  .load (Ty.agg [(B.int IntKind.i64), (B.int IntKind.i64)]) (Option.some a1) fun (r2 : (Int × (Int × Unit))) =>
  .call (F_node_Run_count S l) [(Ty.one (B.int IntKind.i64))] fun (r3 : (Int × Unit)) =>
  .check (Option.some a1) [(Value.int IntKind.i64 r2.1), (Value.int IntKind.i64 r2.2.1)] <|
  .call (F_node_Run_count S r) [(Ty.one (B.int IntKind.i64))] fun (r4 : (Int × Unit)) =>
  .check (Option.some a1) [(Value.int IntKind.i64 r2.1), (Value.int IntKind.i64 r2.2.1)] <|
  .call (F_node_Run_tall S l) [(Ty.one (B.int IntKind.i64))] fun (r5 : (Int × Unit)) =>
  .check (Option.some a1) [(Value.int IntKind.i64 r2.1), (Value.int IntKind.i64 r2.2.1)] <|
  .call (F_node_Run_tall S r) [(Ty.one (B.int IntKind.i64))] fun (r6 : (Int × Unit)) =>
  .check (Option.some a1) [(Value.int IntKind.i64 r2.1), (Value.int IntKind.i64 r2.2.1)] <|
  .alloc [(Value.pointer l), (Value.pointer r), (Value.int IntKind.i64 r2.1), (Value.int IntKind.i64 r2.2.1), (Value.int IntKind.i64 (addI IntKind.i64 (addI IntKind.i64 r3.1 1) r4.1)), (Value.int IntKind.i64 (addI IntKind.i64 (maxI r5.1 r6.1) 1)), (Value.int IntKind.i64 0), (Value.int IntKind.i64 0), (Value.int IntKind.i64 0), (Value.int IntKind.i64 0)] fun (a7 : Addr) =>
  .load (Ty.agg [(B.int IntKind.i64), (B.int IntKind.i64)]) (Option.some a1) fun (r8 : (Int × (Int × Unit))) =>
  .call (F_Run_Measure S (r8.1, (r8.2.1, ()))) [(Ty.agg [(B.int IntKind.i64), (B.int IntKind.i64), (B.int IntKind.i64), (B.int IntKind.i64)])] fun (r9 : ((Int × (Int × (Int × (Int × Unit)))) × Unit)) =>
  .store (shiftTo (Option.some a7) 6) [(Value.int IntKind.i64 r9.1.1), (Value.int IntKind.i64 r9.1.2.1), (Value.int IntKind.i64 r9.1.2.2.1), (Value.int IntKind.i64 r9.1.2.2.2.1)] <|
  .bind
    (ifB (notB (noneB l))
      (grd (someB l) <|
      grd (someB l) <|
      .load (Ty.agg [(B.int IntKind.i64), (B.int IntKind.i64), (B.int IntKind.i64), (B.int IntKind.i64)]) (shiftTo l 6) fun (r28 : (Int × (Int × (Int × (Int × Unit))))) =>
      .load (Ty.agg [(B.int IntKind.i64), (B.int IntKind.i64), (B.int IntKind.i64), (B.int IntKind.i64)]) (shiftTo (Option.some a7) 6) fun (r29 : (Int × (Int × (Int × (Int × Unit))))) =>
      .call (F_Runs_Add S (r28.1, (r28.2.1, (r28.2.2.1, (r28.2.2.2.1, ())))) (r29.1, (r29.2.1, (r29.2.2.1, (r29.2.2.2.1, ()))))) [(Ty.agg [(B.int IntKind.i64), (B.int IntKind.i64), (B.int IntKind.i64), (B.int IntKind.i64)])] fun (r30 : ((Int × (Int × (Int × (Int × Unit)))) × Unit)) =>
      .store (shiftTo (Option.some a7) 6) [(Value.int IntKind.i64 r30.1.1), (Value.int IntKind.i64 r30.1.2.1), (Value.int IntKind.i64 r30.1.2.2.1), (Value.int IntKind.i64 r30.1.2.2.2.1)] <|
      .ret 0 []) <|
    .ret 0 []) fun (k31 : Nat) =>
  fun (vs32 : (List Value)) =>
  ifB (eqN k31 0)
    (.cast [] vs32 fun (u33 : Unit) =>
    .bind
      (ifB (notB (noneB r))
        (.load (Ty.agg [(B.int IntKind.i64), (B.int IntKind.i64), (B.int IntKind.i64), (B.int IntKind.i64)]) (shiftTo (Option.some a7) 6) fun (r40 : (Int × (Int × (Int × (Int × Unit))))) =>
        grd (someB r) <|
        grd (someB r) <|
        .load (Ty.agg [(B.int IntKind.i64), (B.int IntKind.i64), (B.int IntKind.i64), (B.int IntKind.i64)]) (shiftTo r 6) fun (r41 : (Int × (Int × (Int × (Int × Unit))))) =>
        .call (F_Runs_Add S (r40.1, (r40.2.1, (r40.2.2.1, (r40.2.2.2.1, ())))) (r41.1, (r41.2.1, (r41.2.2.1, (r41.2.2.2.1, ()))))) [(Ty.agg [(B.int IntKind.i64), (B.int IntKind.i64), (B.int IntKind.i64), (B.int IntKind.i64)])] fun (r42 : ((Int × (Int × (Int × (Int × Unit)))) × Unit)) =>
        .store (shiftTo (Option.some a7) 6) [(Value.int IntKind.i64 r42.1.1), (Value.int IntKind.i64 r42.1.2.1), (Value.int IntKind.i64 r42.1.2.2.1), (Value.int IntKind.i64 r42.1.2.2.2.1)] <|
        .ret 0 []) <|
      .ret 0 []) fun (k43 : Nat) =>
    fun (vs44 : (List Value)) =>
    ifB (eqN k43 0)
      (.cast [] vs44 fun (u45 : Unit) =>
      .ret 0 [(Value.pointer (Option.some a7))]) <|
    .fail) <|
  .fail
def R_tree_build_Run (fuelN : Nat) (S : Ids) (items : Sl) : Prog :=
  match fuelN with
  | 0 => .fail
  | fuelN + 1 =>
  ifB (eqI (natI items.len) 0)
    (.ret 0 [(Value.pointer Option.none)]) <|
  grd (notB Bool.false) <|
  grd (leB (quoI IntKind.i64 (natI items.len) 2) items.cap) <|
  grd (andB (someB items.base) (inB (quoI IntKind.i64 (natI items.len) 2) items.len)) <|
  .load (Ty.agg [(B.int IntKind.i64), (B.int IntKind.i64)]) (shiftTo items.base (mulN (toN (quoI IntKind.i64 (natI items.len) 2)) 2)) fun (r1 : (Int × (Int × Unit))) =>
  grd (leB (addI IntKind.i64 (quoI IntKind.i64 (natI items.len) 2) 1) items.len) <|
  .call (R_tree_build_Run fuelN S (⟨(cutBase items.base items.cap 0 2), (subN (toN (quoI IntKind.i64 (natI items.len) 2)) 0), (subN items.cap 0)⟩)) [(Ty.one B.ptr)] fun (r2 : ((Option Addr) × Unit)) =>
  .check (shiftTo items.base (mulN (toN (quoI IntKind.i64 (natI items.len) 2)) 2)) [(Value.int IntKind.i64 r1.1), (Value.int IntKind.i64 r1.2.1)] <|
  .call (R_tree_build_Run fuelN S (⟨(cutBase items.base items.cap (toN (addI IntKind.i64 (quoI IntKind.i64 (natI items.len) 2) 1)) 2), (subN items.len (toN (addI IntKind.i64 (quoI IntKind.i64 (natI items.len) 2) 1))), (subN items.cap (toN (addI IntKind.i64 (quoI IntKind.i64 (natI items.len) 2) 1)))⟩)) [(Ty.one B.ptr)] fun (r3 : ((Option Addr) × Unit)) =>
  .check (shiftTo items.base (mulN (toN (quoI IntKind.i64 (natI items.len) 2)) 2)) [(Value.int IntKind.i64 r1.1), (Value.int IntKind.i64 r1.2.1)] <|
  .call (F_tree_of_Run S r2.1 (r1.1, (r1.2.1, ())) r3.1) [(Ty.one B.ptr)] fun (r4 : ((Option Addr) × Unit)) =>
  .ret 0 [(Value.pointer r4.1)]
def F_tree_build_Run (S : Ids) (items : Sl) : Prog := .ex fun fuelN => R_tree_build_Run fuelN S items
def F_tree_Of_Run (S : Ids) (items : Sl) : Prog :=
  .alloc [(Value.pointer Option.none)] fun (a1 : Addr) =>
  .call (F_tree_build_Run S items) [(Ty.one B.ptr)] fun (r2 : ((Option Addr) × Unit)) =>
  .store (Option.some a1) [(Value.pointer r2.1)] <|
  .load (Ty.agg [B.ptr]) (Option.some a1) fun (r3 : ((Option Addr) × Unit)) =>
  .ret 0 [(Value.agg (#[(Value.pointer r3.1)]))]
def F_Tree_Run_Sum (S : Ids) (t : ((Option Addr) × Unit)) : Prog :=
  .alloc [(Value.pointer t.1)] fun (a1 : Addr) =>
  .alloc [(Value.int IntKind.i64 0), (Value.int IntKind.i64 0), (Value.int IntKind.i64 0), (Value.int IntKind.i64 0)] fun (a2 : Addr) =>
  .load (Ty.one B.ptr) (shiftTo (Option.some a1) 0) fun (p3 : (Option Addr)) =>
  ifB (noneB p3)
    (.alloc [(Value.int IntKind.i64 0), (Value.int IntKind.i64 0), (Value.int IntKind.i64 0), (Value.int IntKind.i64 0)] fun (a4 : Addr) =>
    .load (Ty.agg [(B.int IntKind.i64), (B.int IntKind.i64), (B.int IntKind.i64), (B.int IntKind.i64)]) (Option.some a4) fun (r5 : (Int × (Int × (Int × (Int × Unit))))) =>
    .store (Option.some a2) [(Value.int IntKind.i64 r5.1), (Value.int IntKind.i64 r5.2.1), (Value.int IntKind.i64 r5.2.2.1), (Value.int IntKind.i64 r5.2.2.2.1)] <|
    .load (Ty.agg [(B.int IntKind.i64), (B.int IntKind.i64), (B.int IntKind.i64), (B.int IntKind.i64)]) (Option.some a2) fun (r6 : (Int × (Int × (Int × (Int × Unit))))) =>
    .ret 0 [(Value.agg (#[(Value.int IntKind.i64 r6.1), (Value.int IntKind.i64 r6.2.1), (Value.int IntKind.i64 r6.2.2.1), (Value.int IntKind.i64 r6.2.2.2.1)]))]) <|
  .load (Ty.one B.ptr) (shiftTo (Option.some a1) 0) fun (p7 : (Option Addr)) =>
  grd (someB p7) <|
  grd (someB p7) <|
  .load (Ty.agg [(B.int IntKind.i64), (B.int IntKind.i64), (B.int IntKind.i64), (B.int IntKind.i64)]) (shiftTo p7 6) fun (r8 : (Int × (Int × (Int × (Int × Unit))))) =>
  .store (Option.some a2) [(Value.int IntKind.i64 r8.1), (Value.int IntKind.i64 r8.2.1), (Value.int IntKind.i64 r8.2.2.1), (Value.int IntKind.i64 r8.2.2.2.1)] <|
  .load (Ty.agg [(B.int IntKind.i64), (B.int IntKind.i64), (B.int IntKind.i64), (B.int IntKind.i64)]) (Option.some a2) fun (r9 : (Int × (Int × (Int × (Int × Unit))))) =>
  .ret 0 [(Value.agg (#[(Value.int IntKind.i64 r9.1), (Value.int IntKind.i64 r9.2.1), (Value.int IntKind.i64 r9.2.2.1), (Value.int IntKind.i64 r9.2.2.2.1)]))]
def F_Tree_Run_Size (S : Ids) (t : ((Option Addr) × Unit)) : Prog :=
  .alloc [(Value.pointer t.1)] fun (a1 : Addr) =>
  .load (Ty.one B.ptr) (shiftTo (Option.some a1) 0) fun (p2 : (Option Addr)) =>
  .call (F_node_Run_count S p2) [(Ty.one (B.int IntKind.i64))] fun (r3 : (Int × Unit)) =>
  .ret 0 [(Value.int IntKind.i64 r3.1)]
def F_Tree_Run_Find (S : Ids) (t : ((Option Addr) × Unit)) (k : Int) (n : Int) : Prog :=
  .alloc [(Value.pointer t.1)] fun (a1 : Addr) =>
  ifB (leI n 0)
    (.ret 0 [(Value.int IntKind.i64 0)]) <|
  .alloc [(Value.int IntKind.i64 0), (Value.int IntKind.i64 0), (Value.int IntKind.i64 0), (Value.int IntKind.i64 0)] fun (a2 : Addr) =>
  .load (Ty.one B.ptr) (shiftTo (Option.some a1) 0) fun (p3 : (Option Addr)) =>
  .bind
    (.loop [(Ty.one (B.int IntKind.i64)), (Ty.one B.ptr)] ((0 : Int), (p3, ())) fun (r137 : (Int × ((Option Addr) × Unit))) =>
      ifB (notB (noneB r137.2.1))
        (.load (Ty.agg [(B.int IntKind.i64), (B.int IntKind.i64), (B.int IntKind.i64), (B.int IntKind.i64)]) (Option.some a2) fun (r138 : (Int × (Int × (Int × (Int × Unit))))) =>
        .alloc [(Value.int IntKind.i64 0), (Value.int IntKind.i64 0), (Value.int IntKind.i64 0), (Value.int IntKind.i64 0)] fun (a139 : Addr) =>
        .store (Option.some a139) [(Value.int IntKind.i64 r138.1), (Value.int IntKind.i64 r138.2.1), (Value.int IntKind.i64 r138.2.2.1), (Value.int IntKind.i64 r138.2.2.2.1)] <|
        .bind
          (grd (someB r137.2.1) <|
          grd (someB r137.2.1) <|
          .load (Ty.one B.ptr) (shiftTo r137.2.1 0) fun (p160 : (Option Addr)) =>
          ifB (notB (noneB p160))
            (.load (Ty.agg [(B.int IntKind.i64), (B.int IntKind.i64), (B.int IntKind.i64), (B.int IntKind.i64)]) (Option.some a2) fun (r161 : (Int × (Int × (Int × (Int × Unit))))) =>
            grd (someB r137.2.1) <|
            grd (someB r137.2.1) <|
            .load (Ty.one B.ptr) (shiftTo r137.2.1 0) fun (p162 : (Option Addr)) =>
            grd (someB p162) <|
            grd (someB p162) <|
            .load (Ty.agg [(B.int IntKind.i64), (B.int IntKind.i64), (B.int IntKind.i64), (B.int IntKind.i64)]) (shiftTo p162 6) fun (r163 : (Int × (Int × (Int × (Int × Unit))))) =>
            .call (F_Runs_Add S (r161.1, (r161.2.1, (r161.2.2.1, (r161.2.2.2.1, ())))) (r163.1, (r163.2.1, (r163.2.2.1, (r163.2.2.2.1, ()))))) [(Ty.agg [(B.int IntKind.i64), (B.int IntKind.i64), (B.int IntKind.i64), (B.int IntKind.i64)])] fun (r164 : ((Int × (Int × (Int × (Int × Unit)))) × Unit)) =>
            .store (Option.some a139) [(Value.int IntKind.i64 r164.1.1), (Value.int IntKind.i64 r164.1.2.1), (Value.int IntKind.i64 r164.1.2.2.1), (Value.int IntKind.i64 r164.1.2.2.2.1)] <|
            .ret 0 []) <|
          .ret 0 []) fun (k165 : Nat) =>
        fun (vs166 : (List Value)) =>
        ifB (eqN k165 0)
          (.cast [] vs166 fun (u167 : Unit) =>
          .load (Ty.agg [(B.int IntKind.i64), (B.int IntKind.i64), (B.int IntKind.i64), (B.int IntKind.i64)]) (Option.some a139) fun (r168 : (Int × (Int × (Int × (Int × Unit))))) =>
          .call (F_Runs_Key S (r168.1, (r168.2.1, (r168.2.2.1, (r168.2.2.2.1, ())))) k) [(Ty.one (B.int IntKind.i64))] fun (r169 : (Int × Unit)) =>
          ifB (geI r169.1 n)
            (grd (someB r137.2.1) <|
            grd (someB r137.2.1) <|
            .load (Ty.one B.ptr) (shiftTo r137.2.1 0) fun (p170 : (Option Addr)) =>
            .ret 0 [(Value.int IntKind.i64 r137.1), (Value.pointer p170)]) <|
          grd (someB r137.2.1) <|
          grd (someB r137.2.1) <|
          .load (Ty.one B.ptr) (shiftTo r137.2.1 0) fun (p171 : (Option Addr)) =>
          .call (F_node_Run_count S p171) [(Ty.one (B.int IntKind.i64))] fun (r172 : (Int × Unit)) =>
          .load (Ty.agg [(B.int IntKind.i64), (B.int IntKind.i64), (B.int IntKind.i64), (B.int IntKind.i64)]) (Option.some a139) fun (r173 : (Int × (Int × (Int × (Int × Unit))))) =>
          grd (someB r137.2.1) <|
          grd (someB r137.2.1) <|
          .load (Ty.agg [(B.int IntKind.i64), (B.int IntKind.i64)]) (shiftTo r137.2.1 2) fun (r174 : (Int × (Int × Unit))) =>
          .call (F_Run_Measure S (r174.1, (r174.2.1, ()))) [(Ty.agg [(B.int IntKind.i64), (B.int IntKind.i64), (B.int IntKind.i64), (B.int IntKind.i64)])] fun (r175 : ((Int × (Int × (Int × (Int × Unit)))) × Unit)) =>
          .check (Option.some a139) [(Value.int IntKind.i64 r173.1), (Value.int IntKind.i64 r173.2.1), (Value.int IntKind.i64 r173.2.2.1), (Value.int IntKind.i64 r173.2.2.2.1)] <|
          .call (F_Runs_Add S (r173.1, (r173.2.1, (r173.2.2.1, (r173.2.2.2.1, ())))) (r175.1.1, (r175.1.2.1, (r175.1.2.2.1, (r175.1.2.2.2.1, ()))))) [(Ty.agg [(B.int IntKind.i64), (B.int IntKind.i64), (B.int IntKind.i64), (B.int IntKind.i64)])] fun (r176 : ((Int × (Int × (Int × (Int × Unit)))) × Unit)) =>
          .store (Option.some a2) [(Value.int IntKind.i64 r176.1.1), (Value.int IntKind.i64 r176.1.2.1), (Value.int IntKind.i64 r176.1.2.2.1), (Value.int IntKind.i64 r176.1.2.2.2.1)] <|
          .load (Ty.agg [(B.int IntKind.i64), (B.int IntKind.i64), (B.int IntKind.i64), (B.int IntKind.i64)]) (Option.some a2) fun (r177 : (Int × (Int × (Int × (Int × Unit))))) =>
          .call (F_Runs_Key S (r177.1, (r177.2.1, (r177.2.2.1, (r177.2.2.2.1, ())))) k) [(Ty.one (B.int IntKind.i64))] fun (r178 : (Int × Unit)) =>
          ifB (geI r178.1 n)
            (.ret 1 [(Value.int IntKind.i64 (addI IntKind.i64 r137.1 (addI IntKind.i64 r172.1 1)))]) <|
          grd (someB r137.2.1) <|
          grd (someB r137.2.1) <|
          .load (Ty.one B.ptr) (shiftTo r137.2.1 1) fun (p179 : (Option Addr)) =>
          .ret 0 [(Value.int IntKind.i64 (addI IntKind.i64 r137.1 (addI IntKind.i64 r172.1 1))), (Value.pointer p179)]) <|
        .fail) <|
      .ret 2 [(Value.int IntKind.i64 r137.1)]) fun (k180 : Nat) =>
  fun (vs181 : (List Value)) =>
  ifB (eqN k180 2)
    (.cast [(Ty.one (B.int IntKind.i64))] vs181 fun (r182 : (Int × Unit)) =>
    .ret 0 [(Value.int IntKind.i64 (addI IntKind.i64 r182.1 1))]) <|
  ifB (eqN k180 1)
    (.cast [(Ty.one (B.int IntKind.i64))] vs181 fun (r183 : (Int × Unit)) =>
    .ret 0 [(Value.int IntKind.i64 r183.1)]) <|
  .fail
def F_Tree_Run_Upto (S : Ids) (t : ((Option Addr) × Unit)) (i : Int) : Prog :=
  .alloc [(Value.pointer t.1)] fun (a1 : Addr) =>
  .alloc [(Value.int IntKind.i64 0), (Value.int IntKind.i64 0), (Value.int IntKind.i64 0), (Value.int IntKind.i64 0)] fun (a2 : Addr) =>
  .alloc [(Value.int IntKind.i64 0), (Value.int IntKind.i64 0), (Value.int IntKind.i64 0), (Value.int IntKind.i64 0)] fun (a3 : Addr) =>
  .load (Ty.agg [B.ptr]) (Option.some a1) fun (r4 : ((Option Addr) × Unit)) =>
  .call (F_Tree_Run_Size S (r4.1, ())) [(Ty.one (B.int IntKind.i64))] fun (r5 : (Int × Unit)) =>
  .load (Ty.one B.ptr) (shiftTo (Option.some a1) 0) fun (p6 : (Option Addr)) =>
  .bind
    (.loop [(Ty.one (B.int IntKind.i64)), (Ty.one B.ptr)] ((minI i r5.1), (p6, ())) fun (r207 : (Int × ((Option Addr) × Unit))) =>
      .bind
        (ifB (notB (noneB r207.2.1))
          (.ret 0 [(Value.bool (gtI r207.1 0))]) <|
        .ret 0 [(Value.bool Bool.false)]) fun (k240 : Nat) =>
      fun (vs241 : (List Value)) =>
      ifB (eqN k240 0)
        (.cast [(Ty.one B.bool)] vs241 fun (r242 : (Bool × Unit)) =>
        ifB r242.1
          (grd (someB r207.2.1) <|
          grd (someB r207.2.1) <|
          .load (Ty.one B.ptr) (shiftTo r207.2.1 0) fun (p243 : (Option Addr)) =>
          .call (F_node_Run_count S p243) [(Ty.one (B.int IntKind.i64))] fun (r244 : (Int × Unit)) =>
          ifB (leI r207.1 r244.1)
            (grd (someB r207.2.1) <|
            grd (someB r207.2.1) <|
            .load (Ty.one B.ptr) (shiftTo r207.2.1 0) fun (p245 : (Option Addr)) =>
            .ret 0 [(Value.int IntKind.i64 r207.1), (Value.pointer p245)]) <|
          .bind
            (grd (someB r207.2.1) <|
            grd (someB r207.2.1) <|
            .load (Ty.one B.ptr) (shiftTo r207.2.1 0) fun (p259 : (Option Addr)) =>
            ifB (notB (noneB p259))
              (.load (Ty.agg [(B.int IntKind.i64), (B.int IntKind.i64), (B.int IntKind.i64), (B.int IntKind.i64)]) (Option.some a3) fun (r260 : (Int × (Int × (Int × (Int × Unit))))) =>
              grd (someB r207.2.1) <|
              grd (someB r207.2.1) <|
              .load (Ty.one B.ptr) (shiftTo r207.2.1 0) fun (p261 : (Option Addr)) =>
              grd (someB p261) <|
              grd (someB p261) <|
              .load (Ty.agg [(B.int IntKind.i64), (B.int IntKind.i64), (B.int IntKind.i64), (B.int IntKind.i64)]) (shiftTo p261 6) fun (r262 : (Int × (Int × (Int × (Int × Unit))))) =>
              .call (F_Runs_Add S (r260.1, (r260.2.1, (r260.2.2.1, (r260.2.2.2.1, ())))) (r262.1, (r262.2.1, (r262.2.2.1, (r262.2.2.2.1, ()))))) [(Ty.agg [(B.int IntKind.i64), (B.int IntKind.i64), (B.int IntKind.i64), (B.int IntKind.i64)])] fun (r263 : ((Int × (Int × (Int × (Int × Unit)))) × Unit)) =>
              .store (Option.some a3) [(Value.int IntKind.i64 r263.1.1), (Value.int IntKind.i64 r263.1.2.1), (Value.int IntKind.i64 r263.1.2.2.1), (Value.int IntKind.i64 r263.1.2.2.2.1)] <|
              .ret 0 []) <|
            .ret 0 []) fun (k264 : Nat) =>
          fun (vs265 : (List Value)) =>
          ifB (eqN k264 0)
            (.cast [] vs265 fun (u266 : Unit) =>
            .load (Ty.agg [(B.int IntKind.i64), (B.int IntKind.i64), (B.int IntKind.i64), (B.int IntKind.i64)]) (Option.some a3) fun (r267 : (Int × (Int × (Int × (Int × Unit))))) =>
            grd (someB r207.2.1) <|
            grd (someB r207.2.1) <|
            .load (Ty.agg [(B.int IntKind.i64), (B.int IntKind.i64)]) (shiftTo r207.2.1 2) fun (r268 : (Int × (Int × Unit))) =>
            .call (F_Run_Measure S (r268.1, (r268.2.1, ()))) [(Ty.agg [(B.int IntKind.i64), (B.int IntKind.i64), (B.int IntKind.i64), (B.int IntKind.i64)])] fun (r269 : ((Int × (Int × (Int × (Int × Unit)))) × Unit)) =>
            .check (Option.some a3) [(Value.int IntKind.i64 r267.1), (Value.int IntKind.i64 r267.2.1), (Value.int IntKind.i64 r267.2.2.1), (Value.int IntKind.i64 r267.2.2.2.1)] <|
            .call (F_Runs_Add S (r267.1, (r267.2.1, (r267.2.2.1, (r267.2.2.2.1, ())))) (r269.1.1, (r269.1.2.1, (r269.1.2.2.1, (r269.1.2.2.2.1, ()))))) [(Ty.agg [(B.int IntKind.i64), (B.int IntKind.i64), (B.int IntKind.i64), (B.int IntKind.i64)])] fun (r270 : ((Int × (Int × (Int × (Int × Unit)))) × Unit)) =>
            .store (Option.some a3) [(Value.int IntKind.i64 r270.1.1), (Value.int IntKind.i64 r270.1.2.1), (Value.int IntKind.i64 r270.1.2.2.1), (Value.int IntKind.i64 r270.1.2.2.2.1)] <|
            grd (someB r207.2.1) <|
            grd (someB r207.2.1) <|
            .load (Ty.one B.ptr) (shiftTo r207.2.1 1) fun (p271 : (Option Addr)) =>
            .ret 0 [(Value.int IntKind.i64 (subI IntKind.i64 (subI IntKind.i64 r207.1 r244.1) 1)), (Value.pointer p271)]) <|
          .fail) <|
        .ret 2 []) <|
      .fail) fun (k272 : Nat) =>
  fun (vs273 : (List Value)) =>
  ifB (eqN k272 2)
    (.cast [] vs273 fun (u274 : Unit) =>
    .load (Ty.agg [(B.int IntKind.i64), (B.int IntKind.i64), (B.int IntKind.i64), (B.int IntKind.i64)]) (Option.some a3) fun (r275 : (Int × (Int × (Int × (Int × Unit))))) =>
    .store (Option.some a2) [(Value.int IntKind.i64 r275.1), (Value.int IntKind.i64 r275.2.1), (Value.int IntKind.i64 r275.2.2.1), (Value.int IntKind.i64 r275.2.2.2.1)] <|
    .load (Ty.agg [(B.int IntKind.i64), (B.int IntKind.i64), (B.int IntKind.i64), (B.int IntKind.i64)]) (Option.some a2) fun (r276 : (Int × (Int × (Int × (Int × Unit))))) =>
    .ret 0 [(Value.agg (#[(Value.int IntKind.i64 r276.1), (Value.int IntKind.i64 r276.2.1), (Value.int IntKind.i64 r276.2.2.1), (Value.int IntKind.i64 r276.2.2.2.1)]))]) <|
  .fail
def F_law4_TreeFinds (S : Ids) (l : Sl) (k : Int) (n : Int) : Prog :=
  ifB (gtI (natI l.len) 1099511627776)
    (.ret 0 [(Value.bool Bool.true)]) <|
  .alloc [(Value.int IntKind.i64 1), (Value.int IntKind.i64 1)] fun (a1 : Addr) =>
  .append 2 16 [(Value.int IntKind.i64 0), (Value.int IntKind.i64 0)] (⟨(Option.some a1), 1, 1⟩) l fun (l2 : Sl) =>
  .call (F_tree_Of_Run S l2) [(Ty.agg [B.ptr])] fun (r3 : (((Option Addr) × Unit) × Unit)) =>
  .alloc [(Value.pointer Option.none)] fun (a4 : Addr) =>
  .store (Option.some a4) [(Value.pointer r3.1.1)] <|
  .load (Ty.agg [B.ptr]) (Option.some a4) fun (r5 : ((Option Addr) × Unit)) =>
  .call (F_Tree_Run_Sum S (r5.1, ())) [(Ty.agg [(B.int IntKind.i64), (B.int IntKind.i64), (B.int IntKind.i64), (B.int IntKind.i64)])] fun (r6 : ((Int × (Int × (Int × (Int × Unit)))) × Unit)) =>
  .alloc [(Value.int IntKind.i64 0), (Value.int IntKind.i64 0), (Value.int IntKind.i64 0), (Value.int IntKind.i64 0)] fun (a7 : Addr) =>
  .store (Option.some a7) [(Value.int IntKind.i64 r6.1.1), (Value.int IntKind.i64 r6.1.2.1), (Value.int IntKind.i64 r6.1.2.2.1), (Value.int IntKind.i64 r6.1.2.2.2.1)] <|
  .bind
    (.load (Ty.agg [B.ptr]) (Option.some a4) fun (r131 : ((Option Addr) × Unit)) =>
    .call (F_Tree_Run_Size S (r131.1, ())) [(Ty.one (B.int IntKind.i64))] fun (r132 : (Int × Unit)) =>
    ifB (neI r132.1 (natI l2.len))
      (.ret 0 [(Value.bool Bool.true)]) <|
    .load (Ty.agg [(B.int IntKind.i64), (B.int IntKind.i64), (B.int IntKind.i64), (B.int IntKind.i64)]) (Option.some a7) fun (r133 : (Int × (Int × (Int × (Int × Unit))))) =>
    .call (F_Runs_Key S (r133.1, (r133.2.1, (r133.2.2.1, (r133.2.2.2.1, ())))) (Int.ofNat 0)) [(Ty.one (B.int IntKind.i64))] fun (r134 : (Int × Unit)) =>
    .ret 0 [(Value.bool (ltI r134.1 1))]) fun (k135 : Nat) =>
  fun (vs136 : (List Value)) =>
  ifB (eqN k135 0)
    (.cast [(Ty.one B.bool)] vs136 fun (r137 : (Bool × Unit)) =>
    ifB r137.1
      (.ret 0 [(Value.bool Bool.false)]) <|
    .load (Ty.agg [B.ptr]) (Option.some a4) fun (r138 : ((Option Addr) × Unit)) =>
    .call (F_Tree_Run_Find S (r138.1, ()) k n) [(Ty.one (B.int IntKind.i64))] fun (r139 : (Int × Unit)) =>
    .bind
      (ifB (ltI r139.1 0)
        (.ret 0 [(Value.bool Bool.true)]) <|
      .ret 0 [(Value.bool (gtI r139.1 (addI IntKind.i64 (natI l2.len) 1)))]) fun (k197 : Nat) =>
    fun (vs198 : (List Value)) =>
    ifB (eqN k197 0)
      (.cast [(Ty.one B.bool)] vs198 fun (r199 : (Bool × Unit)) =>
      ifB r199.1
        (.ret 0 [(Value.bool Bool.false)]) <|
      .bind
        (ifB (leI r139.1 (natI l2.len))
          (.load (Ty.agg [B.ptr]) (Option.some a4) fun (r227 : ((Option Addr) × Unit)) =>
          .call (F_Tree_Run_Upto S (r227.1, ()) r139.1) [(Ty.agg [(B.int IntKind.i64), (B.int IntKind.i64), (B.int IntKind.i64), (B.int IntKind.i64)])] fun (r228 : ((Int × (Int × (Int × (Int × Unit)))) × Unit)) =>
          .alloc [(Value.int IntKind.i64 0), (Value.int IntKind.i64 0), (Value.int IntKind.i64 0), (Value.int IntKind.i64 0)] fun (a229 : Addr) =>
          .store (Option.some a229) [(Value.int IntKind.i64 r228.1.1), (Value.int IntKind.i64 r228.1.2.1), (Value.int IntKind.i64 r228.1.2.2.1), (Value.int IntKind.i64 r228.1.2.2.2.1)] <|
          .load (Ty.agg [(B.int IntKind.i64), (B.int IntKind.i64), (B.int IntKind.i64), (B.int IntKind.i64)]) (Option.some a229) fun (r230 : (Int × (Int × (Int × (Int × Unit))))) =>
          .call (F_Runs_Key S (r230.1, (r230.2.1, (r230.2.2.1, (r230.2.2.2.1, ())))) k) [(Ty.one (B.int IntKind.i64))] fun (r231 : (Int × Unit)) =>
          ifB (ltI r231.1 n)
            (.ret 1 [(Value.bool Bool.false)]) <|
          .ret 0 []) <|
        .ret 0 []) fun (k232 : Nat) =>
      fun (vs233 : (List Value)) =>
      ifB (eqN k232 1)
        (.cast [(Ty.one B.bool)] vs233 fun (r234 : (Bool × Unit)) =>
        .ret 0 [(Value.bool r234.1)]) <|
      ifB (eqN k232 0)
        (.cast [] vs233 fun (u235 : Unit) =>
        .bind
          (ifB (gtI r139.1 0)
            (.load (Ty.agg [B.ptr]) (Option.some a4) fun (r245 : ((Option Addr) × Unit)) =>
            .call (F_Tree_Run_Upto S (r245.1, ()) (subI IntKind.i64 r139.1 1)) [(Ty.agg [(B.int IntKind.i64), (B.int IntKind.i64), (B.int IntKind.i64), (B.int IntKind.i64)])] fun (r246 : ((Int × (Int × (Int × (Int × Unit)))) × Unit)) =>
            .alloc [(Value.int IntKind.i64 0), (Value.int IntKind.i64 0), (Value.int IntKind.i64 0), (Value.int IntKind.i64 0)] fun (a247 : Addr) =>
            .store (Option.some a247) [(Value.int IntKind.i64 r246.1.1), (Value.int IntKind.i64 r246.1.2.1), (Value.int IntKind.i64 r246.1.2.2.1), (Value.int IntKind.i64 r246.1.2.2.2.1)] <|
            .load (Ty.agg [(B.int IntKind.i64), (B.int IntKind.i64), (B.int IntKind.i64), (B.int IntKind.i64)]) (Option.some a247) fun (r248 : (Int × (Int × (Int × (Int × Unit))))) =>
            .call (F_Runs_Key S (r248.1, (r248.2.1, (r248.2.2.1, (r248.2.2.2.1, ())))) k) [(Ty.one (B.int IntKind.i64))] fun (r249 : (Int × Unit)) =>
            ifB (geI r249.1 n)
              (.ret 1 [(Value.bool Bool.false)]) <|
            .ret 0 []) <|
          .ret 0 []) fun (k250 : Nat) =>
        fun (vs251 : (List Value)) =>
        ifB (eqN k250 1)
          (.cast [(Ty.one B.bool)] vs251 fun (r252 : (Bool × Unit)) =>
          .ret 0 [(Value.bool r252.1)]) <|
        ifB (eqN k250 0)
          (.cast [] vs251 fun (u253 : Unit) =>
          .ret 0 [(Value.bool Bool.true)]) <|
        .fail) <|
      .fail) <|
    .fail) <|
  .fail
def F_law4_slot (S : Ids) (i : Int) (n : Int) : Prog :=
  grd (notB (eqI (addI IntKind.i64 n 1) 0)) <|
  .bind
    (ifB (ltI (remI IntKind.i64 i (addI IntKind.i64 n 1)) 0)
      (.ret 0 [(Value.int IntKind.i64 (addI IntKind.i64 (addI IntKind.i64 (remI IntKind.i64 i (addI IntKind.i64 n 1)) n) 1))]) <|
    .ret 0 [(Value.int IntKind.i64 (remI IntKind.i64 i (addI IntKind.i64 n 1)))]) fun (k4 : Nat) =>
  fun (vs5 : (List Value)) =>
  ifB (eqN k4 0)
    (.cast [(Ty.one (B.int IntKind.i64))] vs5 fun (r6 : (Int × Unit)) =>
    .ret 0 [(Value.int IntKind.i64 r6.1)]) <|
  .fail
def F_tree_even_Run (S : Ids) (l : (Option Addr)) (x : (Int × Int × Unit)) (r : (Option Addr)) : Prog :=
  .alloc [(Value.int IntKind.i64 x.1), (Value.int IntKind.i64 x.2.1)] fun (a1 : Addr) =>
  .call (F_node_Run_tall S l) [(Ty.one (B.int IntKind.i64))] fun (r2 : (Int × Unit)) =>
  .call (F_node_Run_tall S r) [(Ty.one (B.int IntKind.i64))] fun (r3 : (Int × Unit)) =>
  ifB (gtI r2.1 (addI IntKind.i64 r3.1 1))
    (grd (someB l) <|
    grd (someB l) <|
    .load (Ty.one B.ptr) (shiftTo l 0) fun (p4 : (Option Addr)) =>
    grd (someB l) <|
    grd (someB l) <|
    .load (Ty.one B.ptr) (shiftTo l 1) fun (p5 : (Option Addr)) =>
    .call (F_node_Run_tall S p4) [(Ty.one (B.int IntKind.i64))] fun (r6 : (Int × Unit)) =>
    .check (shiftTo l 1) [(Value.pointer p5)] <|
    .call (F_node_Run_tall S p5) [(Ty.one (B.int IntKind.i64))] fun (r7 : (Int × Unit)) =>
    ifB (geI r6.1 r7.1)
      (grd (someB l) <|
      grd (someB l) <|
      .load (Ty.one B.ptr) (shiftTo l 0) fun (p8 : (Option Addr)) =>
      grd (someB l) <|
      grd (someB l) <|
      .load (Ty.agg [(B.int IntKind.i64), (B.int IntKind.i64)]) (shiftTo l 2) fun (r9 : (Int × (Int × Unit))) =>
      grd (someB l) <|
      grd (someB l) <|
      .load (Ty.one B.ptr) (shiftTo l 1) fun (p10 : (Option Addr)) =>
      .load (Ty.agg [(B.int IntKind.i64), (B.int IntKind.i64)]) (Option.some a1) fun (r11 : (Int × (Int × Unit))) =>
      .call (F_tree_of_Run S p10 (r11.1, (r11.2.1, ())) r) [(Ty.one B.ptr)] fun (r12 : ((Option Addr) × Unit)) =>
      .check (shiftTo l 2) [(Value.int IntKind.i64 r9.1), (Value.int IntKind.i64 r9.2.1)] <|
      .check (shiftTo l 0) [(Value.pointer p8)] <|
      .call (F_tree_of_Run S p8 (r9.1, (r9.2.1, ())) r12.1) [(Ty.one B.ptr)] fun (r13 : ((Option Addr) × Unit)) =>
      .ret 0 [(Value.pointer r13.1)]) <|
    grd (someB l) <|
    grd (someB l) <|
    .load (Ty.one B.ptr) (shiftTo l 1) fun (p14 : (Option Addr)) =>
    grd (someB l) <|
    grd (someB l) <|
    .load (Ty.one B.ptr) (shiftTo l 0) fun (p15 : (Option Addr)) =>
    grd (someB l) <|
    grd (someB l) <|
    .load (Ty.agg [(B.int IntKind.i64), (B.int IntKind.i64)]) (shiftTo l 2) fun (r16 : (Int × (Int × Unit))) =>
    grd (someB p14) <|
    grd (someB p14) <|
    .load (Ty.one B.ptr) (shiftTo p14 0) fun (p17 : (Option Addr)) =>
    grd (someB p14) <|
    grd (someB p14) <|
    .load (Ty.agg [(B.int IntKind.i64), (B.int IntKind.i64)]) (shiftTo p14 2) fun (r18 : (Int × (Int × Unit))) =>
    grd (someB p14) <|
    grd (someB p14) <|
    .load (Ty.one B.ptr) (shiftTo p14 1) fun (p19 : (Option Addr)) =>
    .load (Ty.agg [(B.int IntKind.i64), (B.int IntKind.i64)]) (Option.some a1) fun (r20 : (Int × (Int × Unit))) =>
    .call (F_tree_of_Run S p15 (r16.1, (r16.2.1, ())) p17) [(Ty.one B.ptr)] fun (r21 : ((Option Addr) × Unit)) =>
    .check (Option.some a1) [(Value.int IntKind.i64 r20.1), (Value.int IntKind.i64 r20.2.1)] <|
    .check (shiftTo p14 1) [(Value.pointer p19)] <|
    .check (shiftTo p14 2) [(Value.int IntKind.i64 r18.1), (Value.int IntKind.i64 r18.2.1)] <|
    .call (F_tree_of_Run S p19 (r20.1, (r20.2.1, ())) r) [(Ty.one B.ptr)] fun (r22 : ((Option Addr) × Unit)) =>
    .check (shiftTo p14 2) [(Value.int IntKind.i64 r18.1), (Value.int IntKind.i64 r18.2.1)] <|
    .call (F_tree_of_Run S r21.1 (r18.1, (r18.2.1, ())) r22.1) [(Ty.one B.ptr)] fun (r23 : ((Option Addr) × Unit)) =>
    .ret 0 [(Value.pointer r23.1)]) <|
  .call (F_node_Run_tall S r) [(Ty.one (B.int IntKind.i64))] fun (r24 : (Int × Unit)) =>
  .call (F_node_Run_tall S l) [(Ty.one (B.int IntKind.i64))] fun (r25 : (Int × Unit)) =>
  ifB (gtI r24.1 (addI IntKind.i64 r25.1 1))
    (grd (someB r) <|
    grd (someB r) <|
    .load (Ty.one B.ptr) (shiftTo r 1) fun (p26 : (Option Addr)) =>
    grd (someB r) <|
    grd (someB r) <|
    .load (Ty.one B.ptr) (shiftTo r 0) fun (p27 : (Option Addr)) =>
    .call (F_node_Run_tall S p26) [(Ty.one (B.int IntKind.i64))] fun (r28 : (Int × Unit)) =>
    .check (shiftTo r 0) [(Value.pointer p27)] <|
    .call (F_node_Run_tall S p27) [(Ty.one (B.int IntKind.i64))] fun (r29 : (Int × Unit)) =>
    ifB (geI r28.1 r29.1)
      (.load (Ty.agg [(B.int IntKind.i64), (B.int IntKind.i64)]) (Option.some a1) fun (r30 : (Int × (Int × Unit))) =>
      grd (someB r) <|
      grd (someB r) <|
      .load (Ty.one B.ptr) (shiftTo r 0) fun (p31 : (Option Addr)) =>
      grd (someB r) <|
      grd (someB r) <|
      .load (Ty.agg [(B.int IntKind.i64), (B.int IntKind.i64)]) (shiftTo r 2) fun (r32 : (Int × (Int × Unit))) =>
      grd (someB r) <|
      grd (someB r) <|
      .load (Ty.one B.ptr) (shiftTo r 1) fun (p33 : (Option Addr)) =>
      .call (F_tree_of_Run S l (r30.1, (r30.2.1, ())) p31) [(Ty.one B.ptr)] fun (r34 : ((Option Addr) × Unit)) =>
      .check (shiftTo r 1) [(Value.pointer p33)] <|
      .check (shiftTo r 2) [(Value.int IntKind.i64 r32.1), (Value.int IntKind.i64 r32.2.1)] <|
      .call (F_tree_of_Run S r34.1 (r32.1, (r32.2.1, ())) p33) [(Ty.one B.ptr)] fun (r35 : ((Option Addr) × Unit)) =>
      .ret 0 [(Value.pointer r35.1)]) <|
    grd (someB r) <|
    grd (someB r) <|
    .load (Ty.one B.ptr) (shiftTo r 0) fun (p36 : (Option Addr)) =>
    .load (Ty.agg [(B.int IntKind.i64), (B.int IntKind.i64)]) (Option.some a1) fun (r37 : (Int × (Int × Unit))) =>
    grd (someB p36) <|
    grd (someB p36) <|
    .load (Ty.one B.ptr) (shiftTo p36 0) fun (p38 : (Option Addr)) =>
    grd (someB p36) <|
    grd (someB p36) <|
    .load (Ty.agg [(B.int IntKind.i64), (B.int IntKind.i64)]) (shiftTo p36 2) fun (r39 : (Int × (Int × Unit))) =>
    grd (someB p36) <|
    grd (someB p36) <|
    .load (Ty.one B.ptr) (shiftTo p36 1) fun (p40 : (Option Addr)) =>
    grd (someB r) <|
    grd (someB r) <|
    .load (Ty.agg [(B.int IntKind.i64), (B.int IntKind.i64)]) (shiftTo r 2) fun (r41 : (Int × (Int × Unit))) =>
    grd (someB r) <|
    grd (someB r) <|
    .load (Ty.one B.ptr) (shiftTo r 1) fun (p42 : (Option Addr)) =>
    .call (F_tree_of_Run S l (r37.1, (r37.2.1, ())) p38) [(Ty.one B.ptr)] fun (r43 : ((Option Addr) × Unit)) =>
    .check (shiftTo r 1) [(Value.pointer p42)] <|
    .check (shiftTo r 2) [(Value.int IntKind.i64 r41.1), (Value.int IntKind.i64 r41.2.1)] <|
    .check (shiftTo p36 1) [(Value.pointer p40)] <|
    .check (shiftTo p36 2) [(Value.int IntKind.i64 r39.1), (Value.int IntKind.i64 r39.2.1)] <|
    .call (F_tree_of_Run S p40 (r41.1, (r41.2.1, ())) p42) [(Ty.one B.ptr)] fun (r44 : ((Option Addr) × Unit)) =>
    .check (shiftTo p36 2) [(Value.int IntKind.i64 r39.1), (Value.int IntKind.i64 r39.2.1)] <|
    .call (F_tree_of_Run S r43.1 (r39.1, (r39.2.1, ())) r44.1) [(Ty.one B.ptr)] fun (r45 : ((Option Addr) × Unit)) =>
    .ret 0 [(Value.pointer r45.1)]) <|
  .load (Ty.agg [(B.int IntKind.i64), (B.int IntKind.i64)]) (Option.some a1) fun (r46 : (Int × (Int × Unit))) =>
  .call (F_tree_of_Run S l (r46.1, (r46.2.1, ())) r) [(Ty.one B.ptr)] fun (r47 : ((Option Addr) × Unit)) =>
  .ret 0 [(Value.pointer r47.1)]
def R_tree_join_Run (fuelN : Nat) (S : Ids) (l : (Option Addr)) (x : (Int × Int × Unit)) (r : (Option Addr)) : Prog :=
  match fuelN with
  | 0 => .fail
  | fuelN + 1 =>
  .alloc [(Value.int IntKind.i64 x.1), (Value.int IntKind.i64 x.2.1)] fun (a1 : Addr) =>
  .call (F_node_Run_tall S l) [(Ty.one (B.int IntKind.i64))] fun (r2 : (Int × Unit)) =>
  .call (F_node_Run_tall S r) [(Ty.one (B.int IntKind.i64))] fun (r3 : (Int × Unit)) =>
  ifB (gtI r2.1 (addI IntKind.i64 r3.1 1))
    (grd (someB l) <|
    grd (someB l) <|
    .load (Ty.one B.ptr) (shiftTo l 0) fun (p4 : (Option Addr)) =>
    grd (someB l) <|
    grd (someB l) <|
    .load (Ty.agg [(B.int IntKind.i64), (B.int IntKind.i64)]) (shiftTo l 2) fun (r5 : (Int × (Int × Unit))) =>
    grd (someB l) <|
    grd (someB l) <|
    .load (Ty.one B.ptr) (shiftTo l 1) fun (p6 : (Option Addr)) =>
    .load (Ty.agg [(B.int IntKind.i64), (B.int IntKind.i64)]) (Option.some a1) fun (r7 : (Int × (Int × Unit))) =>
    .call (R_tree_join_Run fuelN S p6 (r7.1, (r7.2.1, ())) r) [(Ty.one B.ptr)] fun (r8 : ((Option Addr) × Unit)) =>
    .check (shiftTo l 2) [(Value.int IntKind.i64 r5.1), (Value.int IntKind.i64 r5.2.1)] <|
    .check (shiftTo l 0) [(Value.pointer p4)] <|
    .call (F_tree_even_Run S p4 (r5.1, (r5.2.1, ())) r8.1) [(Ty.one B.ptr)] fun (r9 : ((Option Addr) × Unit)) =>
    .ret 0 [(Value.pointer r9.1)]) <|
  .call (F_node_Run_tall S r) [(Ty.one (B.int IntKind.i64))] fun (r10 : (Int × Unit)) =>
  .call (F_node_Run_tall S l) [(Ty.one (B.int IntKind.i64))] fun (r11 : (Int × Unit)) =>
  ifB (gtI r10.1 (addI IntKind.i64 r11.1 1))
    (.load (Ty.agg [(B.int IntKind.i64), (B.int IntKind.i64)]) (Option.some a1) fun (r12 : (Int × (Int × Unit))) =>
    grd (someB r) <|
    grd (someB r) <|
    .load (Ty.one B.ptr) (shiftTo r 0) fun (p13 : (Option Addr)) =>
    grd (someB r) <|
    grd (someB r) <|
    .load (Ty.agg [(B.int IntKind.i64), (B.int IntKind.i64)]) (shiftTo r 2) fun (r14 : (Int × (Int × Unit))) =>
    grd (someB r) <|
    grd (someB r) <|
    .load (Ty.one B.ptr) (shiftTo r 1) fun (p15 : (Option Addr)) =>
    .call (R_tree_join_Run fuelN S l (r12.1, (r12.2.1, ())) p13) [(Ty.one B.ptr)] fun (r16 : ((Option Addr) × Unit)) =>
    .check (shiftTo r 1) [(Value.pointer p15)] <|
    .check (shiftTo r 2) [(Value.int IntKind.i64 r14.1), (Value.int IntKind.i64 r14.2.1)] <|
    .call (F_tree_even_Run S r16.1 (r14.1, (r14.2.1, ())) p15) [(Ty.one B.ptr)] fun (r17 : ((Option Addr) × Unit)) =>
    .ret 0 [(Value.pointer r17.1)]) <|
  .load (Ty.agg [(B.int IntKind.i64), (B.int IntKind.i64)]) (Option.some a1) fun (r18 : (Int × (Int × Unit))) =>
  .call (F_tree_of_Run S l (r18.1, (r18.2.1, ())) r) [(Ty.one B.ptr)] fun (r19 : ((Option Addr) × Unit)) =>
  .ret 0 [(Value.pointer r19.1)]
def F_tree_join_Run (S : Ids) (l : (Option Addr)) (x : (Int × Int × Unit)) (r : (Option Addr)) : Prog := .ex fun fuelN => R_tree_join_Run fuelN S l x r
def R_node_Run_cut (fuelN : Nat) (S : Ids) (n : (Option Addr)) (i : Int) : Prog :=
  match fuelN with
  | 0 => .fail
  | fuelN + 1 =>
  ifB (noneB n)
    (.ret 0 [(Value.pointer Option.none), (Value.pointer Option.none)]) <|
  grd (someB n) <|
  grd (someB n) <|
  .load (Ty.one B.ptr) (shiftTo n 0) fun (p1 : (Option Addr)) =>
  .call (F_node_Run_count S p1) [(Ty.one (B.int IntKind.i64))] fun (r2 : (Int × Unit)) =>
  ifB (leI i r2.1)
    (grd (someB n) <|
    grd (someB n) <|
    .load (Ty.one B.ptr) (shiftTo n 0) fun (p3 : (Option Addr)) =>
    .call (R_node_Run_cut fuelN S p3 i) [(Ty.one B.ptr), (Ty.one B.ptr)] fun (r4 : ((Option Addr) × ((Option Addr) × Unit))) =>
    grd (someB n) <|
    grd (someB n) <|
    .load (Ty.agg [(B.int IntKind.i64), (B.int IntKind.i64)]) (shiftTo n 2) fun (r5 : (Int × (Int × Unit))) =>
    grd (someB n) <|
    grd (someB n) <|
    .load (Ty.one B.ptr) (shiftTo n 1) fun (p6 : (Option Addr)) =>
    .call (F_tree_join_Run S r4.2.1 (r5.1, (r5.2.1, ())) p6) [(Ty.one B.ptr)] fun (r7 : ((Option Addr) × Unit)) =>
    .ret 0 [(Value.pointer r4.1), (Value.pointer r7.1)]) <|
  grd (someB n) <|
  grd (someB n) <|
  .load (Ty.one B.ptr) (shiftTo n 1) fun (p8 : (Option Addr)) =>
  .call (R_node_Run_cut fuelN S p8 (subI IntKind.i64 (subI IntKind.i64 i r2.1) 1)) [(Ty.one B.ptr), (Ty.one B.ptr)] fun (r9 : ((Option Addr) × ((Option Addr) × Unit))) =>
  grd (someB n) <|
  grd (someB n) <|
  .load (Ty.one B.ptr) (shiftTo n 0) fun (p10 : (Option Addr)) =>
  grd (someB n) <|
  grd (someB n) <|
  .load (Ty.agg [(B.int IntKind.i64), (B.int IntKind.i64)]) (shiftTo n 2) fun (r11 : (Int × (Int × Unit))) =>
  .call (F_tree_join_Run S p10 (r11.1, (r11.2.1, ())) r9.1) [(Ty.one B.ptr)] fun (r12 : ((Option Addr) × Unit)) =>
  .ret 0 [(Value.pointer r12.1), (Value.pointer r9.2.1)]
def F_node_Run_cut (S : Ids) (n : (Option Addr)) (i : Int) : Prog := .ex fun fuelN => R_node_Run_cut fuelN S n i
def R_node_Run_first (fuelN : Nat) (S : Ids) (n : (Option Addr)) : Prog :=
  match fuelN with
  | 0 => .fail
  | fuelN + 1 =>
  .alloc [(Value.int IntKind.i64 0), (Value.int IntKind.i64 0)] fun (a1 : Addr) =>
  grd (someB n) <|
  grd (someB n) <|
  .load (Ty.one B.ptr) (shiftTo n 0) fun (p2 : (Option Addr)) =>
  ifB (noneB p2)
    (grd (someB n) <|
    grd (someB n) <|
    .load (Ty.agg [(B.int IntKind.i64), (B.int IntKind.i64)]) (shiftTo n 2) fun (r3 : (Int × (Int × Unit))) =>
    grd (someB n) <|
    grd (someB n) <|
    .load (Ty.one B.ptr) (shiftTo n 1) fun (p4 : (Option Addr)) =>
    .store (Option.some a1) [(Value.int IntKind.i64 r3.1), (Value.int IntKind.i64 r3.2.1)] <|
    .check (shiftTo n 1) [(Value.pointer p4)] <|
    .load (Ty.agg [(B.int IntKind.i64), (B.int IntKind.i64)]) (Option.some a1) fun (r5 : (Int × (Int × Unit))) =>
    .ret 0 [(Value.agg (#[(Value.int IntKind.i64 r5.1), (Value.int IntKind.i64 r5.2.1)])), (Value.pointer p4)]) <|
  grd (someB n) <|
  grd (someB n) <|
  .load (Ty.one B.ptr) (shiftTo n 0) fun (p6 : (Option Addr)) =>
  .call (R_node_Run_first fuelN S p6) [(Ty.agg [(B.int IntKind.i64), (B.int IntKind.i64)]), (Ty.one B.ptr)] fun (r7 : ((Int × (Int × Unit)) × ((Option Addr) × Unit))) =>
  .alloc [(Value.int IntKind.i64 0), (Value.int IntKind.i64 0)] fun (a8 : Addr) =>
  .store (Option.some a8) [(Value.int IntKind.i64 r7.1.1), (Value.int IntKind.i64 r7.1.2.1)] <|
  .load (Ty.agg [(B.int IntKind.i64), (B.int IntKind.i64)]) (Option.some a8) fun (r9 : (Int × (Int × Unit))) =>
  grd (someB n) <|
  grd (someB n) <|
  .load (Ty.agg [(B.int IntKind.i64), (B.int IntKind.i64)]) (shiftTo n 2) fun (r10 : (Int × (Int × Unit))) =>
  grd (someB n) <|
  grd (someB n) <|
  .load (Ty.one B.ptr) (shiftTo n 1) fun (p11 : (Option Addr)) =>
  .call (F_tree_even_Run S r7.2.1 (r10.1, (r10.2.1, ())) p11) [(Ty.one B.ptr)] fun (r12 : ((Option Addr) × Unit)) =>
  .check (Option.some a8) [(Value.int IntKind.i64 r9.1), (Value.int IntKind.i64 r9.2.1)] <|
  .store (Option.some a1) [(Value.int IntKind.i64 r9.1), (Value.int IntKind.i64 r9.2.1)] <|
  .load (Ty.agg [(B.int IntKind.i64), (B.int IntKind.i64)]) (Option.some a1) fun (r13 : (Int × (Int × Unit))) =>
  .ret 0 [(Value.agg (#[(Value.int IntKind.i64 r13.1), (Value.int IntKind.i64 r13.2.1)])), (Value.pointer r12.1)]
def F_node_Run_first (S : Ids) (n : (Option Addr)) : Prog := .ex fun fuelN => R_node_Run_first fuelN S n
def F_tree_both_Run (S : Ids) (l : (Option Addr)) (r : (Option Addr)) : Prog :=
  ifB (noneB r)
    (.ret 0 [(Value.pointer l)]) <|
  .call (F_node_Run_first S r) [(Ty.agg [(B.int IntKind.i64), (B.int IntKind.i64)]), (Ty.one B.ptr)] fun (r1 : ((Int × (Int × Unit)) × ((Option Addr) × Unit))) =>
  .alloc [(Value.int IntKind.i64 0), (Value.int IntKind.i64 0)] fun (a2 : Addr) =>
  .store (Option.some a2) [(Value.int IntKind.i64 r1.1.1), (Value.int IntKind.i64 r1.1.2.1)] <|
  .load (Ty.agg [(B.int IntKind.i64), (B.int IntKind.i64)]) (Option.some a2) fun (r3 : (Int × (Int × Unit))) =>
  .call (F_tree_join_Run S l (r3.1, (r3.2.1, ())) r1.2.1) [(Ty.one B.ptr)] fun (r4 : ((Option Addr) × Unit)) =>
  .ret 0 [(Value.pointer r4.1)]
def F_Tree_Run_Replace (S : Ids) (t : ((Option Addr) × Unit)) (from_ : Int) (to : Int) (items : Sl) : Prog :=
  .alloc [(Value.pointer t.1)] fun (a1 : Addr) =>
  .alloc [(Value.pointer Option.none)] fun (a2 : Addr) =>
  .bind
    (ifB (ltI from_ 0)
      (.ret 0 [(Value.bool Bool.true)]) <|
    ifB (gtI from_ to)
      (.ret 0 [(Value.bool Bool.true)]) <|
    .load (Ty.agg [B.ptr]) (Option.some a1) fun (r17 : ((Option Addr) × Unit)) =>
    .call (F_Tree_Run_Size S (r17.1, ())) [(Ty.one (B.int IntKind.i64))] fun (r18 : (Int × Unit)) =>
    .ret 0 [(Value.bool (gtI to r18.1))]) fun (k19 : Nat) =>
  fun (vs20 : (List Value)) =>
  ifB (eqN k19 0)
    (.cast [(Ty.one B.bool)] vs20 fun (r21 : (Bool × Unit)) =>
    ifB r21.1
      (.store (Option.some a2) [(Value.pointer Option.none)] <|
      .load (Ty.agg [B.ptr]) (Option.some a2) fun (r22 : ((Option Addr) × Unit)) =>
      .ret 0 [(Value.agg (#[(Value.pointer r22.1)])), (Value.int IntKind.i64 1)]) <|
    .load (Ty.one B.ptr) (shiftTo (Option.some a1) 0) fun (p23 : (Option Addr)) =>
    .call (F_node_Run_cut S p23 from_) [(Ty.one B.ptr), (Ty.one B.ptr)] fun (r24 : ((Option Addr) × ((Option Addr) × Unit))) =>
    .load (Ty.one B.ptr) (shiftTo (Option.some a1) 0) fun (p25 : (Option Addr)) =>
    .call (F_node_Run_cut S p25 to) [(Ty.one B.ptr), (Ty.one B.ptr)] fun (r26 : ((Option Addr) × ((Option Addr) × Unit))) =>
    .call (F_tree_build_Run S items) [(Ty.one B.ptr)] fun (r27 : ((Option Addr) × Unit)) =>
    .call (F_tree_both_Run S r24.1 r27.1) [(Ty.one B.ptr)] fun (r28 : ((Option Addr) × Unit)) =>
    .call (F_tree_both_Run S r28.1 r26.2.1) [(Ty.one B.ptr)] fun (r29 : ((Option Addr) × Unit)) =>
    .store (Option.some a2) [(Value.pointer r29.1)] <|
    .load (Ty.agg [B.ptr]) (Option.some a2) fun (r30 : ((Option Addr) × Unit)) =>
    .ret 0 [(Value.agg (#[(Value.pointer r30.1)])), (Value.int IntKind.i64 0)]) <|
  .fail
def F_Tree_Run_At (S : Ids) (t : ((Option Addr) × Unit)) (i : Int) : Prog :=
  .alloc [(Value.pointer t.1)] fun (a1 : Addr) =>
  .alloc [(Value.int IntKind.i64 0), (Value.int IntKind.i64 0)] fun (a2 : Addr) =>
  .load (Ty.one B.ptr) (shiftTo (Option.some a1) 0) fun (p3 : (Option Addr)) =>
  .bind
    (.loop [(Ty.one (B.int IntKind.i64)), (Ty.one B.ptr)] (i, (p3, ())) fun (r63 : (Int × ((Option Addr) × Unit))) =>
      .bind
        (ifB (notB (noneB r63.2.1))
          (.ret 0 [(Value.bool (geI r63.1 0))]) <|
        .ret 0 [(Value.bool Bool.false)]) fun (k72 : Nat) =>
      fun (vs73 : (List Value)) =>
      ifB (eqN k72 0)
        (.cast [(Ty.one B.bool)] vs73 fun (r74 : (Bool × Unit)) =>
        ifB r74.1
          (grd (someB r63.2.1) <|
          grd (someB r63.2.1) <|
          .load (Ty.one B.ptr) (shiftTo r63.2.1 0) fun (p75 : (Option Addr)) =>
          .call (F_node_Run_count S p75) [(Ty.one (B.int IntKind.i64))] fun (r76 : (Int × Unit)) =>
          ifB (eqI r63.1 r76.1)
            (grd (someB r63.2.1) <|
            grd (someB r63.2.1) <|
            .load (Ty.agg [(B.int IntKind.i64), (B.int IntKind.i64)]) (shiftTo r63.2.1 2) fun (r77 : (Int × (Int × Unit))) =>
            .store (Option.some a2) [(Value.int IntKind.i64 r77.1), (Value.int IntKind.i64 r77.2.1)] <|
            .ret 1 [(Value.pointer (Option.some a2)), (Value.bool Bool.true)]) <|
          ifB (ltI r63.1 r76.1)
            (grd (someB r63.2.1) <|
            grd (someB r63.2.1) <|
            .load (Ty.one B.ptr) (shiftTo r63.2.1 0) fun (p78 : (Option Addr)) =>
            .ret 0 [(Value.int IntKind.i64 r63.1), (Value.pointer p78)]) <|
          grd (someB r63.2.1) <|
          grd (someB r63.2.1) <|
          .load (Ty.one B.ptr) (shiftTo r63.2.1 1) fun (p79 : (Option Addr)) =>
          .ret 0 [(Value.int IntKind.i64 (subI IntKind.i64 (subI IntKind.i64 r63.1 r76.1) 1)), (Value.pointer p79)]) <|
        .ret 2 []) <|
      .fail) fun (k80 : Nat) =>
  fun (vs81 : (List Value)) =>
  ifB (eqN k80 2)
    (.cast [] vs81 fun (u82 : Unit) =>
    .alloc [(Value.int IntKind.i64 0), (Value.int IntKind.i64 0)] fun (a83 : Addr) =>
    .load (Ty.agg [(B.int IntKind.i64), (B.int IntKind.i64)]) (Option.some a83) fun (r84 : (Int × (Int × Unit))) =>
    .store (Option.some a2) [(Value.int IntKind.i64 r84.1), (Value.int IntKind.i64 r84.2.1)] <|
    .load (Ty.agg [(B.int IntKind.i64), (B.int IntKind.i64)]) (Option.some a2) fun (r85 : (Int × (Int × Unit))) =>
    .ret 0 [(Value.agg (#[(Value.int IntKind.i64 r85.1), (Value.int IntKind.i64 r85.2.1)])), (Value.bool Bool.false)]) <|
  ifB (eqN k80 1)
    (.cast [(Ty.one B.ptr), (Ty.one B.bool)] vs81 fun (r86 : ((Option Addr) × (Bool × Unit))) =>
    .load (Ty.agg [(B.int IntKind.i64), (B.int IntKind.i64)]) r86.1 fun (r87 : (Int × (Int × Unit))) =>
    .ret 0 [(Value.agg (#[(Value.int IntKind.i64 r87.1), (Value.int IntKind.i64 r87.2.1)])), (Value.bool r86.2.1)]) <|
  .fail
def F_law4_num (S : Ids) (e : Int) : Prog :=
  .ret 0 [(Value.int IntKind.i64 e)]
def F_Tree_Run_Height (S : Ids) (t : ((Option Addr) × Unit)) : Prog :=
  .alloc [(Value.pointer t.1)] fun (a1 : Addr) =>
  .load (Ty.one B.ptr) (shiftTo (Option.some a1) 0) fun (p2 : (Option Addr)) =>
  .call (F_node_Run_tall S p2) [(Ty.one (B.int IntKind.i64))] fun (r3 : (Int × Unit)) =>
  .ret 0 [(Value.int IntKind.i64 r3.1)]
def F_ref4_Digits (S : Ids) (n : Int) : Prog :=
  .bind
    (.loop [(Ty.one (B.int IntKind.i64)), (Ty.one (B.int IntKind.i64))] (n, ((0 : Int), ())) fun (r7 : (Int × (Int × Unit))) =>
      ifB (gtI r7.1 0)
        (grd (notB Bool.false) <|
        .ret 0 [(Value.int IntKind.i64 (quoI IntKind.i64 r7.1 2)), (Value.int IntKind.i64 (addI IntKind.i64 r7.2.1 1))]) <|
      .ret 2 [(Value.int IntKind.i64 r7.2.1)]) fun (k8 : Nat) =>
  fun (vs9 : (List Value)) =>
  ifB (eqN k8 2)
    (.cast [(Ty.one (B.int IntKind.i64))] vs9 fun (r10 : (Int × Unit)) =>
    .ret 0 [(Value.int IntKind.i64 r10.1)]) <|
  .fail
def F_law4_TreeGrows (S : Ids) (places : Sl) (how : Int) : Prog :=
  .alloc [(Value.pointer Option.none)] fun (a1 : Addr) =>
  .bind
    (.loop [(Ty.one (B.int IntKind.i64))] ((0 : Int), ()) fun (r289 : (Int × Unit)) =>
      ifB (leI r289.1 (natI places.len))
        (.bind
          (grd (notB Bool.false) <|
          ifB (eqI (remI IntKind.i64 how 3) 1)
            (.ret 0 [(Value.int IntKind.i64 r289.1)]) <|
          .bind
            (grd (notB Bool.false) <|
            ifB (eqI (remI IntKind.i64 how 3) 2)
              (.ret 0 [(Value.bool (ltI r289.1 (natI places.len)))]) <|
            .ret 0 [(Value.bool Bool.false)]) fun (k341 : Nat) =>
          fun (vs342 : (List Value)) =>
          ifB (eqN k341 0)
            (.cast [(Ty.one B.bool)] vs342 fun (r343 : (Bool × Unit)) =>
            ifB r343.1
              (grd (andB (someB places.base) (inB r289.1 places.len)) <|
              .load (Ty.one (B.int IntKind.i64)) (shiftTo places.base (mulN (toN r289.1) 1)) fun (n344 : Int) =>
              .call (F_law4_slot S n344 r289.1) [(Ty.one (B.int IntKind.i64))] fun (r345 : (Int × Unit)) =>
              .ret 0 [(Value.int IntKind.i64 r345.1)]) <|
            .ret 0 [(Value.int IntKind.i64 0)]) <|
          .fail) fun (k346 : Nat) =>
        fun (vs347 : (List Value)) =>
        ifB (eqN k346 0)
          (.cast [(Ty.one (B.int IntKind.i64))] vs347 fun (r348 : (Int × Unit)) =>
          .load (Ty.agg [B.ptr]) (Option.some a1) fun (r349 : ((Option Addr) × Unit)) =>
          .alloc [(Value.int IntKind.i64 r289.1), (Value.int IntKind.i64 1)] fun (a350 : Addr) =>
          .call (F_Tree_Run_Replace S (r349.1, ()) r348.1 r348.1 (⟨(Option.some a350), 1, 1⟩)) [(Ty.agg [B.ptr]), (Ty.one (B.int IntKind.i64))] fun (r351 : (((Option Addr) × Unit) × (Int × Unit))) =>
          .alloc [(Value.pointer Option.none)] fun (a352 : Addr) =>
          .store (Option.some a352) [(Value.pointer r351.1.1)] <|
          .load (Ty.agg [B.ptr]) (Option.some a352) fun (r353 : ((Option Addr) × Unit)) =>
          .call (F_Tree_Run_At S (r353.1, ()) r348.1) [(Ty.agg [(B.int IntKind.i64), (B.int IntKind.i64)]), (Ty.one B.bool)] fun (r354 : ((Int × (Int × Unit)) × (Bool × Unit))) =>
          .alloc [(Value.int IntKind.i64 0), (Value.int IntKind.i64 0)] fun (a355 : Addr) =>
          .store (Option.some a355) [(Value.int IntKind.i64 r354.1.1), (Value.int IntKind.i64 r354.1.2.1)] <|
          .bind
            (.call (F_law4_num S r351.2.1) [(Ty.one (B.int IntKind.i64))] fun (r369 : (Int × Unit)) =>
            ifB (neI r369.1 0)
              (.ret 0 [(Value.bool Bool.true)]) <|
            .load (Ty.agg [B.ptr]) (Option.some a352) fun (r370 : ((Option Addr) × Unit)) =>
            .call (F_Tree_Run_Size S (r370.1, ())) [(Ty.one (B.int IntKind.i64))] fun (r371 : (Int × Unit)) =>
            ifB (neI r371.1 (addI IntKind.i64 r289.1 1))
              (.ret 0 [(Value.bool Bool.true)]) <|
            ifB (notB r354.2.1)
              (.ret 0 [(Value.bool Bool.true)]) <|
            .load (Ty.one (B.int IntKind.i64)) (shiftTo (Option.some a355) 0) fun (n372 : Int) =>
            ifB (neI n372 r289.1)
              (.ret 0 [(Value.bool Bool.true)]) <|
            .load (Ty.agg [B.ptr]) (Option.some a352) fun (r373 : ((Option Addr) × Unit)) =>
            .call (F_Tree_Run_Height S (r373.1, ())) [(Ty.one (B.int IntKind.i64))] fun (r374 : (Int × Unit)) =>
            ifB (ltI r374.1 1)
              (.ret 0 [(Value.bool Bool.true)]) <|
            .load (Ty.agg [B.ptr]) (Option.some a352) fun (r375 : ((Option Addr) × Unit)) =>
            .call (F_Tree_Run_Height S (r375.1, ())) [(Ty.one (B.int IntKind.i64))] fun (r376 : (Int × Unit)) =>
            .call (F_ref4_Digits S (addI IntKind.i64 r289.1 1)) [(Ty.one (B.int IntKind.i64))] fun (r377 : (Int × Unit)) =>
            .ret 0 [(Value.bool (gtI r376.1 (mulI IntKind.i64 3 r377.1)))]) fun (k378 : Nat) =>
          fun (vs379 : (List Value)) =>
          ifB (eqN k378 0)
            (.cast [(Ty.one B.bool)] vs379 fun (r380 : (Bool × Unit)) =>
            ifB r380.1
              (.ret 1 [(Value.bool Bool.false)]) <|
            .load (Ty.agg [B.ptr]) (Option.some a352) fun (r381 : ((Option Addr) × Unit)) =>
            .store (Option.some a1) [(Value.pointer r381.1)] <|
            .ret 0 [(Value.int IntKind.i64 (addI IntKind.i64 r289.1 1))]) <|
          .fail) <|
        .fail) <|
      .ret 2 []) fun (k382 : Nat) =>
  fun (vs383 : (List Value)) =>
  ifB (eqN k382 2)
    (.cast [] vs383 fun (u384 : Unit) =>
    .load (Ty.agg [B.ptr]) (Option.some a1) fun (r385 : ((Option Addr) × Unit)) =>
    .call (F_Tree_Run_Sum S (r385.1, ())) [(Ty.agg [(B.int IntKind.i64), (B.int IntKind.i64), (B.int IntKind.i64), (B.int IntKind.i64)])] fun (r386 : ((Int × (Int × (Int × (Int × Unit)))) × Unit)) =>
    .alloc [(Value.int IntKind.i64 0), (Value.int IntKind.i64 0), (Value.int IntKind.i64 0), (Value.int IntKind.i64 0)] fun (a387 : Addr) =>
    .store (Option.some a387) [(Value.int IntKind.i64 r386.1.1), (Value.int IntKind.i64 r386.1.2.1), (Value.int IntKind.i64 r386.1.2.2.1), (Value.int IntKind.i64 r386.1.2.2.2.1)] <|
    .load (Ty.one (B.int IntKind.i64)) (shiftTo (Option.some a387) 0) fun (n388 : Int) =>
    .ret 0 [(Value.bool (eqI n388 (addI IntKind.i64 (natI places.len) 1)))]) <|
  ifB (eqN k382 1)
    (.cast [(Ty.one B.bool)] vs383 fun (r389 : (Bool × Unit)) =>
    .ret 0 [(Value.bool r389.1)]) <|
  .fail
def F_law4_same (S : Ids) (a : ((Option Addr) × Unit)) (b : ((Option Addr) × Unit)) : Prog :=
  .alloc [(Value.pointer a.1)] fun (a1 : Addr) =>
  .alloc [(Value.pointer b.1)] fun (a2 : Addr) =>
  .bind
    (.load (Ty.agg [B.ptr]) (Option.some a1) fun (r98 : ((Option Addr) × Unit)) =>
    .load (Ty.agg [B.ptr]) (Option.some a2) fun (r99 : ((Option Addr) × Unit)) =>
    .call (F_Tree_Run_Size S (r98.1, ())) [(Ty.one (B.int IntKind.i64))] fun (r100 : (Int × Unit)) =>
    .check (Option.some a2) [(Value.pointer r99.1)] <|
    .call (F_Tree_Run_Size S (r99.1, ())) [(Ty.one (B.int IntKind.i64))] fun (r101 : (Int × Unit)) =>
    ifB (neI r100.1 r101.1)
      (.ret 0 [(Value.bool Bool.true)]) <|
    .load (Ty.agg [B.ptr]) (Option.some a1) fun (r102 : ((Option Addr) × Unit)) =>
    .load (Ty.agg [B.ptr]) (Option.some a2) fun (r103 : ((Option Addr) × Unit)) =>
    .call (F_Tree_Run_Sum S (r102.1, ())) [(Ty.agg [(B.int IntKind.i64), (B.int IntKind.i64), (B.int IntKind.i64), (B.int IntKind.i64)])] fun (r104 : ((Int × (Int × (Int × (Int × Unit)))) × Unit)) =>
    .check (Option.some a2) [(Value.pointer r103.1)] <|
    .call (F_Tree_Run_Sum S (r103.1, ())) [(Ty.agg [(B.int IntKind.i64), (B.int IntKind.i64), (B.int IntKind.i64), (B.int IntKind.i64)])] fun (r105 : ((Int × (Int × (Int × (Int × Unit)))) × Unit)) =>
    .ret 0 [(Value.bool (notB (andB (eqI r104.1.1 r105.1.1) (andB (eqI r104.1.2.1 r105.1.2.1) (andB (eqI r104.1.2.2.1 r105.1.2.2.1) (eqI r104.1.2.2.2.1 r105.1.2.2.2.1))))))]) fun (k106 : Nat) =>
  fun (vs107 : (List Value)) =>
  ifB (eqN k106 0)
    (.cast [(Ty.one B.bool)] vs107 fun (r108 : (Bool × Unit)) =>
    ifB r108.1
      (.ret 0 [(Value.bool Bool.false)]) <|
    .bind
      (.loop [(Ty.one (B.int IntKind.i64))] ((0 : Int), ()) fun (r170 : (Int × Unit)) =>
        .load (Ty.agg [B.ptr]) (Option.some a1) fun (r171 : ((Option Addr) × Unit)) =>
        .call (F_Tree_Run_Size S (r171.1, ())) [(Ty.one (B.int IntKind.i64))] fun (r172 : (Int × Unit)) =>
        ifB (ltI r170.1 r172.1)
          (.load (Ty.agg [B.ptr]) (Option.some a1) fun (r173 : ((Option Addr) × Unit)) =>
          .call (F_Tree_Run_At S (r173.1, ()) r170.1) [(Ty.agg [(B.int IntKind.i64), (B.int IntKind.i64)]), (Ty.one B.bool)] fun (r174 : ((Int × (Int × Unit)) × (Bool × Unit))) =>
          .alloc [(Value.int IntKind.i64 0), (Value.int IntKind.i64 0)] fun (a175 : Addr) =>
          .store (Option.some a175) [(Value.int IntKind.i64 r174.1.1), (Value.int IntKind.i64 r174.1.2.1)] <|
          .load (Ty.agg [B.ptr]) (Option.some a2) fun (r176 : ((Option Addr) × Unit)) =>
          .call (F_Tree_Run_At S (r176.1, ()) r170.1) [(Ty.agg [(B.int IntKind.i64), (B.int IntKind.i64)]), (Ty.one B.bool)] fun (r177 : ((Int × (Int × Unit)) × (Bool × Unit))) =>
          .alloc [(Value.int IntKind.i64 0), (Value.int IntKind.i64 0)] fun (a178 : Addr) =>
          .store (Option.some a178) [(Value.int IntKind.i64 r177.1.1), (Value.int IntKind.i64 r177.1.2.1)] <|
          .bind
            (.load (Ty.agg [(B.int IntKind.i64), (B.int IntKind.i64)]) (Option.some a175) fun (r184 : (Int × (Int × Unit))) =>
            .load (Ty.agg [(B.int IntKind.i64), (B.int IntKind.i64)]) (Option.some a178) fun (r185 : (Int × (Int × Unit))) =>
            ifB (notB (andB (eqI r184.1 r185.1) (eqI r184.2.1 r185.2.1)))
              (.ret 0 [(Value.bool Bool.true)]) <|
            ifB (notB r174.2.1)
              (.ret 0 [(Value.bool Bool.true)]) <|
            .ret 0 [(Value.bool (notB r177.2.1))]) fun (k186 : Nat) =>
          fun (vs187 : (List Value)) =>
          ifB (eqN k186 0)
            (.cast [(Ty.one B.bool)] vs187 fun (r188 : (Bool × Unit)) =>
            ifB r188.1
              (.ret 1 [(Value.bool Bool.false)]) <|
            .ret 0 [(Value.int IntKind.i64 (addI IntKind.i64 r170.1 1))]) <|
          .fail) <|
        .ret 2 []) fun (k189 : Nat) =>
    fun (vs190 : (List Value)) =>
    ifB (eqN k189 2)
      (.cast [] vs190 fun (u191 : Unit) =>
      .ret 0 [(Value.bool Bool.true)]) <|
    ifB (eqN k189 1)
      (.cast [(Ty.one B.bool)] vs190 fun (r192 : (Bool × Unit)) =>
      .ret 0 [(Value.bool r192.1)]) <|
    .fail) <|
  .fail
def F_law4_TreeCuts (S : Ids) (l : Sl) (from_ : Int) (to : Int) (other : Sl) : Prog :=
  .bind
    (ifB (gtI (natI l.len) 1099511627776)
      (.ret 0 [(Value.bool Bool.true)]) <|
    .ret 0 [(Value.bool (gtI (natI other.len) 1099511627776))]) fun (k1878 : Nat) =>
  fun (vs1879 : (List Value)) =>
  ifB (eqN k1878 0)
    (.cast [(Ty.one B.bool)] vs1879 fun (r1880 : (Bool × Unit)) =>
    ifB r1880.1
      (.ret 0 [(Value.bool Bool.true)]) <|
    .alloc [(Value.int IntKind.i64 1), (Value.int IntKind.i64 1)] fun (a1881 : Addr) =>
    .append 2 16 [(Value.int IntKind.i64 0), (Value.int IntKind.i64 0)] (⟨(Option.some a1881), 1, 1⟩) l fun (l1882 : Sl) =>
    .call (F_tree_Of_Run S l1882) [(Ty.agg [B.ptr])] fun (r1883 : (((Option Addr) × Unit) × Unit)) =>
    .alloc [(Value.pointer Option.none)] fun (a1884 : Addr) =>
    .store (Option.some a1884) [(Value.pointer r1883.1.1)] <|
    .call (F_law4_slot S from_ (natI l1882.len)) [(Ty.one (B.int IntKind.i64))] fun (r1885 : (Int × Unit)) =>
    .call (F_law4_slot S to (natI l1882.len)) [(Ty.one (B.int IntKind.i64))] fun (r1886 : (Int × Unit)) =>
    .bind
      (ifB (gtI r1885.1 r1886.1)
        (.ret 0 [(Value.int IntKind.i64 r1886.1), (Value.int IntKind.i64 r1885.1)]) <|
      .ret 0 [(Value.int IntKind.i64 r1885.1), (Value.int IntKind.i64 r1886.1)]) fun (k2821 : Nat) =>
    fun (vs2822 : (List Value)) =>
    ifB (eqN k2821 0)
      (.cast [(Ty.one (B.int IntKind.i64)), (Ty.one (B.int IntKind.i64))] vs2822 fun (r2823 : (Int × (Int × Unit))) =>
      .load (Ty.agg [B.ptr]) (Option.some a1884) fun (r2824 : ((Option Addr) × Unit)) =>
      .call (F_Tree_Run_Replace S (r2824.1, ()) r2823.1 r2823.2.1 other) [(Ty.agg [B.ptr]), (Ty.one (B.int IntKind.i64))] fun (r2825 : (((Option Addr) × Unit) × (Int × Unit))) =>
      .alloc [(Value.pointer Option.none)] fun (a2826 : Addr) =>
      .store (Option.some a2826) [(Value.pointer r2825.1.1)] <|
      .bind
        (.both (.load (Ty.agg [B.ptr]) (Option.some a2826) fun (r3291 : ((Option Addr) × Unit)) =>
        grd (andB (leB r2823.2.1 l1882.cap) (leB r2823.1 (toN r2823.2.1))) <|
        .call (F_Tree_Run_Replace S (r3291.1, ()) r2823.1 (addI IntKind.i64 r2823.1 (natI other.len)) (⟨(cutBase l1882.base l1882.cap (toN r2823.1) 2), (subN (toN r2823.2.1) (toN r2823.1)), (subN l1882.cap (toN r2823.1))⟩)) [(Ty.agg [B.ptr]), (Ty.one (B.int IntKind.i64))] fun (r3292 : (((Option Addr) × Unit) × (Int × Unit))) =>
        .alloc [(Value.pointer Option.none)] fun (a3293 : Addr) =>
        .check (Option.some a2826) [(Value.pointer r3291.1)] <|
        .store (Option.some a3293) [(Value.pointer r3292.1.1)] <|
        .ret 0 [(Value.pointer (Option.some a3293)), (Value.int IntKind.i64 r3292.2.1)]) <|
        .load (Ty.agg [B.ptr]) (Option.some a2826) fun (r3294 : ((Option Addr) × Unit)) =>
        grd (andB (leB r2823.2.1 l1882.cap) (leB r2823.1 (toN r2823.2.1))) <|
        .alloc [(Value.pointer Option.none)] fun (a3295 : Addr) =>
        .check (Option.some a2826) [(Value.pointer r3294.1)] <|
        .call (F_Tree_Run_Replace S (r3294.1, ()) r2823.1 (addI IntKind.i64 r2823.1 (natI other.len)) (⟨(cutBase l1882.base l1882.cap (toN r2823.1) 2), (subN (toN r2823.2.1) (toN r2823.1)), (subN l1882.cap (toN r2823.1))⟩)) [(Ty.agg [B.ptr]), (Ty.one (B.int IntKind.i64))] fun (r3296 : (((Option Addr) × Unit) × (Int × Unit))) =>
        .store (Option.some a3295) [(Value.pointer r3296.1.1)] <|
        .ret 0 [(Value.pointer (Option.some a3295)), (Value.int IntKind.i64 r3296.2.1)]) fun (k3297 : Nat) =>
      fun (vs3298 : (List Value)) =>
      ifB (eqN k3297 0)
        (.cast [(Ty.one B.ptr), (Ty.one (B.int IntKind.i64))] vs3298 fun (r3299 : ((Option Addr) × (Int × Unit))) =>
        .load (Ty.agg [B.ptr]) (Option.some a1884) fun (r3300 : ((Option Addr) × Unit)) =>
        .call (F_Tree_Run_Replace S (r3300.1, ()) (Int.ofNat 0) r2823.2.1 (⟨Option.none, 0, 0⟩)) [(Ty.agg [B.ptr]), (Ty.one (B.int IntKind.i64))] fun (r3301 : (((Option Addr) × Unit) × (Int × Unit))) =>
        .alloc [(Value.pointer Option.none)] fun (a3302 : Addr) =>
        .store (Option.some a3302) [(Value.pointer r3301.1.1)] <|
        .bind
          (.call (F_law4_num S r2825.2.1) [(Ty.one (B.int IntKind.i64))] fun (r3529 : (Int × Unit)) =>
          ifB (neI r3529.1 0)
            (.ret 0 [(Value.bool Bool.true)]) <|
          .call (F_law4_num S r3299.2.1) [(Ty.one (B.int IntKind.i64))] fun (r3530 : (Int × Unit)) =>
          ifB (neI r3530.1 0)
            (.ret 0 [(Value.bool Bool.true)]) <|
          .call (F_law4_num S r3301.2.1) [(Ty.one (B.int IntKind.i64))] fun (r3531 : (Int × Unit)) =>
          .ret 0 [(Value.bool (neI r3531.1 0))]) fun (k3532 : Nat) =>
        fun (vs3533 : (List Value)) =>
        ifB (eqN k3532 0)
          (.cast [(Ty.one B.bool)] vs3533 fun (r3534 : (Bool × Unit)) =>
          ifB r3534.1
            (.ret 0 [(Value.bool Bool.false)]) <|
          grd (andB (leB r2823.2.1 l1882.cap) (leB r2823.1 (toN r2823.2.1))) <|
          .call (F_tree_Of_Run S (⟨(cutBase l1882.base l1882.cap (toN r2823.1) 2), (subN (toN r2823.2.1) (toN r2823.1)), (subN l1882.cap (toN r2823.1))⟩)) [(Ty.agg [B.ptr])] fun (r3535 : (((Option Addr) × Unit) × Unit)) =>
          .alloc [(Value.pointer Option.none)] fun (a3536 : Addr) =>
          .store (Option.some a3536) [(Value.pointer r3535.1.1)] <|
          .bind
            (.both (.load (Ty.agg [B.ptr]) (Option.some a1884) fun (r3646 : ((Option Addr) × Unit)) =>
            .load (Ty.agg [B.ptr]) (Option.some a3536) fun (r3647 : ((Option Addr) × Unit)) =>
            .load (Ty.agg [B.ptr]) (Option.some a3302) fun (r3648 : ((Option Addr) × Unit)) =>
            .call (F_Tree_Run_Upto S (r3646.1, ()) r2823.1) [(Ty.agg [(B.int IntKind.i64), (B.int IntKind.i64), (B.int IntKind.i64), (B.int IntKind.i64)])] fun (r3649 : ((Int × (Int × (Int × (Int × Unit)))) × Unit)) =>
            .check (Option.some a3302) [(Value.pointer r3648.1)] <|
            .check (Option.some a3536) [(Value.pointer r3647.1)] <|
            .call (F_Tree_Run_Sum S (r3647.1, ())) [(Ty.agg [(B.int IntKind.i64), (B.int IntKind.i64), (B.int IntKind.i64), (B.int IntKind.i64)])] fun (r3650 : ((Int × (Int × (Int × (Int × Unit)))) × Unit)) =>
            .check (Option.some a3302) [(Value.pointer r3648.1)] <|
            .call (F_Runs_Add S (r3649.1.1, (r3649.1.2.1, (r3649.1.2.2.1, (r3649.1.2.2.2.1, ())))) (r3650.1.1, (r3650.1.2.1, (r3650.1.2.2.1, (r3650.1.2.2.2.1, ()))))) [(Ty.agg [(B.int IntKind.i64), (B.int IntKind.i64), (B.int IntKind.i64), (B.int IntKind.i64)])] fun (r3651 : ((Int × (Int × (Int × (Int × Unit)))) × Unit)) =>
            .check (Option.some a3302) [(Value.pointer r3648.1)] <|
            .call (F_Tree_Run_Sum S (r3648.1, ())) [(Ty.agg [(B.int IntKind.i64), (B.int IntKind.i64), (B.int IntKind.i64), (B.int IntKind.i64)])] fun (r3652 : ((Int × (Int × (Int × (Int × Unit)))) × Unit)) =>
            .call (F_Runs_Add S (r3651.1.1, (r3651.1.2.1, (r3651.1.2.2.1, (r3651.1.2.2.2.1, ())))) (r3652.1.1, (r3652.1.2.1, (r3652.1.2.2.1, (r3652.1.2.2.2.1, ()))))) [(Ty.agg [(B.int IntKind.i64), (B.int IntKind.i64), (B.int IntKind.i64), (B.int IntKind.i64)])] fun (r3653 : ((Int × (Int × (Int × (Int × Unit)))) × Unit)) =>
            .alloc [(Value.int IntKind.i64 0), (Value.int IntKind.i64 0), (Value.int IntKind.i64 0), (Value.int IntKind.i64 0)] fun (a3654 : Addr) =>
            .check (Option.some a3302) [(Value.pointer r3648.1)] <|
            .check (Option.some a3536) [(Value.pointer r3647.1)] <|
            .check (Option.some a1884) [(Value.pointer r3646.1)] <|
            .store (Option.some a3654) [(Value.int IntKind.i64 r3653.1.1), (Value.int IntKind.i64 r3653.1.2.1), (Value.int IntKind.i64 r3653.1.2.2.1), (Value.int IntKind.i64 r3653.1.2.2.2.1)] <|
            .ret 0 [(Value.pointer (Option.some a3654))]) <|
            .both (.load (Ty.agg [B.ptr]) (Option.some a1884) fun (r3655 : ((Option Addr) × Unit)) =>
            .load (Ty.agg [B.ptr]) (Option.some a3536) fun (r3656 : ((Option Addr) × Unit)) =>
            .load (Ty.agg [B.ptr]) (Option.some a3302) fun (r3657 : ((Option Addr) × Unit)) =>
            .call (F_Tree_Run_Upto S (r3655.1, ()) r2823.1) [(Ty.agg [(B.int IntKind.i64), (B.int IntKind.i64), (B.int IntKind.i64), (B.int IntKind.i64)])] fun (r3658 : ((Int × (Int × (Int × (Int × Unit)))) × Unit)) =>
            .check (Option.some a3302) [(Value.pointer r3657.1)] <|
            .check (Option.some a3536) [(Value.pointer r3656.1)] <|
            .call (F_Tree_Run_Sum S (r3656.1, ())) [(Ty.agg [(B.int IntKind.i64), (B.int IntKind.i64), (B.int IntKind.i64), (B.int IntKind.i64)])] fun (r3659 : ((Int × (Int × (Int × (Int × Unit)))) × Unit)) =>
            .check (Option.some a3302) [(Value.pointer r3657.1)] <|
            .call (F_Runs_Add S (r3658.1.1, (r3658.1.2.1, (r3658.1.2.2.1, (r3658.1.2.2.2.1, ())))) (r3659.1.1, (r3659.1.2.1, (r3659.1.2.2.1, (r3659.1.2.2.2.1, ()))))) [(Ty.agg [(B.int IntKind.i64), (B.int IntKind.i64), (B.int IntKind.i64), (B.int IntKind.i64)])] fun (r3660 : ((Int × (Int × (Int × (Int × Unit)))) × Unit)) =>
            .check (Option.some a3302) [(Value.pointer r3657.1)] <|
            .call (F_Tree_Run_Sum S (r3657.1, ())) [(Ty.agg [(B.int IntKind.i64), (B.int IntKind.i64), (B.int IntKind.i64), (B.int IntKind.i64)])] fun (r3661 : ((Int × (Int × (Int × (Int × Unit)))) × Unit)) =>
            .alloc [(Value.int IntKind.i64 0), (Value.int IntKind.i64 0), (Value.int IntKind.i64 0), (Value.int IntKind.i64 0)] fun (a3662 : Addr) =>
            .check (Option.some a3302) [(Value.pointer r3657.1)] <|
            .check (Option.some a3536) [(Value.pointer r3656.1)] <|
            .check (Option.some a1884) [(Value.pointer r3655.1)] <|
            .call (F_Runs_Add S (r3660.1.1, (r3660.1.2.1, (r3660.1.2.2.1, (r3660.1.2.2.2.1, ())))) (r3661.1.1, (r3661.1.2.1, (r3661.1.2.2.1, (r3661.1.2.2.2.1, ()))))) [(Ty.agg [(B.int IntKind.i64), (B.int IntKind.i64), (B.int IntKind.i64), (B.int IntKind.i64)])] fun (r3663 : ((Int × (Int × (Int × (Int × Unit)))) × Unit)) =>
            .store (Option.some a3662) [(Value.int IntKind.i64 r3663.1.1), (Value.int IntKind.i64 r3663.1.2.1), (Value.int IntKind.i64 r3663.1.2.2.1), (Value.int IntKind.i64 r3663.1.2.2.2.1)] <|
            .ret 0 [(Value.pointer (Option.some a3662))]) <|
            .both (.load (Ty.agg [B.ptr]) (Option.some a1884) fun (r3664 : ((Option Addr) × Unit)) =>
            .load (Ty.agg [B.ptr]) (Option.some a3536) fun (r3665 : ((Option Addr) × Unit)) =>
            .load (Ty.agg [B.ptr]) (Option.some a3302) fun (r3666 : ((Option Addr) × Unit)) =>
            .call (F_Tree_Run_Upto S (r3664.1, ()) r2823.1) [(Ty.agg [(B.int IntKind.i64), (B.int IntKind.i64), (B.int IntKind.i64), (B.int IntKind.i64)])] fun (r3667 : ((Int × (Int × (Int × (Int × Unit)))) × Unit)) =>
            .check (Option.some a3302) [(Value.pointer r3666.1)] <|
            .check (Option.some a3536) [(Value.pointer r3665.1)] <|
            .call (F_Tree_Run_Sum S (r3665.1, ())) [(Ty.agg [(B.int IntKind.i64), (B.int IntKind.i64), (B.int IntKind.i64), (B.int IntKind.i64)])] fun (r3668 : ((Int × (Int × (Int × (Int × Unit)))) × Unit)) =>
            .check (Option.some a3302) [(Value.pointer r3666.1)] <|
            .call (F_Runs_Add S (r3667.1.1, (r3667.1.2.1, (r3667.1.2.2.1, (r3667.1.2.2.2.1, ())))) (r3668.1.1, (r3668.1.2.1, (r3668.1.2.2.1, (r3668.1.2.2.2.1, ()))))) [(Ty.agg [(B.int IntKind.i64), (B.int IntKind.i64), (B.int IntKind.i64), (B.int IntKind.i64)])] fun (r3669 : ((Int × (Int × (Int × (Int × Unit)))) × Unit)) =>
            .check (Option.some a3302) [(Value.pointer r3666.1)] <|
            .alloc [(Value.int IntKind.i64 0), (Value.int IntKind.i64 0), (Value.int IntKind.i64 0), (Value.int IntKind.i64 0)] fun (a3670 : Addr) =>
            .check (Option.some a3302) [(Value.pointer r3666.1)] <|
            .check (Option.some a3536) [(Value.pointer r3665.1)] <|
            .check (Option.some a1884) [(Value.pointer r3664.1)] <|
            .call (F_Tree_Run_Sum S (r3666.1, ())) [(Ty.agg [(B.int IntKind.i64), (B.int IntKind.i64), (B.int IntKind.i64), (B.int IntKind.i64)])] fun (r3671 : ((Int × (Int × (Int × (Int × Unit)))) × Unit)) =>
            .call (F_Runs_Add S (r3669.1.1, (r3669.1.2.1, (r3669.1.2.2.1, (r3669.1.2.2.2.1, ())))) (r3671.1.1, (r3671.1.2.1, (r3671.1.2.2.1, (r3671.1.2.2.2.1, ()))))) [(Ty.agg [(B.int IntKind.i64), (B.int IntKind.i64), (B.int IntKind.i64), (B.int IntKind.i64)])] fun (r3672 : ((Int × (Int × (Int × (Int × Unit)))) × Unit)) =>
            .store (Option.some a3670) [(Value.int IntKind.i64 r3672.1.1), (Value.int IntKind.i64 r3672.1.2.1), (Value.int IntKind.i64 r3672.1.2.2.1), (Value.int IntKind.i64 r3672.1.2.2.2.1)] <|
            .ret 0 [(Value.pointer (Option.some a3670))]) <|
            .both (.load (Ty.agg [B.ptr]) (Option.some a1884) fun (r3673 : ((Option Addr) × Unit)) =>
            .load (Ty.agg [B.ptr]) (Option.some a3536) fun (r3674 : ((Option Addr) × Unit)) =>
            .load (Ty.agg [B.ptr]) (Option.some a3302) fun (r3675 : ((Option Addr) × Unit)) =>
            .call (F_Tree_Run_Upto S (r3673.1, ()) r2823.1) [(Ty.agg [(B.int IntKind.i64), (B.int IntKind.i64), (B.int IntKind.i64), (B.int IntKind.i64)])] fun (r3676 : ((Int × (Int × (Int × (Int × Unit)))) × Unit)) =>
            .check (Option.some a3302) [(Value.pointer r3675.1)] <|
            .check (Option.some a3536) [(Value.pointer r3674.1)] <|
            .call (F_Tree_Run_Sum S (r3674.1, ())) [(Ty.agg [(B.int IntKind.i64), (B.int IntKind.i64), (B.int IntKind.i64), (B.int IntKind.i64)])] fun (r3677 : ((Int × (Int × (Int × (Int × Unit)))) × Unit)) =>
            .check (Option.some a3302) [(Value.pointer r3675.1)] <|
            .alloc [(Value.int IntKind.i64 0), (Value.int IntKind.i64 0), (Value.int IntKind.i64 0), (Value.int IntKind.i64 0)] fun (a3678 : Addr) =>
            .check (Option.some a3302) [(Value.pointer r3675.1)] <|
            .check (Option.some a3536) [(Value.pointer r3674.1)] <|
            .check (Option.some a1884) [(Value.pointer r3673.1)] <|
            .call (F_Runs_Add S (r3676.1.1, (r3676.1.2.1, (r3676.1.2.2.1, (r3676.1.2.2.2.1, ())))) (r3677.1.1, (r3677.1.2.1, (r3677.1.2.2.1, (r3677.1.2.2.2.1, ()))))) [(Ty.agg [(B.int IntKind.i64), (B.int IntKind.i64), (B.int IntKind.i64), (B.int IntKind.i64)])] fun (r3679 : ((Int × (Int × (Int × (Int × Unit)))) × Unit)) =>
            .check (Option.some a3302) [(Value.pointer r3675.1)] <|
            .call (F_Tree_Run_Sum S (r3675.1, ())) [(Ty.agg [(B.int IntKind.i64), (B.int IntKind.i64), (B.int IntKind.i64), (B.int IntKind.i64)])] fun (r3680 : ((Int × (Int × (Int × (Int × Unit)))) × Unit)) =>
            .call (F_Runs_Add S (r3679.1.1, (r3679.1.2.1, (r3679.1.2.2.1, (r3679.1.2.2.2.1, ())))) (r3680.1.1, (r3680.1.2.1, (r3680.1.2.2.1, (r3680.1.2.2.2.1, ()))))) [(Ty.agg [(B.int IntKind.i64), (B.int IntKind.i64), (B.int IntKind.i64), (B.int IntKind.i64)])] fun (r3681 : ((Int × (Int × (Int × (Int × Unit)))) × Unit)) =>
            .store (Option.some a3678) [(Value.int IntKind.i64 r3681.1.1), (Value.int IntKind.i64 r3681.1.2.1), (Value.int IntKind.i64 r3681.1.2.2.1), (Value.int IntKind.i64 r3681.1.2.2.2.1)] <|
            .ret 0 [(Value.pointer (Option.some a3678))]) <|
            .both (.load (Ty.agg [B.ptr]) (Option.some a1884) fun (r3682 : ((Option Addr) × Unit)) =>
            .load (Ty.agg [B.ptr]) (Option.some a3536) fun (r3683 : ((Option Addr) × Unit)) =>
            .load (Ty.agg [B.ptr]) (Option.some a3302) fun (r3684 : ((Option Addr) × Unit)) =>
            .call (F_Tree_Run_Upto S (r3682.1, ()) r2823.1) [(Ty.agg [(B.int IntKind.i64), (B.int IntKind.i64), (B.int IntKind.i64), (B.int IntKind.i64)])] fun (r3685 : ((Int × (Int × (Int × (Int × Unit)))) × Unit)) =>
            .check (Option.some a3302) [(Value.pointer r3684.1)] <|
            .check (Option.some a3536) [(Value.pointer r3683.1)] <|
            .alloc [(Value.int IntKind.i64 0), (Value.int IntKind.i64 0), (Value.int IntKind.i64 0), (Value.int IntKind.i64 0)] fun (a3686 : Addr) =>
            .check (Option.some a3302) [(Value.pointer r3684.1)] <|
            .check (Option.some a3536) [(Value.pointer r3683.1)] <|
            .check (Option.some a1884) [(Value.pointer r3682.1)] <|
            .call (F_Tree_Run_Sum S (r3683.1, ())) [(Ty.agg [(B.int IntKind.i64), (B.int IntKind.i64), (B.int IntKind.i64), (B.int IntKind.i64)])] fun (r3687 : ((Int × (Int × (Int × (Int × Unit)))) × Unit)) =>
            .check (Option.some a3302) [(Value.pointer r3684.1)] <|
            .call (F_Runs_Add S (r3685.1.1, (r3685.1.2.1, (r3685.1.2.2.1, (r3685.1.2.2.2.1, ())))) (r3687.1.1, (r3687.1.2.1, (r3687.1.2.2.1, (r3687.1.2.2.2.1, ()))))) [(Ty.agg [(B.int IntKind.i64), (B.int IntKind.i64), (B.int IntKind.i64), (B.int IntKind.i64)])] fun (r3688 : ((Int × (Int × (Int × (Int × Unit)))) × Unit)) =>
            .check (Option.some a3302) [(Value.pointer r3684.1)] <|
            .call (F_Tree_Run_Sum S (r3684.1, ())) [(Ty.agg [(B.int IntKind.i64), (B.int IntKind.i64), (B.int IntKind.i64), (B.int IntKind.i64)])] fun (r3689 : ((Int × (Int × (Int × (Int × Unit)))) × Unit)) =>
            .call (F_Runs_Add S (r3688.1.1, (r3688.1.2.1, (r3688.1.2.2.1, (r3688.1.2.2.2.1, ())))) (r3689.1.1, (r3689.1.2.1, (r3689.1.2.2.1, (r3689.1.2.2.2.1, ()))))) [(Ty.agg [(B.int IntKind.i64), (B.int IntKind.i64), (B.int IntKind.i64), (B.int IntKind.i64)])] fun (r3690 : ((Int × (Int × (Int × (Int × Unit)))) × Unit)) =>
            .store (Option.some a3686) [(Value.int IntKind.i64 r3690.1.1), (Value.int IntKind.i64 r3690.1.2.1), (Value.int IntKind.i64 r3690.1.2.2.1), (Value.int IntKind.i64 r3690.1.2.2.2.1)] <|
            .ret 0 [(Value.pointer (Option.some a3686))]) <|
            .load (Ty.agg [B.ptr]) (Option.some a1884) fun (r3691 : ((Option Addr) × Unit)) =>
            .load (Ty.agg [B.ptr]) (Option.some a3536) fun (r3692 : ((Option Addr) × Unit)) =>
            .load (Ty.agg [B.ptr]) (Option.some a3302) fun (r3693 : ((Option Addr) × Unit)) =>
            .alloc [(Value.int IntKind.i64 0), (Value.int IntKind.i64 0), (Value.int IntKind.i64 0), (Value.int IntKind.i64 0)] fun (a3694 : Addr) =>
            .check (Option.some a3302) [(Value.pointer r3693.1)] <|
            .check (Option.some a3536) [(Value.pointer r3692.1)] <|
            .check (Option.some a1884) [(Value.pointer r3691.1)] <|
            .call (F_Tree_Run_Upto S (r3691.1, ()) r2823.1) [(Ty.agg [(B.int IntKind.i64), (B.int IntKind.i64), (B.int IntKind.i64), (B.int IntKind.i64)])] fun (r3695 : ((Int × (Int × (Int × (Int × Unit)))) × Unit)) =>
            .check (Option.some a3302) [(Value.pointer r3693.1)] <|
            .check (Option.some a3536) [(Value.pointer r3692.1)] <|
            .call (F_Tree_Run_Sum S (r3692.1, ())) [(Ty.agg [(B.int IntKind.i64), (B.int IntKind.i64), (B.int IntKind.i64), (B.int IntKind.i64)])] fun (r3696 : ((Int × (Int × (Int × (Int × Unit)))) × Unit)) =>
            .check (Option.some a3302) [(Value.pointer r3693.1)] <|
            .call (F_Runs_Add S (r3695.1.1, (r3695.1.2.1, (r3695.1.2.2.1, (r3695.1.2.2.2.1, ())))) (r3696.1.1, (r3696.1.2.1, (r3696.1.2.2.1, (r3696.1.2.2.2.1, ()))))) [(Ty.agg [(B.int IntKind.i64), (B.int IntKind.i64), (B.int IntKind.i64), (B.int IntKind.i64)])] fun (r3697 : ((Int × (Int × (Int × (Int × Unit)))) × Unit)) =>
            .check (Option.some a3302) [(Value.pointer r3693.1)] <|
            .call (F_Tree_Run_Sum S (r3693.1, ())) [(Ty.agg [(B.int IntKind.i64), (B.int IntKind.i64), (B.int IntKind.i64), (B.int IntKind.i64)])] fun (r3698 : ((Int × (Int × (Int × (Int × Unit)))) × Unit)) =>
            .call (F_Runs_Add S (r3697.1.1, (r3697.1.2.1, (r3697.1.2.2.1, (r3697.1.2.2.2.1, ())))) (r3698.1.1, (r3698.1.2.1, (r3698.1.2.2.1, (r3698.1.2.2.2.1, ()))))) [(Ty.agg [(B.int IntKind.i64), (B.int IntKind.i64), (B.int IntKind.i64), (B.int IntKind.i64)])] fun (r3699 : ((Int × (Int × (Int × (Int × Unit)))) × Unit)) =>
            .store (Option.some a3694) [(Value.int IntKind.i64 r3699.1.1), (Value.int IntKind.i64 r3699.1.2.1), (Value.int IntKind.i64 r3699.1.2.2.1), (Value.int IntKind.i64 r3699.1.2.2.2.1)] <|
            .ret 0 [(Value.pointer (Option.some a3694))]) fun (k3700 : Nat) =>
          fun (vs3701 : (List Value)) =>
          ifB (eqN k3700 0)
            (.cast [(Ty.one B.ptr)] vs3701 fun (r3702 : ((Option Addr) × Unit)) =>
            .call (F_tree_Of_Run S l1882) [(Ty.agg [B.ptr])] fun (r3703 : (((Option Addr) × Unit) × Unit)) =>
            .alloc [(Value.pointer Option.none)] fun (a3704 : Addr) =>
            .store (Option.some a3704) [(Value.pointer r3703.1.1)] <|
            .bind
              (.load (Ty.agg [B.ptr]) (Option.some a1884) fun (r3730 : ((Option Addr) × Unit)) =>
              .call (F_Tree_Run_Size S (r3730.1, ())) [(Ty.one (B.int IntKind.i64))] fun (r3731 : (Int × Unit)) =>
              ifB (eqI r3731.1 (natI l1882.len))
                (.load (Ty.agg [(B.int IntKind.i64), (B.int IntKind.i64), (B.int IntKind.i64), (B.int IntKind.i64)]) r3702.1 fun (r3732 : (Int × (Int × (Int × (Int × Unit))))) =>
                .load (Ty.agg [B.ptr]) (Option.some a1884) fun (r3733 : ((Option Addr) × Unit)) =>
                .call (F_Tree_Run_Sum S (r3733.1, ())) [(Ty.agg [(B.int IntKind.i64), (B.int IntKind.i64), (B.int IntKind.i64), (B.int IntKind.i64)])] fun (r3734 : ((Int × (Int × (Int × (Int × Unit)))) × Unit)) =>
                .check r3702.1 [(Value.int IntKind.i64 r3732.1), (Value.int IntKind.i64 r3732.2.1), (Value.int IntKind.i64 r3732.2.2.1), (Value.int IntKind.i64 r3732.2.2.2.1)] <|
                ifB (andB (eqI r3732.1 r3734.1.1) (andB (eqI r3732.2.1 r3734.1.2.1) (andB (eqI r3732.2.2.1 r3734.1.2.2.1) (eqI r3732.2.2.2.1 r3734.1.2.2.2.1))))
                  (.load (Ty.agg [B.ptr]) r3299.1 fun (r3735 : ((Option Addr) × Unit)) =>
                  .load (Ty.agg [B.ptr]) (Option.some a1884) fun (r3736 : ((Option Addr) × Unit)) =>
                  .call (F_law4_same S (r3735.1, ()) (r3736.1, ())) [(Ty.one B.bool)] fun (r3737 : (Bool × Unit)) =>
                  ifB r3737.1
                    (.load (Ty.agg [B.ptr]) (Option.some a3704) fun (r3738 : ((Option Addr) × Unit)) =>
                    .load (Ty.agg [B.ptr]) (Option.some a1884) fun (r3739 : ((Option Addr) × Unit)) =>
                    .call (F_law4_same S (r3738.1, ()) (r3739.1, ())) [(Ty.one B.bool)] fun (r3740 : (Bool × Unit)) =>
                    ifB r3740.1
                      (.load (Ty.agg [B.ptr]) (Option.some a2826) fun (r3741 : ((Option Addr) × Unit)) =>
                      .call (F_Tree_Run_Size S (r3741.1, ())) [(Ty.one (B.int IntKind.i64))] fun (r3742 : (Int × Unit)) =>
                      ifB (eqI r3742.1 (addI IntKind.i64 (subI IntKind.i64 (natI l1882.len) (subI IntKind.i64 r2823.2.1 r2823.1)) (natI other.len)))
                        (.load (Ty.agg [B.ptr]) (Option.some a2826) fun (r3743 : ((Option Addr) × Unit)) =>
                        .load (Ty.agg [B.ptr]) (Option.some a1884) fun (r3744 : ((Option Addr) × Unit)) =>
                        .load (Ty.agg [B.ptr]) (Option.some a3302) fun (r3745 : ((Option Addr) × Unit)) =>
                        .call (F_Tree_Run_Sum S (r3743.1, ())) [(Ty.agg [(B.int IntKind.i64), (B.int IntKind.i64), (B.int IntKind.i64), (B.int IntKind.i64)])] fun (r3746 : ((Int × (Int × (Int × (Int × Unit)))) × Unit)) =>
                        .check (Option.some a3302) [(Value.pointer r3745.1)] <|
                        .check (Option.some a1884) [(Value.pointer r3744.1)] <|
                        .call (F_Tree_Run_Upto S (r3744.1, ()) r2823.1) [(Ty.agg [(B.int IntKind.i64), (B.int IntKind.i64), (B.int IntKind.i64), (B.int IntKind.i64)])] fun (r3747 : ((Int × (Int × (Int × (Int × Unit)))) × Unit)) =>
                        .check (Option.some a3302) [(Value.pointer r3745.1)] <|
                        .call (F_law4_added S other) [(Ty.agg [(B.int IntKind.i64), (B.int IntKind.i64), (B.int IntKind.i64), (B.int IntKind.i64)])] fun (r3748 : ((Int × (Int × (Int × (Int × Unit)))) × Unit)) =>
                        .check (Option.some a3302) [(Value.pointer r3745.1)] <|
                        .call (F_Runs_Add S (r3747.1.1, (r3747.1.2.1, (r3747.1.2.2.1, (r3747.1.2.2.2.1, ())))) (r3748.1.1, (r3748.1.2.1, (r3748.1.2.2.1, (r3748.1.2.2.2.1, ()))))) [(Ty.agg [(B.int IntKind.i64), (B.int IntKind.i64), (B.int IntKind.i64), (B.int IntKind.i64)])] fun (r3749 : ((Int × (Int × (Int × (Int × Unit)))) × Unit)) =>
                        .check (Option.some a3302) [(Value.pointer r3745.1)] <|
                        .call (F_Tree_Run_Sum S (r3745.1, ())) [(Ty.agg [(B.int IntKind.i64), (B.int IntKind.i64), (B.int IntKind.i64), (B.int IntKind.i64)])] fun (r3750 : ((Int × (Int × (Int × (Int × Unit)))) × Unit)) =>
                        .call (F_Runs_Add S (r3749.1.1, (r3749.1.2.1, (r3749.1.2.2.1, (r3749.1.2.2.2.1, ())))) (r3750.1.1, (r3750.1.2.1, (r3750.1.2.2.1, (r3750.1.2.2.2.1, ()))))) [(Ty.agg [(B.int IntKind.i64), (B.int IntKind.i64), (B.int IntKind.i64), (B.int IntKind.i64)])] fun (r3751 : ((Int × (Int × (Int × (Int × Unit)))) × Unit)) =>
                        .ret 0 [(Value.bool (andB (eqI r3746.1.1 r3751.1.1) (andB (eqI r3746.1.2.1 r3751.1.2.1) (andB (eqI r3746.1.2.2.1 r3751.1.2.2.1) (eqI r3746.1.2.2.2.1 r3751.1.2.2.2.1)))))]) <|
                      .ret 0 [(Value.bool Bool.false)]) <|
                    .ret 0 [(Value.bool Bool.false)]) <|
                  .ret 0 [(Value.bool Bool.false)]) <|
                .ret 0 [(Value.bool Bool.false)]) <|
              .ret 0 [(Value.bool Bool.false)]) fun (k3752 : Nat) =>
            fun (vs3753 : (List Value)) =>
            ifB (eqN k3752 0)
              (.cast [(Ty.one B.bool)] vs3753 fun (r3754 : (Bool × Unit)) =>
              .ret 0 [(Value.bool r3754.1)]) <|
            .fail) <|
          .fail) <|
        .fail) <|
      .fail) <|
    .fail) <|
  .fail
def F_node_Word_count (S : Ids) (n : (Option Addr)) : Prog :=
  ifB (noneB n)
    (.ret 0 [(Value.int IntKind.i64 0)]) <|
  grd (someB n) <|
  grd (someB n) <|
  .load (Ty.one (B.int IntKind.i64)) (shiftTo n 3) fun (n1 : Int) =>
  .ret 0 [(Value.int IntKind.i64 n1)]
def F_node_Word_tall (S : Ids) (n : (Option Addr)) : Prog :=
  ifB (noneB n)
    (.ret 0 [(Value.int IntKind.i64 0)]) <|
  grd (someB n) <|
  grd (someB n) <|
  .load (Ty.one (B.int IntKind.i64)) (shiftTo n 4) fun (n1 : Int) =>
  .ret 0 [(Value.int IntKind.i64 n1)]
def F_Word_Measure (S : Ids) (w : (ByteArray × Unit)) : Prog :=
  .alloc [(Value.string w.1)] fun (a1 : Addr) =>
  .alloc [(Value.string (ByteArray.mk #[])), (Value.int IntKind.i64 0)] fun (a2 : Addr) =>
  .load (Ty.one B.str) (shiftTo (Option.some a1) 0) fun (s3 : ByteArray) =>
  .store (Option.some a2) [(Value.string s3), (Value.int IntKind.i64 1)] <|
  .load (Ty.agg [B.str, (B.int IntKind.i64)]) (Option.some a2) fun (r4 : (ByteArray × (Int × Unit))) =>
  .ret 0 [(Value.agg (#[(Value.string r4.1), (Value.int IntKind.i64 r4.2.1)]))]
def F_Words_Add (S : Ids) (s : (ByteArray × Int × Unit)) (o : (ByteArray × Int × Unit)) : Prog :=
  .alloc [(Value.string s.1), (Value.int IntKind.i64 s.2.1)] fun (a1 : Addr) =>
  .alloc [(Value.string o.1), (Value.int IntKind.i64 o.2.1)] fun (a2 : Addr) =>
  .alloc [(Value.string (ByteArray.mk #[])), (Value.int IntKind.i64 0)] fun (a3 : Addr) =>
  .load (Ty.one B.str) (shiftTo (Option.some a1) 0) fun (s4 : ByteArray) =>
  .load (Ty.one B.str) (shiftTo (Option.some a2) 0) fun (s5 : ByteArray) =>
  grd (catOk s4 s5) <|
  .load (Ty.one (B.int IntKind.i64)) (shiftTo (Option.some a1) 1) fun (n6 : Int) =>
  .load (Ty.one (B.int IntKind.i64)) (shiftTo (Option.some a2) 1) fun (n7 : Int) =>
  .store (Option.some a3) [(Value.string (catS s4 s5)), (Value.int IntKind.i64 (addI IntKind.i64 n6 n7))] <|
  .load (Ty.agg [B.str, (B.int IntKind.i64)]) (Option.some a3) fun (r8 : (ByteArray × (Int × Unit))) =>
  .ret 0 [(Value.agg (#[(Value.string r8.1), (Value.int IntKind.i64 r8.2.1)]))]
def F_tree_of_Word (S : Ids) (l : (Option Addr)) (x : (ByteArray × Unit)) (r : (Option Addr)) : Prog :=
  .alloc [(Value.string x.1)] fun (a1 : Addr) =>
  .load (Ty.agg [B.str]) (Option.some a1) fun (r2 : (ByteArray × Unit)) =>
  .call (F_node_Word_count S l) [(Ty.one (B.int IntKind.i64))] fun (r3 : (Int × Unit)) =>
  .check (Option.some a1) [(Value.string r2.1)] <|
  .call (F_node_Word_count S r) [(Ty.one (B.int IntKind.i64))] fun (r4 : (Int × Unit)) =>
  .check (Option.some a1) [(Value.string r2.1)] <|
  .call (F_node_Word_tall S l) [(Ty.one (B.int IntKind.i64))] fun (r5 : (Int × Unit)) =>
  .check (Option.some a1) [(Value.string r2.1)] <|
  .call (F_node_Word_tall S r) [(Ty.one (B.int IntKind.i64))] fun (r6 : (Int × Unit)) =>
  .check (Option.some a1) [(Value.string r2.1)] <|
  .alloc [(Value.pointer l), (Value.pointer r), (Value.string r2.1), (Value.int IntKind.i64 (addI IntKind.i64 (addI IntKind.i64 r3.1 1) r4.1)), (Value.int IntKind.i64 (addI IntKind.i64 (maxI r5.1 r6.1) 1)), (Value.string (ByteArray.mk #[])), (Value.int IntKind.i64 0)] fun (a7 : Addr) =>
  .load (Ty.agg [B.str]) (Option.some a1) fun (r8 : (ByteArray × Unit)) =>
  .call (F_Word_Measure S (r8.1, ())) [(Ty.agg [B.str, (B.int IntKind.i64)])] fun (r9 : ((ByteArray × (Int × Unit)) × Unit)) =>
  .store (shiftTo (Option.some a7) 5) [(Value.string r9.1.1), (Value.int IntKind.i64 r9.1.2.1)] <|
  .bind
    (ifB (notB (noneB l))
      (grd (someB l) <|
      grd (someB l) <|
      .load (Ty.agg [B.str, (B.int IntKind.i64)]) (shiftTo l 5) fun (r28 : (ByteArray × (Int × Unit))) =>
      .load (Ty.agg [B.str, (B.int IntKind.i64)]) (shiftTo (Option.some a7) 5) fun (r29 : (ByteArray × (Int × Unit))) =>
      .call (F_Words_Add S (r28.1, (r28.2.1, ())) (r29.1, (r29.2.1, ()))) [(Ty.agg [B.str, (B.int IntKind.i64)])] fun (r30 : ((ByteArray × (Int × Unit)) × Unit)) =>
      .store (shiftTo (Option.some a7) 5) [(Value.string r30.1.1), (Value.int IntKind.i64 r30.1.2.1)] <|
      .ret 0 []) <|
    .ret 0 []) fun (k31 : Nat) =>
  fun (vs32 : (List Value)) =>
  ifB (eqN k31 0)
    (.cast [] vs32 fun (u33 : Unit) =>
    .bind
      (ifB (notB (noneB r))
        (.load (Ty.agg [B.str, (B.int IntKind.i64)]) (shiftTo (Option.some a7) 5) fun (r40 : (ByteArray × (Int × Unit))) =>
        grd (someB r) <|
        grd (someB r) <|
        .load (Ty.agg [B.str, (B.int IntKind.i64)]) (shiftTo r 5) fun (r41 : (ByteArray × (Int × Unit))) =>
        .call (F_Words_Add S (r40.1, (r40.2.1, ())) (r41.1, (r41.2.1, ()))) [(Ty.agg [B.str, (B.int IntKind.i64)])] fun (r42 : ((ByteArray × (Int × Unit)) × Unit)) =>
        .store (shiftTo (Option.some a7) 5) [(Value.string r42.1.1), (Value.int IntKind.i64 r42.1.2.1)] <|
        .ret 0 []) <|
      .ret 0 []) fun (k43 : Nat) =>
    fun (vs44 : (List Value)) =>
    ifB (eqN k43 0)
      (.cast [] vs44 fun (u45 : Unit) =>
      .ret 0 [(Value.pointer (Option.some a7))]) <|
    .fail) <|
  .fail
def R_tree_build_Word (fuelN : Nat) (S : Ids) (items : Sl) : Prog :=
  match fuelN with
  | 0 => .fail
  | fuelN + 1 =>
  ifB (eqI (natI items.len) 0)
    (.ret 0 [(Value.pointer Option.none)]) <|
  grd (notB Bool.false) <|
  grd (leB (quoI IntKind.i64 (natI items.len) 2) items.cap) <|
  grd (andB (someB items.base) (inB (quoI IntKind.i64 (natI items.len) 2) items.len)) <|
  .load (Ty.agg [B.str]) (shiftTo items.base (mulN (toN (quoI IntKind.i64 (natI items.len) 2)) 1)) fun (r1 : (ByteArray × Unit)) =>
  grd (leB (addI IntKind.i64 (quoI IntKind.i64 (natI items.len) 2) 1) items.len) <|
  .call (R_tree_build_Word fuelN S (⟨(cutBase items.base items.cap 0 1), (subN (toN (quoI IntKind.i64 (natI items.len) 2)) 0), (subN items.cap 0)⟩)) [(Ty.one B.ptr)] fun (r2 : ((Option Addr) × Unit)) =>
  .check (shiftTo items.base (mulN (toN (quoI IntKind.i64 (natI items.len) 2)) 1)) [(Value.string r1.1)] <|
  .call (R_tree_build_Word fuelN S (⟨(cutBase items.base items.cap (toN (addI IntKind.i64 (quoI IntKind.i64 (natI items.len) 2) 1)) 1), (subN items.len (toN (addI IntKind.i64 (quoI IntKind.i64 (natI items.len) 2) 1))), (subN items.cap (toN (addI IntKind.i64 (quoI IntKind.i64 (natI items.len) 2) 1)))⟩)) [(Ty.one B.ptr)] fun (r3 : ((Option Addr) × Unit)) =>
  .check (shiftTo items.base (mulN (toN (quoI IntKind.i64 (natI items.len) 2)) 1)) [(Value.string r1.1)] <|
  .call (F_tree_of_Word S r2.1 (r1.1, ()) r3.1) [(Ty.one B.ptr)] fun (r4 : ((Option Addr) × Unit)) =>
  .ret 0 [(Value.pointer r4.1)]
def F_tree_build_Word (S : Ids) (items : Sl) : Prog := .ex fun fuelN => R_tree_build_Word fuelN S items
def F_tree_Of_Word (S : Ids) (items : Sl) : Prog :=
  .alloc [(Value.pointer Option.none)] fun (a1 : Addr) =>
  .call (F_tree_build_Word S items) [(Ty.one B.ptr)] fun (r2 : ((Option Addr) × Unit)) =>
  .store (Option.some a1) [(Value.pointer r2.1)] <|
  .load (Ty.agg [B.ptr]) (Option.some a1) fun (r3 : ((Option Addr) × Unit)) =>
  .ret 0 [(Value.agg (#[(Value.pointer r3.1)]))]
def F_Tree_Word_Size (S : Ids) (t : ((Option Addr) × Unit)) : Prog :=
  .alloc [(Value.pointer t.1)] fun (a1 : Addr) =>
  .load (Ty.one B.ptr) (shiftTo (Option.some a1) 0) fun (p2 : (Option Addr)) =>
  .call (F_node_Word_count S p2) [(Ty.one (B.int IntKind.i64))] fun (r3 : (Int × Unit)) =>
  .ret 0 [(Value.int IntKind.i64 r3.1)]
def F_tree_even_Word (S : Ids) (l : (Option Addr)) (x : (ByteArray × Unit)) (r : (Option Addr)) : Prog :=
  .alloc [(Value.string x.1)] fun (a1 : Addr) =>
  .call (F_node_Word_tall S l) [(Ty.one (B.int IntKind.i64))] fun (r2 : (Int × Unit)) =>
  .call (F_node_Word_tall S r) [(Ty.one (B.int IntKind.i64))] fun (r3 : (Int × Unit)) =>
  ifB (gtI r2.1 (addI IntKind.i64 r3.1 1))
    (grd (someB l) <|
    grd (someB l) <|
    .load (Ty.one B.ptr) (shiftTo l 0) fun (p4 : (Option Addr)) =>
    grd (someB l) <|
    grd (someB l) <|
    .load (Ty.one B.ptr) (shiftTo l 1) fun (p5 : (Option Addr)) =>
    .call (F_node_Word_tall S p4) [(Ty.one (B.int IntKind.i64))] fun (r6 : (Int × Unit)) =>
    .check (shiftTo l 1) [(Value.pointer p5)] <|
    .call (F_node_Word_tall S p5) [(Ty.one (B.int IntKind.i64))] fun (r7 : (Int × Unit)) =>
    ifB (geI r6.1 r7.1)
      (grd (someB l) <|
      grd (someB l) <|
      .load (Ty.one B.ptr) (shiftTo l 0) fun (p8 : (Option Addr)) =>
      grd (someB l) <|
      grd (someB l) <|
      .load (Ty.agg [B.str]) (shiftTo l 2) fun (r9 : (ByteArray × Unit)) =>
      grd (someB l) <|
      grd (someB l) <|
      .load (Ty.one B.ptr) (shiftTo l 1) fun (p10 : (Option Addr)) =>
      .load (Ty.agg [B.str]) (Option.some a1) fun (r11 : (ByteArray × Unit)) =>
      .call (F_tree_of_Word S p10 (r11.1, ()) r) [(Ty.one B.ptr)] fun (r12 : ((Option Addr) × Unit)) =>
      .check (shiftTo l 2) [(Value.string r9.1)] <|
      .check (shiftTo l 0) [(Value.pointer p8)] <|
      .call (F_tree_of_Word S p8 (r9.1, ()) r12.1) [(Ty.one B.ptr)] fun (r13 : ((Option Addr) × Unit)) =>
      .ret 0 [(Value.pointer r13.1)]) <|
    grd (someB l) <|
    grd (someB l) <|
    .load (Ty.one B.ptr) (shiftTo l 1) fun (p14 : (Option Addr)) =>
    grd (someB l) <|
    grd (someB l) <|
    .load (Ty.one B.ptr) (shiftTo l 0) fun (p15 : (Option Addr)) =>
    grd (someB l) <|
    grd (someB l) <|
    .load (Ty.agg [B.str]) (shiftTo l 2) fun (r16 : (ByteArray × Unit)) =>
    grd (someB p14) <|
    grd (someB p14) <|
    .load (Ty.one B.ptr) (shiftTo p14 0) fun (p17 : (Option Addr)) =>
    grd (someB p14) <|
    grd (someB p14) <|
    .load (Ty.agg [B.str]) (shiftTo p14 2) fun (r18 : (ByteArray × Unit)) =>
    grd (someB p14) <|
    grd (someB p14) <|
    .load (Ty.one B.ptr) (shiftTo p14 1) fun (p19 : (Option Addr)) =>
    .load (Ty.agg [B.str]) (Option.some a1) fun (r20 : (ByteArray × Unit)) =>
    .call (F_tree_of_Word S p15 (r16.1, ()) p17) [(Ty.one B.ptr)] fun (r21 : ((Option Addr) × Unit)) =>
    .check (Option.some a1) [(Value.string r20.1)] <|
    .check (shiftTo p14 1) [(Value.pointer p19)] <|
    .check (shiftTo p14 2) [(Value.string r18.1)] <|
    .call (F_tree_of_Word S p19 (r20.1, ()) r) [(Ty.one B.ptr)] fun (r22 : ((Option Addr) × Unit)) =>
    .check (shiftTo p14 2) [(Value.string r18.1)] <|
    .call (F_tree_of_Word S r21.1 (r18.1, ()) r22.1) [(Ty.one B.ptr)] fun (r23 : ((Option Addr) × Unit)) =>
    .ret 0 [(Value.pointer r23.1)]) <|
  .call (F_node_Word_tall S r) [(Ty.one (B.int IntKind.i64))] fun (r24 : (Int × Unit)) =>
  .call (F_node_Word_tall S l) [(Ty.one (B.int IntKind.i64))] fun (r25 : (Int × Unit)) =>
  ifB (gtI r24.1 (addI IntKind.i64 r25.1 1))
    (grd (someB r) <|
    grd (someB r) <|
    .load (Ty.one B.ptr) (shiftTo r 1) fun (p26 : (Option Addr)) =>
    grd (someB r) <|
    grd (someB r) <|
    .load (Ty.one B.ptr) (shiftTo r 0) fun (p27 : (Option Addr)) =>
    .call (F_node_Word_tall S p26) [(Ty.one (B.int IntKind.i64))] fun (r28 : (Int × Unit)) =>
    .check (shiftTo r 0) [(Value.pointer p27)] <|
    .call (F_node_Word_tall S p27) [(Ty.one (B.int IntKind.i64))] fun (r29 : (Int × Unit)) =>
    ifB (geI r28.1 r29.1)
      (.load (Ty.agg [B.str]) (Option.some a1) fun (r30 : (ByteArray × Unit)) =>
      grd (someB r) <|
      grd (someB r) <|
      .load (Ty.one B.ptr) (shiftTo r 0) fun (p31 : (Option Addr)) =>
      grd (someB r) <|
      grd (someB r) <|
      .load (Ty.agg [B.str]) (shiftTo r 2) fun (r32 : (ByteArray × Unit)) =>
      grd (someB r) <|
      grd (someB r) <|
      .load (Ty.one B.ptr) (shiftTo r 1) fun (p33 : (Option Addr)) =>
      .call (F_tree_of_Word S l (r30.1, ()) p31) [(Ty.one B.ptr)] fun (r34 : ((Option Addr) × Unit)) =>
      .check (shiftTo r 1) [(Value.pointer p33)] <|
      .check (shiftTo r 2) [(Value.string r32.1)] <|
      .call (F_tree_of_Word S r34.1 (r32.1, ()) p33) [(Ty.one B.ptr)] fun (r35 : ((Option Addr) × Unit)) =>
      .ret 0 [(Value.pointer r35.1)]) <|
    grd (someB r) <|
    grd (someB r) <|
    .load (Ty.one B.ptr) (shiftTo r 0) fun (p36 : (Option Addr)) =>
    .load (Ty.agg [B.str]) (Option.some a1) fun (r37 : (ByteArray × Unit)) =>
    grd (someB p36) <|
    grd (someB p36) <|
    .load (Ty.one B.ptr) (shiftTo p36 0) fun (p38 : (Option Addr)) =>
    grd (someB p36) <|
    grd (someB p36) <|
    .load (Ty.agg [B.str]) (shiftTo p36 2) fun (r39 : (ByteArray × Unit)) =>
    grd (someB p36) <|
    grd (someB p36) <|
    .load (Ty.one B.ptr) (shiftTo p36 1) fun (p40 : (Option Addr)) =>
    grd (someB r) <|
    grd (someB r) <|
    .load (Ty.agg [B.str]) (shiftTo r 2) fun (r41 : (ByteArray × Unit)) =>
    grd (someB r) <|
    grd (someB r) <|
    .load (Ty.one B.ptr) (shiftTo r 1) fun (p42 : (Option Addr)) =>
    .call (F_tree_of_Word S l (r37.1, ()) p38) [(Ty.one B.ptr)] fun (r43 : ((Option Addr) × Unit)) =>
    .check (shiftTo r 1) [(Value.pointer p42)] <|
    .check (shiftTo r 2) [(Value.string r41.1)] <|
    .check (shiftTo p36 1) [(Value.pointer p40)] <|
    .check (shiftTo p36 2) [(Value.string r39.1)] <|
    .call (F_tree_of_Word S p40 (r41.1, ()) p42) [(Ty.one B.ptr)] fun (r44 : ((Option Addr) × Unit)) =>
    .check (shiftTo p36 2) [(Value.string r39.1)] <|
    .call (F_tree_of_Word S r43.1 (r39.1, ()) r44.1) [(Ty.one B.ptr)] fun (r45 : ((Option Addr) × Unit)) =>
    .ret 0 [(Value.pointer r45.1)]) <|
  .load (Ty.agg [B.str]) (Option.some a1) fun (r46 : (ByteArray × Unit)) =>
  .call (F_tree_of_Word S l (r46.1, ()) r) [(Ty.one B.ptr)] fun (r47 : ((Option Addr) × Unit)) =>
  .ret 0 [(Value.pointer r47.1)]
def R_tree_join_Word (fuelN : Nat) (S : Ids) (l : (Option Addr)) (x : (ByteArray × Unit)) (r : (Option Addr)) : Prog :=
  match fuelN with
  | 0 => .fail
  | fuelN + 1 =>
  .alloc [(Value.string x.1)] fun (a1 : Addr) =>
  .call (F_node_Word_tall S l) [(Ty.one (B.int IntKind.i64))] fun (r2 : (Int × Unit)) =>
  .call (F_node_Word_tall S r) [(Ty.one (B.int IntKind.i64))] fun (r3 : (Int × Unit)) =>
  ifB (gtI r2.1 (addI IntKind.i64 r3.1 1))
    (grd (someB l) <|
    grd (someB l) <|
    .load (Ty.one B.ptr) (shiftTo l 0) fun (p4 : (Option Addr)) =>
    grd (someB l) <|
    grd (someB l) <|
    .load (Ty.agg [B.str]) (shiftTo l 2) fun (r5 : (ByteArray × Unit)) =>
    grd (someB l) <|
    grd (someB l) <|
    .load (Ty.one B.ptr) (shiftTo l 1) fun (p6 : (Option Addr)) =>
    .load (Ty.agg [B.str]) (Option.some a1) fun (r7 : (ByteArray × Unit)) =>
    .call (R_tree_join_Word fuelN S p6 (r7.1, ()) r) [(Ty.one B.ptr)] fun (r8 : ((Option Addr) × Unit)) =>
    .check (shiftTo l 2) [(Value.string r5.1)] <|
    .check (shiftTo l 0) [(Value.pointer p4)] <|
    .call (F_tree_even_Word S p4 (r5.1, ()) r8.1) [(Ty.one B.ptr)] fun (r9 : ((Option Addr) × Unit)) =>
    .ret 0 [(Value.pointer r9.1)]) <|
  .call (F_node_Word_tall S r) [(Ty.one (B.int IntKind.i64))] fun (r10 : (Int × Unit)) =>
  .call (F_node_Word_tall S l) [(Ty.one (B.int IntKind.i64))] fun (r11 : (Int × Unit)) =>
  ifB (gtI r10.1 (addI IntKind.i64 r11.1 1))
    (.load (Ty.agg [B.str]) (Option.some a1) fun (r12 : (ByteArray × Unit)) =>
    grd (someB r) <|
    grd (someB r) <|
    .load (Ty.one B.ptr) (shiftTo r 0) fun (p13 : (Option Addr)) =>
    grd (someB r) <|
    grd (someB r) <|
    .load (Ty.agg [B.str]) (shiftTo r 2) fun (r14 : (ByteArray × Unit)) =>
    grd (someB r) <|
    grd (someB r) <|
    .load (Ty.one B.ptr) (shiftTo r 1) fun (p15 : (Option Addr)) =>
    .call (R_tree_join_Word fuelN S l (r12.1, ()) p13) [(Ty.one B.ptr)] fun (r16 : ((Option Addr) × Unit)) =>
    .check (shiftTo r 1) [(Value.pointer p15)] <|
    .check (shiftTo r 2) [(Value.string r14.1)] <|
    .call (F_tree_even_Word S r16.1 (r14.1, ()) p15) [(Ty.one B.ptr)] fun (r17 : ((Option Addr) × Unit)) =>
    .ret 0 [(Value.pointer r17.1)]) <|
  .load (Ty.agg [B.str]) (Option.some a1) fun (r18 : (ByteArray × Unit)) =>
  .call (F_tree_of_Word S l (r18.1, ()) r) [(Ty.one B.ptr)] fun (r19 : ((Option Addr) × Unit)) =>
  .ret 0 [(Value.pointer r19.1)]
def F_tree_join_Word (S : Ids) (l : (Option Addr)) (x : (ByteArray × Unit)) (r : (Option Addr)) : Prog := .ex fun fuelN => R_tree_join_Word fuelN S l x r
def R_node_Word_cut (fuelN : Nat) (S : Ids) (n : (Option Addr)) (i : Int) : Prog :=
  match fuelN with
  | 0 => .fail
  | fuelN + 1 =>
  ifB (noneB n)
    (.ret 0 [(Value.pointer Option.none), (Value.pointer Option.none)]) <|
  grd (someB n) <|
  grd (someB n) <|
  .load (Ty.one B.ptr) (shiftTo n 0) fun (p1 : (Option Addr)) =>
  .call (F_node_Word_count S p1) [(Ty.one (B.int IntKind.i64))] fun (r2 : (Int × Unit)) =>
  ifB (leI i r2.1)
    (grd (someB n) <|
    grd (someB n) <|
    .load (Ty.one B.ptr) (shiftTo n 0) fun (p3 : (Option Addr)) =>
    .call (R_node_Word_cut fuelN S p3 i) [(Ty.one B.ptr), (Ty.one B.ptr)] fun (r4 : ((Option Addr) × ((Option Addr) × Unit))) =>
    grd (someB n) <|
    grd (someB n) <|
    .load (Ty.agg [B.str]) (shiftTo n 2) fun (r5 : (ByteArray × Unit)) =>
    grd (someB n) <|
    grd (someB n) <|
    .load (Ty.one B.ptr) (shiftTo n 1) fun (p6 : (Option Addr)) =>
    .call (F_tree_join_Word S r4.2.1 (r5.1, ()) p6) [(Ty.one B.ptr)] fun (r7 : ((Option Addr) × Unit)) =>
    .ret 0 [(Value.pointer r4.1), (Value.pointer r7.1)]) <|
  grd (someB n) <|
  grd (someB n) <|
  .load (Ty.one B.ptr) (shiftTo n 1) fun (p8 : (Option Addr)) =>
  .call (R_node_Word_cut fuelN S p8 (subI IntKind.i64 (subI IntKind.i64 i r2.1) 1)) [(Ty.one B.ptr), (Ty.one B.ptr)] fun (r9 : ((Option Addr) × ((Option Addr) × Unit))) =>
  grd (someB n) <|
  grd (someB n) <|
  .load (Ty.one B.ptr) (shiftTo n 0) fun (p10 : (Option Addr)) =>
  grd (someB n) <|
  grd (someB n) <|
  .load (Ty.agg [B.str]) (shiftTo n 2) fun (r11 : (ByteArray × Unit)) =>
  .call (F_tree_join_Word S p10 (r11.1, ()) r9.1) [(Ty.one B.ptr)] fun (r12 : ((Option Addr) × Unit)) =>
  .ret 0 [(Value.pointer r12.1), (Value.pointer r9.2.1)]
def F_node_Word_cut (S : Ids) (n : (Option Addr)) (i : Int) : Prog := .ex fun fuelN => R_node_Word_cut fuelN S n i
def R_node_Word_first (fuelN : Nat) (S : Ids) (n : (Option Addr)) : Prog :=
  match fuelN with
  | 0 => .fail
  | fuelN + 1 =>
  .alloc [(Value.string (ByteArray.mk #[]))] fun (a1 : Addr) =>
  grd (someB n) <|
  grd (someB n) <|
  .load (Ty.one B.ptr) (shiftTo n 0) fun (p2 : (Option Addr)) =>
  ifB (noneB p2)
    (grd (someB n) <|
    grd (someB n) <|
    .load (Ty.agg [B.str]) (shiftTo n 2) fun (r3 : (ByteArray × Unit)) =>
    grd (someB n) <|
    grd (someB n) <|
    .load (Ty.one B.ptr) (shiftTo n 1) fun (p4 : (Option Addr)) =>
    .store (Option.some a1) [(Value.string r3.1)] <|
    .check (shiftTo n 1) [(Value.pointer p4)] <|
    .load (Ty.agg [B.str]) (Option.some a1) fun (r5 : (ByteArray × Unit)) =>
    .ret 0 [(Value.agg (#[(Value.string r5.1)])), (Value.pointer p4)]) <|
  grd (someB n) <|
  grd (someB n) <|
  .load (Ty.one B.ptr) (shiftTo n 0) fun (p6 : (Option Addr)) =>
  .call (R_node_Word_first fuelN S p6) [(Ty.agg [B.str]), (Ty.one B.ptr)] fun (r7 : ((ByteArray × Unit) × ((Option Addr) × Unit))) =>
  .alloc [(Value.string (ByteArray.mk #[]))] fun (a8 : Addr) =>
  .store (Option.some a8) [(Value.string r7.1.1)] <|
  .load (Ty.agg [B.str]) (Option.some a8) fun (r9 : (ByteArray × Unit)) =>
  grd (someB n) <|
  grd (someB n) <|
  .load (Ty.agg [B.str]) (shiftTo n 2) fun (r10 : (ByteArray × Unit)) =>
  grd (someB n) <|
  grd (someB n) <|
  .load (Ty.one B.ptr) (shiftTo n 1) fun (p11 : (Option Addr)) =>
  .call (F_tree_even_Word S r7.2.1 (r10.1, ()) p11) [(Ty.one B.ptr)] fun (r12 : ((Option Addr) × Unit)) =>
  .check (Option.some a8) [(Value.string r9.1)] <|
  .store (Option.some a1) [(Value.string r9.1)] <|
  .load (Ty.agg [B.str]) (Option.some a1) fun (r13 : (ByteArray × Unit)) =>
  .ret 0 [(Value.agg (#[(Value.string r13.1)])), (Value.pointer r12.1)]
def F_node_Word_first (S : Ids) (n : (Option Addr)) : Prog := .ex fun fuelN => R_node_Word_first fuelN S n
def F_tree_both_Word (S : Ids) (l : (Option Addr)) (r : (Option Addr)) : Prog :=
  ifB (noneB r)
    (.ret 0 [(Value.pointer l)]) <|
  .call (F_node_Word_first S r) [(Ty.agg [B.str]), (Ty.one B.ptr)] fun (r1 : ((ByteArray × Unit) × ((Option Addr) × Unit))) =>
  .alloc [(Value.string (ByteArray.mk #[]))] fun (a2 : Addr) =>
  .store (Option.some a2) [(Value.string r1.1.1)] <|
  .load (Ty.agg [B.str]) (Option.some a2) fun (r3 : (ByteArray × Unit)) =>
  .call (F_tree_join_Word S l (r3.1, ()) r1.2.1) [(Ty.one B.ptr)] fun (r4 : ((Option Addr) × Unit)) =>
  .ret 0 [(Value.pointer r4.1)]
def F_Tree_Word_Replace (S : Ids) (t : ((Option Addr) × Unit)) (from_ : Int) (to : Int) (items : Sl) : Prog :=
  .alloc [(Value.pointer t.1)] fun (a1 : Addr) =>
  .alloc [(Value.pointer Option.none)] fun (a2 : Addr) =>
  .bind
    (ifB (ltI from_ 0)
      (.ret 0 [(Value.bool Bool.true)]) <|
    ifB (gtI from_ to)
      (.ret 0 [(Value.bool Bool.true)]) <|
    .load (Ty.agg [B.ptr]) (Option.some a1) fun (r17 : ((Option Addr) × Unit)) =>
    .call (F_Tree_Word_Size S (r17.1, ())) [(Ty.one (B.int IntKind.i64))] fun (r18 : (Int × Unit)) =>
    .ret 0 [(Value.bool (gtI to r18.1))]) fun (k19 : Nat) =>
  fun (vs20 : (List Value)) =>
  ifB (eqN k19 0)
    (.cast [(Ty.one B.bool)] vs20 fun (r21 : (Bool × Unit)) =>
    ifB r21.1
      (.store (Option.some a2) [(Value.pointer Option.none)] <|
      .load (Ty.agg [B.ptr]) (Option.some a2) fun (r22 : ((Option Addr) × Unit)) =>
      .ret 0 [(Value.agg (#[(Value.pointer r22.1)])), (Value.int IntKind.i64 1)]) <|
    .load (Ty.one B.ptr) (shiftTo (Option.some a1) 0) fun (p23 : (Option Addr)) =>
    .call (F_node_Word_cut S p23 from_) [(Ty.one B.ptr), (Ty.one B.ptr)] fun (r24 : ((Option Addr) × ((Option Addr) × Unit))) =>
    .load (Ty.one B.ptr) (shiftTo (Option.some a1) 0) fun (p25 : (Option Addr)) =>
    .call (F_node_Word_cut S p25 to) [(Ty.one B.ptr), (Ty.one B.ptr)] fun (r26 : ((Option Addr) × ((Option Addr) × Unit))) =>
    .call (F_tree_build_Word S items) [(Ty.one B.ptr)] fun (r27 : ((Option Addr) × Unit)) =>
    .call (F_tree_both_Word S r24.1 r27.1) [(Ty.one B.ptr)] fun (r28 : ((Option Addr) × Unit)) =>
    .call (F_tree_both_Word S r28.1 r26.2.1) [(Ty.one B.ptr)] fun (r29 : ((Option Addr) × Unit)) =>
    .store (Option.some a2) [(Value.pointer r29.1)] <|
    .load (Ty.agg [B.ptr]) (Option.some a2) fun (r30 : ((Option Addr) × Unit)) =>
    .ret 0 [(Value.agg (#[(Value.pointer r30.1)])), (Value.int IntKind.i64 0)]) <|
  .fail
def F_Tree_Word_Upto (S : Ids) (t : ((Option Addr) × Unit)) (i : Int) : Prog :=
  .alloc [(Value.pointer t.1)] fun (a1 : Addr) =>
  .alloc [(Value.string (ByteArray.mk #[])), (Value.int IntKind.i64 0)] fun (a2 : Addr) =>
  .alloc [(Value.string (ByteArray.mk #[])), (Value.int IntKind.i64 0)] fun (a3 : Addr) =>
  .load (Ty.agg [B.ptr]) (Option.some a1) fun (r4 : ((Option Addr) × Unit)) =>
  .call (F_Tree_Word_Size S (r4.1, ())) [(Ty.one (B.int IntKind.i64))] fun (r5 : (Int × Unit)) =>
  .load (Ty.one B.ptr) (shiftTo (Option.some a1) 0) fun (p6 : (Option Addr)) =>
  .bind
    (.loop [(Ty.one (B.int IntKind.i64)), (Ty.one B.ptr)] ((minI i r5.1), (p6, ())) fun (r207 : (Int × ((Option Addr) × Unit))) =>
      .bind
        (ifB (notB (noneB r207.2.1))
          (.ret 0 [(Value.bool (gtI r207.1 0))]) <|
        .ret 0 [(Value.bool Bool.false)]) fun (k240 : Nat) =>
      fun (vs241 : (List Value)) =>
      ifB (eqN k240 0)
        (.cast [(Ty.one B.bool)] vs241 fun (r242 : (Bool × Unit)) =>
        ifB r242.1
          (grd (someB r207.2.1) <|
          grd (someB r207.2.1) <|
          .load (Ty.one B.ptr) (shiftTo r207.2.1 0) fun (p243 : (Option Addr)) =>
          .call (F_node_Word_count S p243) [(Ty.one (B.int IntKind.i64))] fun (r244 : (Int × Unit)) =>
          ifB (leI r207.1 r244.1)
            (grd (someB r207.2.1) <|
            grd (someB r207.2.1) <|
            .load (Ty.one B.ptr) (shiftTo r207.2.1 0) fun (p245 : (Option Addr)) =>
            .ret 0 [(Value.int IntKind.i64 r207.1), (Value.pointer p245)]) <|
          .bind
            (grd (someB r207.2.1) <|
            grd (someB r207.2.1) <|
            .load (Ty.one B.ptr) (shiftTo r207.2.1 0) fun (p259 : (Option Addr)) =>
            ifB (notB (noneB p259))
              (.load (Ty.agg [B.str, (B.int IntKind.i64)]) (Option.some a3) fun (r260 : (ByteArray × (Int × Unit))) =>
              grd (someB r207.2.1) <|
              grd (someB r207.2.1) <|
              .load (Ty.one B.ptr) (shiftTo r207.2.1 0) fun (p261 : (Option Addr)) =>
              grd (someB p261) <|
              grd (someB p261) <|
              .load (Ty.agg [B.str, (B.int IntKind.i64)]) (shiftTo p261 5) fun (r262 : (ByteArray × (Int × Unit))) =>
              .call (F_Words_Add S (r260.1, (r260.2.1, ())) (r262.1, (r262.2.1, ()))) [(Ty.agg [B.str, (B.int IntKind.i64)])] fun (r263 : ((ByteArray × (Int × Unit)) × Unit)) =>
              .store (Option.some a3) [(Value.string r263.1.1), (Value.int IntKind.i64 r263.1.2.1)] <|
              .ret 0 []) <|
            .ret 0 []) fun (k264 : Nat) =>
          fun (vs265 : (List Value)) =>
          ifB (eqN k264 0)
            (.cast [] vs265 fun (u266 : Unit) =>
            .load (Ty.agg [B.str, (B.int IntKind.i64)]) (Option.some a3) fun (r267 : (ByteArray × (Int × Unit))) =>
            grd (someB r207.2.1) <|
            grd (someB r207.2.1) <|
            .load (Ty.agg [B.str]) (shiftTo r207.2.1 2) fun (r268 : (ByteArray × Unit)) =>
            .call (F_Word_Measure S (r268.1, ())) [(Ty.agg [B.str, (B.int IntKind.i64)])] fun (r269 : ((ByteArray × (Int × Unit)) × Unit)) =>
            .check (Option.some a3) [(Value.string r267.1), (Value.int IntKind.i64 r267.2.1)] <|
            .call (F_Words_Add S (r267.1, (r267.2.1, ())) (r269.1.1, (r269.1.2.1, ()))) [(Ty.agg [B.str, (B.int IntKind.i64)])] fun (r270 : ((ByteArray × (Int × Unit)) × Unit)) =>
            .store (Option.some a3) [(Value.string r270.1.1), (Value.int IntKind.i64 r270.1.2.1)] <|
            grd (someB r207.2.1) <|
            grd (someB r207.2.1) <|
            .load (Ty.one B.ptr) (shiftTo r207.2.1 1) fun (p271 : (Option Addr)) =>
            .ret 0 [(Value.int IntKind.i64 (subI IntKind.i64 (subI IntKind.i64 r207.1 r244.1) 1)), (Value.pointer p271)]) <|
          .fail) <|
        .ret 2 []) <|
      .fail) fun (k272 : Nat) =>
  fun (vs273 : (List Value)) =>
  ifB (eqN k272 2)
    (.cast [] vs273 fun (u274 : Unit) =>
    .load (Ty.agg [B.str, (B.int IntKind.i64)]) (Option.some a3) fun (r275 : (ByteArray × (Int × Unit))) =>
    .store (Option.some a2) [(Value.string r275.1), (Value.int IntKind.i64 r275.2.1)] <|
    .load (Ty.agg [B.str, (B.int IntKind.i64)]) (Option.some a2) fun (r276 : (ByteArray × (Int × Unit))) =>
    .ret 0 [(Value.agg (#[(Value.string r276.1), (Value.int IntKind.i64 r276.2.1)]))]) <|
  .fail
def F_Tree_Word_At (S : Ids) (t : ((Option Addr) × Unit)) (i : Int) : Prog :=
  .alloc [(Value.pointer t.1)] fun (a1 : Addr) =>
  .alloc [(Value.string (ByteArray.mk #[]))] fun (a2 : Addr) =>
  .load (Ty.one B.ptr) (shiftTo (Option.some a1) 0) fun (p3 : (Option Addr)) =>
  .bind
    (.loop [(Ty.one (B.int IntKind.i64)), (Ty.one B.ptr)] (i, (p3, ())) fun (r63 : (Int × ((Option Addr) × Unit))) =>
      .bind
        (ifB (notB (noneB r63.2.1))
          (.ret 0 [(Value.bool (geI r63.1 0))]) <|
        .ret 0 [(Value.bool Bool.false)]) fun (k72 : Nat) =>
      fun (vs73 : (List Value)) =>
      ifB (eqN k72 0)
        (.cast [(Ty.one B.bool)] vs73 fun (r74 : (Bool × Unit)) =>
        ifB r74.1
          (grd (someB r63.2.1) <|
          grd (someB r63.2.1) <|
          .load (Ty.one B.ptr) (shiftTo r63.2.1 0) fun (p75 : (Option Addr)) =>
          .call (F_node_Word_count S p75) [(Ty.one (B.int IntKind.i64))] fun (r76 : (Int × Unit)) =>
          ifB (eqI r63.1 r76.1)
            (grd (someB r63.2.1) <|
            grd (someB r63.2.1) <|
            .load (Ty.agg [B.str]) (shiftTo r63.2.1 2) fun (r77 : (ByteArray × Unit)) =>
            .store (Option.some a2) [(Value.string r77.1)] <|
            .ret 1 [(Value.pointer (Option.some a2)), (Value.bool Bool.true)]) <|
          ifB (ltI r63.1 r76.1)
            (grd (someB r63.2.1) <|
            grd (someB r63.2.1) <|
            .load (Ty.one B.ptr) (shiftTo r63.2.1 0) fun (p78 : (Option Addr)) =>
            .ret 0 [(Value.int IntKind.i64 r63.1), (Value.pointer p78)]) <|
          grd (someB r63.2.1) <|
          grd (someB r63.2.1) <|
          .load (Ty.one B.ptr) (shiftTo r63.2.1 1) fun (p79 : (Option Addr)) =>
          .ret 0 [(Value.int IntKind.i64 (subI IntKind.i64 (subI IntKind.i64 r63.1 r76.1) 1)), (Value.pointer p79)]) <|
        .ret 2 []) <|
      .fail) fun (k80 : Nat) =>
  fun (vs81 : (List Value)) =>
  ifB (eqN k80 2)
    (.cast [] vs81 fun (u82 : Unit) =>
    .alloc [(Value.string (ByteArray.mk #[]))] fun (a83 : Addr) =>
    .load (Ty.agg [B.str]) (Option.some a83) fun (r84 : (ByteArray × Unit)) =>
    .store (Option.some a2) [(Value.string r84.1)] <|
    .load (Ty.agg [B.str]) (Option.some a2) fun (r85 : (ByteArray × Unit)) =>
    .ret 0 [(Value.agg (#[(Value.string r85.1)])), (Value.bool Bool.false)]) <|
  ifB (eqN k80 1)
    (.cast [(Ty.one B.ptr), (Ty.one B.bool)] vs81 fun (r86 : ((Option Addr) × (Bool × Unit))) =>
    .load (Ty.agg [B.str]) r86.1 fun (r87 : (ByteArray × Unit)) =>
    .ret 0 [(Value.agg (#[(Value.string r87.1)])), (Value.bool r86.2.1)]) <|
  .fail
def F_Words_Key (S : Ids) (s : (ByteArray × Int × Unit)) (k : Int) : Prog :=
  .alloc [(Value.string s.1), (Value.int IntKind.i64 s.2.1)] fun (a1 : Addr) =>
  .bind
    (ifB (eqI k 0)
      (.load (Ty.one B.str) (shiftTo (Option.some a1) 0) fun (s66 : ByteArray) =>
      .ret 1 [(Value.int IntKind.i64 (natI (sizeS s66)))]) <|
    ifB (eqI k 9)
      (.load (Ty.one (B.int IntKind.i64)) (shiftTo (Option.some a1) 1) fun (n67 : Int) =>
      .ret 1 [(Value.int IntKind.i64 n67)]) <|
    ifB (eqI k (-1099511627776))
      (ifB (eqI k (-1099511627776))
        (.load (Ty.one B.str) (shiftTo (Option.some a1) 0) fun (s68 : ByteArray) =>
        .load (Ty.one (B.int IntKind.i64)) (shiftTo (Option.some a1) 1) fun (n69 : Int) =>
        .ret 1 [(Value.int IntKind.i64 (addI IntKind.i64 (natI (sizeS s68)) (mulI IntKind.i64 2 n69)))]) <|
      .ret 0 []) <|
    ifB (eqI k 1099511627776)
      (.load (Ty.one B.str) (shiftTo (Option.some a1) 0) fun (s70 : ByteArray) =>
      .load (Ty.one (B.int IntKind.i64)) (shiftTo (Option.some a1) 1) fun (n71 : Int) =>
      .ret 1 [(Value.int IntKind.i64 (addI IntKind.i64 (natI (sizeS s70)) (mulI IntKind.i64 2 n71)))]) <|
    .ret 0 []) fun (k72 : Nat) =>
  fun (vs73 : (List Value)) =>
  ifB (eqN k72 1)
    (.cast [(Ty.one (B.int IntKind.i64))] vs73 fun (r74 : (Int × Unit)) =>
    .ret 0 [(Value.int IntKind.i64 r74.1)]) <|
  ifB (eqN k72 0)
    (.cast [] vs73 fun (u75 : Unit) =>
    .bind
      (.loop [(Ty.one (B.int IntKind.i64)), (Ty.one (B.int IntKind.i64))] ((0 : Int), ((0 : Int), ())) fun (r115 : (Int × (Int × Unit))) =>
        .load (Ty.one B.str) (shiftTo (Option.some a1) 0) fun (s116 : ByteArray) =>
        ifB (ltI r115.2.1 (natI (sizeS s116)))
          (.bind
            (.load (Ty.one B.str) (shiftTo (Option.some a1) 0) fun (s122 : ByteArray) =>
            grd (inB r115.2.1 (sizeS s122)) <|
            grd (notB Bool.false) <|
            .call (F_law4_slot S k (Int.ofNat 10)) [(Ty.one (B.int IntKind.i64))] fun (r123 : (Int × Unit)) =>
            .check (shiftTo (Option.some a1) 0) [(Value.string s122)] <|
            ifB (eqI (remI IntKind.i64 (wrapI IntKind.i64 (byteAt s122 r115.2.1)) 11) r123.1)
              (.ret 0 [(Value.int IntKind.i64 (addI IntKind.i64 r115.1 1))]) <|
            .ret 0 [(Value.int IntKind.i64 r115.1)]) fun (k124 : Nat) =>
          fun (vs125 : (List Value)) =>
          ifB (eqN k124 0)
            (.cast [(Ty.one (B.int IntKind.i64))] vs125 fun (r126 : (Int × Unit)) =>
            .ret 0 [(Value.int IntKind.i64 r126.1), (Value.int IntKind.i64 (addI IntKind.i64 r115.2.1 1))]) <|
          .fail) <|
        .ret 3 [(Value.int IntKind.i64 r115.1)]) fun (k127 : Nat) =>
    fun (vs128 : (List Value)) =>
    ifB (eqN k127 3)
      (.cast [(Ty.one (B.int IntKind.i64))] vs128 fun (r129 : (Int × Unit)) =>
      .ret 0 [(Value.int IntKind.i64 r129.1)]) <|
    .fail) <|
  .fail
def F_Tree_Word_Sum (S : Ids) (t : ((Option Addr) × Unit)) : Prog :=
  .alloc [(Value.pointer t.1)] fun (a1 : Addr) =>
  .alloc [(Value.string (ByteArray.mk #[])), (Value.int IntKind.i64 0)] fun (a2 : Addr) =>
  .load (Ty.one B.ptr) (shiftTo (Option.some a1) 0) fun (p3 : (Option Addr)) =>
  ifB (noneB p3)
    (.alloc [(Value.string (ByteArray.mk #[])), (Value.int IntKind.i64 0)] fun (a4 : Addr) =>
    .load (Ty.agg [B.str, (B.int IntKind.i64)]) (Option.some a4) fun (r5 : (ByteArray × (Int × Unit))) =>
    .store (Option.some a2) [(Value.string r5.1), (Value.int IntKind.i64 r5.2.1)] <|
    .load (Ty.agg [B.str, (B.int IntKind.i64)]) (Option.some a2) fun (r6 : (ByteArray × (Int × Unit))) =>
    .ret 0 [(Value.agg (#[(Value.string r6.1), (Value.int IntKind.i64 r6.2.1)]))]) <|
  .load (Ty.one B.ptr) (shiftTo (Option.some a1) 0) fun (p7 : (Option Addr)) =>
  grd (someB p7) <|
  grd (someB p7) <|
  .load (Ty.agg [B.str, (B.int IntKind.i64)]) (shiftTo p7 5) fun (r8 : (ByteArray × (Int × Unit))) =>
  .store (Option.some a2) [(Value.string r8.1), (Value.int IntKind.i64 r8.2.1)] <|
  .load (Ty.agg [B.str, (B.int IntKind.i64)]) (Option.some a2) fun (r9 : (ByteArray × (Int × Unit))) =>
  .ret 0 [(Value.agg (#[(Value.string r9.1), (Value.int IntKind.i64 r9.2.1)]))]
def F_Tree_Word_Find (S : Ids) (t : ((Option Addr) × Unit)) (k : Int) (n : Int) : Prog :=
  .alloc [(Value.pointer t.1)] fun (a1 : Addr) =>
  ifB (leI n 0)
    (.ret 0 [(Value.int IntKind.i64 0)]) <|
  .alloc [(Value.string (ByteArray.mk #[])), (Value.int IntKind.i64 0)] fun (a2 : Addr) =>
  .load (Ty.one B.ptr) (shiftTo (Option.some a1) 0) fun (p3 : (Option Addr)) =>
  .bind
    (.loop [(Ty.one (B.int IntKind.i64)), (Ty.one B.ptr)] ((0 : Int), (p3, ())) fun (r137 : (Int × ((Option Addr) × Unit))) =>
      ifB (notB (noneB r137.2.1))
        (.load (Ty.agg [B.str, (B.int IntKind.i64)]) (Option.some a2) fun (r138 : (ByteArray × (Int × Unit))) =>
        .alloc [(Value.string (ByteArray.mk #[])), (Value.int IntKind.i64 0)] fun (a139 : Addr) =>
        .store (Option.some a139) [(Value.string r138.1), (Value.int IntKind.i64 r138.2.1)] <|
        .bind
          (grd (someB r137.2.1) <|
          grd (someB r137.2.1) <|
          .load (Ty.one B.ptr) (shiftTo r137.2.1 0) fun (p160 : (Option Addr)) =>
          ifB (notB (noneB p160))
            (.load (Ty.agg [B.str, (B.int IntKind.i64)]) (Option.some a2) fun (r161 : (ByteArray × (Int × Unit))) =>
            grd (someB r137.2.1) <|
            grd (someB r137.2.1) <|
            .load (Ty.one B.ptr) (shiftTo r137.2.1 0) fun (p162 : (Option Addr)) =>
            grd (someB p162) <|
            grd (someB p162) <|
            .load (Ty.agg [B.str, (B.int IntKind.i64)]) (shiftTo p162 5) fun (r163 : (ByteArray × (Int × Unit))) =>
            .call (F_Words_Add S (r161.1, (r161.2.1, ())) (r163.1, (r163.2.1, ()))) [(Ty.agg [B.str, (B.int IntKind.i64)])] fun (r164 : ((ByteArray × (Int × Unit)) × Unit)) =>
            .store (Option.some a139) [(Value.string r164.1.1), (Value.int IntKind.i64 r164.1.2.1)] <|
            .ret 0 []) <|
          .ret 0 []) fun (k165 : Nat) =>
        fun (vs166 : (List Value)) =>
        ifB (eqN k165 0)
          (.cast [] vs166 fun (u167 : Unit) =>
          .load (Ty.agg [B.str, (B.int IntKind.i64)]) (Option.some a139) fun (r168 : (ByteArray × (Int × Unit))) =>
          .call (F_Words_Key S (r168.1, (r168.2.1, ())) k) [(Ty.one (B.int IntKind.i64))] fun (r169 : (Int × Unit)) =>
          ifB (geI r169.1 n)
            (grd (someB r137.2.1) <|
            grd (someB r137.2.1) <|
            .load (Ty.one B.ptr) (shiftTo r137.2.1 0) fun (p170 : (Option Addr)) =>
            .ret 0 [(Value.int IntKind.i64 r137.1), (Value.pointer p170)]) <|
          grd (someB r137.2.1) <|
          grd (someB r137.2.1) <|
          .load (Ty.one B.ptr) (shiftTo r137.2.1 0) fun (p171 : (Option Addr)) =>
          .call (F_node_Word_count S p171) [(Ty.one (B.int IntKind.i64))] fun (r172 : (Int × Unit)) =>
          .load (Ty.agg [B.str, (B.int IntKind.i64)]) (Option.some a139) fun (r173 : (ByteArray × (Int × Unit))) =>
          grd (someB r137.2.1) <|
          grd (someB r137.2.1) <|
          .load (Ty.agg [B.str]) (shiftTo r137.2.1 2) fun (r174 : (ByteArray × Unit)) =>
          .call (F_Word_Measure S (r174.1, ())) [(Ty.agg [B.str, (B.int IntKind.i64)])] fun (r175 : ((ByteArray × (Int × Unit)) × Unit)) =>
          .check (Option.some a139) [(Value.string r173.1), (Value.int IntKind.i64 r173.2.1)] <|
          .call (F_Words_Add S (r173.1, (r173.2.1, ())) (r175.1.1, (r175.1.2.1, ()))) [(Ty.agg [B.str, (B.int IntKind.i64)])] fun (r176 : ((ByteArray × (Int × Unit)) × Unit)) =>
          .store (Option.some a2) [(Value.string r176.1.1), (Value.int IntKind.i64 r176.1.2.1)] <|
          .load (Ty.agg [B.str, (B.int IntKind.i64)]) (Option.some a2) fun (r177 : (ByteArray × (Int × Unit))) =>
          .call (F_Words_Key S (r177.1, (r177.2.1, ())) k) [(Ty.one (B.int IntKind.i64))] fun (r178 : (Int × Unit)) =>
          ifB (geI r178.1 n)
            (.ret 1 [(Value.int IntKind.i64 (addI IntKind.i64 r137.1 (addI IntKind.i64 r172.1 1)))]) <|
          grd (someB r137.2.1) <|
          grd (someB r137.2.1) <|
          .load (Ty.one B.ptr) (shiftTo r137.2.1 1) fun (p179 : (Option Addr)) =>
          .ret 0 [(Value.int IntKind.i64 (addI IntKind.i64 r137.1 (addI IntKind.i64 r172.1 1))), (Value.pointer p179)]) <|
        .fail) <|
      .ret 2 [(Value.int IntKind.i64 r137.1)]) fun (k180 : Nat) =>
  fun (vs181 : (List Value)) =>
  ifB (eqN k180 2)
    (.cast [(Ty.one (B.int IntKind.i64))] vs181 fun (r182 : (Int × Unit)) =>
    .ret 0 [(Value.int IntKind.i64 (addI IntKind.i64 r182.1 1))]) <|
  ifB (eqN k180 1)
    (.cast [(Ty.one (B.int IntKind.i64))] vs181 fun (r183 : (Int × Unit)) =>
    .ret 0 [(Value.int IntKind.i64 r183.1)]) <|
  .fail
def F_Tree_Word_Items (S : Ids) (t : ((Option Addr) × Unit)) (from_ : Int) : Prog :=
  .alloc [(Value.pointer t.1)] fun (a1 : Addr) =>
  .alloc [(Value.int IntKind.i64 from_)] fun (a2 : Addr) =>
  .ret 0 [(Value.func (Fn.func S.f_Tree_Word_Items_1) #[] (#[(Value.pointer (Option.some a1)), (Value.pointer (Option.some a2))]))]
def F_law4_walked (S : Ids) (it : Value) (l : Sl) (at_ : Int) (stop : Bool) : Prog :=
  .alloc [(Value.slice l.base l.len l.cap)] fun (a1 : Addr) =>
  .alloc [(Value.bool stop)] fun (a2 : Addr) =>
  .alloc [(Value.int IntKind.i64 0)] fun (a3 : Addr) =>
  .store (Option.some a3) [(Value.int IntKind.i64 at_)] <|
  .alloc [(Value.bool Bool.false)] fun (a4 : Addr) =>
  .store (Option.some a4) [(Value.bool Bool.true)] <|
  .alloc [(Value.bool Bool.false)] fun (a5 : Addr) =>
  .store (Option.some a5) [(Value.bool Bool.false)] <|
  .callv it [(Value.func (Fn.func S.f_law4_walked_1) #[] (#[(Value.pointer (Option.some a4)), (Value.pointer (Option.some a5)), (Value.pointer (Option.some a3)), (Value.pointer (Option.some a1)), (Value.pointer (Option.some a2))]))] [] fun (u6 : Unit) =>
  .load (Ty.one B.bool) (Option.some a2) fun (b7 : Bool) =>
  ifB b7
    (.bind
      (.load (Ty.one B.bool) (Option.some a4) fun (b14 : Bool) =>
      ifB b14
        (.load (Ty.one (B.int IntKind.i64)) (Option.some a3) fun (n15 : Int) =>
        .load (Ty.one B.sl) (Option.some a1) fun (l16 : Sl) =>
        .ret 0 [(Value.bool (eqI n15 (minI (addI IntKind.i64 at_ 1) (natI l16.len))))]) <|
      .ret 0 [(Value.bool Bool.false)]) fun (k17 : Nat) =>
    fun (vs18 : (List Value)) =>
    ifB (eqN k17 0)
      (.cast [(Ty.one B.bool)] vs18 fun (r19 : (Bool × Unit)) =>
      .ret 0 [(Value.bool r19.1)]) <|
    .fail) <|
  .bind
    (.load (Ty.one B.bool) (Option.some a4) fun (b26 : Bool) =>
    ifB b26
      (.load (Ty.one (B.int IntKind.i64)) (Option.some a3) fun (n27 : Int) =>
      .load (Ty.one B.sl) (Option.some a1) fun (l28 : Sl) =>
      .ret 0 [(Value.bool (eqI n27 (natI l28.len)))]) <|
    .ret 0 [(Value.bool Bool.false)]) fun (k29 : Nat) =>
  fun (vs30 : (List Value)) =>
  ifB (eqN k29 0)
    (.cast [(Ty.one B.bool)] vs30 fun (r31 : (Bool × Unit)) =>
    .ret 0 [(Value.bool r31.1)]) <|
  .fail
def F_law4_edges (S : Ids) (t : ((Option Addr) × Unit)) (l : Sl) (s : (ByteArray × Int × Unit)) : Prog :=
  .alloc [(Value.pointer t.1)] fun (a1 : Addr) =>
  .alloc [(Value.string s.1), (Value.int IntKind.i64 s.2.1)] fun (a2 : Addr) =>
  .alloc [(Value.int IntKind.i64 (-1)), (Value.int IntKind.i64 (-5)), (Value.int IntKind.i64 (-9223372036854775808)), (Value.int IntKind.i64 (natI l.len)), (Value.int IntKind.i64 (addI IntKind.i64 (natI l.len) 1)), (Value.int IntKind.i64 9223372036854775807)] fun (a3 : Addr) =>
  .bind
    (.loop [(Ty.one (B.int IntKind.i64))] ((0 : Int), ()) fun (r566 : (Int × Unit)) =>
      ifB (ltI r566.1 6)
        (.bind
          (.both (.load (Ty.agg [B.ptr]) (Option.some a1) fun (r648 : ((Option Addr) × Unit)) =>
          grd (inB r566.1 6) <|
          .load (Ty.one (B.int IntKind.i64)) (shiftTo (Option.some a3) (mulN (toN r566.1) 1)) fun (n649 : Int) =>
          .call (F_Tree_Word_At S (r648.1, ()) n649) [(Ty.agg [B.str]), (Ty.one B.bool)] fun (r650 : ((ByteArray × Unit) × (Bool × Unit))) =>
          .alloc [(Value.string (ByteArray.mk #[]))] fun (a651 : Addr) =>
          .check (shiftTo (Option.some a3) (mulN (toN r566.1) 1)) [(Value.int IntKind.i64 n649)] <|
          .check (Option.some a1) [(Value.pointer r648.1)] <|
          .store (Option.some a651) [(Value.string r650.1.1)] <|
          .ret 0 [(Value.pointer (Option.some a651)), (Value.bool r650.2.1)]) <|
          .load (Ty.agg [B.ptr]) (Option.some a1) fun (r652 : ((Option Addr) × Unit)) =>
          grd (inB r566.1 6) <|
          .load (Ty.one (B.int IntKind.i64)) (shiftTo (Option.some a3) (mulN (toN r566.1) 1)) fun (n653 : Int) =>
          .alloc [(Value.string (ByteArray.mk #[]))] fun (a654 : Addr) =>
          .check (shiftTo (Option.some a3) (mulN (toN r566.1) 1)) [(Value.int IntKind.i64 n653)] <|
          .check (Option.some a1) [(Value.pointer r652.1)] <|
          .call (F_Tree_Word_At S (r652.1, ()) n653) [(Ty.agg [B.str]), (Ty.one B.bool)] fun (r655 : ((ByteArray × Unit) × (Bool × Unit))) =>
          .store (Option.some a654) [(Value.string r655.1.1)] <|
          .ret 0 [(Value.pointer (Option.some a654)), (Value.bool r655.2.1)]) fun (k656 : Nat) =>
        fun (vs657 : (List Value)) =>
        ifB (eqN k656 0)
          (.cast [(Ty.one B.ptr), (Ty.one B.bool)] vs657 fun (r658 : ((Option Addr) × (Bool × Unit))) =>
          .bind
            (.both (.load (Ty.agg [B.ptr]) (Option.some a1) fun (r694 : ((Option Addr) × Unit)) =>
            grd (inB r566.1 6) <|
            .load (Ty.one (B.int IntKind.i64)) (shiftTo (Option.some a3) (mulN (toN r566.1) 1)) fun (n695 : Int) =>
            .call (F_Tree_Word_Upto S (r694.1, ()) n695) [(Ty.agg [B.str, (B.int IntKind.i64)])] fun (r696 : ((ByteArray × (Int × Unit)) × Unit)) =>
            .alloc [(Value.string (ByteArray.mk #[])), (Value.int IntKind.i64 0)] fun (a697 : Addr) =>
            .check (shiftTo (Option.some a3) (mulN (toN r566.1) 1)) [(Value.int IntKind.i64 n695)] <|
            .check (Option.some a1) [(Value.pointer r694.1)] <|
            .store (Option.some a697) [(Value.string r696.1.1), (Value.int IntKind.i64 r696.1.2.1)] <|
            .ret 0 [(Value.pointer (Option.some a697))]) <|
            .load (Ty.agg [B.ptr]) (Option.some a1) fun (r698 : ((Option Addr) × Unit)) =>
            grd (inB r566.1 6) <|
            .load (Ty.one (B.int IntKind.i64)) (shiftTo (Option.some a3) (mulN (toN r566.1) 1)) fun (n699 : Int) =>
            .alloc [(Value.string (ByteArray.mk #[])), (Value.int IntKind.i64 0)] fun (a700 : Addr) =>
            .check (shiftTo (Option.some a3) (mulN (toN r566.1) 1)) [(Value.int IntKind.i64 n699)] <|
            .check (Option.some a1) [(Value.pointer r698.1)] <|
            .call (F_Tree_Word_Upto S (r698.1, ()) n699) [(Ty.agg [B.str, (B.int IntKind.i64)])] fun (r701 : ((ByteArray × (Int × Unit)) × Unit)) =>
            .store (Option.some a700) [(Value.string r701.1.1), (Value.int IntKind.i64 r701.1.2.1)] <|
            .ret 0 [(Value.pointer (Option.some a700))]) fun (k702 : Nat) =>
          fun (vs703 : (List Value)) =>
          ifB (eqN k702 0)
            (.cast [(Ty.one B.ptr)] vs703 fun (r704 : ((Option Addr) × Unit)) =>
            .bind
              (ifB r658.2.1
                (.ret 0 [(Value.bool Bool.true)]) <|
              .load (Ty.agg [B.str]) r658.1 fun (r717 : (ByteArray × Unit)) =>
              ifB (notB (eqS r717.1 (ByteArray.mk #[])))
                (.ret 0 [(Value.bool Bool.true)]) <|
              grd (inB r566.1 6) <|
              .load (Ty.one (B.int IntKind.i64)) (shiftTo (Option.some a3) (mulN (toN r566.1) 1)) fun (n718 : Int) =>
              ifB (ltI n718 0)
                (.load (Ty.agg [B.str, (B.int IntKind.i64)]) r704.1 fun (r719 : (ByteArray × (Int × Unit))) =>
                ifB (notB (andB (eqS r719.1 (ByteArray.mk #[])) (eqI r719.2.1 0)))
                  (.ret 0 [(Value.bool Bool.true)]) <|
                grd (inB r566.1 6) <|
                .load (Ty.one (B.int IntKind.i64)) (shiftTo (Option.some a3) (mulN (toN r566.1) 1)) fun (n720 : Int) =>
                ifB (geI n720 0)
                  (.load (Ty.agg [B.str, (B.int IntKind.i64)]) r704.1 fun (r721 : (ByteArray × (Int × Unit))) =>
                  .load (Ty.agg [B.str, (B.int IntKind.i64)]) (Option.some a2) fun (r722 : (ByteArray × (Int × Unit))) =>
                  .ret 0 [(Value.bool (notB (andB (eqS r721.1 r722.1) (eqI r721.2.1 r722.2.1))))]) <|
                .ret 0 [(Value.bool Bool.false)]) <|
              grd (inB r566.1 6) <|
              .load (Ty.one (B.int IntKind.i64)) (shiftTo (Option.some a3) (mulN (toN r566.1) 1)) fun (n723 : Int) =>
              ifB (geI n723 0)
                (.load (Ty.agg [B.str, (B.int IntKind.i64)]) r704.1 fun (r724 : (ByteArray × (Int × Unit))) =>
                .load (Ty.agg [B.str, (B.int IntKind.i64)]) (Option.some a2) fun (r725 : (ByteArray × (Int × Unit))) =>
                .ret 0 [(Value.bool (notB (andB (eqS r724.1 r725.1) (eqI r724.2.1 r725.2.1))))]) <|
              .ret 0 [(Value.bool Bool.false)]) fun (k726 : Nat) =>
            fun (vs727 : (List Value)) =>
            ifB (eqN k726 0)
              (.cast [(Ty.one B.bool)] vs727 fun (r728 : (Bool × Unit)) =>
              ifB r728.1
                (.ret 1 [(Value.bool Bool.false)]) <|
              .ret 0 [(Value.int IntKind.i64 (addI IntKind.i64 r566.1 1))]) <|
            .fail) <|
          .fail) <|
        .fail) <|
      .ret 2 []) fun (k729 : Nat) =>
  fun (vs730 : (List Value)) =>
  ifB (eqN k729 2)
    (.cast [] vs730 fun (u731 : Unit) =>
    grd (notB Bool.false) <|
    .alloc [(Value.int IntKind.i64 0), (Value.int IntKind.i64 (-3)), (Value.int IntKind.i64 (-9223372036854775808)), (Value.int IntKind.i64 (quoI IntKind.i64 (natI l.len) 2)), (Value.int IntKind.i64 (maxI (subI IntKind.i64 (natI l.len) 1) 0)), (Value.int IntKind.i64 (natI l.len)), (Value.int IntKind.i64 (addI IntKind.i64 (natI l.len) 1)), (Value.int IntKind.i64 9223372036854775807)] fun (a732 : Addr) =>
    .bind
      (.loop [(Ty.one (B.int IntKind.i64))] ((0 : Int), ()) fun (r782 : (Int × Unit)) =>
        ifB (ltI r782.1 8)
          (grd (inB r782.1 8) <|
          .load (Ty.one (B.int IntKind.i64)) (shiftTo (Option.some a732) (mulN (toN r782.1) 1)) fun (n783 : Int) =>
          .load (Ty.agg [B.ptr]) (Option.some a1) fun (r784 : ((Option Addr) × Unit)) =>
          grd (inB r782.1 8) <|
          .load (Ty.one (B.int IntKind.i64)) (shiftTo (Option.some a732) (mulN (toN r782.1) 1)) fun (n785 : Int) =>
          .call (F_Tree_Word_Items S (r784.1, ()) n785) [(Ty.one B.any)] fun (r786 : (Value × Unit)) =>
          .bind
            (grd (isFunc r786.1) <|
            ifB (isNilFunc r786.1)
              (.ret 0 [(Value.bool Bool.true)]) <|
            .call (F_law4_walked S r786.1 l (minI (maxI n783 0) (natI l.len)) Bool.true) [(Ty.one B.bool)] fun (r792 : (Bool × Unit)) =>
            ifB (notB r792.1)
              (.ret 0 [(Value.bool Bool.true)]) <|
            .call (F_law4_walked S r786.1 l (minI (maxI n783 0) (natI l.len)) Bool.false) [(Ty.one B.bool)] fun (r793 : (Bool × Unit)) =>
            .ret 0 [(Value.bool (notB r793.1))]) fun (k794 : Nat) =>
          fun (vs795 : (List Value)) =>
          ifB (eqN k794 0)
            (.cast [(Ty.one B.bool)] vs795 fun (r796 : (Bool × Unit)) =>
            ifB r796.1
              (.ret 1 [(Value.bool Bool.false)]) <|
            .ret 0 [(Value.int IntKind.i64 (addI IntKind.i64 r782.1 1))]) <|
          .fail) <|
        .ret 4 []) fun (k797 : Nat) =>
    fun (vs798 : (List Value)) =>
    ifB (eqN k797 4)
      (.cast [] vs798 fun (u799 : Unit) =>
      .ret 0 [(Value.bool Bool.true)]) <|
    ifB (eqN k797 1)
      (.cast [(Ty.one B.bool)] vs798 fun (r800 : (Bool × Unit)) =>
      .ret 0 [(Value.bool r800.1)]) <|
    .fail) <|
  ifB (eqN k729 1)
    (.cast [(Ty.one B.bool)] vs730 fun (r801 : (Bool × Unit)) =>
    .ret 0 [(Value.bool r801.1)]) <|
  .fail
def F_law4_wordy (S : Ids) (t : ((Option Addr) × Unit)) (l : Sl) (k : Int) (n : Int) : Prog :=
  .alloc [(Value.pointer t.1)] fun (a1 : Addr) =>
  .alloc [(Value.string (ByteArray.mk #[])), (Value.int IntKind.i64 0)] fun (a2 : Addr) =>
  .bind
    (ifB (leI n 0)
      (.ret 0 [(Value.int IntKind.i64 0)]) <|
    .ret 0 [(Value.int IntKind.i64 (addI IntKind.i64 (natI l.len) 1))]) fun (k886 : Nat) =>
  fun (vs887 : (List Value)) =>
  ifB (eqN k886 0)
    (.cast [(Ty.one (B.int IntKind.i64))] vs887 fun (r888 : (Int × Unit)) =>
    .bind
      (.load (Ty.agg [B.ptr]) (Option.some a1) fun (r1329 : ((Option Addr) × Unit)) =>
      .call (F_Tree_Word_Size S (r1329.1, ())) [(Ty.one (B.int IntKind.i64))] fun (r1330 : (Int × Unit)) =>
      ifB (neI r1330.1 (natI l.len))
        (.ret 0 [(Value.bool Bool.true)]) <|
      .load (Ty.agg [B.ptr]) (Option.some a1) fun (r1331 : ((Option Addr) × Unit)) =>
      .load (Ty.agg [B.str, (B.int IntKind.i64)]) (Option.some a2) fun (r1332 : (ByteArray × (Int × Unit))) =>
      .call (F_Tree_Word_Upto S (r1331.1, ()) (Int.ofNat 0)) [(Ty.agg [B.str, (B.int IntKind.i64)])] fun (r1333 : ((ByteArray × (Int × Unit)) × Unit)) =>
      .check (Option.some a2) [(Value.string r1332.1), (Value.int IntKind.i64 r1332.2.1)] <|
      .ret 0 [(Value.bool (notB (andB (eqS r1333.1.1 r1332.1) (eqI r1333.1.2.1 r1332.2.1))))]) fun (k1334 : Nat) =>
    fun (vs1335 : (List Value)) =>
    ifB (eqN k1334 0)
      (.cast [(Ty.one B.bool)] vs1335 fun (r1336 : (Bool × Unit)) =>
      ifB r1336.1
        (.ret 0 [(Value.bool Bool.false)]) <|
      .bind
        (.loop [(Ty.one (B.int IntKind.i64)), (Ty.one (B.int IntKind.i64))] (r888.1, ((0 : Int), ())) fun (r1648 : (Int × (Int × Unit))) =>
          ifB (ltI r1648.2.1 (natI l.len))
            (.bind
              (.load (Ty.agg [B.ptr]) (Option.some a1) fun (r1696 : ((Option Addr) × Unit)) =>
              .call (F_Tree_Word_At S (r1696.1, ()) r1648.2.1) [(Ty.agg [B.str]), (Ty.one B.bool)] fun (r1697 : ((ByteArray × Unit) × (Bool × Unit))) =>
              .alloc [(Value.string (ByteArray.mk #[]))] fun (a1698 : Addr) =>
              .store (Option.some a1698) [(Value.string r1697.1.1)] <|
              .load (Ty.agg [B.str, (B.int IntKind.i64)]) (Option.some a2) fun (r1699 : (ByteArray × (Int × Unit))) =>
              grd (andB (someB l.base) (inB r1648.2.1 l.len)) <|
              .load (Ty.agg [B.str]) (shiftTo l.base (mulN (toN r1648.2.1) 1)) fun (r1700 : (ByteArray × Unit)) =>
              .call (F_Word_Measure S (r1700.1, ())) [(Ty.agg [B.str, (B.int IntKind.i64)])] fun (r1701 : ((ByteArray × (Int × Unit)) × Unit)) =>
              .check (Option.some a2) [(Value.string r1699.1), (Value.int IntKind.i64 r1699.2.1)] <|
              .call (F_Words_Add S (r1699.1, (r1699.2.1, ())) (r1701.1.1, (r1701.1.2.1, ()))) [(Ty.agg [B.str, (B.int IntKind.i64)])] fun (r1702 : ((ByteArray × (Int × Unit)) × Unit)) =>
              .store (Option.some a2) [(Value.string r1702.1.1), (Value.int IntKind.i64 r1702.1.2.1)] <|
              .bind
                (ifB (notB r1697.2.1)
                  (.ret 0 [(Value.bool Bool.true)]) <|
                .load (Ty.agg [B.str]) (Option.some a1698) fun (r1721 : (ByteArray × Unit)) =>
                grd (andB (someB l.base) (inB r1648.2.1 l.len)) <|
                .load (Ty.agg [B.str]) (shiftTo l.base (mulN (toN r1648.2.1) 1)) fun (r1722 : (ByteArray × Unit)) =>
                ifB (notB (eqS r1721.1 r1722.1))
                  (.ret 0 [(Value.bool Bool.true)]) <|
                .load (Ty.agg [B.ptr]) (Option.some a1) fun (r1723 : ((Option Addr) × Unit)) =>
                .load (Ty.agg [B.str, (B.int IntKind.i64)]) (Option.some a2) fun (r1724 : (ByteArray × (Int × Unit))) =>
                .call (F_Tree_Word_Upto S (r1723.1, ()) (addI IntKind.i64 r1648.2.1 1)) [(Ty.agg [B.str, (B.int IntKind.i64)])] fun (r1725 : ((ByteArray × (Int × Unit)) × Unit)) =>
                .check (Option.some a2) [(Value.string r1724.1), (Value.int IntKind.i64 r1724.2.1)] <|
                .ret 0 [(Value.bool (notB (andB (eqS r1725.1.1 r1724.1) (eqI r1725.1.2.1 r1724.2.1))))]) fun (k1726 : Nat) =>
              fun (vs1727 : (List Value)) =>
              ifB (eqN k1726 0)
                (.cast [(Ty.one B.bool)] vs1727 fun (r1728 : (Bool × Unit)) =>
                ifB r1728.1
                  (.ret 1 [(Value.bool Bool.false)]) <|
                .bind
                  (ifB (gtI r1648.1 (natI l.len))
                    (.load (Ty.agg [B.str, (B.int IntKind.i64)]) (Option.some a2) fun (r1734 : (ByteArray × (Int × Unit))) =>
                    .call (F_Words_Key S (r1734.1, (r1734.2.1, ())) k) [(Ty.one (B.int IntKind.i64))] fun (r1735 : (Int × Unit)) =>
                    .ret 0 [(Value.bool (geI r1735.1 n))]) <|
                  .ret 0 [(Value.bool Bool.false)]) fun (k1736 : Nat) =>
                fun (vs1737 : (List Value)) =>
                ifB (eqN k1736 0)
                  (.cast [(Ty.one B.bool)] vs1737 fun (r1738 : (Bool × Unit)) =>
                  ifB r1738.1
                    (.ret 0 [(Value.int IntKind.i64 (addI IntKind.i64 r1648.2.1 1))]) <|
                  .ret 0 [(Value.int IntKind.i64 r1648.1)]) <|
                .fail) <|
              .fail) fun (k1739 : Nat) =>
            fun (vs1740 : (List Value)) =>
            ifB (eqN k1739 1)
              (.cast [(Ty.one B.bool)] vs1740 fun (r1741 : (Bool × Unit)) =>
              .ret 1 [(Value.bool r1741.1)]) <|
            ifB (eqN k1739 0)
              (.cast [(Ty.one (B.int IntKind.i64))] vs1740 fun (r1742 : (Int × Unit)) =>
              .ret 0 [(Value.int IntKind.i64 r1742.1), (Value.int IntKind.i64 (addI IntKind.i64 r1648.2.1 1))]) <|
            .fail) <|
          .ret 2 [(Value.int IntKind.i64 r1648.1)]) fun (k1743 : Nat) =>
      fun (vs1744 : (List Value)) =>
      ifB (eqN k1743 2)
        (.cast [(Ty.one (B.int IntKind.i64))] vs1744 fun (r1745 : (Int × Unit)) =>
        .bind
          (.load (Ty.agg [B.ptr]) (Option.some a1) fun (r1757 : ((Option Addr) × Unit)) =>
          .load (Ty.agg [B.str, (B.int IntKind.i64)]) (Option.some a2) fun (r1758 : (ByteArray × (Int × Unit))) =>
          .call (F_Tree_Word_Sum S (r1757.1, ())) [(Ty.agg [B.str, (B.int IntKind.i64)])] fun (r1759 : ((ByteArray × (Int × Unit)) × Unit)) =>
          .check (Option.some a2) [(Value.string r1758.1), (Value.int IntKind.i64 r1758.2.1)] <|
          ifB (andB (eqS r1759.1.1 r1758.1) (eqI r1759.1.2.1 r1758.2.1))
            (.load (Ty.agg [B.ptr]) (Option.some a1) fun (r1760 : ((Option Addr) × Unit)) =>
            .call (F_Tree_Word_Find S (r1760.1, ()) k n) [(Ty.one (B.int IntKind.i64))] fun (r1761 : (Int × Unit)) =>
            ifB (eqI r1761.1 r1745.1)
              (.load (Ty.agg [B.ptr]) (Option.some a1) fun (r1762 : ((Option Addr) × Unit)) =>
              .load (Ty.agg [B.str, (B.int IntKind.i64)]) (Option.some a2) fun (r1763 : (ByteArray × (Int × Unit))) =>
              .call (F_law4_edges S (r1762.1, ()) l (r1763.1, (r1763.2.1, ()))) [(Ty.one B.bool)] fun (r1764 : (Bool × Unit)) =>
              .ret 0 [(Value.bool r1764.1)]) <|
            .ret 0 [(Value.bool Bool.false)]) <|
          .ret 0 [(Value.bool Bool.false)]) fun (k1765 : Nat) =>
        fun (vs1766 : (List Value)) =>
        ifB (eqN k1765 0)
          (.cast [(Ty.one B.bool)] vs1766 fun (r1767 : (Bool × Unit)) =>
          .ret 0 [(Value.bool r1767.1)]) <|
        .fail) <|
      ifB (eqN k1743 1)
        (.cast [(Ty.one B.bool)] vs1744 fun (r1768 : (Bool × Unit)) =>
        .ret 0 [(Value.bool r1768.1)]) <|
      .fail) <|
    .fail) <|
  .fail
def F_law4_TreeWords (S : Ids) (words : Sl) (from_ : Int) (to : Int) (more : Sl) (k : Int) (n : Int) : Prog :=
  .bind
    (.loop [(Ty.one (B.int IntKind.i64)), (Ty.one (B.int IntKind.i64))] ((4 : Int), ((0 : Int), ())) fun (r10673 : (Int × (Int × Unit))) =>
      .bind
        (ifB (ltI r10673.2.1 (natI words.len))
          (.ret 0 [(Value.bool (leI r10673.1 4194304))]) <|
        .ret 0 [(Value.bool Bool.false)]) fun (k10678 : Nat) =>
      fun (vs10679 : (List Value)) =>
      ifB (eqN k10678 0)
        (.cast [(Ty.one B.bool)] vs10679 fun (r10680 : (Bool × Unit)) =>
        ifB r10680.1
          (grd (andB (someB words.base) (inB r10673.2.1 words.len)) <|
          .load (Ty.one B.str) (shiftTo words.base (mulN (toN r10673.2.1) 1)) fun (s10681 : ByteArray) =>
          .ret 0 [(Value.int IntKind.i64 (addI IntKind.i64 r10673.1 (natI (sizeS s10681)))), (Value.int IntKind.i64 (addI IntKind.i64 r10673.2.1 1))]) <|
        .ret 2 [(Value.int IntKind.i64 r10673.1)]) <|
      .fail) fun (k10682 : Nat) =>
  fun (vs10683 : (List Value)) =>
  ifB (eqN k10682 2)
    (.cast [(Ty.one (B.int IntKind.i64))] vs10683 fun (r10684 : (Int × Unit)) =>
    .bind
      (.loop [(Ty.one (B.int IntKind.i64)), (Ty.one (B.int IntKind.i64))] (r10684.1, ((0 : Int), ())) fun (r16015 : (Int × (Int × Unit))) =>
        .bind
          (ifB (ltI r16015.2.1 (natI more.len))
            (.ret 0 [(Value.bool (leI r16015.1 4194304))]) <|
          .ret 0 [(Value.bool Bool.false)]) fun (k16020 : Nat) =>
        fun (vs16021 : (List Value)) =>
        ifB (eqN k16020 0)
          (.cast [(Ty.one B.bool)] vs16021 fun (r16022 : (Bool × Unit)) =>
          ifB r16022.1
            (grd (andB (someB more.base) (inB r16015.2.1 more.len)) <|
            .load (Ty.one B.str) (shiftTo more.base (mulN (toN r16015.2.1) 1)) fun (s16023 : ByteArray) =>
            .ret 0 [(Value.int IntKind.i64 (addI IntKind.i64 r16015.1 (natI (sizeS s16023)))), (Value.int IntKind.i64 (addI IntKind.i64 r16015.2.1 1))]) <|
          .ret 4 [(Value.int IntKind.i64 r16015.1)]) <|
        .fail) fun (k16024 : Nat) =>
    fun (vs16025 : (List Value)) =>
    ifB (eqN k16024 4)
      (.cast [(Ty.one (B.int IntKind.i64))] vs16025 fun (r16026 : (Int × Unit)) =>
      .bind
        (ifB (gtI (addI IntKind.i64 (addI IntKind.i64 (natI words.len) (natI more.len)) 2) 1048576)
          (.ret 0 [(Value.bool Bool.true)]) <|
        ifB (gtI r16026.1 4194304)
          (.ret 0 [(Value.bool Bool.true)]) <|
        .ret 0 [(Value.bool (gtI (mulI IntKind.i64 (addI IntKind.i64 (addI IntKind.i64 (natI words.len) (natI more.len)) 2) (addI IntKind.i64 (addI IntKind.i64 (addI IntKind.i64 (natI words.len) (natI more.len)) 2) r16026.1)) 4194304))]) fun (k18677 : Nat) =>
      fun (vs18678 : (List Value)) =>
      ifB (eqN k18677 0)
        (.cast [(Ty.one B.bool)] vs18678 fun (r18679 : (Bool × Unit)) =>
        ifB r18679.1
          (.ret 0 [(Value.bool Bool.true)]) <|
        .alloc [(Value.string (ByteArray.mk (#[(UInt8.ofBitVec (BitVec.ofFin (Fin.mk 111 (Nat.mod_lt 111 (BitVec.ofNat._proof_1 8))))), (UInt8.ofBitVec (BitVec.ofFin (Fin.mk 110 (Nat.mod_lt 110 (BitVec.ofNat._proof_1 8))))), (UInt8.ofBitVec (BitVec.ofFin (Fin.mk 101 (Nat.mod_lt 101 (BitVec.ofNat._proof_1 8)))))])))] fun (a18680 : Addr) =>
        .bind
          (.loop [(Ty.one B.sl), (Ty.one (B.int IntKind.i64))] ((⟨(Option.some a18680), 1, 1⟩ : Sl), ((0 : Int), ())) fun (r20008 : (Sl × (Int × Unit))) =>
            ifB (ltI r20008.2.1 (natI words.len))
              (grd (andB (someB words.base) (inB r20008.2.1 words.len)) <|
              .load (Ty.one B.str) (shiftTo words.base (mulN (toN r20008.2.1) 1)) fun (s20009 : ByteArray) =>
              .alloc [(Value.string s20009)] fun (a20010 : Addr) =>
              .append 1 16 [(Value.string (ByteArray.mk #[]))] r20008.1 (⟨(Option.some a20010), 1, 1⟩) fun (l20011 : Sl) =>
              .ret 0 [(Value.slice l20011.base l20011.len l20011.cap), (Value.int IntKind.i64 (addI IntKind.i64 r20008.2.1 1))]) <|
            .ret 6 [(Value.slice r20008.1.base r20008.1.len r20008.1.cap)]) fun (k20012 : Nat) =>
        fun (vs20013 : (List Value)) =>
        ifB (eqN k20012 6)
          (.cast [(Ty.one B.sl)] vs20013 fun (r20014 : (Sl × Unit)) =>
          .bind
            (.loop [(Ty.one B.sl), (Ty.one (B.int IntKind.i64))] ((⟨Option.none, 0, 0⟩ : Sl), ((0 : Int), ())) fun (r20675 : (Sl × (Int × Unit))) =>
              ifB (ltI r20675.2.1 (natI more.len))
                (grd (andB (someB more.base) (inB r20675.2.1 more.len)) <|
                .load (Ty.one B.str) (shiftTo more.base (mulN (toN r20675.2.1) 1)) fun (s20676 : ByteArray) =>
                .alloc [(Value.string s20676)] fun (a20677 : Addr) =>
                .append 1 16 [(Value.string (ByteArray.mk #[]))] r20675.1 (⟨(Option.some a20677), 1, 1⟩) fun (l20678 : Sl) =>
                .ret 0 [(Value.slice l20678.base l20678.len l20678.cap), (Value.int IntKind.i64 (addI IntKind.i64 r20675.2.1 1))]) <|
              .ret 8 [(Value.slice r20675.1.base r20675.1.len r20675.1.cap)]) fun (k20679 : Nat) =>
          fun (vs20680 : (List Value)) =>
          ifB (eqN k20679 8)
            (.cast [(Ty.one B.sl)] vs20680 fun (r20681 : (Sl × Unit)) =>
            .call (F_law4_slot S from_ (natI r20014.1.len)) [(Ty.one (B.int IntKind.i64))] fun (r20682 : (Int × Unit)) =>
            .call (F_law4_slot S to (subI IntKind.i64 (natI r20014.1.len) r20682.1)) [(Ty.one (B.int IntKind.i64))] fun (r20683 : (Int × Unit)) =>
            .call (F_tree_Of_Word S r20014.1) [(Ty.agg [B.ptr])] fun (r20684 : (((Option Addr) × Unit) × Unit)) =>
            .alloc [(Value.pointer Option.none)] fun (a20685 : Addr) =>
            .store (Option.some a20685) [(Value.pointer r20684.1.1)] <|
            .load (Ty.agg [B.ptr]) (Option.some a20685) fun (r20686 : ((Option Addr) × Unit)) =>
            .call (F_Tree_Word_Replace S (r20686.1, ()) r20682.1 (addI IntKind.i64 r20682.1 r20683.1) r20681.1) [(Ty.agg [B.ptr]), (Ty.one (B.int IntKind.i64))] fun (r20687 : (((Option Addr) × Unit) × (Int × Unit))) =>
            .alloc [(Value.pointer Option.none)] fun (a20688 : Addr) =>
            .store (Option.some a20688) [(Value.pointer r20687.1.1)] <|
            grd (leB r20682.1 r20014.1.cap) <|
            .append 1 16 [(Value.string (ByteArray.mk #[]))] (⟨Option.none, 0, 0⟩) (⟨(cutBase r20014.1.base r20014.1.cap 0 1), (subN (toN r20682.1) 0), (subN r20014.1.cap 0)⟩) fun (l20689 : Sl) =>
            .append 1 16 [(Value.string (ByteArray.mk #[]))] l20689 r20681.1 fun (l20690 : Sl) =>
            grd (leB (addI IntKind.i64 r20682.1 r20683.1) r20014.1.len) <|
            .append 1 16 [(Value.string (ByteArray.mk #[]))] l20690 (⟨(cutBase r20014.1.base r20014.1.cap (toN (addI IntKind.i64 r20682.1 r20683.1)) 1), (subN r20014.1.len (toN (addI IntKind.i64 r20682.1 r20683.1))), (subN r20014.1.cap (toN (addI IntKind.i64 r20682.1 r20683.1)))⟩) fun (l20691 : Sl) =>
            .load (Ty.agg [B.ptr]) (Option.some a20685) fun (r20692 : ((Option Addr) × Unit)) =>
            .call (F_Tree_Word_Replace S (r20692.1, ()) (Int.ofNat 0) (addI IntKind.i64 (natI r20014.1.len) 1) (⟨Option.none, 0, 0⟩)) [(Ty.agg [B.ptr]), (Ty.one (B.int IntKind.i64))] fun (r20693 : (((Option Addr) × Unit) × (Int × Unit))) =>
            .alloc [(Value.pointer Option.none)] fun (a20694 : Addr) =>
            .store (Option.some a20694) [(Value.pointer r20693.1.1)] <|
            .bind
              (.call (F_law4_num S r20687.2.1) [(Ty.one (B.int IntKind.i64))] fun (r21011 : (Int × Unit)) =>
              ifB (neI r21011.1 0)
                (.ret 0 [(Value.bool Bool.true)]) <|
              .call (F_law4_num S r20693.2.1) [(Ty.one (B.int IntKind.i64))] fun (r21012 : (Int × Unit)) =>
              ifB (neI r21012.1 1)
                (.ret 0 [(Value.bool Bool.true)]) <|
              .load (Ty.agg [B.ptr]) (Option.some a20688) fun (r21013 : ((Option Addr) × Unit)) =>
              .call (F_law4_wordy S (r21013.1, ()) l20691 k n) [(Ty.one B.bool)] fun (r21014 : (Bool × Unit)) =>
              .ret 0 [(Value.bool (notB r21014.1))]) fun (k21015 : Nat) =>
            fun (vs21016 : (List Value)) =>
            ifB (eqN k21015 0)
              (.cast [(Ty.one B.bool)] vs21016 fun (r21017 : (Bool × Unit)) =>
              ifB r21017.1
                (.ret 0 [(Value.bool Bool.false)]) <|
              .alloc [(Value.int IntKind.i64 (-1)), (Value.int IntKind.i64 0), (Value.int IntKind.i64 (-9223372036854775808)), (Value.int IntKind.i64 1), (Value.int IntKind.i64 1), (Value.int IntKind.i64 0), (Value.int IntKind.i64 (natI r20014.1.len)), (Value.int IntKind.i64 (subI IntKind.i64 (natI r20014.1.len) 1)), (Value.int IntKind.i64 (addI IntKind.i64 (natI r20014.1.len) 1)), (Value.int IntKind.i64 (addI IntKind.i64 (natI r20014.1.len) 1)), (Value.int IntKind.i64 0), (Value.int IntKind.i64 9223372036854775807), (Value.int IntKind.i64 9223372036854775807), (Value.int IntKind.i64 (-9223372036854775808))] fun (a21018 : Addr) =>
              .bind
                (.loop [(Ty.one (B.int IntKind.i64))] ((0 : Int), ()) fun (r21224 : (Int × Unit)) =>
                  ifB (ltI r21224.1 7)
                    (.bind
                      (.both (.load (Ty.agg [B.ptr]) (Option.some a20685) fun (r21250 : ((Option Addr) × Unit)) =>
                      grd (inB r21224.1 7) <|
                      grd (andB (someB (shiftTo (Option.some a21018) (mulN (toN r21224.1) 2))) Bool.true) <|
                      .load (Ty.one (B.int IntKind.i64)) (shiftTo (shiftTo (Option.some a21018) (mulN (toN r21224.1) 2)) 0) fun (n21251 : Int) =>
                      grd (inB r21224.1 7) <|
                      grd (andB (someB (shiftTo (Option.some a21018) (mulN (toN r21224.1) 2))) Bool.true) <|
                      .load (Ty.one (B.int IntKind.i64)) (shiftTo (shiftTo (Option.some a21018) (mulN (toN r21224.1) 2)) 1) fun (n21252 : Int) =>
                      .call (F_Tree_Word_Replace S (r21250.1, ()) n21251 n21252 r20681.1) [(Ty.agg [B.ptr]), (Ty.one (B.int IntKind.i64))] fun (r21253 : (((Option Addr) × Unit) × (Int × Unit))) =>
                      .alloc [(Value.pointer Option.none)] fun (a21254 : Addr) =>
                      .check (shiftTo (shiftTo (Option.some a21018) (mulN (toN r21224.1) 2)) 1) [(Value.int IntKind.i64 n21252)] <|
                      .check (shiftTo (shiftTo (Option.some a21018) (mulN (toN r21224.1) 2)) 0) [(Value.int IntKind.i64 n21251)] <|
                      .check (Option.some a20685) [(Value.pointer r21250.1)] <|
                      .store (Option.some a21254) [(Value.pointer r21253.1.1)] <|
                      .ret 0 [(Value.pointer (Option.some a21254)), (Value.int IntKind.i64 r21253.2.1)]) <|
                      .load (Ty.agg [B.ptr]) (Option.some a20685) fun (r21255 : ((Option Addr) × Unit)) =>
                      grd (inB r21224.1 7) <|
                      grd (andB (someB (shiftTo (Option.some a21018) (mulN (toN r21224.1) 2))) Bool.true) <|
                      .load (Ty.one (B.int IntKind.i64)) (shiftTo (shiftTo (Option.some a21018) (mulN (toN r21224.1) 2)) 0) fun (n21256 : Int) =>
                      grd (inB r21224.1 7) <|
                      grd (andB (someB (shiftTo (Option.some a21018) (mulN (toN r21224.1) 2))) Bool.true) <|
                      .load (Ty.one (B.int IntKind.i64)) (shiftTo (shiftTo (Option.some a21018) (mulN (toN r21224.1) 2)) 1) fun (n21257 : Int) =>
                      .alloc [(Value.pointer Option.none)] fun (a21258 : Addr) =>
                      .check (shiftTo (shiftTo (Option.some a21018) (mulN (toN r21224.1) 2)) 1) [(Value.int IntKind.i64 n21257)] <|
                      .check (shiftTo (shiftTo (Option.some a21018) (mulN (toN r21224.1) 2)) 0) [(Value.int IntKind.i64 n21256)] <|
                      .check (Option.some a20685) [(Value.pointer r21255.1)] <|
                      .call (F_Tree_Word_Replace S (r21255.1, ()) n21256 n21257 r20681.1) [(Ty.agg [B.ptr]), (Ty.one (B.int IntKind.i64))] fun (r21259 : (((Option Addr) × Unit) × (Int × Unit))) =>
                      .store (Option.some a21258) [(Value.pointer r21259.1.1)] <|
                      .ret 0 [(Value.pointer (Option.some a21258)), (Value.int IntKind.i64 r21259.2.1)]) fun (k21260 : Nat) =>
                    fun (vs21261 : (List Value)) =>
                    ifB (eqN k21260 0)
                      (.cast [(Ty.one B.ptr), (Ty.one (B.int IntKind.i64))] vs21261 fun (r21262 : ((Option Addr) × (Int × Unit))) =>
                      .bind
                        (.call (F_law4_num S r21262.2.1) [(Ty.one (B.int IntKind.i64))] fun (r21269 : (Int × Unit)) =>
                        ifB (neI r21269.1 1)
                          (.ret 0 [(Value.bool Bool.true)]) <|
                        .load (Ty.agg [B.ptr]) r21262.1 fun (r21270 : ((Option Addr) × Unit)) =>
                        .call (F_Tree_Word_Size S (r21270.1, ())) [(Ty.one (B.int IntKind.i64))] fun (r21271 : (Int × Unit)) =>
                        .ret 0 [(Value.bool (neI r21271.1 0))]) fun (k21272 : Nat) =>
                      fun (vs21273 : (List Value)) =>
                      ifB (eqN k21272 0)
                        (.cast [(Ty.one B.bool)] vs21273 fun (r21274 : (Bool × Unit)) =>
                        ifB r21274.1
                          (.ret 1 [(Value.bool Bool.false)]) <|
                        .ret 0 [(Value.int IntKind.i64 (addI IntKind.i64 r21224.1 1))]) <|
                      .fail) <|
                    .fail) <|
                  .ret 10 []) fun (k21275 : Nat) =>
              fun (vs21276 : (List Value)) =>
              ifB (eqN k21275 10)
                (.cast [] vs21276 fun (u21277 : Unit) =>
                .bind
                  (.loop [(Ty.one (B.int IntKind.i64))] (((-2) : Int), ()) fun (r21305 : (Int × Unit)) =>
                    ifB (ltI r21305.1 13)
                      (.load (Ty.agg [B.ptr]) (Option.some a20685) fun (r21306 : ((Option Addr) × Unit)) =>
                      .call (F_law4_wordy S (r21306.1, ()) r20014.1 r21305.1 n) [(Ty.one B.bool)] fun (r21307 : (Bool × Unit)) =>
                      ifB (notB r21307.1)
                        (.ret 1 [(Value.bool Bool.false)]) <|
                      .ret 0 [(Value.int IntKind.i64 (addI IntKind.i64 r21305.1 1))]) <|
                    .ret 12 []) fun (k21308 : Nat) =>
                fun (vs21309 : (List Value)) =>
                ifB (eqN k21308 12)
                  (.cast [] vs21309 fun (u21310 : Unit) =>
                  .bind
                    (.load (Ty.agg [B.ptr]) (Option.some a20685) fun (r21318 : ((Option Addr) × Unit)) =>
                    .call (F_law4_wordy S (r21318.1, ()) r20014.1 k n) [(Ty.one B.bool)] fun (r21319 : (Bool × Unit)) =>
                    ifB r21319.1
                      (.load (Ty.agg [B.ptr]) (Option.some a20685) fun (r21320 : ((Option Addr) × Unit)) =>
                      .call (F_law4_wordy S (r21320.1, ()) r20014.1 (Int.ofNat 1099511627776) n) [(Ty.one B.bool)] fun (r21321 : (Bool × Unit)) =>
                      .ret 0 [(Value.bool r21321.1)]) <|
                    .ret 0 [(Value.bool Bool.false)]) fun (k21322 : Nat) =>
                  fun (vs21323 : (List Value)) =>
                  ifB (eqN k21322 0)
                    (.cast [(Ty.one B.bool)] vs21323 fun (r21324 : (Bool × Unit)) =>
                    .ret 0 [(Value.bool r21324.1)]) <|
                  .fail) <|
                ifB (eqN k21308 1)
                  (.cast [(Ty.one B.bool)] vs21309 fun (r21325 : (Bool × Unit)) =>
                  .ret 0 [(Value.bool r21325.1)]) <|
                .fail) <|
              ifB (eqN k21275 1)
                (.cast [(Ty.one B.bool)] vs21276 fun (r21326 : (Bool × Unit)) =>
                .ret 0 [(Value.bool r21326.1)]) <|
              .fail) <|
            .fail) <|
          .fail) <|
        .fail) <|
      .fail) <|
    .fail) <|
  .fail
def F_law4_fits (S : Ids) (script : Sl) : Prog :=
  .bind
    (.loop [(Ty.one (B.int IntKind.i64)), (Ty.one (B.int IntKind.i64)), (Ty.one (B.int IntKind.i64))] ((1 : Int), ((1 : Int), ((0 : Int), ()))) fun (r199 : (Int × (Int × (Int × Unit)))) =>
      .bind
        (ifB (ltI r199.2.2.1 (natI script.len))
          (.ret 0 [(Value.bool (leI r199.1 4194304))]) <|
        .ret 0 [(Value.bool Bool.false)]) fun (k231 : Nat) =>
      fun (vs232 : (List Value)) =>
      ifB (eqN k231 0)
        (.cast [(Ty.one B.bool)] vs232 fun (r233 : (Bool × Unit)) =>
        ifB r233.1
          (.bind
            (grd (andB (someB script.base) (inB r199.2.2.1 script.len)) <|
            grd (someB (shiftTo script.base (mulN (toN r199.2.2.1) 7))) <|
            .load (Ty.one B.sl) (shiftTo (shiftTo script.base (mulN (toN r199.2.2.1) 7)) 6) fun (l248 : Sl) =>
            .bind
              (grd (andB (someB script.base) (inB r199.2.2.1 script.len)) <|
              grd (someB (shiftTo script.base (mulN (toN r199.2.2.1) 7))) <|
              .load (Ty.one (B.int IntKind.i64)) (shiftTo (shiftTo script.base (mulN (toN r199.2.2.1) 7)) 0) fun (n254 : Int) =>
              ifB (eqI n254 1)
                (.ret 0 [(Value.bool Bool.true)]) <|
              grd (andB (someB script.base) (inB r199.2.2.1 script.len)) <|
              grd (someB (shiftTo script.base (mulN (toN r199.2.2.1) 7))) <|
              .load (Ty.one (B.int IntKind.i64)) (shiftTo (shiftTo script.base (mulN (toN r199.2.2.1) 7)) 0) fun (n255 : Int) =>
              .ret 0 [(Value.bool (eqI n255 2))]) fun (k256 : Nat) =>
            fun (vs257 : (List Value)) =>
            ifB (eqN k256 0)
              (.cast [(Ty.one B.bool)] vs257 fun (r258 : (Bool × Unit)) =>
              ifB r258.1
                (.ret 0 [(Value.int IntKind.i64 (addI IntKind.i64 r199.1 (natI l248.len))), (Value.int IntKind.i64 (addI IntKind.i64 r199.2.1 1))]) <|
              .ret 0 [(Value.int IntKind.i64 (addI IntKind.i64 r199.1 (natI l248.len))), (Value.int IntKind.i64 r199.2.1)]) <|
            .fail) fun (k259 : Nat) =>
          fun (vs260 : (List Value)) =>
          ifB (eqN k259 0)
            (.cast [(Ty.one (B.int IntKind.i64)), (Ty.one (B.int IntKind.i64))] vs260 fun (r261 : (Int × (Int × Unit))) =>
            .ret 0 [(Value.int IntKind.i64 r261.1), (Value.int IntKind.i64 r261.2.1), (Value.int IntKind.i64 (addI IntKind.i64 r199.2.2.1 1))]) <|
          .fail) <|
        .ret 2 [(Value.int IntKind.i64 r199.1), (Value.int IntKind.i64 r199.2.1)]) <|
      .fail) fun (k262 : Nat) =>
  fun (vs263 : (List Value)) =>
  ifB (eqN k262 2)
    (.cast [(Ty.one (B.int IntKind.i64)), (Ty.one (B.int IntKind.i64))] vs263 fun (r264 : (Int × (Int × Unit))) =>
    .bind
      (ifB (leI r264.1 4194304)
        (ifB (leI (natI script.len) 67108864)
          (ifB (leI (mulI IntKind.i64 r264.2.1 r264.1) 4194304)
            (.ret 0 [(Value.bool (leI (mulI IntKind.i64 (natI script.len) r264.1) 67108864))]) <|
          .ret 0 [(Value.bool Bool.false)]) <|
        .ret 0 [(Value.bool Bool.false)]) <|
      .ret 0 [(Value.bool Bool.false)]) fun (k268 : Nat) =>
    fun (vs269 : (List Value)) =>
    ifB (eqN k268 0)
      (.cast [(Ty.one B.bool)] vs269 fun (r270 : (Bool × Unit)) =>
      .ret 0 [(Value.bool r270.1)]) <|
    .fail) <|
  .fail
def F_law4_alive (S : Ids) : Prog :=
  .alloc [(Value.int IntKind.i64 5), (Value.int IntKind.i64 2), (Value.int IntKind.i64 6), (Value.int IntKind.i64 3)] fun (a1 : Addr) =>
  .call (F_tree_Of_Run S (⟨(Option.some a1), 2, 2⟩)) [(Ty.agg [B.ptr])] fun (r2 : (((Option Addr) × Unit) × Unit)) =>
  .alloc [(Value.pointer Option.none)] fun (a3 : Addr) =>
  .store (Option.some a3) [(Value.pointer r2.1.1)] <|
  .load (Ty.agg [B.ptr]) (Option.some a3) fun (r4 : ((Option Addr) × Unit)) =>
  .call (F_Tree_Run_At S (r4.1, ()) (Int.ofNat 1)) [(Ty.agg [(B.int IntKind.i64), (B.int IntKind.i64)]), (Ty.one B.bool)] fun (r5 : ((Int × (Int × Unit)) × (Bool × Unit))) =>
  .alloc [(Value.int IntKind.i64 0), (Value.int IntKind.i64 0)] fun (a6 : Addr) =>
  .store (Option.some a6) [(Value.int IntKind.i64 r5.1.1), (Value.int IntKind.i64 r5.1.2.1)] <|
  .load (Ty.agg [B.ptr]) (Option.some a3) fun (r7 : ((Option Addr) × Unit)) =>
  .call (F_Tree_Run_Sum S (r7.1, ())) [(Ty.agg [(B.int IntKind.i64), (B.int IntKind.i64), (B.int IntKind.i64), (B.int IntKind.i64)])] fun (r8 : ((Int × (Int × (Int × (Int × Unit)))) × Unit)) =>
  .alloc [(Value.int IntKind.i64 0), (Value.int IntKind.i64 0), (Value.int IntKind.i64 0), (Value.int IntKind.i64 0)] fun (a9 : Addr) =>
  .store (Option.some a9) [(Value.int IntKind.i64 r8.1.1), (Value.int IntKind.i64 r8.1.2.1), (Value.int IntKind.i64 r8.1.2.2.1), (Value.int IntKind.i64 r8.1.2.2.2.1)] <|
  .bind
    (.load (Ty.agg [B.ptr]) (Option.some a3) fun (r21 : ((Option Addr) × Unit)) =>
    .call (F_Tree_Run_Size S (r21.1, ())) [(Ty.one (B.int IntKind.i64))] fun (r22 : (Int × Unit)) =>
    ifB (eqI r22.1 2)
      (ifB r5.2.1
        (.load (Ty.one (B.int IntKind.i64)) (shiftTo (Option.some a6) 0) fun (n23 : Int) =>
        ifB (eqI n23 6)
          (.load (Ty.one (B.int IntKind.i64)) (shiftTo (Option.some a6) 1) fun (n24 : Int) =>
          ifB (eqI n24 3)
            (.load (Ty.one (B.int IntKind.i64)) (shiftTo (Option.some a9) 0) fun (n25 : Int) =>
            ifB (eqI n25 5)
              (.load (Ty.one (B.int IntKind.i64)) (shiftTo (Option.some a9) 1) fun (n26 : Int) =>
              ifB (eqI n26 2)
                (.load (Ty.one (B.int IntKind.i64)) (shiftTo (Option.some a9) 2) fun (n27 : Int) =>
                ifB (eqI n27 5)
                  (.load (Ty.one (B.int IntKind.i64)) (shiftTo (Option.some a9) 3) fun (n28 : Int) =>
                  .ret 0 [(Value.bool (eqI n28 6))]) <|
                .ret 0 [(Value.bool Bool.false)]) <|
              .ret 0 [(Value.bool Bool.false)]) <|
            .ret 0 [(Value.bool Bool.false)]) <|
          .ret 0 [(Value.bool Bool.false)]) <|
        .ret 0 [(Value.bool Bool.false)]) <|
      .ret 0 [(Value.bool Bool.false)]) <|
    .ret 0 [(Value.bool Bool.false)]) fun (k29 : Nat) =>
  fun (vs30 : (List Value)) =>
  ifB (eqN k29 0)
    (.cast [(Ty.one B.bool)] vs30 fun (r31 : (Bool × Unit)) =>
    .ret 0 [(Value.bool r31.1)]) <|
  .fail
def F_law4_begin (S : Ids) : Prog :=
  .alloc [(Value.slice Option.none 0 0), (Value.slice Option.none 0 0)] fun (a1 : Addr) =>
  .alloc [(Value.pointer Option.none)] fun (a2 : Addr) =>
  .load (Ty.one B.sl) (shiftTo (Option.some a1) 0) fun (l3 : Sl) =>
  .load (Ty.agg [B.ptr]) (Option.some a2) fun (r4 : ((Option Addr) × Unit)) =>
  .alloc [(Value.pointer r4.1)] fun (a5 : Addr) =>
  .check (shiftTo (Option.some a1) 0) [(Value.slice l3.base l3.len l3.cap)] <|
  .append 1 8 [(Value.pointer Option.none)] l3 (⟨(Option.some a5), 1, 1⟩) fun (l6 : Sl) =>
  .store (shiftTo (Option.some a1) 0) [(Value.slice l6.base l6.len l6.cap)] <|
  .load (Ty.one B.sl) (shiftTo (Option.some a1) 1) fun (l7 : Sl) =>
  .alloc [(Value.slice Option.none 0 0)] fun (a8 : Addr) =>
  .append 1 24 [(Value.slice Option.none 0 0)] l7 (⟨(Option.some a8), 1, 1⟩) fun (l9 : Sl) =>
  .store (shiftTo (Option.some a1) 1) [(Value.slice l9.base l9.len l9.cap)] <|
  .ret 0 [(Value.pointer (Option.some a1))]
def F_law4_handed (S : Ids) (o : (Int × Int × Int × Int × Int × Int × Sl × Unit)) : Prog :=
  .alloc [(Value.int IntKind.i64 o.1), (Value.int IntKind.i64 o.2.1), (Value.int IntKind.i64 o.2.2.1), (Value.int IntKind.i64 o.2.2.2.1), (Value.int IntKind.i64 o.2.2.2.2.1), (Value.int IntKind.i64 o.2.2.2.2.2.1), (Value.slice o.2.2.2.2.2.2.1.base o.2.2.2.2.2.2.1.len o.2.2.2.2.2.2.1.cap)] fun (a1 : Addr) =>
  .bind
    (.loop [(Ty.one B.sl), (Ty.one (B.int IntKind.i64))] ((⟨Option.none, 0, 0⟩ : Sl), ((0 : Int), ())) fun (r63 : (Sl × (Int × Unit))) =>
      .load (Ty.one B.sl) (shiftTo (Option.some a1) 6) fun (l64 : Sl) =>
      ifB (ltI r63.2.1 (natI l64.len))
        (.load (Ty.one B.sl) (shiftTo (Option.some a1) 6) fun (l65 : Sl) =>
        grd (andB (someB l65.base) (inB r63.2.1 l65.len)) <|
        .load (Ty.agg [(B.int IntKind.i64), (B.int IntKind.i64)]) (shiftTo l65.base (mulN (toN r63.2.1) 2)) fun (r66 : (Int × (Int × Unit))) =>
        .alloc [(Value.int IntKind.i64 r66.1), (Value.int IntKind.i64 r66.2.1)] fun (a67 : Addr) =>
        .append 2 16 [(Value.int IntKind.i64 0), (Value.int IntKind.i64 0)] r63.1 (⟨(Option.some a67), 1, 1⟩) fun (l68 : Sl) =>
        .ret 0 [(Value.slice l68.base l68.len l68.cap), (Value.int IntKind.i64 (addI IntKind.i64 r63.2.1 1))]) <|
      .ret 2 [(Value.slice r63.1.base r63.1.len r63.1.cap)]) fun (k69 : Nat) =>
  fun (vs70 : (List Value)) =>
  ifB (eqN k69 2)
    (.cast [(Ty.one B.sl)] vs70 fun (r71 : (Sl × Unit)) =>
    .bind
      (.loop [(Ty.one B.sl), (Ty.one (B.int IntKind.i64))] (r71.1, ((0 : Int), ())) fun (r95 : (Sl × (Int × Unit))) =>
        ifB (ltI r95.2.1 40)
          (.alloc [(Value.int IntKind.i64 0), (Value.int IntKind.i64 0)] fun (a96 : Addr) =>
          .append 2 16 [(Value.int IntKind.i64 0), (Value.int IntKind.i64 0)] r95.1 (⟨(Option.some a96), 1, 1⟩) fun (l97 : Sl) =>
          .ret 0 [(Value.slice l97.base l97.len l97.cap), (Value.int IntKind.i64 (addI IntKind.i64 r95.2.1 1))]) <|
        .ret 4 [(Value.slice r95.1.base r95.1.len r95.1.cap)]) fun (k98 : Nat) =>
    fun (vs99 : (List Value)) =>
    ifB (eqN k98 4)
      (.cast [(Ty.one B.sl)] vs99 fun (r100 : (Sl × Unit)) =>
      grd (leB (natI r100.1.cap) r100.1.cap) <|
      .load (Ty.one B.sl) (shiftTo (Option.some a1) 6) fun (l101 : Sl) =>
      .bind
        (.loop [(Ty.one (B.int IntKind.i64))] ((natI l101.len), ()) fun (r108 : (Int × Unit)) =>
          ifB (ltI r108.1 (natI (subN (toN (natI r100.1.cap)) 0)))
            (grd (andB (someB (cutBase r100.1.base r100.1.cap 0 2)) (inB r108.1 (subN (toN (natI r100.1.cap)) 0))) <|
            .store (shiftTo (cutBase r100.1.base r100.1.cap 0 2) (mulN (toN r108.1) 2)) [(Value.int IntKind.i64 (subI IntKind.i64 (-71) r108.1)), (Value.int IntKind.i64 (-72))] <|
            .ret 0 [(Value.int IntKind.i64 (addI IntKind.i64 r108.1 1))]) <|
          .ret 6 []) fun (k109 : Nat) =>
      fun (vs110 : (List Value)) =>
      ifB (eqN k109 6)
        (.cast [] vs110 fun (u111 : Unit) =>
        .ret 0 [(Value.slice (cutBase r100.1.base r100.1.cap 0 2) (subN (toN (natI r100.1.cap)) 0) (subN r100.1.cap 0))]) <|
      .fail) <|
    .fail) <|
  .fail
def F_law4_spoil (S : Ids) (l : Sl) (was : Sl) : Prog :=
  .bind
    (.loop [(Ty.one (B.int IntKind.i64))] ((natI was.len), ()) fun (r106 : (Int × Unit)) =>
      ifB (ltI r106.1 (natI l.len))
        (.bind
          (grd (andB (someB l.base) (inB r106.1 l.len)) <|
          grd (someB (shiftTo l.base (mulN (toN r106.1) 2))) <|
          .load (Ty.one (B.int IntKind.i64)) (shiftTo (shiftTo l.base (mulN (toN r106.1) 2)) 0) fun (n112 : Int) =>
          ifB (neI n112 (subI IntKind.i64 (-71) r106.1))
            (.ret 0 [(Value.bool Bool.true)]) <|
          grd (andB (someB l.base) (inB r106.1 l.len)) <|
          grd (someB (shiftTo l.base (mulN (toN r106.1) 2))) <|
          .load (Ty.one (B.int IntKind.i64)) (shiftTo (shiftTo l.base (mulN (toN r106.1) 2)) 1) fun (n113 : Int) =>
          .ret 0 [(Value.bool (neI n113 (-72)))]) fun (k114 : Nat) =>
        fun (vs115 : (List Value)) =>
        ifB (eqN k114 0)
          (.cast [(Ty.one B.bool)] vs115 fun (r116 : (Bool × Unit)) =>
          ifB r116.1
            (.ret 1 [(Value.bool Bool.false)]) <|
          .ret 0 [(Value.int IntKind.i64 (addI IntKind.i64 r106.1 1))]) <|
        .fail) <|
      .ret 2 []) fun (k117 : Nat) =>
  fun (vs118 : (List Value)) =>
  ifB (eqN k117 2)
    (.cast [] vs118 fun (u119 : Unit) =>
    .bind
      (.loop [(Ty.one (B.int IntKind.i64))] ((0 : Int), ()) fun (r169 : (Int × Unit)) =>
        ifB (ltI r169.1 (natI was.len))
          (.bind
            (grd (andB (someB l.base) (inB r169.1 l.len)) <|
            grd (someB (shiftTo l.base (mulN (toN r169.1) 2))) <|
            .load (Ty.one (B.int IntKind.i64)) (shiftTo (shiftTo l.base (mulN (toN r169.1) 2)) 0) fun (n177 : Int) =>
            grd (andB (someB was.base) (inB r169.1 was.len)) <|
            grd (someB (shiftTo was.base (mulN (toN r169.1) 2))) <|
            .load (Ty.one (B.int IntKind.i64)) (shiftTo (shiftTo was.base (mulN (toN r169.1) 2)) 0) fun (n178 : Int) =>
            ifB (neI n177 n178)
              (.ret 0 [(Value.bool Bool.true)]) <|
            grd (andB (someB l.base) (inB r169.1 l.len)) <|
            grd (someB (shiftTo l.base (mulN (toN r169.1) 2))) <|
            .load (Ty.one (B.int IntKind.i64)) (shiftTo (shiftTo l.base (mulN (toN r169.1) 2)) 1) fun (n179 : Int) =>
            grd (andB (someB was.base) (inB r169.1 was.len)) <|
            grd (someB (shiftTo was.base (mulN (toN r169.1) 2))) <|
            .load (Ty.one (B.int IntKind.i64)) (shiftTo (shiftTo was.base (mulN (toN r169.1) 2)) 1) fun (n180 : Int) =>
            .ret 0 [(Value.bool (neI n179 n180))]) fun (k181 : Nat) =>
          fun (vs182 : (List Value)) =>
          ifB (eqN k181 0)
            (.cast [(Ty.one B.bool)] vs182 fun (r183 : (Bool × Unit)) =>
            ifB r183.1
              (.ret 1 [(Value.bool Bool.false)]) <|
            grd (andB (someB l.base) (inB r169.1 l.len)) <|
            .store (shiftTo l.base (mulN (toN r169.1) 2)) [(Value.int IntKind.i64 (subI IntKind.i64 (-77) r169.1)), (Value.int IntKind.i64 1)] <|
            .ret 0 [(Value.int IntKind.i64 (addI IntKind.i64 r169.1 1))]) <|
          .fail) <|
        .ret 4 []) fun (k184 : Nat) =>
    fun (vs185 : (List Value)) =>
    ifB (eqN k184 4)
      (.cast [] vs185 fun (u186 : Unit) =>
      .ret 0 [(Value.bool Bool.true)]) <|
    ifB (eqN k184 1)
      (.cast [(Ty.one B.bool)] vs185 fun (r187 : (Bool × Unit)) =>
      .ret 0 [(Value.bool r187.1)]) <|
    .fail) <|
  ifB (eqN k117 1)
    (.cast [(Ty.one B.bool)] vs118 fun (r188 : (Bool × Unit)) =>
    .ret 0 [(Value.bool r188.1)]) <|
  .fail
def F_law4_sameRun (S : Ids) (a : (Int × Int × Unit)) (b : (Int × Int × Unit)) : Prog :=
  .alloc [(Value.int IntKind.i64 a.1), (Value.int IntKind.i64 a.2.1)] fun (a1 : Addr) =>
  .alloc [(Value.int IntKind.i64 b.1), (Value.int IntKind.i64 b.2.1)] fun (a2 : Addr) =>
  .bind
    (.load (Ty.one (B.int IntKind.i64)) (shiftTo (Option.some a1) 0) fun (n10 : Int) =>
    .load (Ty.one (B.int IntKind.i64)) (shiftTo (Option.some a2) 0) fun (n11 : Int) =>
    ifB (eqI n10 n11)
      (.load (Ty.one (B.int IntKind.i64)) (shiftTo (Option.some a1) 1) fun (n12 : Int) =>
      .load (Ty.one (B.int IntKind.i64)) (shiftTo (Option.some a2) 1) fun (n13 : Int) =>
      .ret 0 [(Value.bool (eqI n12 n13))]) <|
    .ret 0 [(Value.bool Bool.false)]) fun (k14 : Nat) =>
  fun (vs15 : (List Value)) =>
  ifB (eqN k14 0)
    (.cast [(Ty.one B.bool)] vs15 fun (r16 : (Bool × Unit)) =>
    .ret 0 [(Value.bool r16.1)]) <|
  .fail
def F_wood_who (S : Ids) (w : (Option Addr)) (o : (Int × Int × Int × Int × Int × Int × Sl × Unit)) : Prog :=
  .alloc [(Value.int IntKind.i64 o.1), (Value.int IntKind.i64 o.2.1), (Value.int IntKind.i64 o.2.2.1), (Value.int IntKind.i64 o.2.2.2.1), (Value.int IntKind.i64 o.2.2.2.2.1), (Value.int IntKind.i64 o.2.2.2.2.2.1), (Value.slice o.2.2.2.2.2.2.1.base o.2.2.2.2.2.2.1.len o.2.2.2.2.2.2.1.cap)] fun (a1 : Addr) =>
  .load (Ty.one (B.int IntKind.i64)) (shiftTo (Option.some a1) 1) fun (n2 : Int) =>
  grd (someB w) <|
  grd (someB w) <|
  .load (Ty.one B.sl) (shiftTo w 0) fun (l3 : Sl) =>
  grd (notB (eqI (natI l3.len) 0)) <|
  .bind
    (ifB (ltI (remI IntKind.i64 n2 (natI l3.len)) 0)
      (grd (someB w) <|
      grd (someB w) <|
      .load (Ty.one B.sl) (shiftTo w 0) fun (l8 : Sl) =>
      .ret 0 [(Value.int IntKind.i64 (addI IntKind.i64 (remI IntKind.i64 n2 (natI l3.len)) (natI l8.len)))]) <|
    .ret 0 [(Value.int IntKind.i64 (remI IntKind.i64 n2 (natI l3.len)))]) fun (k9 : Nat) =>
  fun (vs10 : (List Value)) =>
  ifB (eqN k9 0)
    (.cast [(Ty.one (B.int IntKind.i64))] vs10 fun (r11 : (Int × Unit)) =>
    .ret 0 [(Value.int IntKind.i64 r11.1)]) <|
  .fail
def F_ref4_Replace (S : Ids) (l : Sl) (from_ : Int) (to : Int) (items : Sl) : Prog :=
  .bind
    (ifB (ltI from_ 0)
      (.ret 0 [(Value.bool Bool.true)]) <|
    ifB (gtI from_ to)
      (.ret 0 [(Value.bool Bool.true)]) <|
    .ret 0 [(Value.bool (gtI to (natI l.len)))]) fun (k158 : Nat) =>
  fun (vs159 : (List Value)) =>
  ifB (eqN k158 0)
    (.cast [(Ty.one B.bool)] vs159 fun (r160 : (Bool × Unit)) =>
    ifB r160.1
      (.ret 0 [(Value.slice Option.none 0 0), (Value.int IntKind.i64 1)]) <|
    .bind
      (.loop [(Ty.one B.sl), (Ty.one (B.int IntKind.i64))] ((⟨Option.none, 0, 0⟩ : Sl), ((0 : Int), ())) fun (r242 : (Sl × (Int × Unit))) =>
        ifB (ltI r242.2.1 from_)
          (grd (andB (someB l.base) (inB r242.2.1 l.len)) <|
          .load (Ty.agg [(B.int IntKind.i64), (B.int IntKind.i64)]) (shiftTo l.base (mulN (toN r242.2.1) 2)) fun (r243 : (Int × (Int × Unit))) =>
          .alloc [(Value.int IntKind.i64 r243.1), (Value.int IntKind.i64 r243.2.1)] fun (a244 : Addr) =>
          .append 2 16 [(Value.int IntKind.i64 0), (Value.int IntKind.i64 0)] r242.1 (⟨(Option.some a244), 1, 1⟩) fun (l245 : Sl) =>
          .ret 0 [(Value.slice l245.base l245.len l245.cap), (Value.int IntKind.i64 (addI IntKind.i64 r242.2.1 1))]) <|
        .ret 2 [(Value.slice r242.1.base r242.1.len r242.1.cap)]) fun (k246 : Nat) =>
    fun (vs247 : (List Value)) =>
    ifB (eqN k246 2)
      (.cast [(Ty.one B.sl)] vs247 fun (r248 : (Sl × Unit)) =>
      .bind
        (.loop [(Ty.one B.sl), (Ty.one (B.int IntKind.i64))] (r248.1, ((0 : Int), ())) fun (r286 : (Sl × (Int × Unit))) =>
          ifB (ltI r286.2.1 (natI items.len))
            (grd (andB (someB items.base) (inB r286.2.1 items.len)) <|
            .load (Ty.agg [(B.int IntKind.i64), (B.int IntKind.i64)]) (shiftTo items.base (mulN (toN r286.2.1) 2)) fun (r287 : (Int × (Int × Unit))) =>
            .alloc [(Value.int IntKind.i64 r287.1), (Value.int IntKind.i64 r287.2.1)] fun (a288 : Addr) =>
            .append 2 16 [(Value.int IntKind.i64 0), (Value.int IntKind.i64 0)] r286.1 (⟨(Option.some a288), 1, 1⟩) fun (l289 : Sl) =>
            .ret 0 [(Value.slice l289.base l289.len l289.cap), (Value.int IntKind.i64 (addI IntKind.i64 r286.2.1 1))]) <|
          .ret 4 [(Value.slice r286.1.base r286.1.len r286.1.cap)]) fun (k290 : Nat) =>
      fun (vs291 : (List Value)) =>
      ifB (eqN k290 4)
        (.cast [(Ty.one B.sl)] vs291 fun (r292 : (Sl × Unit)) =>
        .bind
          (.loop [(Ty.one B.sl), (Ty.one (B.int IntKind.i64))] (r292.1, (to, ())) fun (r308 : (Sl × (Int × Unit))) =>
            ifB (ltI r308.2.1 (natI l.len))
              (grd (andB (someB l.base) (inB r308.2.1 l.len)) <|
              .load (Ty.agg [(B.int IntKind.i64), (B.int IntKind.i64)]) (shiftTo l.base (mulN (toN r308.2.1) 2)) fun (r309 : (Int × (Int × Unit))) =>
              .alloc [(Value.int IntKind.i64 r309.1), (Value.int IntKind.i64 r309.2.1)] fun (a310 : Addr) =>
              .append 2 16 [(Value.int IntKind.i64 0), (Value.int IntKind.i64 0)] r308.1 (⟨(Option.some a310), 1, 1⟩) fun (l311 : Sl) =>
              .ret 0 [(Value.slice l311.base l311.len l311.cap), (Value.int IntKind.i64 (addI IntKind.i64 r308.2.1 1))]) <|
            .ret 6 [(Value.slice r308.1.base r308.1.len r308.1.cap)]) fun (k312 : Nat) =>
        fun (vs313 : (List Value)) =>
        ifB (eqN k312 6)
          (.cast [(Ty.one B.sl)] vs313 fun (r314 : (Sl × Unit)) =>
          .ret 0 [(Value.slice r314.1.base r314.1.len r314.1.cap), (Value.int IntKind.i64 0)]) <|
        .fail) <|
      .fail) <|
    .fail) <|
  .fail
def F_wood_makes (S : Ids) (w : (Option Addr)) (o : (Int × Int × Int × Int × Int × Int × Sl × Unit)) : Prog :=
  .alloc [(Value.int IntKind.i64 o.1), (Value.int IntKind.i64 o.2.1), (Value.int IntKind.i64 o.2.2.1), (Value.int IntKind.i64 o.2.2.2.1), (Value.int IntKind.i64 o.2.2.2.2.1), (Value.int IntKind.i64 o.2.2.2.2.2.1), (Value.slice o.2.2.2.2.2.2.1.base o.2.2.2.2.2.2.1.len o.2.2.2.2.2.2.1.cap)] fun (a1 : Addr) =>
  .load (Ty.agg [(B.int IntKind.i64), (B.int IntKind.i64), (B.int IntKind.i64), (B.int IntKind.i64), (B.int IntKind.i64), (B.int IntKind.i64), B.sl]) (Option.some a1) fun (r2 : (Int × (Int × (Int × (Int × (Int × (Int × (Sl × Unit)))))))) =>
  .call (F_law4_handed S (r2.1, (r2.2.1, (r2.2.2.1, (r2.2.2.2.1, (r2.2.2.2.2.1, (r2.2.2.2.2.2.1, (r2.2.2.2.2.2.2.1, ())))))))) [(Ty.one B.sl)] fun (r3 : (Sl × Unit)) =>
  .load (Ty.one (B.int IntKind.i64)) (shiftTo (Option.some a1) 0) fun (n4 : Int) =>
  ifB (eqI n4 1)
    (.load (Ty.one B.sl) (shiftTo (Option.some a1) 6) fun (l5 : Sl) =>
    grd (leB (natI l5.len) r3.1.cap) <|
    .call (F_tree_Of_Run S (⟨(cutBase r3.1.base r3.1.cap 0 2), (subN (toN (natI l5.len)) 0), (subN r3.1.cap 0)⟩)) [(Ty.agg [B.ptr])] fun (r6 : (((Option Addr) × Unit) × Unit)) =>
    .alloc [(Value.pointer Option.none)] fun (a7 : Addr) =>
    .store (Option.some a7) [(Value.pointer r6.1.1)] <|
    grd (someB w) <|
    grd (someB w) <|
    .load (Ty.one B.sl) (shiftTo w 0) fun (l8 : Sl) =>
    .load (Ty.agg [B.ptr]) (Option.some a7) fun (r9 : ((Option Addr) × Unit)) =>
    .alloc [(Value.pointer r9.1)] fun (a10 : Addr) =>
    .check (shiftTo w 0) [(Value.slice l8.base l8.len l8.cap)] <|
    .append 1 8 [(Value.pointer Option.none)] l8 (⟨(Option.some a10), 1, 1⟩) fun (l11 : Sl) =>
    grd (someB w) <|
    grd (someB w) <|
    .store (shiftTo w 0) [(Value.slice l11.base l11.len l11.cap)] <|
    grd (someB w) <|
    grd (someB w) <|
    .load (Ty.one B.sl) (shiftTo w 1) fun (l12 : Sl) =>
    .load (Ty.one B.sl) (shiftTo (Option.some a1) 6) fun (l13 : Sl) =>
    .call (F_law4_plain S l13) [(Ty.one B.sl)] fun (r14 : (Sl × Unit)) =>
    .check (shiftTo w 1) [(Value.slice l12.base l12.len l12.cap)] <|
    .alloc [(Value.slice r14.1.base r14.1.len r14.1.cap)] fun (a15 : Addr) =>
    .check (shiftTo w 1) [(Value.slice l12.base l12.len l12.cap)] <|
    .append 1 24 [(Value.slice Option.none 0 0)] l12 (⟨(Option.some a15), 1, 1⟩) fun (l16 : Sl) =>
    grd (someB w) <|
    grd (someB w) <|
    .store (shiftTo w 1) [(Value.slice l16.base l16.len l16.cap)] <|
    .load (Ty.one B.sl) (shiftTo (Option.some a1) 6) fun (l17 : Sl) =>
    .call (F_law4_spoil S r3.1 l17) [(Ty.one B.bool)] fun (r18 : (Bool × Unit)) =>
    .load (Ty.one B.sl) (shiftTo (Option.some a1) 6) fun (l19 : Sl) =>
    grd (leB (natI l19.len) r3.1.cap) <|
    .call (F_tree_Of_Run S (⟨(cutBase r3.1.base r3.1.cap 0 2), (subN (toN (natI l19.len)) 0), (subN r3.1.cap 0)⟩)) [(Ty.agg [B.ptr])] fun (r20 : (((Option Addr) × Unit) × Unit)) =>
    .alloc [(Value.pointer Option.none)] fun (a21 : Addr) =>
    .store (Option.some a21) [(Value.pointer r20.1.1)] <|
    .load (Ty.one B.sl) (shiftTo (Option.some a1) 6) fun (l22 : Sl) =>
    grd (leB (natI l22.len) r3.1.cap) <|
    .call (F_law4_plain S (⟨(cutBase r3.1.base r3.1.cap 0 2), (subN (toN (natI l22.len)) 0), (subN r3.1.cap 0)⟩)) [(Ty.one B.sl)] fun (r23 : (Sl × Unit)) =>
    .bind
      (.load (Ty.agg [B.ptr]) (Option.some a21) fun (r105 : ((Option Addr) × Unit)) =>
      .call (F_Tree_Run_Size S (r105.1, ())) [(Ty.one (B.int IntKind.i64))] fun (r106 : (Int × Unit)) =>
      ifB (neI r106.1 (natI r23.1.len))
        (.ret 0 [(Value.bool Bool.true)]) <|
      .load (Ty.agg [B.ptr]) (Option.some a21) fun (r107 : ((Option Addr) × Unit)) =>
      .call (F_Tree_Run_Sum S (r107.1, ())) [(Ty.agg [(B.int IntKind.i64), (B.int IntKind.i64), (B.int IntKind.i64), (B.int IntKind.i64)])] fun (r108 : ((Int × (Int × (Int × (Int × Unit)))) × Unit)) =>
      .call (F_ref4_Upto S r23.1 (natI r23.1.len)) [(Ty.agg [(B.int IntKind.i64), (B.int IntKind.i64), (B.int IntKind.i64), (B.int IntKind.i64)])] fun (r109 : ((Int × (Int × (Int × (Int × Unit)))) × Unit)) =>
      .call (F_law4_sameRuns S (r108.1.1, (r108.1.2.1, (r108.1.2.2.1, (r108.1.2.2.2.1, ())))) (r109.1.1, (r109.1.2.1, (r109.1.2.2.1, (r109.1.2.2.2.1, ()))))) [(Ty.one B.bool)] fun (r110 : (Bool × Unit)) =>
      .ret 0 [(Value.bool (notB r110.1))]) fun (k111 : Nat) =>
    fun (vs112 : (List Value)) =>
    ifB (eqN k111 0)
      (.cast [(Ty.one B.bool)] vs112 fun (r113 : (Bool × Unit)) =>
      ifB r113.1
        (.ret 0 [(Value.bool Bool.false)]) <|
      .bind
        (.loop [(Ty.one (B.int IntKind.i64))] ((0 : Int), ()) fun (r166 : (Int × Unit)) =>
          ifB (ltI r166.1 (natI r23.1.len))
            (.load (Ty.agg [B.ptr]) (Option.some a21) fun (r167 : ((Option Addr) × Unit)) =>
            .call (F_Tree_Run_At S (r167.1, ()) r166.1) [(Ty.agg [(B.int IntKind.i64), (B.int IntKind.i64)]), (Ty.one B.bool)] fun (r168 : ((Int × (Int × Unit)) × (Bool × Unit))) =>
            .alloc [(Value.int IntKind.i64 0), (Value.int IntKind.i64 0)] fun (a169 : Addr) =>
            .store (Option.some a169) [(Value.int IntKind.i64 r168.1.1), (Value.int IntKind.i64 r168.1.2.1)] <|
            .bind
              (ifB (notB r168.2.1)
                (.ret 0 [(Value.bool Bool.true)]) <|
              .load (Ty.agg [(B.int IntKind.i64), (B.int IntKind.i64)]) (Option.some a169) fun (r176 : (Int × (Int × Unit))) =>
              grd (andB (someB r23.1.base) (inB r166.1 r23.1.len)) <|
              .load (Ty.agg [(B.int IntKind.i64), (B.int IntKind.i64)]) (shiftTo r23.1.base (mulN (toN r166.1) 2)) fun (r177 : (Int × (Int × Unit))) =>
              .call (F_law4_sameRun S (r176.1, (r176.2.1, ())) (r177.1, (r177.2.1, ()))) [(Ty.one B.bool)] fun (r178 : (Bool × Unit)) =>
              .ret 0 [(Value.bool (notB r178.1))]) fun (k179 : Nat) =>
            fun (vs180 : (List Value)) =>
            ifB (eqN k179 0)
              (.cast [(Ty.one B.bool)] vs180 fun (r181 : (Bool × Unit)) =>
              ifB r181.1
                (.ret 1 [(Value.bool Bool.false)]) <|
              ifB (gtI r166.1 40)
                (.ret 2 []) <|
              .ret 0 [(Value.int IntKind.i64 (addI IntKind.i64 r166.1 1))]) <|
            .fail) <|
          .ret 2 []) fun (k182 : Nat) =>
      fun (vs183 : (List Value)) =>
      ifB (eqN k182 2)
        (.cast [] vs183 fun (u184 : Unit) =>
        .ret 0 [(Value.bool r18.1)]) <|
      ifB (eqN k182 1)
        (.cast [(Ty.one B.bool)] vs183 fun (r185 : (Bool × Unit)) =>
        .ret 0 [(Value.bool r185.1)]) <|
      .fail) <|
    .fail) <|
  .load (Ty.agg [(B.int IntKind.i64), (B.int IntKind.i64), (B.int IntKind.i64), (B.int IntKind.i64), (B.int IntKind.i64), (B.int IntKind.i64), B.sl]) (Option.some a1) fun (r186 : (Int × (Int × (Int × (Int × (Int × (Int × (Sl × Unit)))))))) =>
  .call (F_wood_who S w (r186.1, (r186.2.1, (r186.2.2.1, (r186.2.2.2.1, (r186.2.2.2.2.1, (r186.2.2.2.2.2.1, (r186.2.2.2.2.2.2.1, ())))))))) [(Ty.one (B.int IntKind.i64))] fun (r187 : (Int × Unit)) =>
  .bind
    (.both (grd (someB w) <|
    grd (someB w) <|
    .load (Ty.one B.sl) (shiftTo w 0) fun (l224 : Sl) =>
    grd (andB (someB l224.base) (inB r187.1 l224.len)) <|
    .load (Ty.agg [B.ptr]) (shiftTo l224.base (mulN (toN r187.1) 1)) fun (r225 : ((Option Addr) × Unit)) =>
    .load (Ty.one (B.int IntKind.i64)) (shiftTo (Option.some a1) 2) fun (n226 : Int) =>
    .load (Ty.one (B.int IntKind.i64)) (shiftTo (Option.some a1) 3) fun (n227 : Int) =>
    .load (Ty.one B.sl) (shiftTo (Option.some a1) 6) fun (l228 : Sl) =>
    grd (leB (natI l228.len) r3.1.cap) <|
    .call (F_Tree_Run_Replace S (r225.1, ()) n226 n227 (⟨(cutBase r3.1.base r3.1.cap 0 2), (subN (toN (natI l228.len)) 0), (subN r3.1.cap 0)⟩)) [(Ty.agg [B.ptr]), (Ty.one (B.int IntKind.i64))] fun (r229 : (((Option Addr) × Unit) × (Int × Unit))) =>
    .alloc [(Value.pointer Option.none)] fun (a230 : Addr) =>
    .check (shiftTo (Option.some a1) 6) [(Value.slice l228.base l228.len l228.cap)] <|
    .check (shiftTo (Option.some a1) 3) [(Value.int IntKind.i64 n227)] <|
    .check (shiftTo (Option.some a1) 2) [(Value.int IntKind.i64 n226)] <|
    .check (shiftTo l224.base (mulN (toN r187.1) 1)) [(Value.pointer r225.1)] <|
    .check (shiftTo w 0) [(Value.slice l224.base l224.len l224.cap)] <|
    .store (Option.some a230) [(Value.pointer r229.1.1)] <|
    .ret 0 [(Value.pointer (Option.some a230)), (Value.int IntKind.i64 r229.2.1)]) <|
    grd (someB w) <|
    grd (someB w) <|
    .load (Ty.one B.sl) (shiftTo w 0) fun (l231 : Sl) =>
    grd (andB (someB l231.base) (inB r187.1 l231.len)) <|
    .load (Ty.agg [B.ptr]) (shiftTo l231.base (mulN (toN r187.1) 1)) fun (r232 : ((Option Addr) × Unit)) =>
    .load (Ty.one (B.int IntKind.i64)) (shiftTo (Option.some a1) 2) fun (n233 : Int) =>
    .load (Ty.one (B.int IntKind.i64)) (shiftTo (Option.some a1) 3) fun (n234 : Int) =>
    .load (Ty.one B.sl) (shiftTo (Option.some a1) 6) fun (l235 : Sl) =>
    grd (leB (natI l235.len) r3.1.cap) <|
    .alloc [(Value.pointer Option.none)] fun (a236 : Addr) =>
    .check (shiftTo (Option.some a1) 6) [(Value.slice l235.base l235.len l235.cap)] <|
    .check (shiftTo (Option.some a1) 3) [(Value.int IntKind.i64 n234)] <|
    .check (shiftTo (Option.some a1) 2) [(Value.int IntKind.i64 n233)] <|
    .check (shiftTo l231.base (mulN (toN r187.1) 1)) [(Value.pointer r232.1)] <|
    .check (shiftTo w 0) [(Value.slice l231.base l231.len l231.cap)] <|
    .call (F_Tree_Run_Replace S (r232.1, ()) n233 n234 (⟨(cutBase r3.1.base r3.1.cap 0 2), (subN (toN (natI l235.len)) 0), (subN r3.1.cap 0)⟩)) [(Ty.agg [B.ptr]), (Ty.one (B.int IntKind.i64))] fun (r237 : (((Option Addr) × Unit) × (Int × Unit))) =>
    .store (Option.some a236) [(Value.pointer r237.1.1)] <|
    .ret 0 [(Value.pointer (Option.some a236)), (Value.int IntKind.i64 r237.2.1)]) fun (k238 : Nat) =>
  fun (vs239 : (List Value)) =>
  ifB (eqN k238 0)
    (.cast [(Ty.one B.ptr), (Ty.one (B.int IntKind.i64))] vs239 fun (r240 : ((Option Addr) × (Int × Unit))) =>
    grd (someB w) <|
    grd (someB w) <|
    .load (Ty.one B.sl) (shiftTo w 1) fun (l241 : Sl) =>
    grd (andB (someB l241.base) (inB r187.1 l241.len)) <|
    .load (Ty.one B.sl) (shiftTo l241.base (mulN (toN r187.1) 1)) fun (l242 : Sl) =>
    .load (Ty.one (B.int IntKind.i64)) (shiftTo (Option.some a1) 2) fun (n243 : Int) =>
    .load (Ty.one (B.int IntKind.i64)) (shiftTo (Option.some a1) 3) fun (n244 : Int) =>
    .load (Ty.one B.sl) (shiftTo (Option.some a1) 6) fun (l245 : Sl) =>
    .call (F_law4_plain S l245) [(Ty.one B.sl)] fun (r246 : (Sl × Unit)) =>
    .check (shiftTo (Option.some a1) 3) [(Value.int IntKind.i64 n244)] <|
    .check (shiftTo (Option.some a1) 2) [(Value.int IntKind.i64 n243)] <|
    .check (shiftTo l241.base (mulN (toN r187.1) 1)) [(Value.slice l242.base l242.len l242.cap)] <|
    .check (shiftTo w 1) [(Value.slice l241.base l241.len l241.cap)] <|
    .call (F_ref4_Replace S l242 n243 n244 r246.1) [(Ty.one B.sl), (Ty.one (B.int IntKind.i64))] fun (r247 : (Sl × (Int × Unit))) =>
    .call (F_law4_num S r240.2.1) [(Ty.one (B.int IntKind.i64))] fun (r248 : (Int × Unit)) =>
    ifB (neI r248.1 r247.2.1)
      (.ret 0 [(Value.bool Bool.false)]) <|
    ifB (neI r247.2.1 0)
      (.load (Ty.agg [B.ptr]) r240.1 fun (r249 : ((Option Addr) × Unit)) =>
      .call (F_Tree_Run_Size S (r249.1, ())) [(Ty.one (B.int IntKind.i64))] fun (r250 : (Int × Unit)) =>
      .ret 0 [(Value.bool (eqI r250.1 0))]) <|
    grd (someB w) <|
    grd (someB w) <|
    .load (Ty.one B.sl) (shiftTo w 0) fun (l251 : Sl) =>
    .load (Ty.agg [B.ptr]) r240.1 fun (r252 : ((Option Addr) × Unit)) =>
    .alloc [(Value.pointer r252.1)] fun (a253 : Addr) =>
    .check (shiftTo w 0) [(Value.slice l251.base l251.len l251.cap)] <|
    .append 1 8 [(Value.pointer Option.none)] l251 (⟨(Option.some a253), 1, 1⟩) fun (l254 : Sl) =>
    grd (someB w) <|
    grd (someB w) <|
    .store (shiftTo w 0) [(Value.slice l254.base l254.len l254.cap)] <|
    grd (someB w) <|
    grd (someB w) <|
    .load (Ty.one B.sl) (shiftTo w 1) fun (l255 : Sl) =>
    .alloc [(Value.slice r247.1.base r247.1.len r247.1.cap)] fun (a256 : Addr) =>
    .append 1 24 [(Value.slice Option.none 0 0)] l255 (⟨(Option.some a256), 1, 1⟩) fun (l257 : Sl) =>
    grd (someB w) <|
    grd (someB w) <|
    .store (shiftTo w 1) [(Value.slice l257.base l257.len l257.cap)] <|
    .load (Ty.one B.sl) (shiftTo (Option.some a1) 6) fun (l258 : Sl) =>
    .call (F_law4_spoil S r3.1 l258) [(Ty.one B.bool)] fun (r259 : (Bool × Unit)) =>
    .ret 0 [(Value.bool r259.1)]) <|
  .fail
def F_ref4_At (S : Ids) (l : Sl) (i : Int) : Prog :=
  .alloc [(Value.int IntKind.i64 0), (Value.int IntKind.i64 0)] fun (a1 : Addr) =>
  .bind
    (ifB (ltI i 0)
      (.ret 0 [(Value.bool Bool.true)]) <|
    .ret 0 [(Value.bool (geI i (natI l.len)))]) fun (k8 : Nat) =>
  fun (vs9 : (List Value)) =>
  ifB (eqN k8 0)
    (.cast [(Ty.one B.bool)] vs9 fun (r10 : (Bool × Unit)) =>
    ifB r10.1
      (.store (Option.some a1) [(Value.int IntKind.i64 0), (Value.int IntKind.i64 0)] <|
      .load (Ty.agg [(B.int IntKind.i64), (B.int IntKind.i64)]) (Option.some a1) fun (r11 : (Int × (Int × Unit))) =>
      .ret 0 [(Value.agg (#[(Value.int IntKind.i64 r11.1), (Value.int IntKind.i64 r11.2.1)])), (Value.bool Bool.false)]) <|
    grd (andB (someB l.base) (inB i l.len)) <|
    .load (Ty.agg [(B.int IntKind.i64), (B.int IntKind.i64)]) (shiftTo l.base (mulN (toN i) 2)) fun (r12 : (Int × (Int × Unit))) =>
    .store (Option.some a1) [(Value.int IntKind.i64 r12.1), (Value.int IntKind.i64 r12.2.1)] <|
    .load (Ty.agg [(B.int IntKind.i64), (B.int IntKind.i64)]) (Option.some a1) fun (r13 : (Int × (Int × Unit))) =>
    .ret 0 [(Value.agg (#[(Value.int IntKind.i64 r13.1), (Value.int IntKind.i64 r13.2.1)])), (Value.bool Bool.true)]) <|
  .fail
def F_ref4_Find (S : Ids) (l : Sl) (k : Int) (n : Int) : Prog :=
  .alloc [(Value.int IntKind.i64 0), (Value.int IntKind.i64 0), (Value.int IntKind.i64 0), (Value.int IntKind.i64 0)] fun (a1 : Addr) =>
  .bind
    (.loop [(Ty.one (B.int IntKind.i64))] ((0 : Int), ()) fun (r63 : (Int × Unit)) =>
      ifB (leI r63.1 (natI l.len))
        (.bind
          (.load (Ty.agg [(B.int IntKind.i64), (B.int IntKind.i64), (B.int IntKind.i64), (B.int IntKind.i64)]) (Option.some a1) fun (r73 : (Int × (Int × (Int × (Int × Unit))))) =>
          .call (F_ref4_Key S (r73.1, (r73.2.1, (r73.2.2.1, (r73.2.2.2.1, ())))) k) [(Ty.one (B.int IntKind.i64))] fun (r74 : (Int × Unit)) =>
          ifB (geI r74.1 n)
            (.ret 1 [(Value.int IntKind.i64 r63.1)]) <|
          ifB (ltI r63.1 (natI l.len))
            (.load (Ty.agg [(B.int IntKind.i64), (B.int IntKind.i64), (B.int IntKind.i64), (B.int IntKind.i64)]) (Option.some a1) fun (r75 : (Int × (Int × (Int × (Int × Unit))))) =>
            grd (andB (someB l.base) (inB r63.1 l.len)) <|
            .load (Ty.agg [(B.int IntKind.i64), (B.int IntKind.i64)]) (shiftTo l.base (mulN (toN r63.1) 2)) fun (r76 : (Int × (Int × Unit))) =>
            .call (F_ref4_behind S (r75.1, (r75.2.1, (r75.2.2.1, (r75.2.2.2.1, ())))) (r76.1, (r76.2.1, ()))) [(Ty.agg [(B.int IntKind.i64), (B.int IntKind.i64), (B.int IntKind.i64), (B.int IntKind.i64)])] fun (r77 : ((Int × (Int × (Int × (Int × Unit)))) × Unit)) =>
            .store (Option.some a1) [(Value.int IntKind.i64 r77.1.1), (Value.int IntKind.i64 r77.1.2.1), (Value.int IntKind.i64 r77.1.2.2.1), (Value.int IntKind.i64 r77.1.2.2.2.1)] <|
            .ret 0 []) <|
          .ret 0 []) fun (k78 : Nat) =>
        fun (vs79 : (List Value)) =>
        ifB (eqN k78 1)
          (.cast [(Ty.one (B.int IntKind.i64))] vs79 fun (r80 : (Int × Unit)) =>
          .ret 1 [(Value.int IntKind.i64 r80.1)]) <|
        ifB (eqN k78 0)
          (.cast [] vs79 fun (u81 : Unit) =>
          .ret 0 [(Value.int IntKind.i64 (addI IntKind.i64 r63.1 1))]) <|
        .fail) <|
      .ret 2 []) fun (k82 : Nat) =>
  fun (vs83 : (List Value)) =>
  ifB (eqN k82 2)
    (.cast [] vs83 fun (u84 : Unit) =>
    .ret 0 [(Value.int IntKind.i64 (addI IntKind.i64 (natI l.len) 1))]) <|
  ifB (eqN k82 1)
    (.cast [(Ty.one (B.int IntKind.i64))] vs83 fun (r85 : (Int × Unit)) =>
    .ret 0 [(Value.int IntKind.i64 r85.1)]) <|
  .fail
def F_Tree_Run_Items (S : Ids) (t : ((Option Addr) × Unit)) (from_ : Int) : Prog :=
  .alloc [(Value.pointer t.1)] fun (a1 : Addr) =>
  .alloc [(Value.int IntKind.i64 from_)] fun (a2 : Addr) =>
  .ret 0 [(Value.func (Fn.func S.f_Tree_Run_Items_1) #[] (#[(Value.pointer (Option.some a1)), (Value.pointer (Option.some a2))]))]
def F_law4_take (S : Ids) (it : Value) (k : Int) : Prog :=
  .alloc [(Value.int IntKind.i64 k)] fun (a1 : Addr) =>
  .alloc [(Value.slice Option.none 0 0)] fun (a2 : Addr) =>
  .alloc [(Value.bool Bool.false)] fun (a3 : Addr) =>
  .store (Option.some a3) [(Value.bool Bool.false)] <|
  .callv it [(Value.func (Fn.func S.f_law4_take_1) #[] (#[(Value.pointer (Option.some a2)), (Value.pointer (Option.some a1)), (Value.pointer (Option.some a3))]))] [] fun (u4 : Unit) =>
  .load (Ty.one B.sl) (Option.some a2) fun (l5 : Sl) =>
  .load (Ty.one B.bool) (Option.some a3) fun (b6 : Bool) =>
  .ret 0 [(Value.slice l5.base l5.len l5.cap), (Value.bool (notB b6))]
def F_law4_nested (S : Ids) (it : Value) (got : Sl) (step : Int) : Prog :=
  grd (flatB it) <|
  .alloc [it] fun (a1 : Addr) =>
  .alloc [(Value.slice got.base got.len got.cap)] fun (a2 : Addr) =>
  .alloc [(Value.int IntKind.i64 step)] fun (a3 : Addr) =>
  .alloc [(Value.slice Option.none 0 0)] fun (a4 : Addr) =>
  .alloc [(Value.bool Bool.false)] fun (a5 : Addr) =>
  .store (Option.some a5) [(Value.bool Bool.true)] <|
  .load (Ty.one B.any) (Option.some a1) fun (c6 : Value) =>
  .callv c6 [(Value.func (Fn.func S.f_law4_nested_1) #[] (#[(Value.pointer (Option.some a4)), (Value.pointer (Option.some a3)), (Value.pointer (Option.some a1)), (Value.pointer (Option.some a2)), (Value.pointer (Option.some a5))]))] [] fun (u7 : Unit) =>
  .bind
    (.load (Ty.one B.bool) (Option.some a5) fun (b46 : Bool) =>
    ifB (notB b46)
      (.ret 0 [(Value.bool Bool.true)]) <|
    .load (Ty.one B.sl) (Option.some a4) fun (l47 : Sl) =>
    .load (Ty.one B.sl) (Option.some a2) fun (l48 : Sl) =>
    .ret 0 [(Value.bool (neI (natI l47.len) (natI l48.len)))]) fun (k49 : Nat) =>
  fun (vs50 : (List Value)) =>
  ifB (eqN k49 0)
    (.cast [(Ty.one B.bool)] vs50 fun (r51 : (Bool × Unit)) =>
    ifB r51.1
      (.ret 0 [(Value.bool Bool.false)]) <|
    .bind
      (.loop [(Ty.one (B.int IntKind.i64))] ((0 : Int), ()) fun (r74 : (Int × Unit)) =>
        .load (Ty.one B.sl) (Option.some a2) fun (l75 : Sl) =>
        ifB (ltI r74.1 (natI l75.len))
          (.load (Ty.one B.sl) (Option.some a4) fun (l76 : Sl) =>
          grd (andB (someB l76.base) (inB r74.1 l76.len)) <|
          .load (Ty.agg [(B.int IntKind.i64), (B.int IntKind.i64)]) (shiftTo l76.base (mulN (toN r74.1) 2)) fun (r77 : (Int × (Int × Unit))) =>
          .load (Ty.one B.sl) (Option.some a2) fun (l78 : Sl) =>
          grd (andB (someB l78.base) (inB r74.1 l78.len)) <|
          .load (Ty.agg [(B.int IntKind.i64), (B.int IntKind.i64)]) (shiftTo l78.base (mulN (toN r74.1) 2)) fun (r79 : (Int × (Int × Unit))) =>
          ifB (notB (andB (eqI r77.1 r79.1) (eqI r77.2.1 r79.2.1)))
            (.ret 1 [(Value.bool Bool.false)]) <|
          .ret 0 [(Value.int IntKind.i64 (addI IntKind.i64 r74.1 1))]) <|
        .ret 2 []) fun (k80 : Nat) =>
    fun (vs81 : (List Value)) =>
    ifB (eqN k80 2)
      (.cast [] vs81 fun (u82 : Unit) =>
      .ret 0 [(Value.bool Bool.true)]) <|
    ifB (eqN k80 1)
      (.cast [(Ty.one B.bool)] vs81 fun (r83 : (Bool × Unit)) =>
      .ret 0 [(Value.bool r83.1)]) <|
    .fail) <|
  .fail
def F_law4_listed (S : Ids) (t : ((Option Addr) × Unit)) (l : Sl) (from_ : Int) (k : Int) : Prog :=
  .alloc [(Value.pointer t.1)] fun (a1 : Addr) =>
  .load (Ty.agg [B.ptr]) (Option.some a1) fun (r2 : ((Option Addr) × Unit)) =>
  .call (F_Tree_Run_Items S (r2.1, ()) from_) [(Ty.one B.any)] fun (r3 : (Value × Unit)) =>
  grd (isFunc r3.1) <|
  ifB (isNilFunc r3.1)
    (.ret 0 [(Value.bool Bool.false)]) <|
  .bind
    (ifB (ltI (maxI 0 from_) (natI l.len))
      (.ret 0 [(Value.int IntKind.i64 (minI (subI IntKind.i64 (natI l.len) (maxI 0 from_)) (maxI 1 k)))]) <|
    .ret 0 [(Value.int IntKind.i64 0)]) fun (k191 : Nat) =>
  fun (vs192 : (List Value)) =>
  ifB (eqN k191 0)
    (.cast [(Ty.one (B.int IntKind.i64))] vs192 fun (r193 : (Int × Unit)) =>
    .call (F_law4_take S r3.1 (Int.ofNat 1)) [(Ty.one B.sl), (Ty.one B.bool)] fun (r194 : (Sl × (Bool × Unit))) =>
    .call (F_law4_take S r3.1 (maxI 1 k)) [(Ty.one B.sl), (Ty.one B.bool)] fun (r195 : (Sl × (Bool × Unit))) =>
    .bind
      (ifB (notB r194.2.1)
        (.ret 0 [(Value.bool Bool.true)]) <|
      ifB (notB r195.2.1)
        (.ret 0 [(Value.bool Bool.true)]) <|
      ifB (neI (natI r195.1.len) r193.1)
        (.ret 0 [(Value.bool Bool.true)]) <|
      .ret 0 [(Value.bool (neI (natI r194.1.len) (minI 1 r193.1)))]) fun (k287 : Nat) =>
    fun (vs288 : (List Value)) =>
    ifB (eqN k287 0)
      (.cast [(Ty.one B.bool)] vs288 fun (r289 : (Bool × Unit)) =>
      ifB r289.1
        (.ret 0 [(Value.bool Bool.false)]) <|
      .bind
        (.loop [(Ty.one (B.int IntKind.i64))] ((0 : Int), ()) fun (r348 : (Int × Unit)) =>
          ifB (ltI r348.1 r193.1)
            (grd (andB (someB r195.1.base) (inB r348.1 r195.1.len)) <|
            .load (Ty.agg [(B.int IntKind.i64), (B.int IntKind.i64)]) (shiftTo r195.1.base (mulN (toN r348.1) 2)) fun (r349 : (Int × (Int × Unit))) =>
            grd (andB (someB l.base) (inB (addI IntKind.i64 (maxI 0 from_) r348.1) l.len)) <|
            .load (Ty.agg [(B.int IntKind.i64), (B.int IntKind.i64)]) (shiftTo l.base (mulN (toN (addI IntKind.i64 (maxI 0 from_) r348.1)) 2)) fun (r350 : (Int × (Int × Unit))) =>
            .call (F_law4_sameRun S (r349.1, (r349.2.1, ())) (r350.1, (r350.2.1, ()))) [(Ty.one B.bool)] fun (r351 : (Bool × Unit)) =>
            .bind
              (ifB (notB r351.1)
                (.ret 0 [(Value.bool Bool.true)]) <|
              ifB (eqI r348.1 0)
                (grd (andB (someB r194.1.base) (inB 0 r194.1.len)) <|
                .load (Ty.agg [(B.int IntKind.i64), (B.int IntKind.i64)]) (shiftTo r194.1.base 0) fun (r357 : (Int × (Int × Unit))) =>
                grd (andB (someB r195.1.base) (inB 0 r195.1.len)) <|
                .load (Ty.agg [(B.int IntKind.i64), (B.int IntKind.i64)]) (shiftTo r195.1.base 0) fun (r358 : (Int × (Int × Unit))) =>
                .ret 0 [(Value.bool (notB (andB (eqI r357.1 r358.1) (eqI r357.2.1 r358.2.1))))]) <|
              .ret 0 [(Value.bool Bool.false)]) fun (k359 : Nat) =>
            fun (vs360 : (List Value)) =>
            ifB (eqN k359 0)
              (.cast [(Ty.one B.bool)] vs360 fun (r361 : (Bool × Unit)) =>
              ifB r361.1
                (.ret 1 [(Value.bool Bool.false)]) <|
              .ret 0 [(Value.int IntKind.i64 (addI IntKind.i64 r348.1 1))]) <|
            .fail) <|
          .ret 2 []) fun (k362 : Nat) =>
      fun (vs363 : (List Value)) =>
      ifB (eqN k362 2)
        (.cast [] vs363 fun (u364 : Unit) =>
        .bind
          (ifB (eqI r193.1 0)
            (.ret 0 [(Value.bool Bool.true)]) <|
          .call (F_law4_nested S r3.1 r195.1 (Int.ofNat 0)) [(Ty.one B.bool)] fun (r371 : (Bool × Unit)) =>
          ifB r371.1
            (grd (notB Bool.false) <|
            .call (F_law4_nested S r3.1 r195.1 (quoI IntKind.i64 r193.1 2)) [(Ty.one B.bool)] fun (r372 : (Bool × Unit)) =>
            ifB r372.1
              (.call (F_law4_nested S r3.1 r195.1 (subI IntKind.i64 r193.1 1)) [(Ty.one B.bool)] fun (r373 : (Bool × Unit)) =>
              .ret 0 [(Value.bool r373.1)]) <|
            .ret 0 [(Value.bool Bool.false)]) <|
          .ret 0 [(Value.bool Bool.false)]) fun (k374 : Nat) =>
        fun (vs375 : (List Value)) =>
        ifB (eqN k374 0)
          (.cast [(Ty.one B.bool)] vs375 fun (r376 : (Bool × Unit)) =>
          .ret 0 [(Value.bool r376.1)]) <|
        .fail) <|
      ifB (eqN k362 1)
        (.cast [(Ty.one B.bool)] vs363 fun (r377 : (Bool × Unit)) =>
        .ret 0 [(Value.bool r377.1)]) <|
      .fail) <|
    .fail) <|
  .fail
def F_wood_tells (S : Ids) (w : (Option Addr)) (o : (Int × Int × Int × Int × Int × Int × Sl × Unit)) : Prog :=
  .alloc [(Value.int IntKind.i64 o.1), (Value.int IntKind.i64 o.2.1), (Value.int IntKind.i64 o.2.2.1), (Value.int IntKind.i64 o.2.2.2.1), (Value.int IntKind.i64 o.2.2.2.2.1), (Value.int IntKind.i64 o.2.2.2.2.2.1), (Value.slice o.2.2.2.2.2.2.1.base o.2.2.2.2.2.2.1.len o.2.2.2.2.2.2.1.cap)] fun (a1 : Addr) =>
  .load (Ty.agg [(B.int IntKind.i64), (B.int IntKind.i64), (B.int IntKind.i64), (B.int IntKind.i64), (B.int IntKind.i64), (B.int IntKind.i64), B.sl]) (Option.some a1) fun (r2 : (Int × (Int × (Int × (Int × (Int × (Int × (Sl × Unit)))))))) =>
  .call (F_wood_who S w (r2.1, (r2.2.1, (r2.2.2.1, (r2.2.2.2.1, (r2.2.2.2.2.1, (r2.2.2.2.2.2.1, (r2.2.2.2.2.2.2.1, ())))))))) [(Ty.one (B.int IntKind.i64))] fun (r3 : (Int × Unit)) =>
  grd (someB w) <|
  grd (someB w) <|
  .load (Ty.one B.sl) (shiftTo w 0) fun (l4 : Sl) =>
  grd (andB (someB l4.base) (inB r3.1 l4.len)) <|
  .load (Ty.agg [B.ptr]) (shiftTo l4.base (mulN (toN r3.1) 1)) fun (r5 : ((Option Addr) × Unit)) =>
  .alloc [(Value.pointer Option.none)] fun (a6 : Addr) =>
  .store (Option.some a6) [(Value.pointer r5.1)] <|
  grd (someB w) <|
  grd (someB w) <|
  .load (Ty.one B.sl) (shiftTo w 1) fun (l7 : Sl) =>
  grd (andB (someB l7.base) (inB r3.1 l7.len)) <|
  .load (Ty.one B.sl) (shiftTo l7.base (mulN (toN r3.1) 1)) fun (l8 : Sl) =>
  .load (Ty.one (B.int IntKind.i64)) (shiftTo (Option.some a1) 0) fun (n9 : Int) =>
  ifB (eqI n9 3)
    (.load (Ty.agg [B.ptr]) (Option.some a6) fun (r10 : ((Option Addr) × Unit)) =>
    .call (F_Tree_Run_Size S (r10.1, ())) [(Ty.one (B.int IntKind.i64))] fun (r11 : (Int × Unit)) =>
    .ret 0 [(Value.bool (eqI r11.1 (natI l8.len)))]) <|
  ifB (eqI n9 4)
    (.load (Ty.agg [B.ptr]) (Option.some a6) fun (r12 : ((Option Addr) × Unit)) =>
    .call (F_Tree_Run_Sum S (r12.1, ())) [(Ty.agg [(B.int IntKind.i64), (B.int IntKind.i64), (B.int IntKind.i64), (B.int IntKind.i64)])] fun (r13 : ((Int × (Int × (Int × (Int × Unit)))) × Unit)) =>
    .call (F_ref4_Upto S l8 (natI l8.len)) [(Ty.agg [(B.int IntKind.i64), (B.int IntKind.i64), (B.int IntKind.i64), (B.int IntKind.i64)])] fun (r14 : ((Int × (Int × (Int × (Int × Unit)))) × Unit)) =>
    .call (F_law4_sameRuns S (r13.1.1, (r13.1.2.1, (r13.1.2.2.1, (r13.1.2.2.2.1, ())))) (r14.1.1, (r14.1.2.1, (r14.1.2.2.1, (r14.1.2.2.2.1, ()))))) [(Ty.one B.bool)] fun (r15 : (Bool × Unit)) =>
    .ret 0 [(Value.bool r15.1)]) <|
  ifB (eqI n9 5)
    (.load (Ty.agg [B.ptr]) (Option.some a6) fun (r16 : ((Option Addr) × Unit)) =>
    .load (Ty.one (B.int IntKind.i64)) (shiftTo (Option.some a1) 5) fun (n17 : Int) =>
    .load (Ty.one (B.int IntKind.i64)) (shiftTo (Option.some a1) 5) fun (n18 : Int) =>
    .call (F_Tree_Run_Upto S (r16.1, ()) n17) [(Ty.agg [(B.int IntKind.i64), (B.int IntKind.i64), (B.int IntKind.i64), (B.int IntKind.i64)])] fun (r19 : ((Int × (Int × (Int × (Int × Unit)))) × Unit)) =>
    .check (shiftTo (Option.some a1) 5) [(Value.int IntKind.i64 n18)] <|
    .call (F_ref4_Upto S l8 n18) [(Ty.agg [(B.int IntKind.i64), (B.int IntKind.i64), (B.int IntKind.i64), (B.int IntKind.i64)])] fun (r20 : ((Int × (Int × (Int × (Int × Unit)))) × Unit)) =>
    .call (F_law4_sameRuns S (r19.1.1, (r19.1.2.1, (r19.1.2.2.1, (r19.1.2.2.2.1, ())))) (r20.1.1, (r20.1.2.1, (r20.1.2.2.1, (r20.1.2.2.2.1, ()))))) [(Ty.one B.bool)] fun (r21 : (Bool × Unit)) =>
    .ret 0 [(Value.bool r21.1)]) <|
  ifB (eqI n9 6)
    (.load (Ty.agg [B.ptr]) (Option.some a6) fun (r22 : ((Option Addr) × Unit)) =>
    .load (Ty.one (B.int IntKind.i64)) (shiftTo (Option.some a1) 5) fun (n23 : Int) =>
    .call (F_Tree_Run_At S (r22.1, ()) n23) [(Ty.agg [(B.int IntKind.i64), (B.int IntKind.i64)]), (Ty.one B.bool)] fun (r24 : ((Int × (Int × Unit)) × (Bool × Unit))) =>
    .alloc [(Value.int IntKind.i64 0), (Value.int IntKind.i64 0)] fun (a25 : Addr) =>
    .store (Option.some a25) [(Value.int IntKind.i64 r24.1.1), (Value.int IntKind.i64 r24.1.2.1)] <|
    .load (Ty.one (B.int IntKind.i64)) (shiftTo (Option.some a1) 5) fun (n26 : Int) =>
    .call (F_ref4_At S l8 n26) [(Ty.agg [(B.int IntKind.i64), (B.int IntKind.i64)]), (Ty.one B.bool)] fun (r27 : ((Int × (Int × Unit)) × (Bool × Unit))) =>
    .alloc [(Value.int IntKind.i64 0), (Value.int IntKind.i64 0)] fun (a28 : Addr) =>
    .store (Option.some a28) [(Value.int IntKind.i64 r27.1.1), (Value.int IntKind.i64 r27.1.2.1)] <|
    .bind
      (ifB (eqB r24.2.1 r27.2.1)
        (.load (Ty.agg [(B.int IntKind.i64), (B.int IntKind.i64)]) (Option.some a25) fun (r35 : (Int × (Int × Unit))) =>
        .load (Ty.agg [(B.int IntKind.i64), (B.int IntKind.i64)]) (Option.some a28) fun (r36 : (Int × (Int × Unit))) =>
        .call (F_law4_sameRun S (r35.1, (r35.2.1, ())) (r36.1, (r36.2.1, ()))) [(Ty.one B.bool)] fun (r37 : (Bool × Unit)) =>
        .ret 0 [(Value.bool r37.1)]) <|
      .ret 0 [(Value.bool Bool.false)]) fun (k38 : Nat) =>
    fun (vs39 : (List Value)) =>
    ifB (eqN k38 0)
      (.cast [(Ty.one B.bool)] vs39 fun (r40 : (Bool × Unit)) =>
      .ret 0 [(Value.bool r40.1)]) <|
    .fail) <|
  ifB (eqI n9 7)
    (.load (Ty.agg [B.ptr]) (Option.some a6) fun (r41 : ((Option Addr) × Unit)) =>
    .load (Ty.one (B.int IntKind.i64)) (shiftTo (Option.some a1) 4) fun (n42 : Int) =>
    .load (Ty.one (B.int IntKind.i64)) (shiftTo (Option.some a1) 5) fun (n43 : Int) =>
    .load (Ty.one (B.int IntKind.i64)) (shiftTo (Option.some a1) 4) fun (n44 : Int) =>
    .load (Ty.one (B.int IntKind.i64)) (shiftTo (Option.some a1) 5) fun (n45 : Int) =>
    .call (F_Tree_Run_Find S (r41.1, ()) n42 n43) [(Ty.one (B.int IntKind.i64))] fun (r46 : (Int × Unit)) =>
    .check (shiftTo (Option.some a1) 5) [(Value.int IntKind.i64 n45)] <|
    .check (shiftTo (Option.some a1) 4) [(Value.int IntKind.i64 n44)] <|
    .call (F_ref4_Find S l8 n44 n45) [(Ty.one (B.int IntKind.i64))] fun (r47 : (Int × Unit)) =>
    .ret 0 [(Value.bool (eqI r46.1 r47.1))]) <|
  ifB (eqI n9 8)
    (.load (Ty.agg [B.ptr]) (Option.some a6) fun (r48 : ((Option Addr) × Unit)) =>
    .load (Ty.one (B.int IntKind.i64)) (shiftTo (Option.some a1) 5) fun (n49 : Int) =>
    .load (Ty.one (B.int IntKind.i64)) (shiftTo (Option.some a1) 4) fun (n50 : Int) =>
    .call (F_law4_listed S (r48.1, ()) l8 n49 n50) [(Ty.one B.bool)] fun (r51 : (Bool × Unit)) =>
    .ret 0 [(Value.bool r51.1)]) <|
  ifB (eqI n9 9)
    (.load (Ty.agg [B.ptr]) (Option.some a6) fun (r52 : ((Option Addr) × Unit)) =>
    .call (F_Tree_Run_Height S (r52.1, ())) [(Ty.one (B.int IntKind.i64))] fun (r53 : (Int × Unit)) =>
    .call (F_ref4_Digits S (natI l8.len)) [(Ty.one (B.int IntKind.i64))] fun (r54 : (Int × Unit)) =>
    .bind
      (ifB (leI r53.1 (mulI IntKind.i64 3 r54.1))
        (ifB (eqB (gtI r53.1 0) (gtI (natI l8.len) 0))
          (.ret 0 [(Value.bool (geI r53.1 0))]) <|
        .ret 0 [(Value.bool Bool.false)]) <|
      .ret 0 [(Value.bool Bool.false)]) fun (k58 : Nat) =>
    fun (vs59 : (List Value)) =>
    ifB (eqN k58 0)
      (.cast [(Ty.one B.bool)] vs59 fun (r60 : (Bool × Unit)) =>
      .ret 0 [(Value.bool r60.1)]) <|
    .fail) <|
  .ret 0 [(Value.bool Bool.true)]
def F_law4_plays (S : Ids) (script : Sl) (lo : Int) (hi : Int) : Prog :=
  .call (F_law4_alive S) [(Ty.one B.bool)] fun (r1 : (Bool × Unit)) =>
  .call (F_law4_begin S) [(Ty.one B.ptr)] fun (r2 : ((Option Addr) × Unit)) =>
  .bind
    (.loop [(Ty.one B.bool), (Ty.one (B.int IntKind.i64))] (r1.1, ((0 : Int), ())) fun (r591 : (Bool × (Int × Unit))) =>
      .bind
        (ifB (ltI r591.2.1 (natI script.len))
          (.ret 0 [(Value.bool r591.1)]) <|
        .ret 0 [(Value.bool Bool.false)]) fun (k689 : Nat) =>
      fun (vs690 : (List Value)) =>
      ifB (eqN k689 0)
        (.cast [(Ty.one B.bool)] vs690 fun (r691 : (Bool × Unit)) =>
        ifB r691.1
          (.bind
            (grd (andB (someB script.base) (inB r591.2.1 script.len)) <|
            .load (Ty.agg [(B.int IntKind.i64), (B.int IntKind.i64), (B.int IntKind.i64), (B.int IntKind.i64), (B.int IntKind.i64), (B.int IntKind.i64), B.sl]) (shiftTo script.base (mulN (toN r591.2.1) 7)) fun (r739 : (Int × (Int × (Int × (Int × (Int × (Int × (Sl × Unit)))))))) =>
            .alloc [(Value.int IntKind.i64 0), (Value.int IntKind.i64 0), (Value.int IntKind.i64 0), (Value.int IntKind.i64 0), (Value.int IntKind.i64 0), (Value.int IntKind.i64 0), (Value.slice Option.none 0 0)] fun (a740 : Addr) =>
            .store (Option.some a740) [(Value.int IntKind.i64 r739.1), (Value.int IntKind.i64 r739.2.1), (Value.int IntKind.i64 r739.2.2.1), (Value.int IntKind.i64 r739.2.2.2.1), (Value.int IntKind.i64 r739.2.2.2.2.1), (Value.int IntKind.i64 r739.2.2.2.2.2.1), (Value.slice r739.2.2.2.2.2.2.1.base r739.2.2.2.2.2.2.1.len r739.2.2.2.2.2.2.1.cap)] <|
            .bind
              (.load (Ty.one (B.int IntKind.i64)) (shiftTo (Option.some a740) 0) fun (n762 : Int) =>
              ifB (eqI n762 1)
                (.ret 0 [(Value.bool Bool.true)]) <|
              .load (Ty.one (B.int IntKind.i64)) (shiftTo (Option.some a740) 0) fun (n763 : Int) =>
              .ret 0 [(Value.bool (eqI n763 2))]) fun (k764 : Nat) =>
            fun (vs765 : (List Value)) =>
            ifB (eqN k764 0)
              (.cast [(Ty.one B.bool)] vs765 fun (r766 : (Bool × Unit)) =>
              ifB r766.1
                (.load (Ty.agg [(B.int IntKind.i64), (B.int IntKind.i64), (B.int IntKind.i64), (B.int IntKind.i64), (B.int IntKind.i64), (B.int IntKind.i64), B.sl]) (Option.some a740) fun (r767 : (Int × (Int × (Int × (Int × (Int × (Int × (Sl × Unit)))))))) =>
                .call (F_wood_makes S r2.1 (r767.1, (r767.2.1, (r767.2.2.1, (r767.2.2.2.1, (r767.2.2.2.2.1, (r767.2.2.2.2.2.1, (r767.2.2.2.2.2.2.1, ())))))))) [(Ty.one B.bool)] fun (r768 : (Bool × Unit)) =>
                .ret 0 [(Value.bool r768.1)]) <|
              .bind
                (.load (Ty.one (B.int IntKind.i64)) (shiftTo (Option.some a740) 0) fun (n776 : Int) =>
                ifB (geI n776 lo)
                  (.load (Ty.one (B.int IntKind.i64)) (shiftTo (Option.some a740) 0) fun (n777 : Int) =>
                  .ret 0 [(Value.bool (leI n777 hi))]) <|
                .ret 0 [(Value.bool Bool.false)]) fun (k778 : Nat) =>
              fun (vs779 : (List Value)) =>
              ifB (eqN k778 0)
                (.cast [(Ty.one B.bool)] vs779 fun (r780 : (Bool × Unit)) =>
                ifB r780.1
                  (.load (Ty.agg [(B.int IntKind.i64), (B.int IntKind.i64), (B.int IntKind.i64), (B.int IntKind.i64), (B.int IntKind.i64), (B.int IntKind.i64), B.sl]) (Option.some a740) fun (r781 : (Int × (Int × (Int × (Int × (Int × (Int × (Sl × Unit)))))))) =>
                  .call (F_wood_tells S r2.1 (r781.1, (r781.2.1, (r781.2.2.1, (r781.2.2.2.1, (r781.2.2.2.2.1, (r781.2.2.2.2.2.1, (r781.2.2.2.2.2.2.1, ())))))))) [(Ty.one B.bool)] fun (r782 : (Bool × Unit)) =>
                  .ret 0 [(Value.bool r782.1)]) <|
                .ret 0 [(Value.bool r591.1)]) <|
              .fail) <|
            .fail) fun (k783 : Nat) =>
          fun (vs784 : (List Value)) =>
          ifB (eqN k783 0)
            (.cast [(Ty.one B.bool)] vs784 fun (r785 : (Bool × Unit)) =>
            .ret 0 [(Value.bool r785.1), (Value.int IntKind.i64 (addI IntKind.i64 r591.2.1 1))]) <|
          .fail) <|
        .ret 2 [(Value.bool r591.1)]) <|
      .fail) fun (k786 : Nat) =>
  fun (vs787 : (List Value)) =>
  ifB (eqN k786 2)
    (.cast [(Ty.one B.bool)] vs787 fun (r788 : (Bool × Unit)) =>
    .ret 0 [(Value.bool r788.1)]) <|
  .fail
def F_law4_TreeLooks (S : Ids) (script : Sl) : Prog :=
  .call (F_law4_fits S script) [(Ty.one B.bool)] fun (r1 : (Bool × Unit)) =>
  .bind
    (ifB (notB r1.1)
      (.ret 0 [(Value.bool Bool.true)]) <|
    .call (F_law4_plays S script (Int.ofNat 3) (Int.ofNat 3)) [(Ty.one B.bool)] fun (r7 : (Bool × Unit)) =>
    ifB r7.1
      (.call (F_law4_plays S script (Int.ofNat 6) (Int.ofNat 6)) [(Ty.one B.bool)] fun (r8 : (Bool × Unit)) =>
      .ret 0 [(Value.bool r8.1)]) <|
    .ret 0 [(Value.bool Bool.false)]) fun (k9 : Nat) =>
  fun (vs10 : (List Value)) =>
  ifB (eqN k9 0)
    (.cast [(Ty.one B.bool)] vs10 fun (r11 : (Bool × Unit)) =>
    .ret 0 [(Value.bool r11.1)]) <|
  .fail
def F_law4_TreeSums (S : Ids) (script : Sl) : Prog :=
  .call (F_law4_fits S script) [(Ty.one B.bool)] fun (r1 : (Bool × Unit)) =>
  .bind
    (ifB (notB r1.1)
      (.ret 0 [(Value.bool Bool.true)]) <|
    .call (F_law4_plays S script (Int.ofNat 4) (Int.ofNat 5)) [(Ty.one B.bool)] fun (r6 : (Bool × Unit)) =>
    .ret 0 [(Value.bool r6.1)]) fun (k7 : Nat) =>
  fun (vs8 : (List Value)) =>
  ifB (eqN k7 0)
    (.cast [(Ty.one B.bool)] vs8 fun (r9 : (Bool × Unit)) =>
    .ret 0 [(Value.bool r9.1)]) <|
  .fail
def F_law4_TreeFind (S : Ids) (script : Sl) : Prog :=
  .call (F_law4_fits S script) [(Ty.one B.bool)] fun (r1 : (Bool × Unit)) =>
  .bind
    (ifB (notB r1.1)
      (.ret 0 [(Value.bool Bool.true)]) <|
    .call (F_law4_plays S script (Int.ofNat 7) (Int.ofNat 7)) [(Ty.one B.bool)] fun (r6 : (Bool × Unit)) =>
    .ret 0 [(Value.bool r6.1)]) fun (k7 : Nat) =>
  fun (vs8 : (List Value)) =>
  ifB (eqN k7 0)
    (.cast [(Ty.one B.bool)] vs8 fun (r9 : (Bool × Unit)) =>
    .ret 0 [(Value.bool r9.1)]) <|
  .fail
def F_law4_TreeItems (S : Ids) (script : Sl) : Prog :=
  .call (F_law4_fits S script) [(Ty.one B.bool)] fun (r1 : (Bool × Unit)) =>
  .bind
    (ifB (notB r1.1)
      (.ret 0 [(Value.bool Bool.true)]) <|
    .call (F_law4_plays S script (Int.ofNat 8) (Int.ofNat 8)) [(Ty.one B.bool)] fun (r6 : (Bool × Unit)) =>
    .ret 0 [(Value.bool r6.1)]) fun (k7 : Nat) =>
  fun (vs8 : (List Value)) =>
  ifB (eqN k7 0)
    (.cast [(Ty.one B.bool)] vs8 fun (r9 : (Bool × Unit)) =>
    .ret 0 [(Value.bool r9.1)]) <|
  .fail
def F_law4_TreeAll (S : Ids) (script : Sl) : Prog :=
  .call (F_law4_fits S script) [(Ty.one B.bool)] fun (r1 : (Bool × Unit)) =>
  .bind
    (ifB (notB r1.1)
      (.ret 0 [(Value.bool Bool.true)]) <|
    .call (F_law4_plays S script (Int.ofNat 3) (Int.ofNat 9)) [(Ty.one B.bool)] fun (r6 : (Bool × Unit)) =>
    .ret 0 [(Value.bool r6.1)]) fun (k7 : Nat) =>
  fun (vs8 : (List Value)) =>
  ifB (eqN k7 0)
    (.cast [(Ty.one B.bool)] vs8 fun (r9 : (Bool × Unit)) =>
    .ret 0 [(Value.bool r9.1)]) <|
  .fail
def F_Tree_Word_Items_1 (S : Ids) (yield : Value) (x1 : (Option Addr)) (x2 : (Option Addr)) : Prog :=
  grd (flatB yield) <|
  .alloc [yield] fun (a1 : Addr) =>
  .alloc [Value.nilFunc] fun (a2 : Addr) =>
  .store (Option.some a2) [(Value.func (Fn.func S.f_Tree_Word_Items_1_1) #[] (#[(Value.pointer (Option.some a2)), (Value.pointer (Option.some a1))]))] <|
  .load (Ty.one B.any) (Option.some a2) fun (c3 : Value) =>
  grd (someB x1) <|
  .load (Ty.one B.ptr) (shiftTo x1 0) fun (p4 : (Option Addr)) =>
  .load (Ty.one (B.int IntKind.i64)) x2 fun (n5 : Int) =>
  .callv c3 [(Value.pointer p4), (Value.int IntKind.i64 (maxI 0 n5))] [(Ty.one B.bool)] fun (r6 : (Bool × Unit)) =>
  .ret 0 []
def F_Tree_Word_Items_1_1 (S : Ids) (n : (Option Addr)) (from_ : Int) (x2 : (Option Addr)) (x3 : (Option Addr)) : Prog :=
  .bind
    (ifB (noneB n)
      (.ret 0 [(Value.bool Bool.true)]) <|
    grd (someB n) <|
    grd (someB n) <|
    .load (Ty.one (B.int IntKind.i64)) (shiftTo n 3) fun (n55 : Int) =>
    .ret 0 [(Value.bool (geI from_ n55))]) fun (k56 : Nat) =>
  fun (vs57 : (List Value)) =>
  ifB (eqN k56 0)
    (.cast [(Ty.one B.bool)] vs57 fun (r58 : (Bool × Unit)) =>
    ifB r58.1
      (.ret 0 [(Value.bool Bool.true)]) <|
    grd (someB n) <|
    grd (someB n) <|
    .load (Ty.one B.ptr) (shiftTo n 0) fun (p59 : (Option Addr)) =>
    .call (F_node_Word_count S p59) [(Ty.one (B.int IntKind.i64))] fun (r60 : (Int × Unit)) =>
    .bind
      (ifB (ltI from_ r60.1)
        (.load (Ty.one B.any) x2 fun (c85 : Value) =>
        grd (someB n) <|
        grd (someB n) <|
        .load (Ty.one B.ptr) (shiftTo n 0) fun (p86 : (Option Addr)) =>
        .callv c85 [(Value.pointer p86), (Value.int IntKind.i64 from_)] [(Ty.one B.bool)] fun (r87 : (Bool × Unit)) =>
        .ret 0 [(Value.bool (notB r87.1))]) <|
      .ret 0 [(Value.bool Bool.false)]) fun (k88 : Nat) =>
    fun (vs89 : (List Value)) =>
    ifB (eqN k88 0)
      (.cast [(Ty.one B.bool)] vs89 fun (r90 : (Bool × Unit)) =>
      ifB r90.1
        (.ret 0 [(Value.bool Bool.false)]) <|
      .bind
        (ifB (leI from_ r60.1)
          (.load (Ty.one B.any) x3 fun (c100 : Value) =>
          grd (someB n) <|
          grd (someB n) <|
          .load (Ty.agg [B.str]) (shiftTo n 2) fun (r101 : (ByteArray × Unit)) =>
          .callv c100 [(Value.agg (#[(Value.string r101.1)]))] [(Ty.one B.bool)] fun (r102 : (Bool × Unit)) =>
          .ret 0 [(Value.bool (notB r102.1))]) <|
        .ret 0 [(Value.bool Bool.false)]) fun (k103 : Nat) =>
      fun (vs104 : (List Value)) =>
      ifB (eqN k103 0)
        (.cast [(Ty.one B.bool)] vs104 fun (r105 : (Bool × Unit)) =>
        ifB r105.1
          (.ret 0 [(Value.bool Bool.false)]) <|
        .load (Ty.one B.any) x2 fun (c106 : Value) =>
        grd (someB n) <|
        grd (someB n) <|
        .load (Ty.one B.ptr) (shiftTo n 1) fun (p107 : (Option Addr)) =>
        .callv c106 [(Value.pointer p107), (Value.int IntKind.i64 (maxI 0 (subI IntKind.i64 (subI IntKind.i64 from_ r60.1) 1)))] [(Ty.one B.bool)] fun (r108 : (Bool × Unit)) =>
        .ret 0 [(Value.bool r108.1)]) <|
      .fail) <|
    .fail) <|
  .fail
def F_law4_walked_1 (S : Ids) (x : (ByteArray × Unit)) (x1 : (Option Addr)) (x2 : (Option Addr)) (x3 : (Option Addr)) (x4 : (Option Addr)) (x5 : (Option Addr)) : Prog :=
  .alloc [(Value.string x.1)] fun (a1 : Addr) =>
  .bind
    (.load (Ty.one B.bool) x1 fun (b26 : Bool) =>
    ifB b26
      (.load (Ty.one B.bool) x2 fun (b27 : Bool) =>
      ifB (notB b27)
        (.load (Ty.one (B.int IntKind.i64)) x3 fun (n28 : Int) =>
        .load (Ty.one B.sl) x4 fun (l29 : Sl) =>
        ifB (ltI n28 (natI l29.len))
          (.load (Ty.agg [B.str]) (Option.some a1) fun (r30 : (ByteArray × Unit)) =>
          .load (Ty.one B.sl) x4 fun (l31 : Sl) =>
          .load (Ty.one (B.int IntKind.i64)) x3 fun (n32 : Int) =>
          grd (andB (someB l31.base) (inB n32 l31.len)) <|
          .load (Ty.agg [B.str]) (shiftTo l31.base (mulN (toN n32) 1)) fun (r33 : (ByteArray × Unit)) =>
          .store x1 [(Value.bool (eqS r30.1 r33.1))] <|
          .ret 0 []) <|
        .store x1 [(Value.bool Bool.false)] <|
        .ret 0 []) <|
      .store x1 [(Value.bool Bool.false)] <|
      .ret 0 []) <|
    .store x1 [(Value.bool Bool.false)] <|
    .ret 0 []) fun (k34 : Nat) =>
  fun (vs35 : (List Value)) =>
  ifB (eqN k34 0)
    (.cast [] vs35 fun (u36 : Unit) =>
    .load (Ty.one (B.int IntKind.i64)) x3 fun (n37 : Int) =>
    .store x3 [(Value.int IntKind.i64 (addI IntKind.i64 n37 1))] <|
    .bind
      (.load (Ty.one B.bool) x5 fun (b44 : Bool) =>
      ifB b44
        (.store x2 [(Value.bool Bool.true)] <|
        .ret 0 []) <|
      .load (Ty.one B.bool) x1 fun (b45 : Bool) =>
      .store x2 [(Value.bool (notB b45))] <|
      .ret 0 []) fun (k46 : Nat) =>
    fun (vs47 : (List Value)) =>
    ifB (eqN k46 0)
      (.cast [] vs47 fun (u48 : Unit) =>
      .load (Ty.one B.bool) x2 fun (b49 : Bool) =>
      .ret 0 [(Value.bool (notB b49))]) <|
    .fail) <|
  .fail
def F_Tree_Run_Items_1 (S : Ids) (yield : Value) (x1 : (Option Addr)) (x2 : (Option Addr)) : Prog :=
  grd (flatB yield) <|
  .alloc [yield] fun (a1 : Addr) =>
  .alloc [Value.nilFunc] fun (a2 : Addr) =>
  .store (Option.some a2) [(Value.func (Fn.func S.f_Tree_Run_Items_1_1) #[] (#[(Value.pointer (Option.some a2)), (Value.pointer (Option.some a1))]))] <|
  .load (Ty.one B.any) (Option.some a2) fun (c3 : Value) =>
  grd (someB x1) <|
  .load (Ty.one B.ptr) (shiftTo x1 0) fun (p4 : (Option Addr)) =>
  .load (Ty.one (B.int IntKind.i64)) x2 fun (n5 : Int) =>
  .callv c3 [(Value.pointer p4), (Value.int IntKind.i64 (maxI 0 n5))] [(Ty.one B.bool)] fun (r6 : (Bool × Unit)) =>
  .ret 0 []
def F_Tree_Run_Items_1_1 (S : Ids) (n : (Option Addr)) (from_ : Int) (x2 : (Option Addr)) (x3 : (Option Addr)) : Prog :=
  .bind
    (ifB (noneB n)
      (.ret 0 [(Value.bool Bool.true)]) <|
    grd (someB n) <|
    grd (someB n) <|
    .load (Ty.one (B.int IntKind.i64)) (shiftTo n 4) fun (n55 : Int) =>
    .ret 0 [(Value.bool (geI from_ n55))]) fun (k56 : Nat) =>
  fun (vs57 : (List Value)) =>
  ifB (eqN k56 0)
    (.cast [(Ty.one B.bool)] vs57 fun (r58 : (Bool × Unit)) =>
    ifB r58.1
      (.ret 0 [(Value.bool Bool.true)]) <|
    grd (someB n) <|
    grd (someB n) <|
    .load (Ty.one B.ptr) (shiftTo n 0) fun (p59 : (Option Addr)) =>
    .call (F_node_Run_count S p59) [(Ty.one (B.int IntKind.i64))] fun (r60 : (Int × Unit)) =>
    .bind
      (ifB (ltI from_ r60.1)
        (.load (Ty.one B.any) x2 fun (c85 : Value) =>
        grd (someB n) <|
        grd (someB n) <|
        .load (Ty.one B.ptr) (shiftTo n 0) fun (p86 : (Option Addr)) =>
        .callv c85 [(Value.pointer p86), (Value.int IntKind.i64 from_)] [(Ty.one B.bool)] fun (r87 : (Bool × Unit)) =>
        .ret 0 [(Value.bool (notB r87.1))]) <|
      .ret 0 [(Value.bool Bool.false)]) fun (k88 : Nat) =>
    fun (vs89 : (List Value)) =>
    ifB (eqN k88 0)
      (.cast [(Ty.one B.bool)] vs89 fun (r90 : (Bool × Unit)) =>
      ifB r90.1
        (.ret 0 [(Value.bool Bool.false)]) <|
      .bind
        (ifB (leI from_ r60.1)
          (.load (Ty.one B.any) x3 fun (c100 : Value) =>
          grd (someB n) <|
          grd (someB n) <|
          .load (Ty.agg [(B.int IntKind.i64), (B.int IntKind.i64)]) (shiftTo n 2) fun (r101 : (Int × (Int × Unit))) =>
          .callv c100 [(Value.agg (#[(Value.int IntKind.i64 r101.1), (Value.int IntKind.i64 r101.2.1)]))] [(Ty.one B.bool)] fun (r102 : (Bool × Unit)) =>
          .ret 0 [(Value.bool (notB r102.1))]) <|
        .ret 0 [(Value.bool Bool.false)]) fun (k103 : Nat) =>
      fun (vs104 : (List Value)) =>
      ifB (eqN k103 0)
        (.cast [(Ty.one B.bool)] vs104 fun (r105 : (Bool × Unit)) =>
        ifB r105.1
          (.ret 0 [(Value.bool Bool.false)]) <|
        .load (Ty.one B.any) x2 fun (c106 : Value) =>
        grd (someB n) <|
        grd (someB n) <|
        .load (Ty.one B.ptr) (shiftTo n 1) fun (p107 : (Option Addr)) =>
        .callv c106 [(Value.pointer p107), (Value.int IntKind.i64 (maxI 0 (subI IntKind.i64 (subI IntKind.i64 from_ r60.1) 1)))] [(Ty.one B.bool)] fun (r108 : (Bool × Unit)) =>
        .ret 0 [(Value.bool r108.1)]) <|
      .fail) <|
    .fail) <|
  .fail
def F_law4_take_1 (S : Ids) (x : (Int × Int × Unit)) (x1 : (Option Addr)) (x2 : (Option Addr)) (x3 : (Option Addr)) : Prog :=
  .alloc [(Value.int IntKind.i64 x.1), (Value.int IntKind.i64 x.2.1)] fun (a1 : Addr) =>
  .load (Ty.one B.sl) x1 fun (l2 : Sl) =>
  .load (Ty.one (B.int IntKind.i64)) x2 fun (n3 : Int) =>
  ifB (geI (natI l2.len) n3)
    (.store x3 [(Value.bool Bool.true)] <|
    .ret 0 [(Value.bool Bool.false)]) <|
  .load (Ty.one B.sl) x1 fun (l4 : Sl) =>
  .load (Ty.agg [(B.int IntKind.i64), (B.int IntKind.i64)]) (Option.some a1) fun (r5 : (Int × (Int × Unit))) =>
  .alloc [(Value.int IntKind.i64 r5.1), (Value.int IntKind.i64 r5.2.1)] fun (a6 : Addr) =>
  .append 2 16 [(Value.int IntKind.i64 0), (Value.int IntKind.i64 0)] l4 (⟨(Option.some a6), 1, 1⟩) fun (l7 : Sl) =>
  .store x1 [(Value.slice l7.base l7.len l7.cap)] <|
  .load (Ty.one B.sl) x1 fun (l8 : Sl) =>
  .load (Ty.one (B.int IntKind.i64)) x2 fun (n9 : Int) =>
  .ret 0 [(Value.bool (ltI (natI l8.len) n9))]
def F_law4_nested_1 (S : Ids) (x : (Int × Int × Unit)) (x1 : (Option Addr)) (x2 : (Option Addr)) (x3 : (Option Addr)) (x4 : (Option Addr)) (x5 : (Option Addr)) : Prog :=
  .alloc [(Value.int IntKind.i64 x.1), (Value.int IntKind.i64 x.2.1)] fun (a1 : Addr) =>
  .bind
    (.load (Ty.one B.sl) x1 fun (l166 : Sl) =>
    .load (Ty.one (B.int IntKind.i64)) x2 fun (n167 : Int) =>
    ifB (eqI (natI l166.len) n167)
      (.load (Ty.one B.any) x3 fun (c168 : Value) =>
      .load (Ty.one B.sl) x4 fun (l169 : Sl) =>
      .call (F_law4_take S c168 (natI l169.len)) [(Ty.one B.sl), (Ty.one B.bool)] fun (r170 : (Sl × (Bool × Unit))) =>
      .bind
        (ifB r170.2.1
          (.load (Ty.one B.sl) x4 fun (l241 : Sl) =>
          .store x5 [(Value.bool (eqI (natI r170.1.len) (natI l241.len)))] <|
          .ret 0 []) <|
        .store x5 [(Value.bool Bool.false)] <|
        .ret 0 []) fun (k242 : Nat) =>
      fun (vs243 : (List Value)) =>
      ifB (eqN k242 0)
        (.cast [] vs243 fun (u244 : Unit) =>
        .bind
          (.loop [(Ty.one (B.int IntKind.i64))] ((0 : Int), ()) fun (r293 : (Int × Unit)) =>
            .bind
              (ifB (ltI r293.1 (natI r170.1.len))
                (.load (Ty.one B.bool) x5 fun (b301 : Bool) =>
                .ret 0 [(Value.bool b301)]) <|
              .ret 0 [(Value.bool Bool.false)]) fun (k302 : Nat) =>
            fun (vs303 : (List Value)) =>
            ifB (eqN k302 0)
              (.cast [(Ty.one B.bool)] vs303 fun (r304 : (Bool × Unit)) =>
              ifB r304.1
                (grd (andB (someB r170.1.base) (inB r293.1 r170.1.len)) <|
                .load (Ty.agg [(B.int IntKind.i64), (B.int IntKind.i64)]) (shiftTo r170.1.base (mulN (toN r293.1) 2)) fun (r305 : (Int × (Int × Unit))) =>
                .load (Ty.one B.sl) x4 fun (l306 : Sl) =>
                grd (andB (someB l306.base) (inB r293.1 l306.len)) <|
                .load (Ty.agg [(B.int IntKind.i64), (B.int IntKind.i64)]) (shiftTo l306.base (mulN (toN r293.1) 2)) fun (r307 : (Int × (Int × Unit))) =>
                .store x5 [(Value.bool (andB (eqI r305.1 r307.1) (eqI r305.2.1 r307.2.1)))] <|
                .ret 0 [(Value.int IntKind.i64 (addI IntKind.i64 r293.1 1))]) <|
              .ret 2 []) <|
            .fail) fun (k308 : Nat) =>
        fun (vs309 : (List Value)) =>
        ifB (eqN k308 2)
          (.cast [] vs309 fun (u310 : Unit) =>
          .ret 0 []) <|
        .fail) <|
      .fail) <|
    .ret 0 []) fun (k311 : Nat) =>
  fun (vs312 : (List Value)) =>
  ifB (eqN k311 0)
    (.cast [] vs312 fun (u313 : Unit) =>
    .load (Ty.one B.sl) x1 fun (l314 : Sl) =>
    .load (Ty.agg [(B.int IntKind.i64), (B.int IntKind.i64)]) (Option.some a1) fun (r315 : (Int × (Int × Unit))) =>
    .alloc [(Value.int IntKind.i64 r315.1), (Value.int IntKind.i64 r315.2.1)] fun (a316 : Addr) =>
    .append 2 16 [(Value.int IntKind.i64 0), (Value.int IntKind.i64 0)] l314 (⟨(Option.some a316), 1, 1⟩) fun (l317 : Sl) =>
    .store x1 [(Value.slice l317.base l317.len l317.cap)] <|
    .bind
      (.load (Ty.one B.bool) x5 fun (b324 : Bool) =>
      ifB b324
        (.load (Ty.one B.sl) x1 fun (l325 : Sl) =>
        .load (Ty.one B.sl) x4 fun (l326 : Sl) =>
        .ret 0 [(Value.bool (ltI (natI l325.len) (natI l326.len)))]) <|
      .ret 0 [(Value.bool Bool.false)]) fun (k327 : Nat) =>
    fun (vs328 : (List Value)) =>
    ifB (eqN k327 0)
      (.cast [(Ty.one B.bool)] vs328 fun (r329 : (Bool × Unit)) =>
      .ret 0 [(Value.bool r329.1)]) <|
    .fail) <|
  .fail
end
end Go.Sw
