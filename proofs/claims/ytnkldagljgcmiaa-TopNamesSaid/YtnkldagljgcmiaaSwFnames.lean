/-
  The shallow programs of the functions of one cut, as text (printed by program). Nothing is proved here.
-/
import Derived.Test.YtnkldagljgcmiaaSwSw
set_option linter.unusedVariables false
set_option maxRecDepth 100000
namespace Go.Sw
/-- The numbers of types and functions, the names of methods. -/
structure Ids where
  none : Unit
noncomputable section
def F_top_names1 (S : Ids) : Prog :=
  .alloc [(Value.int IntKind.i64 0), (Value.int IntKind.i64 0), (Value.int IntKind.i64 1), (Value.int IntKind.i64 1), (Value.int IntKind.i64 2), (Value.int IntKind.i64 2), (Value.int IntKind.i64 3), (Value.int IntKind.i64 3), (Value.int IntKind.i64 10), (Value.int IntKind.i64 10), (Value.int IntKind.i64 11), (Value.int IntKind.i64 11), (Value.int IntKind.i64 50), (Value.int IntKind.i64 50), (Value.int IntKind.i64 51), (Value.int IntKind.i64 51), (Value.int IntKind.i64 70), (Value.int IntKind.i64 70), (Value.int IntKind.i64 71), (Value.int IntKind.i64 71), (Value.int IntKind.i64 72), (Value.int IntKind.i64 72), (Value.int IntKind.i64 73), (Value.int IntKind.i64 73), (Value.int IntKind.i64 74), (Value.int IntKind.i64 74), (Value.int IntKind.i64 80), (Value.int IntKind.i64 80), (Value.int IntKind.i64 90), (Value.int IntKind.i64 90), (Value.int IntKind.i64 100), (Value.int IntKind.i64 100), (Value.int IntKind.i64 101), (Value.int IntKind.i64 101), (Value.int IntKind.i64 102), (Value.int IntKind.i64 102), (Value.int IntKind.i64 103), (Value.int IntKind.i64 103), (Value.int IntKind.i64 110), (Value.int IntKind.i64 110), (Value.int IntKind.i64 111), (Value.int IntKind.i64 111), (Value.int IntKind.i64 112), (Value.int IntKind.i64 112), (Value.int IntKind.i64 120), (Value.int IntKind.i64 120), (Value.int IntKind.i64 130), (Value.int IntKind.i64 130), (Value.int IntKind.i64 150), (Value.int IntKind.i64 150), (Value.int IntKind.i64 151), (Value.int IntKind.i64 151), (Value.int IntKind.i64 152), (Value.int IntKind.i64 152), (Value.int IntKind.i64 153), (Value.int IntKind.i64 153), (Value.int IntKind.i64 154), (Value.int IntKind.i64 154), (Value.int IntKind.i64 155), (Value.int IntKind.i64 155), (Value.int IntKind.i64 160), (Value.int IntKind.i64 160), (Value.int IntKind.i64 161), (Value.int IntKind.i64 161), (Value.int IntKind.i64 162), (Value.int IntKind.i64 162), (Value.int IntKind.i64 163), (Value.int IntKind.i64 163), (Value.int IntKind.i64 164), (Value.int IntKind.i64 164), (Value.int IntKind.i64 165), (Value.int IntKind.i64 165), (Value.int IntKind.i64 170), (Value.int IntKind.i64 170), (Value.int IntKind.i64 180), (Value.int IntKind.i64 180), (Value.int IntKind.i64 181), (Value.int IntKind.i64 181), (Value.int IntKind.i64 190), (Value.int IntKind.i64 190), (Value.int IntKind.i64 191), (Value.int IntKind.i64 191), (Value.int IntKind.i64 192), (Value.int IntKind.i64 192)] fun (a1 : Addr) =>
  .ret 0 [(Value.slice (Option.some a1) 42 42)]
def F_top_named (S : Ids) (l : Sl) : Prog :=
  .bind
    (.loop [(Ty.one (B.int IntKind.i64))] ((0 : Int), ()) fun (r14 : (Int × Unit)) =>
      ifB (ltI r14.1 (natI l.len))
        (grd (andB (someB l.base) (inB r14.1 l.len)) <|
        grd (andB (someB (shiftTo l.base (mulN (toN r14.1) 2))) Bool.true) <|
        .load (Ty.one (B.int IntKind.i64)) (shiftTo (shiftTo l.base (mulN (toN r14.1) 2)) 0) fun (n15 : Int) =>
        grd (andB (someB l.base) (inB r14.1 l.len)) <|
        grd (andB (someB (shiftTo l.base (mulN (toN r14.1) 2))) Bool.true) <|
        .load (Ty.one (B.int IntKind.i64)) (shiftTo (shiftTo l.base (mulN (toN r14.1) 2)) 1) fun (n16 : Int) =>
        ifB (neI n15 n16)
          (.ret 1 [(Value.bool Bool.false)]) <|
        .ret 0 [(Value.int IntKind.i64 (addI IntKind.i64 r14.1 1))]) <|
      .ret 2 []) fun (k17 : Nat) =>
  fun (vs18 : (List Value)) =>
  ifB (eqN k17 2)
    (.cast [] vs18 fun (u19 : Unit) =>
    .ret 0 [(Value.bool (gtI (natI l.len) 0))]) <|
  ifB (eqN k17 1)
    (.cast [(Ty.one B.bool)] vs18 fun (r20 : (Bool × Unit)) =>
    .ret 0 [(Value.bool r20.1)]) <|
  .fail
def F_top_names2 (S : Ids) : Prog :=
  .alloc [(Value.int IntKind.i64 65536), (Value.int IntKind.i64 65536), (Value.int IntKind.i64 70000), (Value.int IntKind.i64 70000), (Value.int IntKind.i64 9999), (Value.int IntKind.i64 9999), (Value.int IntKind.i64 200), (Value.int IntKind.i64 200), (Value.int IntKind.i64 140000), (Value.int IntKind.i64 140000), (Value.int IntKind.i64 256), (Value.int IntKind.i64 256), (Value.int IntKind.i64 1024), (Value.int IntKind.i64 1024), (Value.int IntKind.i64 4096), (Value.int IntKind.i64 4096), (Value.int IntKind.i64 16), (Value.int IntKind.i64 16), (Value.int IntKind.i64 32), (Value.int IntKind.i64 32), (Value.int IntKind.i64 16), (Value.int IntKind.i64 16), (Value.int IntKind.i64 1048576), (Value.int IntKind.i64 1048576), (Value.int IntKind.i64 4096), (Value.int IntKind.i64 4096), (Value.int IntKind.i64 200), (Value.int IntKind.i64 200), (Value.int IntKind.i64 100000), (Value.int IntKind.i64 100000), (Value.int IntKind.i64 8), (Value.int IntKind.i64 8), (Value.int IntKind.i64 4), (Value.int IntKind.i64 4), (Value.int IntKind.i64 1024), (Value.int IntKind.i64 1024), (Value.int IntKind.i64 0), (Value.int IntKind.i64 0), (Value.int IntKind.i64 1), (Value.int IntKind.i64 1), (Value.int IntKind.i64 2), (Value.int IntKind.i64 2), (Value.int IntKind.i64 3), (Value.int IntKind.i64 3), (Value.int IntKind.i64 4), (Value.int IntKind.i64 4), (Value.int IntKind.i64 0), (Value.int IntKind.i64 0), (Value.int IntKind.i64 1), (Value.int IntKind.i64 1), (Value.int IntKind.i64 2), (Value.int IntKind.i64 2), (Value.int IntKind.i64 3), (Value.int IntKind.i64 3), (Value.int IntKind.i64 0), (Value.int IntKind.i64 0), (Value.int IntKind.i64 1), (Value.int IntKind.i64 1), (Value.int IntKind.i64 0), (Value.int IntKind.i64 0), (Value.int IntKind.i64 1), (Value.int IntKind.i64 1), (Value.int IntKind.i64 2), (Value.int IntKind.i64 2), (Value.int IntKind.i64 1), (Value.int IntKind.i64 1), (Value.int IntKind.i64 2), (Value.int IntKind.i64 2), (Value.int IntKind.i64 3), (Value.int IntKind.i64 3), (Value.int IntKind.i64 4), (Value.int IntKind.i64 4), (Value.int IntKind.i64 5), (Value.int IntKind.i64 5), (Value.int IntKind.i64 6), (Value.int IntKind.i64 6), (Value.int IntKind.i64 7), (Value.int IntKind.i64 7), (Value.int IntKind.i64 8), (Value.int IntKind.i64 8), (Value.int IntKind.i64 9), (Value.int IntKind.i64 9), (Value.int IntKind.i64 10), (Value.int IntKind.i64 10)] fun (a1 : Addr) =>
  .ret 0 [(Value.slice (Option.some a1) 42 42)]
def F_top_names3 (S : Ids) : Prog :=
  .alloc [(Value.int IntKind.i64 11), (Value.int IntKind.i64 11), (Value.int IntKind.i64 12), (Value.int IntKind.i64 12), (Value.int IntKind.i64 13), (Value.int IntKind.i64 13), (Value.int IntKind.i64 14), (Value.int IntKind.i64 14), (Value.int IntKind.i64 15), (Value.int IntKind.i64 15), (Value.int IntKind.i64 16), (Value.int IntKind.i64 16), (Value.int IntKind.i64 17), (Value.int IntKind.i64 17), (Value.int IntKind.i64 18), (Value.int IntKind.i64 18), (Value.int IntKind.i64 21), (Value.int IntKind.i64 21), (Value.int IntKind.i64 22), (Value.int IntKind.i64 22), (Value.int IntKind.i64 23), (Value.int IntKind.i64 23), (Value.int IntKind.i64 24), (Value.int IntKind.i64 24), (Value.int IntKind.i64 25), (Value.int IntKind.i64 25), (Value.int IntKind.i64 26), (Value.int IntKind.i64 26), (Value.int IntKind.i64 27), (Value.int IntKind.i64 27), (Value.int IntKind.i64 28), (Value.int IntKind.i64 28), (Value.int IntKind.i64 29), (Value.int IntKind.i64 29), (Value.int IntKind.i64 30), (Value.int IntKind.i64 30), (Value.int IntKind.i64 31), (Value.int IntKind.i64 31), (Value.int IntKind.i64 32), (Value.int IntKind.i64 32), (Value.int IntKind.i64 33), (Value.int IntKind.i64 33), (Value.int IntKind.i64 41), (Value.int IntKind.i64 41), (Value.int IntKind.i64 42), (Value.int IntKind.i64 42), (Value.int IntKind.i64 43), (Value.int IntKind.i64 43), (Value.int IntKind.i64 44), (Value.int IntKind.i64 44), (Value.int IntKind.i64 45), (Value.int IntKind.i64 45), (Value.int IntKind.i64 46), (Value.int IntKind.i64 46), (Value.int IntKind.i64 47), (Value.int IntKind.i64 47), (Value.int IntKind.i64 48), (Value.int IntKind.i64 48), (Value.int IntKind.i64 49), (Value.int IntKind.i64 49), (Value.int IntKind.i64 50), (Value.int IntKind.i64 50), (Value.int IntKind.i64 51), (Value.int IntKind.i64 51), (Value.int IntKind.i64 52), (Value.int IntKind.i64 52), (Value.int IntKind.i64 53), (Value.int IntKind.i64 53), (Value.int IntKind.i64 60), (Value.int IntKind.i64 60), (Value.int IntKind.i64 61), (Value.int IntKind.i64 61), (Value.int IntKind.i64 62), (Value.int IntKind.i64 62), (Value.int IntKind.i64 63), (Value.int IntKind.i64 63), (Value.int IntKind.i64 64), (Value.int IntKind.i64 64), (Value.int IntKind.i64 65), (Value.int IntKind.i64 65), (Value.int IntKind.i64 66), (Value.int IntKind.i64 66), (Value.int IntKind.i64 67), (Value.int IntKind.i64 67)] fun (a1 : Addr) =>
  .ret 0 [(Value.slice (Option.some a1) 42 42)]
def F_top_names4 (S : Ids) : Prog :=
  .alloc [(Value.int IntKind.i64 68), (Value.int IntKind.i64 68), (Value.int IntKind.i64 69), (Value.int IntKind.i64 69), (Value.int IntKind.i64 70), (Value.int IntKind.i64 70), (Value.int IntKind.i64 1), (Value.int IntKind.i64 1), (Value.int IntKind.i64 2), (Value.int IntKind.i64 2), (Value.int IntKind.i64 3), (Value.int IntKind.i64 3), (Value.int IntKind.i64 4), (Value.int IntKind.i64 4), (Value.int IntKind.i64 5), (Value.int IntKind.i64 5), (Value.int IntKind.i64 6), (Value.int IntKind.i64 6), (Value.int IntKind.i64 7), (Value.int IntKind.i64 7), (Value.int IntKind.i64 8), (Value.int IntKind.i64 8), (Value.int IntKind.i64 9), (Value.int IntKind.i64 9), (Value.int IntKind.i64 10), (Value.int IntKind.i64 10), (Value.int IntKind.i64 11), (Value.int IntKind.i64 11), (Value.int IntKind.i64 12), (Value.int IntKind.i64 12), (Value.int IntKind.i64 13), (Value.int IntKind.i64 13), (Value.int IntKind.i64 14), (Value.int IntKind.i64 14), (Value.int IntKind.i64 15), (Value.int IntKind.i64 15), (Value.int IntKind.i64 16), (Value.int IntKind.i64 16), (Value.int IntKind.i64 17), (Value.int IntKind.i64 17), (Value.int IntKind.i64 18), (Value.int IntKind.i64 18), (Value.int IntKind.i64 19), (Value.int IntKind.i64 19), (Value.int IntKind.i64 20), (Value.int IntKind.i64 20), (Value.int IntKind.i64 21), (Value.int IntKind.i64 21), (Value.int IntKind.i64 22), (Value.int IntKind.i64 22), (Value.int IntKind.i64 23), (Value.int IntKind.i64 23), (Value.int IntKind.i64 24), (Value.int IntKind.i64 24), (Value.int IntKind.i64 25), (Value.int IntKind.i64 25), (Value.int IntKind.i64 26), (Value.int IntKind.i64 26), (Value.int IntKind.i64 27), (Value.int IntKind.i64 27), (Value.int IntKind.i64 28), (Value.int IntKind.i64 28), (Value.int IntKind.i64 29), (Value.int IntKind.i64 29), (Value.int IntKind.i64 30), (Value.int IntKind.i64 30), (Value.int IntKind.i64 31), (Value.int IntKind.i64 31), (Value.int IntKind.i64 32), (Value.int IntKind.i64 32), (Value.int IntKind.i64 33), (Value.int IntKind.i64 33), (Value.int IntKind.i64 34), (Value.int IntKind.i64 34), (Value.int IntKind.i64 35), (Value.int IntKind.i64 35), (Value.int IntKind.i64 36), (Value.int IntKind.i64 36), (Value.int IntKind.i64 37), (Value.int IntKind.i64 37), (Value.int IntKind.i64 38), (Value.int IntKind.i64 38), (Value.int IntKind.i64 39), (Value.int IntKind.i64 39)] fun (a1 : Addr) =>
  .ret 0 [(Value.slice (Option.some a1) 42 42)]
def F_top_names5 (S : Ids) : Prog :=
  .alloc [(Value.int IntKind.i64 40), (Value.int IntKind.i64 40), (Value.int IntKind.i64 41), (Value.int IntKind.i64 41), (Value.int IntKind.i64 42), (Value.int IntKind.i64 42), (Value.int IntKind.i64 43), (Value.int IntKind.i64 43), (Value.int IntKind.i64 44), (Value.int IntKind.i64 44), (Value.int IntKind.i64 45), (Value.int IntKind.i64 45), (Value.int IntKind.i64 0), (Value.int IntKind.i64 0), (Value.int IntKind.i64 1), (Value.int IntKind.i64 1), (Value.int IntKind.i64 2), (Value.int IntKind.i64 2), (Value.int IntKind.i64 3), (Value.int IntKind.i64 3), (Value.int IntKind.i64 4), (Value.int IntKind.i64 4), (Value.int IntKind.i64 5), (Value.int IntKind.i64 5), (Value.int IntKind.i64 6), (Value.int IntKind.i64 6), (Value.int IntKind.i64 7), (Value.int IntKind.i64 7), (Value.int IntKind.i64 0), (Value.int IntKind.i64 0), (Value.int IntKind.i64 1), (Value.int IntKind.i64 1), (Value.int IntKind.i64 2), (Value.int IntKind.i64 2), (Value.int IntKind.i64 3), (Value.int IntKind.i64 3), (Value.int IntKind.i64 2), (Value.int IntKind.i64 2), (Value.int IntKind.i64 4), (Value.int IntKind.i64 4), (Value.int IntKind.i64 5), (Value.int IntKind.i64 5), (Value.int IntKind.i64 6), (Value.int IntKind.i64 6), (Value.int IntKind.i64 8), (Value.int IntKind.i64 8), (Value.int IntKind.i64 13), (Value.int IntKind.i64 13), (Value.int IntKind.i64 18), (Value.int IntKind.i64 18), (Value.int IntKind.i64 21), (Value.int IntKind.i64 21), (Value.int IntKind.i64 22), (Value.int IntKind.i64 22), (Value.int IntKind.i64 23), (Value.int IntKind.i64 23), (Value.int IntKind.i64 25), (Value.int IntKind.i64 25), (Value.int IntKind.i64 27), (Value.int IntKind.i64 27), (Value.int IntKind.i64 127), (Value.int IntKind.i64 127), (Value.int IntKind.i64 1), (Value.int IntKind.i64 1), (Value.int IntKind.i64 2), (Value.int IntKind.i64 2), (Value.int IntKind.i64 3), (Value.int IntKind.i64 3), (Value.int IntKind.i64 4), (Value.int IntKind.i64 4), (Value.int IntKind.i64 5), (Value.int IntKind.i64 5), (Value.int IntKind.i64 6), (Value.int IntKind.i64 6), (Value.int IntKind.i64 1), (Value.int IntKind.i64 1), (Value.int IntKind.i64 2), (Value.int IntKind.i64 2), (Value.int IntKind.i64 3), (Value.int IntKind.i64 3), (Value.int IntKind.i64 4), (Value.int IntKind.i64 4), (Value.int IntKind.i64 5), (Value.int IntKind.i64 5)] fun (a1 : Addr) =>
  .ret 0 [(Value.slice (Option.some a1) 42 42)]
def F_top_names6 (S : Ids) : Prog :=
  .alloc [(Value.int IntKind.i64 6), (Value.int IntKind.i64 6), (Value.int IntKind.i64 7), (Value.int IntKind.i64 7), (Value.int IntKind.i64 8), (Value.int IntKind.i64 8), (Value.int IntKind.i64 9), (Value.int IntKind.i64 9), (Value.int IntKind.i64 10), (Value.int IntKind.i64 10), (Value.int IntKind.i64 11), (Value.int IntKind.i64 11), (Value.int IntKind.i64 12), (Value.int IntKind.i64 12), (Value.int IntKind.i64 13), (Value.int IntKind.i64 13), (Value.int IntKind.i64 14), (Value.int IntKind.i64 14), (Value.int IntKind.i64 15), (Value.int IntKind.i64 15), (Value.int IntKind.i64 16), (Value.int IntKind.i64 16), (Value.int IntKind.i64 17), (Value.int IntKind.i64 17), (Value.int IntKind.i64 20), (Value.int IntKind.i64 20), (Value.int IntKind.i64 21), (Value.int IntKind.i64 21), (Value.int IntKind.i64 22), (Value.int IntKind.i64 22), (Value.int IntKind.i64 23), (Value.int IntKind.i64 23), (Value.int IntKind.i64 24), (Value.int IntKind.i64 24), (Value.int IntKind.i64 25), (Value.int IntKind.i64 25), (Value.int IntKind.i64 26), (Value.int IntKind.i64 26), (Value.int IntKind.i64 1), (Value.int IntKind.i64 1), (Value.int IntKind.i64 2), (Value.int IntKind.i64 2), (Value.int IntKind.i64 4), (Value.int IntKind.i64 4), (Value.int IntKind.i64 1), (Value.int IntKind.i64 1), (Value.int IntKind.i64 2), (Value.int IntKind.i64 2), (Value.int IntKind.i64 3), (Value.int IntKind.i64 3), (Value.int IntKind.i64 4), (Value.int IntKind.i64 4), (Value.int IntKind.i64 5), (Value.int IntKind.i64 5), (Value.int IntKind.i64 1), (Value.int IntKind.i64 1), (Value.int IntKind.i64 2), (Value.int IntKind.i64 2), (Value.int IntKind.i64 3), (Value.int IntKind.i64 3), (Value.int IntKind.i64 4), (Value.int IntKind.i64 4), (Value.int IntKind.i64 5), (Value.int IntKind.i64 5), (Value.int IntKind.i64 6), (Value.int IntKind.i64 6), (Value.int IntKind.i64 7), (Value.int IntKind.i64 7), (Value.int IntKind.i64 8), (Value.int IntKind.i64 8), (Value.int IntKind.i64 9), (Value.int IntKind.i64 9)] fun (a1 : Addr) =>
  .ret 0 [(Value.slice (Option.some a1) 36 36)]
def F_top_num (S : Ids) (e : Int) : Prog :=
  .ret 0 [(Value.int IntKind.i64 e)]
def F_top_TopNames (S : Ids) : Prog :=
  .bind
    (.call (F_top_names1 S) [(Ty.one B.sl)] fun (r18 : (Sl × Unit)) =>
    .call (F_top_named S r18.1) [(Ty.one B.bool)] fun (r19 : (Bool × Unit)) =>
    ifB r19.1
      (.call (F_top_names2 S) [(Ty.one B.sl)] fun (r20 : (Sl × Unit)) =>
      .call (F_top_named S r20.1) [(Ty.one B.bool)] fun (r21 : (Bool × Unit)) =>
      ifB r21.1
        (.call (F_top_names3 S) [(Ty.one B.sl)] fun (r22 : (Sl × Unit)) =>
        .call (F_top_named S r22.1) [(Ty.one B.bool)] fun (r23 : (Bool × Unit)) =>
        ifB r23.1
          (.call (F_top_names4 S) [(Ty.one B.sl)] fun (r24 : (Sl × Unit)) =>
          .call (F_top_named S r24.1) [(Ty.one B.bool)] fun (r25 : (Bool × Unit)) =>
          ifB r25.1
            (.call (F_top_names5 S) [(Ty.one B.sl)] fun (r26 : (Sl × Unit)) =>
            .call (F_top_named S r26.1) [(Ty.one B.bool)] fun (r27 : (Bool × Unit)) =>
            ifB r27.1
              (.call (F_top_names6 S) [(Ty.one B.sl)] fun (r28 : (Sl × Unit)) =>
              .call (F_top_named S r28.1) [(Ty.one B.bool)] fun (r29 : (Bool × Unit)) =>
              ifB r29.1
                (.call (F_top_num S 0) [(Ty.one (B.int IntKind.i64))] fun (r30 : (Int × Unit)) =>
                ifB (eqI r30.1 0)
                  (.call (F_top_num S 192) [(Ty.one (B.int IntKind.i64))] fun (r31 : (Int × Unit)) =>
                  .ret 0 [(Value.bool (eqI r31.1 192))]) <|
                .ret 0 [(Value.bool Bool.false)]) <|
              .ret 0 [(Value.bool Bool.false)]) <|
            .ret 0 [(Value.bool Bool.false)]) <|
          .ret 0 [(Value.bool Bool.false)]) <|
        .ret 0 [(Value.bool Bool.false)]) <|
      .ret 0 [(Value.bool Bool.false)]) <|
    .ret 0 [(Value.bool Bool.false)]) fun (k32 : Nat) =>
  fun (vs33 : (List Value)) =>
  ifB (eqN k32 0)
    (.cast [(Ty.one B.bool)] vs33 fun (r34 : (Bool × Unit)) =>
    .ret 0 [(Value.bool r34.1)]) <|
  .fail
end
end Go.Sw
