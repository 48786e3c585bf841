/-
  The shallow programs of the functions of some cuts, as text (printed by program). Nothing is proved here.
-/
import Derived.Test.YtjhnjehmbgaciaaSwSw
set_option linter.unusedVariables false
set_option maxRecDepth 100000
namespace Go.Sw
/-- The numbers of types and functions, the names of methods. -/
structure Ids where
  f_Text_Atoms_1 : FuncId
  f_Text_Chunks_1 : FuncId
  f_Text_Tags_1 : FuncId
  f_Tree_part_Items_1 : FuncId
  f_Tree_part_Items_1_1 : FuncId
  f_law5_PieceFlow_1 : FuncId
  f_law5_begun_1 : FuncId
  f_law5_ranged_1 : FuncId
  f_quiet_ask_1 : FuncId
  f_shelf_handOut_1 : FuncId
  f_world_chunks_1 : FuncId
  m_first : String
  m_put : String
  m_size : String
  t_codec_eight : TypeId
  t_codec_latin : TypeId
  t_codec_sixteen : TypeId
  none : Unit
noncomputable section
def F_codec_of (S : Ids) (enc : Int) : Prog :=
  ifB (eqI enc 1)
    (.ret 0 [(Value.iface S.t_codec_eight (Value.agg #[]))]) <|
  ifB (eqI enc 2)
    (.ret 0 [(Value.iface S.t_codec_sixteen (Value.agg (#[(Value.int IntKind.i64 0)])))]) <|
  ifB (eqI enc 3)
    (.ret 0 [(Value.iface S.t_codec_sixteen (Value.agg (#[(Value.int IntKind.i64 1)])))]) <|
  ifB (eqI enc 4)
    (.ret 0 [(Value.iface S.t_codec_latin (Value.agg #[]))]) <|
  .ret 0 [Value.nilIface]
def F_codec_Next (S : Ids) (enc : Int) (b : Sl) (at_ : Int) : Prog :=
  .call (F_codec_of S enc) [(Ty.one B.any)] fun (r1 : (Value × Unit)) =>
  .bind
    (grd (isIface r1.1) <|
    ifB (isNilIface r1.1)
      (.ret 0 [(Value.bool Bool.true)]) <|
    ifB (ltI at_ 0)
      (.ret 0 [(Value.bool Bool.true)]) <|
    .ret 0 [(Value.bool (geI at_ (natI b.len)))]) fun (k6 : Nat) =>
  fun (vs7 : (List Value)) =>
  ifB (eqN k6 0)
    (.cast [(Ty.one B.bool)] vs7 fun (r8 : (Bool × Unit)) =>
    ifB r8.1
      (.ret 0 [(Value.int IntKind.i64 0), (Value.int IntKind.i64 0)]) <|
    grd (leB at_ b.len) <|
    .nilok (Value.func (Fn.method S.m_first) #[r1.1] #[]) <|
    .invoke r1.1 S.m_first [(Value.slice (cutBase b.base b.cap (toN at_) 1) (subN b.len (toN at_)) (subN b.cap (toN at_)))] [(Ty.one (B.int IntKind.i64)), (Ty.one (B.int IntKind.i64))] fun (r9 : (Int × (Int × Unit))) =>
    .ret 0 [(Value.int IntKind.i64 r9.1), (Value.int IntKind.i64 r9.2.1)]) <|
  .fail
def F_piece_single (S : Ids) (atom : Int) (size : Int) : Prog :=
  .alloc [(Value.int IntKind.i64 0), (Value.int IntKind.i64 0), (Value.int IntKind.i64 0), (Value.bool Bool.false), (Value.bool Bool.false)] fun (a1 : Addr) =>
  .alloc [(Value.int IntKind.i64 0), (Value.int IntKind.i64 0), (Value.int IntKind.i64 0), (Value.bool Bool.false), (Value.bool Bool.false)] fun (a2 : Addr) =>
  .store (Option.some a2) [(Value.int IntKind.i64 1), (Value.int IntKind.i64 size), (Value.int IntKind.i64 0), (Value.bool (eqI atom 10)), (Value.bool (eqI atom 13))] <|
  .bind
    (.bind
      (.load (Ty.one B.bool) (shiftTo (Option.some a2) 3) fun (b23 : Bool) =>
      ifB b23
        (.ret 0 [(Value.bool Bool.true)]) <|
      .load (Ty.one B.bool) (shiftTo (Option.some a2) 4) fun (b24 : Bool) =>
      .ret 0 [(Value.bool b24)]) fun (k25 : Nat) =>
    fun (vs26 : (List Value)) =>
    ifB (eqN k25 0)
      (.cast [(Ty.one B.bool)] vs26 fun (r27 : (Bool × Unit)) =>
      ifB r27.1
        (.store (shiftTo (Option.some a2) 2) [(Value.int IntKind.i64 1)] <|
        .ret 0 []) <|
      .ret 0 []) <|
    .fail) fun (k28 : Nat) =>
  fun (vs29 : (List Value)) =>
  ifB (eqN k28 0)
    (.cast [] vs29 fun (u30 : Unit) =>
    .load (Ty.agg [(B.int IntKind.i64), (B.int IntKind.i64), (B.int IntKind.i64), B.bool, B.bool]) (Option.some a2) fun (r31 : (Int × (Int × (Int × (Bool × (Bool × Unit)))))) =>
    .store (Option.some a1) [(Value.int IntKind.i64 r31.1), (Value.int IntKind.i64 r31.2.1), (Value.int IntKind.i64 r31.2.2.1), (Value.bool r31.2.2.2.1), (Value.bool r31.2.2.2.2.1)] <|
    .load (Ty.agg [(B.int IntKind.i64), (B.int IntKind.i64), (B.int IntKind.i64), B.bool, B.bool]) (Option.some a1) fun (r32 : (Int × (Int × (Int × (Bool × (Bool × Unit)))))) =>
    .ret 0 [(Value.agg (#[(Value.int IntKind.i64 r32.1), (Value.int IntKind.i64 r32.2.1), (Value.int IntKind.i64 r32.2.2.1), (Value.bool r32.2.2.2.1), (Value.bool r32.2.2.2.2.1)]))]) <|
  .fail
def F_sums_Add (S : Ids) (s : (Int × Int × Int × Bool × Bool × Unit)) (o : (Int × Int × Int × Bool × Bool × Unit)) : Prog :=
  .alloc [(Value.int IntKind.i64 s.1), (Value.int IntKind.i64 s.2.1), (Value.int IntKind.i64 s.2.2.1), (Value.bool s.2.2.2.1), (Value.bool s.2.2.2.2.1)] fun (a1 : Addr) =>
  .alloc [(Value.int IntKind.i64 o.1), (Value.int IntKind.i64 o.2.1), (Value.int IntKind.i64 o.2.2.1), (Value.bool o.2.2.2.1), (Value.bool o.2.2.2.2.1)] fun (a2 : Addr) =>
  .alloc [(Value.int IntKind.i64 0), (Value.int IntKind.i64 0), (Value.int IntKind.i64 0), (Value.bool Bool.false), (Value.bool Bool.false)] fun (a3 : Addr) =>
  .load (Ty.one (B.int IntKind.i64)) (shiftTo (Option.some a1) 0) fun (n4 : Int) =>
  ifB (eqI n4 0)
    (.load (Ty.agg [(B.int IntKind.i64), (B.int IntKind.i64), (B.int IntKind.i64), B.bool, B.bool]) (Option.some a2) fun (r5 : (Int × (Int × (Int × (Bool × (Bool × Unit)))))) =>
    .store (Option.some a3) [(Value.int IntKind.i64 r5.1), (Value.int IntKind.i64 r5.2.1), (Value.int IntKind.i64 r5.2.2.1), (Value.bool r5.2.2.2.1), (Value.bool r5.2.2.2.2.1)] <|
    .load (Ty.agg [(B.int IntKind.i64), (B.int IntKind.i64), (B.int IntKind.i64), B.bool, B.bool]) (Option.some a3) fun (r6 : (Int × (Int × (Int × (Bool × (Bool × Unit)))))) =>
    .ret 0 [(Value.agg (#[(Value.int IntKind.i64 r6.1), (Value.int IntKind.i64 r6.2.1), (Value.int IntKind.i64 r6.2.2.1), (Value.bool r6.2.2.2.1), (Value.bool r6.2.2.2.2.1)]))]) <|
  .load (Ty.one (B.int IntKind.i64)) (shiftTo (Option.some a2) 0) fun (n7 : Int) =>
  ifB (eqI n7 0)
    (.load (Ty.agg [(B.int IntKind.i64), (B.int IntKind.i64), (B.int IntKind.i64), B.bool, B.bool]) (Option.some a1) fun (r8 : (Int × (Int × (Int × (Bool × (Bool × Unit)))))) =>
    .store (Option.some a3) [(Value.int IntKind.i64 r8.1), (Value.int IntKind.i64 r8.2.1), (Value.int IntKind.i64 r8.2.2.1), (Value.bool r8.2.2.2.1), (Value.bool r8.2.2.2.2.1)] <|
    .load (Ty.agg [(B.int IntKind.i64), (B.int IntKind.i64), (B.int IntKind.i64), B.bool, B.bool]) (Option.some a3) fun (r9 : (Int × (Int × (Int × (Bool × (Bool × Unit)))))) =>
    .ret 0 [(Value.agg (#[(Value.int IntKind.i64 r9.1), (Value.int IntKind.i64 r9.2.1), (Value.int IntKind.i64 r9.2.2.1), (Value.bool r9.2.2.2.1), (Value.bool r9.2.2.2.2.1)]))]) <|
  .load (Ty.one (B.int IntKind.i64)) (shiftTo (Option.some a1) 0) fun (n10 : Int) =>
  .load (Ty.one (B.int IntKind.i64)) (shiftTo (Option.some a2) 0) fun (n11 : Int) =>
  .load (Ty.one (B.int IntKind.i64)) (shiftTo (Option.some a1) 1) fun (n12 : Int) =>
  .load (Ty.one (B.int IntKind.i64)) (shiftTo (Option.some a2) 1) fun (n13 : Int) =>
  .load (Ty.one (B.int IntKind.i64)) (shiftTo (Option.some a1) 2) fun (n14 : Int) =>
  .load (Ty.one (B.int IntKind.i64)) (shiftTo (Option.some a2) 2) fun (n15 : Int) =>
  .load (Ty.one B.bool) (shiftTo (Option.some a1) 3) fun (b16 : Bool) =>
  .load (Ty.one B.bool) (shiftTo (Option.some a2) 4) fun (b17 : Bool) =>
  .alloc [(Value.int IntKind.i64 0), (Value.int IntKind.i64 0), (Value.int IntKind.i64 0), (Value.bool Bool.false), (Value.bool Bool.false)] fun (a18 : Addr) =>
  .store (Option.some a18) [(Value.int IntKind.i64 (addI IntKind.i64 n10 n11)), (Value.int IntKind.i64 (addI IntKind.i64 n12 n13)), (Value.int IntKind.i64 (addI IntKind.i64 n14 n15)), (Value.bool b16), (Value.bool b17)] <|
  .bind
    (.bind
      (.load (Ty.one B.bool) (shiftTo (Option.some a1) 4) fun (b42 : Bool) =>
      ifB b42
        (.load (Ty.one B.bool) (shiftTo (Option.some a2) 3) fun (b43 : Bool) =>
        .ret 0 [(Value.bool b43)]) <|
      .ret 0 [(Value.bool Bool.false)]) fun (k44 : Nat) =>
    fun (vs45 : (List Value)) =>
    ifB (eqN k44 0)
      (.cast [(Ty.one B.bool)] vs45 fun (r46 : (Bool × Unit)) =>
      ifB r46.1
        (.load (Ty.one (B.int IntKind.i64)) (shiftTo (Option.some a18) 2) fun (n47 : Int) =>
        .store (shiftTo (Option.some a18) 2) [(Value.int IntKind.i64 (subI IntKind.i64 n47 1))] <|
        .ret 0 []) <|
      .ret 0 []) <|
    .fail) fun (k48 : Nat) =>
  fun (vs49 : (List Value)) =>
  ifB (eqN k48 0)
    (.cast [] vs49 fun (u50 : Unit) =>
    .load (Ty.agg [(B.int IntKind.i64), (B.int IntKind.i64), (B.int IntKind.i64), B.bool, B.bool]) (Option.some a18) fun (r51 : (Int × (Int × (Int × (Bool × (Bool × Unit)))))) =>
    .store (Option.some a3) [(Value.int IntKind.i64 r51.1), (Value.int IntKind.i64 r51.2.1), (Value.int IntKind.i64 r51.2.2.1), (Value.bool r51.2.2.2.1), (Value.bool r51.2.2.2.2.1)] <|
    .load (Ty.agg [(B.int IntKind.i64), (B.int IntKind.i64), (B.int IntKind.i64), B.bool, B.bool]) (Option.some a3) fun (r52 : (Int × (Int × (Int × (Bool × (Bool × Unit)))))) =>
    .ret 0 [(Value.agg (#[(Value.int IntKind.i64 r52.1), (Value.int IntKind.i64 r52.2.1), (Value.int IntKind.i64 r52.2.2.1), (Value.bool r52.2.2.2.1), (Value.bool r52.2.2.2.2.1)]))]) <|
  .fail
def F_piece_newPart (S : Ids) (enc : Int) (b : Sl) (tag : Int) : Prog :=
  .alloc [(Value.slice Option.none 0 0), (Value.int IntKind.i64 0), (Value.int IntKind.i64 0), (Value.int IntKind.i64 0), (Value.int IntKind.i64 0), (Value.bool Bool.false), (Value.bool Bool.false)] fun (a1 : Addr) =>
  .alloc [(Value.slice Option.none 0 0), (Value.int IntKind.i64 0), (Value.int IntKind.i64 0), (Value.int IntKind.i64 0), (Value.int IntKind.i64 0), (Value.bool Bool.false), (Value.bool Bool.false)] fun (a2 : Addr) =>
  .store (Option.some a2) [(Value.slice b.base b.len b.cap), (Value.int IntKind.i64 tag), (Value.int IntKind.i64 0), (Value.int IntKind.i64 0), (Value.int IntKind.i64 0), (Value.bool Bool.false), (Value.bool Bool.false)] <|
  .bind
    (.loop [(Ty.one (B.int IntKind.i64))] ((0 : Int), ()) fun (r23 : (Int × Unit)) =>
      ifB (ltI r23.1 (natI b.len))
        (.call (F_codec_Next S enc b r23.1) [(Ty.one (B.int IntKind.i64)), (Ty.one (B.int IntKind.i64))] fun (r24 : (Int × (Int × Unit))) =>
        .load (Ty.agg [(B.int IntKind.i64), (B.int IntKind.i64), (B.int IntKind.i64), B.bool, B.bool]) (shiftTo (Option.some a2) 2) fun (r25 : (Int × (Int × (Int × (Bool × (Bool × Unit)))))) =>
        .call (F_piece_single S r24.1 r24.2.1) [(Ty.agg [(B.int IntKind.i64), (B.int IntKind.i64), (B.int IntKind.i64), B.bool, B.bool])] fun (r26 : ((Int × (Int × (Int × (Bool × (Bool × Unit))))) × Unit)) =>
        .check (shiftTo (Option.some a2) 2) [(Value.int IntKind.i64 r25.1), (Value.int IntKind.i64 r25.2.1), (Value.int IntKind.i64 r25.2.2.1), (Value.bool r25.2.2.2.1), (Value.bool r25.2.2.2.2.1)] <|
        .call (F_sums_Add S (r25.1, (r25.2.1, (r25.2.2.1, (r25.2.2.2.1, (r25.2.2.2.2.1, ()))))) (r26.1.1, (r26.1.2.1, (r26.1.2.2.1, (r26.1.2.2.2.1, (r26.1.2.2.2.2.1, ())))))) [(Ty.agg [(B.int IntKind.i64), (B.int IntKind.i64), (B.int IntKind.i64), B.bool, B.bool])] fun (r27 : ((Int × (Int × (Int × (Bool × (Bool × Unit))))) × Unit)) =>
        .store (shiftTo (Option.some a2) 2) [(Value.int IntKind.i64 r27.1.1), (Value.int IntKind.i64 r27.1.2.1), (Value.int IntKind.i64 r27.1.2.2.1), (Value.bool r27.1.2.2.2.1), (Value.bool r27.1.2.2.2.2.1)] <|
        .ret 0 [(Value.int IntKind.i64 (addI IntKind.i64 r23.1 r24.2.1))]) <|
      .ret 2 []) fun (k28 : Nat) =>
  fun (vs29 : (List Value)) =>
  ifB (eqN k28 2)
    (.cast [] vs29 fun (u30 : Unit) =>
    .load (Ty.agg [B.sl, (B.int IntKind.i64), (B.int IntKind.i64), (B.int IntKind.i64), (B.int IntKind.i64), B.bool, B.bool]) (Option.some a2) fun (r31 : (Sl × (Int × (Int × (Int × (Int × (Bool × (Bool × Unit)))))))) =>
    .store (Option.some a1) [(Value.slice r31.1.base r31.1.len r31.1.cap), (Value.int IntKind.i64 r31.2.1), (Value.int IntKind.i64 r31.2.2.1), (Value.int IntKind.i64 r31.2.2.2.1), (Value.int IntKind.i64 r31.2.2.2.2.1), (Value.bool r31.2.2.2.2.2.1), (Value.bool r31.2.2.2.2.2.2.1)] <|
    .load (Ty.agg [B.sl, (B.int IntKind.i64), (B.int IntKind.i64), (B.int IntKind.i64), (B.int IntKind.i64), B.bool, B.bool]) (Option.some a1) fun (r32 : (Sl × (Int × (Int × (Int × (Int × (Bool × (Bool × Unit)))))))) =>
    .ret 0 [(Value.agg (#[(Value.slice r32.1.base r32.1.len r32.1.cap), (Value.int IntKind.i64 r32.2.1), (Value.int IntKind.i64 r32.2.2.1), (Value.int IntKind.i64 r32.2.2.2.1), (Value.int IntKind.i64 r32.2.2.2.2.1), (Value.bool r32.2.2.2.2.2.1), (Value.bool r32.2.2.2.2.2.2.1)]))]) <|
  .fail
def F_node_part_count (S : Ids) (n : (Option Addr)) : Prog :=
  ifB (noneB n)
    (.ret 0 [(Value.int IntKind.i64 0)]) <|
  grd (someB n) <|
  grd (someB n) <|
  .load (Ty.one (B.int IntKind.i64)) (shiftTo n 9) fun (n1 : Int) =>
  .ret 0 [(Value.int IntKind.i64 n1)]
def F_node_part_tall (S : Ids) (n : (Option Addr)) : Prog :=
  ifB (noneB n)
    (.ret 0 [(Value.int IntKind.i64 0)]) <|
  grd (someB n) <|
  grd (someB n) <|
  .load (Ty.one (B.int IntKind.i64)) (shiftTo n 10) fun (n1 : Int) =>
  .ret 0 [(Value.int IntKind.i64 n1)]
def F_part_Measure (S : Ids) (p : (Sl × Int × Int × Int × Int × Bool × Bool × Unit)) : Prog :=
  .alloc [(Value.slice p.1.base p.1.len p.1.cap), (Value.int IntKind.i64 p.2.1), (Value.int IntKind.i64 p.2.2.1), (Value.int IntKind.i64 p.2.2.2.1), (Value.int IntKind.i64 p.2.2.2.2.1), (Value.bool p.2.2.2.2.2.1), (Value.bool p.2.2.2.2.2.2.1)] fun (a1 : Addr) =>
  .alloc [(Value.int IntKind.i64 0), (Value.int IntKind.i64 0), (Value.int IntKind.i64 0), (Value.bool Bool.false), (Value.bool Bool.false)] fun (a2 : Addr) =>
  .load (Ty.agg [(B.int IntKind.i64), (B.int IntKind.i64), (B.int IntKind.i64), B.bool, B.bool]) (shiftTo (Option.some a1) 2) fun (r3 : (Int × (Int × (Int × (Bool × (Bool × Unit)))))) =>
  .store (Option.some a2) [(Value.int IntKind.i64 r3.1), (Value.int IntKind.i64 r3.2.1), (Value.int IntKind.i64 r3.2.2.1), (Value.bool r3.2.2.2.1), (Value.bool r3.2.2.2.2.1)] <|
  .load (Ty.agg [(B.int IntKind.i64), (B.int IntKind.i64), (B.int IntKind.i64), B.bool, B.bool]) (Option.some a2) fun (r4 : (Int × (Int × (Int × (Bool × (Bool × Unit)))))) =>
  .ret 0 [(Value.agg (#[(Value.int IntKind.i64 r4.1), (Value.int IntKind.i64 r4.2.1), (Value.int IntKind.i64 r4.2.2.1), (Value.bool r4.2.2.2.1), (Value.bool r4.2.2.2.2.1)]))]
def F_tree_of_part (S : Ids) (l : (Option Addr)) (x : (Sl × Int × Int × Int × Int × Bool × Bool × Unit)) (r : (Option Addr)) : Prog :=
  .alloc [(Value.slice x.1.base x.1.len x.1.cap), (Value.int IntKind.i64 x.2.1), (Value.int IntKind.i64 x.2.2.1), (Value.int IntKind.i64 x.2.2.2.1), (Value.int IntKind.i64 x.2.2.2.2.1), (Value.bool x.2.2.2.2.2.1), (Value.bool x.2.2.2.2.2.2.1)] fun (a1 : Addr) =>
  .load (Ty.agg [B.sl, (B.int IntKind.i64), (B.int IntKind.i64), (B.int IntKind.i64), (B.int IntKind.i64), B.bool, B.bool]) (Option.some a1) fun (r2 : (Sl × (Int × (Int × (Int × (Int × (Bool × (Bool × Unit)))))))) =>
  .call (F_node_part_count S l) [(Ty.one (B.int IntKind.i64))] fun (r3 : (Int × Unit)) =>
  .check (Option.some a1) [(Value.slice r2.1.base r2.1.len r2.1.cap), (Value.int IntKind.i64 r2.2.1), (Value.int IntKind.i64 r2.2.2.1), (Value.int IntKind.i64 r2.2.2.2.1), (Value.int IntKind.i64 r2.2.2.2.2.1), (Value.bool r2.2.2.2.2.2.1), (Value.bool r2.2.2.2.2.2.2.1)] <|
  .call (F_node_part_count S r) [(Ty.one (B.int IntKind.i64))] fun (r4 : (Int × Unit)) =>
  .check (Option.some a1) [(Value.slice r2.1.base r2.1.len r2.1.cap), (Value.int IntKind.i64 r2.2.1), (Value.int IntKind.i64 r2.2.2.1), (Value.int IntKind.i64 r2.2.2.2.1), (Value.int IntKind.i64 r2.2.2.2.2.1), (Value.bool r2.2.2.2.2.2.1), (Value.bool r2.2.2.2.2.2.2.1)] <|
  .call (F_node_part_tall S l) [(Ty.one (B.int IntKind.i64))] fun (r5 : (Int × Unit)) =>
  .check (Option.some a1) [(Value.slice r2.1.base r2.1.len r2.1.cap), (Value.int IntKind.i64 r2.2.1), (Value.int IntKind.i64 r2.2.2.1), (Value.int IntKind.i64 r2.2.2.2.1), (Value.int IntKind.i64 r2.2.2.2.2.1), (Value.bool r2.2.2.2.2.2.1), (Value.bool r2.2.2.2.2.2.2.1)] <|
  .call (F_node_part_tall S r) [(Ty.one (B.int IntKind.i64))] fun (r6 : (Int × Unit)) =>
  .check (Option.some a1) [(Value.slice r2.1.base r2.1.len r2.1.cap), (Value.int IntKind.i64 r2.2.1), (Value.int IntKind.i64 r2.2.2.1), (Value.int IntKind.i64 r2.2.2.2.1), (Value.int IntKind.i64 r2.2.2.2.2.1), (Value.bool r2.2.2.2.2.2.1), (Value.bool r2.2.2.2.2.2.2.1)] <|
  .alloc [(Value.pointer l), (Value.pointer r), (Value.slice r2.1.base r2.1.len r2.1.cap), (Value.int IntKind.i64 r2.2.1), (Value.int IntKind.i64 r2.2.2.1), (Value.int IntKind.i64 r2.2.2.2.1), (Value.int IntKind.i64 r2.2.2.2.2.1), (Value.bool r2.2.2.2.2.2.1), (Value.bool r2.2.2.2.2.2.2.1), (Value.int IntKind.i64 (addI IntKind.i64 (addI IntKind.i64 r3.1 1) r4.1)), (Value.int IntKind.i64 (addI IntKind.i64 (maxI r5.1 r6.1) 1)), (Value.int IntKind.i64 0), (Value.int IntKind.i64 0), (Value.int IntKind.i64 0), (Value.bool Bool.false), (Value.bool Bool.false)] fun (a7 : Addr) =>
  .load (Ty.agg [B.sl, (B.int IntKind.i64), (B.int IntKind.i64), (B.int IntKind.i64), (B.int IntKind.i64), B.bool, B.bool]) (Option.some a1) fun (r8 : (Sl × (Int × (Int × (Int × (Int × (Bool × (Bool × Unit)))))))) =>
  .call (F_part_Measure S (r8.1, (r8.2.1, (r8.2.2.1, (r8.2.2.2.1, (r8.2.2.2.2.1, (r8.2.2.2.2.2.1, (r8.2.2.2.2.2.2.1, ())))))))) [(Ty.agg [(B.int IntKind.i64), (B.int IntKind.i64), (B.int IntKind.i64), B.bool, B.bool])] fun (r9 : ((Int × (Int × (Int × (Bool × (Bool × Unit))))) × Unit)) =>
  .store (shiftTo (Option.some a7) 11) [(Value.int IntKind.i64 r9.1.1), (Value.int IntKind.i64 r9.1.2.1), (Value.int IntKind.i64 r9.1.2.2.1), (Value.bool r9.1.2.2.2.1), (Value.bool r9.1.2.2.2.2.1)] <|
  .bind
    (ifB (notB (noneB l))
      (grd (someB l) <|
      grd (someB l) <|
      .load (Ty.agg [(B.int IntKind.i64), (B.int IntKind.i64), (B.int IntKind.i64), B.bool, B.bool]) (shiftTo l 11) fun (r28 : (Int × (Int × (Int × (Bool × (Bool × Unit)))))) =>
      .load (Ty.agg [(B.int IntKind.i64), (B.int IntKind.i64), (B.int IntKind.i64), B.bool, B.bool]) (shiftTo (Option.some a7) 11) fun (r29 : (Int × (Int × (Int × (Bool × (Bool × Unit)))))) =>
      .call (F_sums_Add S (r28.1, (r28.2.1, (r28.2.2.1, (r28.2.2.2.1, (r28.2.2.2.2.1, ()))))) (r29.1, (r29.2.1, (r29.2.2.1, (r29.2.2.2.1, (r29.2.2.2.2.1, ())))))) [(Ty.agg [(B.int IntKind.i64), (B.int IntKind.i64), (B.int IntKind.i64), B.bool, B.bool])] fun (r30 : ((Int × (Int × (Int × (Bool × (Bool × Unit))))) × Unit)) =>
      .store (shiftTo (Option.some a7) 11) [(Value.int IntKind.i64 r30.1.1), (Value.int IntKind.i64 r30.1.2.1), (Value.int IntKind.i64 r30.1.2.2.1), (Value.bool r30.1.2.2.2.1), (Value.bool r30.1.2.2.2.2.1)] <|
      .ret 0 []) <|
    .ret 0 []) fun (k31 : Nat) =>
  fun (vs32 : (List Value)) =>
  ifB (eqN k31 0)
    (.cast [] vs32 fun (u33 : Unit) =>
    .bind
      (ifB (notB (noneB r))
        (.load (Ty.agg [(B.int IntKind.i64), (B.int IntKind.i64), (B.int IntKind.i64), B.bool, B.bool]) (shiftTo (Option.some a7) 11) fun (r40 : (Int × (Int × (Int × (Bool × (Bool × Unit)))))) =>
        grd (someB r) <|
        grd (someB r) <|
        .load (Ty.agg [(B.int IntKind.i64), (B.int IntKind.i64), (B.int IntKind.i64), B.bool, B.bool]) (shiftTo r 11) fun (r41 : (Int × (Int × (Int × (Bool × (Bool × Unit)))))) =>
        .call (F_sums_Add S (r40.1, (r40.2.1, (r40.2.2.1, (r40.2.2.2.1, (r40.2.2.2.2.1, ()))))) (r41.1, (r41.2.1, (r41.2.2.1, (r41.2.2.2.1, (r41.2.2.2.2.1, ())))))) [(Ty.agg [(B.int IntKind.i64), (B.int IntKind.i64), (B.int IntKind.i64), B.bool, B.bool])] fun (r42 : ((Int × (Int × (Int × (Bool × (Bool × Unit))))) × Unit)) =>
        .store (shiftTo (Option.some a7) 11) [(Value.int IntKind.i64 r42.1.1), (Value.int IntKind.i64 r42.1.2.1), (Value.int IntKind.i64 r42.1.2.2.1), (Value.bool r42.1.2.2.2.1), (Value.bool r42.1.2.2.2.2.1)] <|
        .ret 0 []) <|
      .ret 0 []) fun (k43 : Nat) =>
    fun (vs44 : (List Value)) =>
    ifB (eqN k43 0)
      (.cast [] vs44 fun (u45 : Unit) =>
      .ret 0 [(Value.pointer (Option.some a7))]) <|
    .fail) <|
  .fail
def R_tree_build_part (fuelN : Nat) (S : Ids) (items : Sl) : Prog :=
  match fuelN with
  | 0 => .fail
  | fuelN + 1 =>
  ifB (eqI (natI items.len) 0)
    (.ret 0 [(Value.pointer Option.none)]) <|
  grd (notB Bool.false) <|
  grd (leB (quoI IntKind.i64 (natI items.len) 2) items.cap) <|
  grd (andB (someB items.base) (inB (quoI IntKind.i64 (natI items.len) 2) items.len)) <|
  .load (Ty.agg [B.sl, (B.int IntKind.i64), (B.int IntKind.i64), (B.int IntKind.i64), (B.int IntKind.i64), B.bool, B.bool]) (shiftTo items.base (mulN (toN (quoI IntKind.i64 (natI items.len) 2)) 7)) fun (r1 : (Sl × (Int × (Int × (Int × (Int × (Bool × (Bool × Unit)))))))) =>
  grd (leB (addI IntKind.i64 (quoI IntKind.i64 (natI items.len) 2) 1) items.len) <|
  .call (R_tree_build_part fuelN S (⟨(cutBase items.base items.cap 0 7), (subN (toN (quoI IntKind.i64 (natI items.len) 2)) 0), (subN items.cap 0)⟩)) [(Ty.one B.ptr)] fun (r2 : ((Option Addr) × Unit)) =>
  .check (shiftTo items.base (mulN (toN (quoI IntKind.i64 (natI items.len) 2)) 7)) [(Value.slice r1.1.base r1.1.len r1.1.cap), (Value.int IntKind.i64 r1.2.1), (Value.int IntKind.i64 r1.2.2.1), (Value.int IntKind.i64 r1.2.2.2.1), (Value.int IntKind.i64 r1.2.2.2.2.1), (Value.bool r1.2.2.2.2.2.1), (Value.bool r1.2.2.2.2.2.2.1)] <|
  .call (R_tree_build_part fuelN S (⟨(cutBase items.base items.cap (toN (addI IntKind.i64 (quoI IntKind.i64 (natI items.len) 2) 1)) 7), (subN items.len (toN (addI IntKind.i64 (quoI IntKind.i64 (natI items.len) 2) 1))), (subN items.cap (toN (addI IntKind.i64 (quoI IntKind.i64 (natI items.len) 2) 1)))⟩)) [(Ty.one B.ptr)] fun (r3 : ((Option Addr) × Unit)) =>
  .check (shiftTo items.base (mulN (toN (quoI IntKind.i64 (natI items.len) 2)) 7)) [(Value.slice r1.1.base r1.1.len r1.1.cap), (Value.int IntKind.i64 r1.2.1), (Value.int IntKind.i64 r1.2.2.1), (Value.int IntKind.i64 r1.2.2.2.1), (Value.int IntKind.i64 r1.2.2.2.2.1), (Value.bool r1.2.2.2.2.2.1), (Value.bool r1.2.2.2.2.2.2.1)] <|
  .call (F_tree_of_part S r2.1 (r1.1, (r1.2.1, (r1.2.2.1, (r1.2.2.2.1, (r1.2.2.2.2.1, (r1.2.2.2.2.2.1, (r1.2.2.2.2.2.2.1, ()))))))) r3.1) [(Ty.one B.ptr)] fun (r4 : ((Option Addr) × Unit)) =>
  .ret 0 [(Value.pointer r4.1)]
def F_tree_build_part (S : Ids) (items : Sl) : Prog := .ex fun fuelN => R_tree_build_part fuelN S items
def F_tree_Of_part (S : Ids) (items : Sl) : Prog :=
  .alloc [(Value.pointer Option.none)] fun (a1 : Addr) =>
  .call (F_tree_build_part S items) [(Ty.one B.ptr)] fun (r2 : ((Option Addr) × Unit)) =>
  .store (Option.some a1) [(Value.pointer r2.1)] <|
  .load (Ty.agg [B.ptr]) (Option.some a1) fun (r3 : ((Option Addr) × Unit)) =>
  .ret 0 [(Value.agg (#[(Value.pointer r3.1)]))]
def F_piece_Open (S : Ids) (enc : Int) (b : Sl) (limit : Int) : Prog :=
  .bind
    (ifB (ltI enc 1)
      (.ret 0 [(Value.bool Bool.true)]) <|
    .ret 0 [(Value.bool (gtI enc 4))]) fun (k424 : Nat) =>
  fun (vs425 : (List Value)) =>
  ifB (eqN k424 0)
    (.cast [(Ty.one B.bool)] vs425 fun (r426 : (Bool × Unit)) =>
    ifB r426.1
      (.ret 0 [(Value.pointer Option.none), (Value.int IntKind.i64 10)]) <|
    .bind
      (ifB (ltI limit 0)
        (.ret 0 [(Value.bool Bool.true)]) <|
      .ret 0 [(Value.bool (gtI limit 65536))]) fun (k637 : Nat) =>
    fun (vs638 : (List Value)) =>
    ifB (eqN k637 0)
      (.cast [(Ty.one B.bool)] vs638 fun (r639 : (Bool × Unit)) =>
      ifB r639.1
        (.ret 0 [(Value.pointer Option.none), (Value.int IntKind.i64 1)]) <|
      ifB (gtI (natI b.len) limit)
        (.ret 0 [(Value.pointer Option.none), (Value.int IntKind.i64 50)]) <|
      .mk 1 [(Value.int IntKind.u8 0)] (natI b.len) (natI b.len) fun (l640 : Sl) =>
      .copy 1 l640 b fun (k641 : Nat) =>
      .alloc [(Value.int IntKind.i64 enc), (Value.int IntKind.i64 limit), (Value.pointer Option.none), (Value.slice Option.none 0 0)] fun (a642 : Addr) =>
      .bind
        (.loop [(Ty.one B.sl), (Ty.one (B.int IntKind.i64))] ((⟨Option.none, 0, 0⟩ : Sl), ((0 : Int), ())) fun (r794 : (Sl × (Int × Unit))) =>
          ifB (ltI r794.2.1 (natI l640.len))
            (.bind
              (.loop [(Ty.one (B.int IntKind.i64)), (Ty.one (B.int IntKind.i64))] (r794.2.1, ((0 : Int), ())) fun (r828 : (Int × (Int × Unit))) =>
                .bind
                  (ifB (ltI r828.1 (natI l640.len))
                    (.ret 0 [(Value.bool (ltI r828.2.1 128))]) <|
                  .ret 0 [(Value.bool Bool.false)]) fun (k833 : Nat) =>
                fun (vs834 : (List Value)) =>
                ifB (eqN k833 0)
                  (.cast [(Ty.one B.bool)] vs834 fun (r835 : (Bool × Unit)) =>
                  ifB r835.1
                    (.call (F_codec_Next S enc l640 r828.1) [(Ty.one (B.int IntKind.i64)), (Ty.one (B.int IntKind.i64))] fun (r836 : (Int × (Int × Unit))) =>
                    .ret 0 [(Value.int IntKind.i64 (addI IntKind.i64 r828.1 r836.2.1)), (Value.int IntKind.i64 (addI IntKind.i64 r828.2.1 1))]) <|
                  .ret 5 [(Value.int IntKind.i64 r828.1)]) <|
                .fail) fun (k837 : Nat) =>
            fun (vs838 : (List Value)) =>
            ifB (eqN k837 5)
              (.cast [(Ty.one (B.int IntKind.i64))] vs838 fun (r839 : (Int × Unit)) =>
              grd (andB (leB r839.1 l640.cap) (andB (leB r839.1 (toN r839.1)) (leB r794.2.1 (toN r839.1)))) <|
              .call (F_piece_newPart S enc (⟨(cutBase l640.base (toN r839.1) (toN r794.2.1) 1), (subN (toN r839.1) (toN r794.2.1)), (subN (toN r839.1) (toN r794.2.1))⟩) r794.2.1) [(Ty.agg [B.sl, (B.int IntKind.i64), (B.int IntKind.i64), (B.int IntKind.i64), (B.int IntKind.i64), B.bool, B.bool])] fun (r840 : ((Sl × (Int × (Int × (Int × (Int × (Bool × (Bool × Unit))))))) × Unit)) =>
              .alloc [(Value.slice r840.1.1.base r840.1.1.len r840.1.1.cap), (Value.int IntKind.i64 r840.1.2.1), (Value.int IntKind.i64 r840.1.2.2.1), (Value.int IntKind.i64 r840.1.2.2.2.1), (Value.int IntKind.i64 r840.1.2.2.2.2.1), (Value.bool r840.1.2.2.2.2.2.1), (Value.bool r840.1.2.2.2.2.2.2.1)] fun (a841 : Addr) =>
              .append 7 64 [(Value.slice Option.none 0 0), (Value.int IntKind.i64 0), (Value.int IntKind.i64 0), (Value.int IntKind.i64 0), (Value.int IntKind.i64 0), (Value.bool Bool.false), (Value.bool Bool.false)] r794.1 (⟨(Option.some a841), 1, 1⟩) fun (l842 : Sl) =>
              .ret 0 [(Value.slice l842.base l842.len l842.cap), (Value.int IntKind.i64 r839.1)]) <|
            .fail) <|
          .ret 3 [(Value.slice r794.1.base r794.1.len r794.1.cap)]) fun (k843 : Nat) =>
      fun (vs844 : (List Value)) =>
      ifB (eqN k843 3)
        (.cast [(Ty.one B.sl)] vs844 fun (r845 : (Sl × Unit)) =>
        .call (F_tree_Of_part S r845.1) [(Ty.agg [B.ptr])] fun (r846 : (((Option Addr) × Unit) × Unit)) =>
        .store (shiftTo (Option.some a642) 2) [(Value.pointer r846.1.1)] <|
        .ret 0 [(Value.pointer (Option.some a642)), (Value.int IntKind.i64 0)]) <|
      .fail) <|
    .fail) <|
  .fail
def F_Tree_part_Sum (S : Ids) (t : ((Option Addr) × Unit)) : Prog :=
  .alloc [(Value.pointer t.1)] fun (a1 : Addr) =>
  .alloc [(Value.int IntKind.i64 0), (Value.int IntKind.i64 0), (Value.int IntKind.i64 0), (Value.bool Bool.false), (Value.bool Bool.false)] fun (a2 : Addr) =>
  .load (Ty.one B.ptr) (shiftTo (Option.some a1) 0) fun (p3 : (Option Addr)) =>
  ifB (noneB p3)
    (.alloc [(Value.int IntKind.i64 0), (Value.int IntKind.i64 0), (Value.int IntKind.i64 0), (Value.bool Bool.false), (Value.bool Bool.false)] fun (a4 : Addr) =>
    .load (Ty.agg [(B.int IntKind.i64), (B.int IntKind.i64), (B.int IntKind.i64), B.bool, B.bool]) (Option.some a4) fun (r5 : (Int × (Int × (Int × (Bool × (Bool × Unit)))))) =>
    .store (Option.some a2) [(Value.int IntKind.i64 r5.1), (Value.int IntKind.i64 r5.2.1), (Value.int IntKind.i64 r5.2.2.1), (Value.bool r5.2.2.2.1), (Value.bool r5.2.2.2.2.1)] <|
    .load (Ty.agg [(B.int IntKind.i64), (B.int IntKind.i64), (B.int IntKind.i64), B.bool, B.bool]) (Option.some a2) fun (r6 : (Int × (Int × (Int × (Bool × (Bool × Unit)))))) =>
    .ret 0 [(Value.agg (#[(Value.int IntKind.i64 r6.1), (Value.int IntKind.i64 r6.2.1), (Value.int IntKind.i64 r6.2.2.1), (Value.bool r6.2.2.2.1), (Value.bool r6.2.2.2.2.1)]))]) <|
  .load (Ty.one B.ptr) (shiftTo (Option.some a1) 0) fun (p7 : (Option Addr)) =>
  grd (someB p7) <|
  grd (someB p7) <|
  .load (Ty.agg [(B.int IntKind.i64), (B.int IntKind.i64), (B.int IntKind.i64), B.bool, B.bool]) (shiftTo p7 11) fun (r8 : (Int × (Int × (Int × (Bool × (Bool × Unit)))))) =>
  .store (Option.some a2) [(Value.int IntKind.i64 r8.1), (Value.int IntKind.i64 r8.2.1), (Value.int IntKind.i64 r8.2.2.1), (Value.bool r8.2.2.2.1), (Value.bool r8.2.2.2.2.1)] <|
  .load (Ty.agg [(B.int IntKind.i64), (B.int IntKind.i64), (B.int IntKind.i64), B.bool, B.bool]) (Option.some a2) fun (r9 : (Int × (Int × (Int × (Bool × (Bool × Unit)))))) =>
  .ret 0 [(Value.agg (#[(Value.int IntKind.i64 r9.1), (Value.int IntKind.i64 r9.2.1), (Value.int IntKind.i64 r9.2.2.1), (Value.bool r9.2.2.2.1), (Value.bool r9.2.2.2.2.1)]))]
def F_Text_Len (S : Ids) (t : (Option Addr)) : Prog :=
  grd (someB t) <|
  grd (someB t) <|
  .load (Ty.agg [B.ptr]) (shiftTo t 2) fun (r1 : ((Option Addr) × Unit)) =>
  .call (F_Tree_part_Sum S (r1.1, ())) [(Ty.agg [(B.int IntKind.i64), (B.int IntKind.i64), (B.int IntKind.i64), B.bool, B.bool])] fun (r2 : ((Int × (Int × (Int × (Bool × (Bool × Unit))))) × Unit)) =>
  .ret 0 [(Value.int IntKind.i64 r2.1.1)]
def F_Text_Size (S : Ids) (t : (Option Addr)) : Prog :=
  grd (someB t) <|
  grd (someB t) <|
  .load (Ty.agg [B.ptr]) (shiftTo t 2) fun (r1 : ((Option Addr) × Unit)) =>
  .call (F_Tree_part_Sum S (r1.1, ())) [(Ty.agg [(B.int IntKind.i64), (B.int IntKind.i64), (B.int IntKind.i64), B.bool, B.bool])] fun (r2 : ((Int × (Int × (Int × (Bool × (Bool × Unit))))) × Unit)) =>
  .ret 0 [(Value.int IntKind.i64 r2.1.2.1)]
def F_codec_Size (S : Ids) (enc : Int) (atom : Int) : Prog :=
  .call (F_codec_of S enc) [(Ty.one B.any)] fun (r1 : (Value × Unit)) =>
  grd (isIface r1.1) <|
  ifB (isNilIface r1.1)
    (.ret 0 [(Value.int IntKind.i64 0)]) <|
  .invoke r1.1 S.m_size [(Value.int IntKind.i64 atom)] [(Ty.one (B.int IntKind.i64))] fun (r2 : (Int × Unit)) =>
  .ret 0 [(Value.int IntKind.i64 r2.1)]
def F_sums_Key (S : Ids) (s : (Int × Int × Int × Bool × Bool × Unit)) (k : Int) : Prog :=
  .alloc [(Value.int IntKind.i64 s.1), (Value.int IntKind.i64 s.2.1), (Value.int IntKind.i64 s.2.2.1), (Value.bool s.2.2.2.1), (Value.bool s.2.2.2.2.1)] fun (a1 : Addr) =>
  ifB (eqI k 0)
    (.load (Ty.one (B.int IntKind.i64)) (shiftTo (Option.some a1) 0) fun (n2 : Int) =>
    .ret 0 [(Value.int IntKind.i64 n2)]) <|
  ifB (eqI k 1)
    (.load (Ty.one (B.int IntKind.i64)) (shiftTo (Option.some a1) 2) fun (n3 : Int) =>
    .ret 0 [(Value.int IntKind.i64 n3)]) <|
  .ret 0 [(Value.int IntKind.i64 0)]
def F_Tree_part_Find (S : Ids) (t : ((Option Addr) × Unit)) (k : Int) (n : Int) : Prog :=
  .alloc [(Value.pointer t.1)] fun (a1 : Addr) =>
  ifB (leI n 0)
    (.ret 0 [(Value.int IntKind.i64 0)]) <|
  .alloc [(Value.int IntKind.i64 0), (Value.int IntKind.i64 0), (Value.int IntKind.i64 0), (Value.bool Bool.false), (Value.bool Bool.false)] fun (a2 : Addr) =>
  .load (Ty.one B.ptr) (shiftTo (Option.some a1) 0) fun (p3 : (Option Addr)) =>
  .bind
    (.loop [(Ty.one (B.int IntKind.i64)), (Ty.one B.ptr)] ((0 : Int), (p3, ())) fun (r137 : (Int × ((Option Addr) × Unit))) =>
      ifB (notB (noneB r137.2.1))
        (.load (Ty.agg [(B.int IntKind.i64), (B.int IntKind.i64), (B.int IntKind.i64), B.bool, B.bool]) (Option.some a2) fun (r138 : (Int × (Int × (Int × (Bool × (Bool × Unit)))))) =>
        .alloc [(Value.int IntKind.i64 0), (Value.int IntKind.i64 0), (Value.int IntKind.i64 0), (Value.bool Bool.false), (Value.bool Bool.false)] fun (a139 : Addr) =>
        .store (Option.some a139) [(Value.int IntKind.i64 r138.1), (Value.int IntKind.i64 r138.2.1), (Value.int IntKind.i64 r138.2.2.1), (Value.bool r138.2.2.2.1), (Value.bool r138.2.2.2.2.1)] <|
        .bind
          (grd (someB r137.2.1) <|
          grd (someB r137.2.1) <|
          .load (Ty.one B.ptr) (shiftTo r137.2.1 0) fun (p160 : (Option Addr)) =>
          ifB (notB (noneB p160))
            (.load (Ty.agg [(B.int IntKind.i64), (B.int IntKind.i64), (B.int IntKind.i64), B.bool, B.bool]) (Option.some a2) fun (r161 : (Int × (Int × (Int × (Bool × (Bool × Unit)))))) =>
            grd (someB r137.2.1) <|
            grd (someB r137.2.1) <|
            .load (Ty.one B.ptr) (shiftTo r137.2.1 0) fun (p162 : (Option Addr)) =>
            grd (someB p162) <|
            grd (someB p162) <|
            .load (Ty.agg [(B.int IntKind.i64), (B.int IntKind.i64), (B.int IntKind.i64), B.bool, B.bool]) (shiftTo p162 11) fun (r163 : (Int × (Int × (Int × (Bool × (Bool × Unit)))))) =>
            .call (F_sums_Add S (r161.1, (r161.2.1, (r161.2.2.1, (r161.2.2.2.1, (r161.2.2.2.2.1, ()))))) (r163.1, (r163.2.1, (r163.2.2.1, (r163.2.2.2.1, (r163.2.2.2.2.1, ())))))) [(Ty.agg [(B.int IntKind.i64), (B.int IntKind.i64), (B.int IntKind.i64), B.bool, B.bool])] fun (r164 : ((Int × (Int × (Int × (Bool × (Bool × Unit))))) × Unit)) =>
            .store (Option.some a139) [(Value.int IntKind.i64 r164.1.1), (Value.int IntKind.i64 r164.1.2.1), (Value.int IntKind.i64 r164.1.2.2.1), (Value.bool r164.1.2.2.2.1), (Value.bool r164.1.2.2.2.2.1)] <|
            .ret 0 []) <|
          .ret 0 []) fun (k165 : Nat) =>
        fun (vs166 : (List Value)) =>
        ifB (eqN k165 0)
          (.cast [] vs166 fun (u167 : Unit) =>
          .load (Ty.agg [(B.int IntKind.i64), (B.int IntKind.i64), (B.int IntKind.i64), B.bool, B.bool]) (Option.some a139) fun (r168 : (Int × (Int × (Int × (Bool × (Bool × Unit)))))) =>
          .call (F_sums_Key S (r168.1, (r168.2.1, (r168.2.2.1, (r168.2.2.2.1, (r168.2.2.2.2.1, ()))))) k) [(Ty.one (B.int IntKind.i64))] fun (r169 : (Int × Unit)) =>
          ifB (geI r169.1 n)
            (grd (someB r137.2.1) <|
            grd (someB r137.2.1) <|
            .load (Ty.one B.ptr) (shiftTo r137.2.1 0) fun (p170 : (Option Addr)) =>
            .ret 0 [(Value.int IntKind.i64 r137.1), (Value.pointer p170)]) <|
          grd (someB r137.2.1) <|
          grd (someB r137.2.1) <|
          .load (Ty.one B.ptr) (shiftTo r137.2.1 0) fun (p171 : (Option Addr)) =>
          .call (F_node_part_count S p171) [(Ty.one (B.int IntKind.i64))] fun (r172 : (Int × Unit)) =>
          .load (Ty.agg [(B.int IntKind.i64), (B.int IntKind.i64), (B.int IntKind.i64), B.bool, B.bool]) (Option.some a139) fun (r173 : (Int × (Int × (Int × (Bool × (Bool × Unit)))))) =>
          grd (someB r137.2.1) <|
          grd (someB r137.2.1) <|
          .load (Ty.agg [B.sl, (B.int IntKind.i64), (B.int IntKind.i64), (B.int IntKind.i64), (B.int IntKind.i64), B.bool, B.bool]) (shiftTo r137.2.1 2) fun (r174 : (Sl × (Int × (Int × (Int × (Int × (Bool × (Bool × Unit)))))))) =>
          .call (F_part_Measure S (r174.1, (r174.2.1, (r174.2.2.1, (r174.2.2.2.1, (r174.2.2.2.2.1, (r174.2.2.2.2.2.1, (r174.2.2.2.2.2.2.1, ())))))))) [(Ty.agg [(B.int IntKind.i64), (B.int IntKind.i64), (B.int IntKind.i64), B.bool, B.bool])] fun (r175 : ((Int × (Int × (Int × (Bool × (Bool × Unit))))) × Unit)) =>
          .check (Option.some a139) [(Value.int IntKind.i64 r173.1), (Value.int IntKind.i64 r173.2.1), (Value.int IntKind.i64 r173.2.2.1), (Value.bool r173.2.2.2.1), (Value.bool r173.2.2.2.2.1)] <|
          .call (F_sums_Add S (r173.1, (r173.2.1, (r173.2.2.1, (r173.2.2.2.1, (r173.2.2.2.2.1, ()))))) (r175.1.1, (r175.1.2.1, (r175.1.2.2.1, (r175.1.2.2.2.1, (r175.1.2.2.2.2.1, ())))))) [(Ty.agg [(B.int IntKind.i64), (B.int IntKind.i64), (B.int IntKind.i64), B.bool, B.bool])] fun (r176 : ((Int × (Int × (Int × (Bool × (Bool × Unit))))) × Unit)) =>
          .store (Option.some a2) [(Value.int IntKind.i64 r176.1.1), (Value.int IntKind.i64 r176.1.2.1), (Value.int IntKind.i64 r176.1.2.2.1), (Value.bool r176.1.2.2.2.1), (Value.bool r176.1.2.2.2.2.1)] <|
          .load (Ty.agg [(B.int IntKind.i64), (B.int IntKind.i64), (B.int IntKind.i64), B.bool, B.bool]) (Option.some a2) fun (r177 : (Int × (Int × (Int × (Bool × (Bool × Unit)))))) =>
          .call (F_sums_Key S (r177.1, (r177.2.1, (r177.2.2.1, (r177.2.2.2.1, (r177.2.2.2.2.1, ()))))) k) [(Ty.one (B.int IntKind.i64))] fun (r178 : (Int × Unit)) =>
          ifB (geI r178.1 n)
            (.ret 1 [(Value.int IntKind.i64 (addI IntKind.i64 r137.1 (addI IntKind.i64 r172.1 1)))]) <|
          grd (someB r137.2.1) <|
          grd (someB r137.2.1) <|
          .load (Ty.one B.ptr) (shiftTo r137.2.1 1) fun (p179 : (Option Addr)) =>
          .ret 0 [(Value.int IntKind.i64 (addI IntKind.i64 r137.1 (addI IntKind.i64 r172.1 1))), (Value.pointer p179)]) <|
        .fail) <|
      .ret 2 [(Value.int IntKind.i64 r137.1)]) fun (k180 : Nat) =>
  fun (vs181 : (List Value)) =>
  ifB (eqN k180 2)
    (.cast [(Ty.one (B.int IntKind.i64))] vs181 fun (r182 : (Int × Unit)) =>
    .ret 0 [(Value.int IntKind.i64 (addI IntKind.i64 r182.1 1))]) <|
  ifB (eqN k180 1)
    (.cast [(Ty.one (B.int IntKind.i64))] vs181 fun (r183 : (Int × Unit)) =>
    .ret 0 [(Value.int IntKind.i64 r183.1)]) <|
  .fail
def F_Tree_part_Size (S : Ids) (t : ((Option Addr) × Unit)) : Prog :=
  .alloc [(Value.pointer t.1)] fun (a1 : Addr) =>
  .load (Ty.one B.ptr) (shiftTo (Option.some a1) 0) fun (p2 : (Option Addr)) =>
  .call (F_node_part_count S p2) [(Ty.one (B.int IntKind.i64))] fun (r3 : (Int × Unit)) =>
  .ret 0 [(Value.int IntKind.i64 r3.1)]
def F_Tree_part_Upto (S : Ids) (t : ((Option Addr) × Unit)) (i : Int) : Prog :=
  .alloc [(Value.pointer t.1)] fun (a1 : Addr) =>
  .alloc [(Value.int IntKind.i64 0), (Value.int IntKind.i64 0), (Value.int IntKind.i64 0), (Value.bool Bool.false), (Value.bool Bool.false)] fun (a2 : Addr) =>
  .alloc [(Value.int IntKind.i64 0), (Value.int IntKind.i64 0), (Value.int IntKind.i64 0), (Value.bool Bool.false), (Value.bool Bool.false)] fun (a3 : Addr) =>
  .load (Ty.agg [B.ptr]) (Option.some a1) fun (r4 : ((Option Addr) × Unit)) =>
  .call (F_Tree_part_Size S (r4.1, ())) [(Ty.one (B.int IntKind.i64))] fun (r5 : (Int × Unit)) =>
  .load (Ty.one B.ptr) (shiftTo (Option.some a1) 0) fun (p6 : (Option Addr)) =>
  .bind
    (.loop [(Ty.one (B.int IntKind.i64)), (Ty.one B.ptr)] ((minI i r5.1), (p6, ())) fun (r207 : (Int × ((Option Addr) × Unit))) =>
      .bind
        (ifB (notB (noneB r207.2.1))
          (.ret 0 [(Value.bool (gtI r207.1 0))]) <|
        .ret 0 [(Value.bool Bool.false)]) fun (k240 : Nat) =>
      fun (vs241 : (List Value)) =>
      ifB (eqN k240 0)
        (.cast [(Ty.one B.bool)] vs241 fun (r242 : (Bool × Unit)) =>
        ifB r242.1
          (grd (someB r207.2.1) <|
          grd (someB r207.2.1) <|
          .load (Ty.one B.ptr) (shiftTo r207.2.1 0) fun (p243 : (Option Addr)) =>
          .call (F_node_part_count S p243) [(Ty.one (B.int IntKind.i64))] fun (r244 : (Int × Unit)) =>
          ifB (leI r207.1 r244.1)
            (grd (someB r207.2.1) <|
            grd (someB r207.2.1) <|
            .load (Ty.one B.ptr) (shiftTo r207.2.1 0) fun (p245 : (Option Addr)) =>
            .ret 0 [(Value.int IntKind.i64 r207.1), (Value.pointer p245)]) <|
          .bind
            (grd (someB r207.2.1) <|
            grd (someB r207.2.1) <|
            .load (Ty.one B.ptr) (shiftTo r207.2.1 0) fun (p259 : (Option Addr)) =>
            ifB (notB (noneB p259))
              (.load (Ty.agg [(B.int IntKind.i64), (B.int IntKind.i64), (B.int IntKind.i64), B.bool, B.bool]) (Option.some a3) fun (r260 : (Int × (Int × (Int × (Bool × (Bool × Unit)))))) =>
              grd (someB r207.2.1) <|
              grd (someB r207.2.1) <|
              .load (Ty.one B.ptr) (shiftTo r207.2.1 0) fun (p261 : (Option Addr)) =>
              grd (someB p261) <|
              grd (someB p261) <|
              .load (Ty.agg [(B.int IntKind.i64), (B.int IntKind.i64), (B.int IntKind.i64), B.bool, B.bool]) (shiftTo p261 11) fun (r262 : (Int × (Int × (Int × (Bool × (Bool × Unit)))))) =>
              .call (F_sums_Add S (r260.1, (r260.2.1, (r260.2.2.1, (r260.2.2.2.1, (r260.2.2.2.2.1, ()))))) (r262.1, (r262.2.1, (r262.2.2.1, (r262.2.2.2.1, (r262.2.2.2.2.1, ())))))) [(Ty.agg [(B.int IntKind.i64), (B.int IntKind.i64), (B.int IntKind.i64), B.bool, B.bool])] fun (r263 : ((Int × (Int × (Int × (Bool × (Bool × Unit))))) × Unit)) =>
              .store (Option.some a3) [(Value.int IntKind.i64 r263.1.1), (Value.int IntKind.i64 r263.1.2.1), (Value.int IntKind.i64 r263.1.2.2.1), (Value.bool r263.1.2.2.2.1), (Value.bool r263.1.2.2.2.2.1)] <|
              .ret 0 []) <|
            .ret 0 []) fun (k264 : Nat) =>
          fun (vs265 : (List Value)) =>
          ifB (eqN k264 0)
            (.cast [] vs265 fun (u266 : Unit) =>
            .load (Ty.agg [(B.int IntKind.i64), (B.int IntKind.i64), (B.int IntKind.i64), B.bool, B.bool]) (Option.some a3) fun (r267 : (Int × (Int × (Int × (Bool × (Bool × Unit)))))) =>
            grd (someB r207.2.1) <|
            grd (someB r207.2.1) <|
            .load (Ty.agg [B.sl, (B.int IntKind.i64), (B.int IntKind.i64), (B.int IntKind.i64), (B.int IntKind.i64), B.bool, B.bool]) (shiftTo r207.2.1 2) fun (r268 : (Sl × (Int × (Int × (Int × (Int × (Bool × (Bool × Unit)))))))) =>
            .call (F_part_Measure S (r268.1, (r268.2.1, (r268.2.2.1, (r268.2.2.2.1, (r268.2.2.2.2.1, (r268.2.2.2.2.2.1, (r268.2.2.2.2.2.2.1, ())))))))) [(Ty.agg [(B.int IntKind.i64), (B.int IntKind.i64), (B.int IntKind.i64), B.bool, B.bool])] fun (r269 : ((Int × (Int × (Int × (Bool × (Bool × Unit))))) × Unit)) =>
            .check (Option.some a3) [(Value.int IntKind.i64 r267.1), (Value.int IntKind.i64 r267.2.1), (Value.int IntKind.i64 r267.2.2.1), (Value.bool r267.2.2.2.1), (Value.bool r267.2.2.2.2.1)] <|
            .call (F_sums_Add S (r267.1, (r267.2.1, (r267.2.2.1, (r267.2.2.2.1, (r267.2.2.2.2.1, ()))))) (r269.1.1, (r269.1.2.1, (r269.1.2.2.1, (r269.1.2.2.2.1, (r269.1.2.2.2.2.1, ())))))) [(Ty.agg [(B.int IntKind.i64), (B.int IntKind.i64), (B.int IntKind.i64), B.bool, B.bool])] fun (r270 : ((Int × (Int × (Int × (Bool × (Bool × Unit))))) × Unit)) =>
            .store (Option.some a3) [(Value.int IntKind.i64 r270.1.1), (Value.int IntKind.i64 r270.1.2.1), (Value.int IntKind.i64 r270.1.2.2.1), (Value.bool r270.1.2.2.2.1), (Value.bool r270.1.2.2.2.2.1)] <|
            grd (someB r207.2.1) <|
            grd (someB r207.2.1) <|
            .load (Ty.one B.ptr) (shiftTo r207.2.1 1) fun (p271 : (Option Addr)) =>
            .ret 0 [(Value.int IntKind.i64 (subI IntKind.i64 (subI IntKind.i64 r207.1 r244.1) 1)), (Value.pointer p271)]) <|
          .fail) <|
        .ret 2 []) <|
      .fail) fun (k272 : Nat) =>
  fun (vs273 : (List Value)) =>
  ifB (eqN k272 2)
    (.cast [] vs273 fun (u274 : Unit) =>
    .load (Ty.agg [(B.int IntKind.i64), (B.int IntKind.i64), (B.int IntKind.i64), B.bool, B.bool]) (Option.some a3) fun (r275 : (Int × (Int × (Int × (Bool × (Bool × Unit)))))) =>
    .store (Option.some a2) [(Value.int IntKind.i64 r275.1), (Value.int IntKind.i64 r275.2.1), (Value.int IntKind.i64 r275.2.2.1), (Value.bool r275.2.2.2.1), (Value.bool r275.2.2.2.2.1)] <|
    .load (Ty.agg [(B.int IntKind.i64), (B.int IntKind.i64), (B.int IntKind.i64), B.bool, B.bool]) (Option.some a2) fun (r276 : (Int × (Int × (Int × (Bool × (Bool × Unit)))))) =>
    .ret 0 [(Value.agg (#[(Value.int IntKind.i64 r276.1), (Value.int IntKind.i64 r276.2.1), (Value.int IntKind.i64 r276.2.2.1), (Value.bool r276.2.2.2.1), (Value.bool r276.2.2.2.2.1)]))]) <|
  .fail
def F_Text_find (S : Ids) (t : (Option Addr)) (at_ : Int) : Prog :=
  ifB (leI at_ 0)
    (.ret 0 [(Value.int IntKind.i64 0), (Value.int IntKind.i64 0)]) <|
  grd (someB t) <|
  grd (someB t) <|
  .load (Ty.agg [B.ptr]) (shiftTo t 2) fun (r1 : ((Option Addr) × Unit)) =>
  .call (F_Tree_part_Find S (r1.1, ()) (Int.ofNat 0) at_) [(Ty.one (B.int IntKind.i64))] fun (r2 : (Int × Unit)) =>
  grd (someB t) <|
  grd (someB t) <|
  .load (Ty.agg [B.ptr]) (shiftTo t 2) fun (r3 : ((Option Addr) × Unit)) =>
  .call (F_Tree_part_Upto S (r3.1, ()) (subI IntKind.i64 r2.1 1)) [(Ty.agg [(B.int IntKind.i64), (B.int IntKind.i64), (B.int IntKind.i64), B.bool, B.bool])] fun (r4 : ((Int × (Int × (Int × (Bool × (Bool × Unit))))) × Unit)) =>
  .ret 0 [(Value.int IntKind.i64 (subI IntKind.i64 r2.1 1)), (Value.int IntKind.i64 (subI IntKind.i64 at_ r4.1.1))]
def F_Tree_part_At (S : Ids) (t : ((Option Addr) × Unit)) (i : Int) : Prog :=
  .alloc [(Value.pointer t.1)] fun (a1 : Addr) =>
  .alloc [(Value.slice Option.none 0 0), (Value.int IntKind.i64 0), (Value.int IntKind.i64 0), (Value.int IntKind.i64 0), (Value.int IntKind.i64 0), (Value.bool Bool.false), (Value.bool Bool.false)] fun (a2 : Addr) =>
  .load (Ty.one B.ptr) (shiftTo (Option.some a1) 0) fun (p3 : (Option Addr)) =>
  .bind
    (.loop [(Ty.one (B.int IntKind.i64)), (Ty.one B.ptr)] (i, (p3, ())) fun (r63 : (Int × ((Option Addr) × Unit))) =>
      .bind
        (ifB (notB (noneB r63.2.1))
          (.ret 0 [(Value.bool (geI r63.1 0))]) <|
        .ret 0 [(Value.bool Bool.false)]) fun (k72 : Nat) =>
      fun (vs73 : (List Value)) =>
      ifB (eqN k72 0)
        (.cast [(Ty.one B.bool)] vs73 fun (r74 : (Bool × Unit)) =>
        ifB r74.1
          (grd (someB r63.2.1) <|
          grd (someB r63.2.1) <|
          .load (Ty.one B.ptr) (shiftTo r63.2.1 0) fun (p75 : (Option Addr)) =>
          .call (F_node_part_count S p75) [(Ty.one (B.int IntKind.i64))] fun (r76 : (Int × Unit)) =>
          ifB (eqI r63.1 r76.1)
            (grd (someB r63.2.1) <|
            grd (someB r63.2.1) <|
            .load (Ty.agg [B.sl, (B.int IntKind.i64), (B.int IntKind.i64), (B.int IntKind.i64), (B.int IntKind.i64), B.bool, B.bool]) (shiftTo r63.2.1 2) fun (r77 : (Sl × (Int × (Int × (Int × (Int × (Bool × (Bool × Unit)))))))) =>
            .store (Option.some a2) [(Value.slice r77.1.base r77.1.len r77.1.cap), (Value.int IntKind.i64 r77.2.1), (Value.int IntKind.i64 r77.2.2.1), (Value.int IntKind.i64 r77.2.2.2.1), (Value.int IntKind.i64 r77.2.2.2.2.1), (Value.bool r77.2.2.2.2.2.1), (Value.bool r77.2.2.2.2.2.2.1)] <|
            .ret 1 [(Value.pointer (Option.some a2)), (Value.bool Bool.true)]) <|
          ifB (ltI r63.1 r76.1)
            (grd (someB r63.2.1) <|
            grd (someB r63.2.1) <|
            .load (Ty.one B.ptr) (shiftTo r63.2.1 0) fun (p78 : (Option Addr)) =>
            .ret 0 [(Value.int IntKind.i64 r63.1), (Value.pointer p78)]) <|
          grd (someB r63.2.1) <|
          grd (someB r63.2.1) <|
          .load (Ty.one B.ptr) (shiftTo r63.2.1 1) fun (p79 : (Option Addr)) =>
          .ret 0 [(Value.int IntKind.i64 (subI IntKind.i64 (subI IntKind.i64 r63.1 r76.1) 1)), (Value.pointer p79)]) <|
        .ret 2 []) <|
      .fail) fun (k80 : Nat) =>
  fun (vs81 : (List Value)) =>
  ifB (eqN k80 2)
    (.cast [] vs81 fun (u82 : Unit) =>
    .alloc [(Value.slice Option.none 0 0), (Value.int IntKind.i64 0), (Value.int IntKind.i64 0), (Value.int IntKind.i64 0), (Value.int IntKind.i64 0), (Value.bool Bool.false), (Value.bool Bool.false)] fun (a83 : Addr) =>
    .load (Ty.agg [B.sl, (B.int IntKind.i64), (B.int IntKind.i64), (B.int IntKind.i64), (B.int IntKind.i64), B.bool, B.bool]) (Option.some a83) fun (r84 : (Sl × (Int × (Int × (Int × (Int × (Bool × (Bool × Unit)))))))) =>
    .store (Option.some a2) [(Value.slice r84.1.base r84.1.len r84.1.cap), (Value.int IntKind.i64 r84.2.1), (Value.int IntKind.i64 r84.2.2.1), (Value.int IntKind.i64 r84.2.2.2.1), (Value.int IntKind.i64 r84.2.2.2.2.1), (Value.bool r84.2.2.2.2.2.1), (Value.bool r84.2.2.2.2.2.2.1)] <|
    .load (Ty.agg [B.sl, (B.int IntKind.i64), (B.int IntKind.i64), (B.int IntKind.i64), (B.int IntKind.i64), B.bool, B.bool]) (Option.some a2) fun (r85 : (Sl × (Int × (Int × (Int × (Int × (Bool × (Bool × Unit)))))))) =>
    .ret 0 [(Value.agg (#[(Value.slice r85.1.base r85.1.len r85.1.cap), (Value.int IntKind.i64 r85.2.1), (Value.int IntKind.i64 r85.2.2.1), (Value.int IntKind.i64 r85.2.2.2.1), (Value.int IntKind.i64 r85.2.2.2.2.1), (Value.bool r85.2.2.2.2.2.1), (Value.bool r85.2.2.2.2.2.2.1)])), (Value.bool Bool.false)]) <|
  ifB (eqN k80 1)
    (.cast [(Ty.one B.ptr), (Ty.one B.bool)] vs81 fun (r86 : ((Option Addr) × (Bool × Unit))) =>
    .load (Ty.agg [B.sl, (B.int IntKind.i64), (B.int IntKind.i64), (B.int IntKind.i64), (B.int IntKind.i64), B.bool, B.bool]) r86.1 fun (r87 : (Sl × (Int × (Int × (Int × (Int × (Bool × (Bool × Unit)))))))) =>
    .ret 0 [(Value.agg (#[(Value.slice r87.1.base r87.1.len r87.1.cap), (Value.int IntKind.i64 r87.2.1), (Value.int IntKind.i64 r87.2.2.1), (Value.int IntKind.i64 r87.2.2.2.1), (Value.int IntKind.i64 r87.2.2.2.2.1), (Value.bool r87.2.2.2.2.2.1), (Value.bool r87.2.2.2.2.2.2.1)])), (Value.bool r86.2.1)]) <|
  .fail
def F_part_cut (S : Ids) (p : (Sl × Int × Int × Int × Int × Bool × Bool × Unit)) (enc : Int) (n : Int) : Prog :=
  .alloc [(Value.slice p.1.base p.1.len p.1.cap), (Value.int IntKind.i64 p.2.1), (Value.int IntKind.i64 p.2.2.1), (Value.int IntKind.i64 p.2.2.2.1), (Value.int IntKind.i64 p.2.2.2.2.1), (Value.bool p.2.2.2.2.2.1), (Value.bool p.2.2.2.2.2.2.1)] fun (a1 : Addr) =>
  .alloc [(Value.slice Option.none 0 0), (Value.int IntKind.i64 0), (Value.int IntKind.i64 0), (Value.int IntKind.i64 0), (Value.int IntKind.i64 0), (Value.bool Bool.false), (Value.bool Bool.false)] fun (a2 : Addr) =>
  .alloc [(Value.slice Option.none 0 0), (Value.int IntKind.i64 0), (Value.int IntKind.i64 0), (Value.int IntKind.i64 0), (Value.int IntKind.i64 0), (Value.bool Bool.false), (Value.bool Bool.false)] fun (a3 : Addr) =>
  .bind
    (.loop [(Ty.one (B.int IntKind.i64)), (Ty.one (B.int IntKind.i64))] (n, ((0 : Int), ())) fun (r67 : (Int × (Int × Unit))) =>
      .bind
        (ifB (gtI r67.1 0)
          (.load (Ty.one B.sl) (shiftTo (Option.some a1) 0) fun (l74 : Sl) =>
          .ret 0 [(Value.bool (ltI r67.2.1 (natI l74.len)))]) <|
        .ret 0 [(Value.bool Bool.false)]) fun (k75 : Nat) =>
      fun (vs76 : (List Value)) =>
      ifB (eqN k75 0)
        (.cast [(Ty.one B.bool)] vs76 fun (r77 : (Bool × Unit)) =>
        ifB r77.1
          (.load (Ty.one B.sl) (shiftTo (Option.some a1) 0) fun (l78 : Sl) =>
          .call (F_codec_Next S enc l78 r67.2.1) [(Ty.one (B.int IntKind.i64)), (Ty.one (B.int IntKind.i64))] fun (r79 : (Int × (Int × Unit))) =>
          .ret 0 [(Value.int IntKind.i64 (subI IntKind.i64 r67.1 1)), (Value.int IntKind.i64 (addI IntKind.i64 r67.2.1 r79.2.1))]) <|
        .ret 2 [(Value.int IntKind.i64 r67.2.1)]) <|
      .fail) fun (k80 : Nat) =>
  fun (vs81 : (List Value)) =>
  ifB (eqN k80 2)
    (.cast [(Ty.one (B.int IntKind.i64))] vs81 fun (r82 : (Int × Unit)) =>
    .load (Ty.one (B.int IntKind.i64)) (shiftTo (Option.some a1) 1) fun (n83 : Int) =>
    .bind
      (ifB (geI n83 0)
        (.ret 0 [(Value.int IntKind.i64 (addI IntKind.i64 n83 r82.1))]) <|
      .ret 0 [(Value.int IntKind.i64 n83)]) fun (k94 : Nat) =>
    fun (vs95 : (List Value)) =>
    ifB (eqN k94 0)
      (.cast [(Ty.one (B.int IntKind.i64))] vs95 fun (r96 : (Int × Unit)) =>
      .load (Ty.one B.sl) (shiftTo (Option.some a1) 0) fun (l97 : Sl) =>
      grd (andB (leB r82.1 l97.cap) (leB r82.1 (toN r82.1))) <|
      .load (Ty.one (B.int IntKind.i64)) (shiftTo (Option.some a1) 1) fun (n98 : Int) =>
      .load (Ty.one B.sl) (shiftTo (Option.some a1) 0) fun (l99 : Sl) =>
      grd (leB r82.1 l99.len) <|
      .call (F_piece_newPart S enc (⟨(cutBase l97.base (toN r82.1) 0 1), (subN (toN r82.1) 0), (subN (toN r82.1) 0)⟩) n98) [(Ty.agg [B.sl, (B.int IntKind.i64), (B.int IntKind.i64), (B.int IntKind.i64), (B.int IntKind.i64), B.bool, B.bool])] fun (r100 : ((Sl × (Int × (Int × (Int × (Int × (Bool × (Bool × Unit))))))) × Unit)) =>
      .check (shiftTo (Option.some a1) 0) [(Value.slice l99.base l99.len l99.cap)] <|
      .call (F_piece_newPart S enc (⟨(cutBase l99.base l99.cap (toN r82.1) 1), (subN l99.len (toN r82.1)), (subN l99.cap (toN r82.1))⟩) r96.1) [(Ty.agg [B.sl, (B.int IntKind.i64), (B.int IntKind.i64), (B.int IntKind.i64), (B.int IntKind.i64), B.bool, B.bool])] fun (r101 : ((Sl × (Int × (Int × (Int × (Int × (Bool × (Bool × Unit))))))) × Unit)) =>
      .store (Option.some a2) [(Value.slice r100.1.1.base r100.1.1.len r100.1.1.cap), (Value.int IntKind.i64 r100.1.2.1), (Value.int IntKind.i64 r100.1.2.2.1), (Value.int IntKind.i64 r100.1.2.2.2.1), (Value.int IntKind.i64 r100.1.2.2.2.2.1), (Value.bool r100.1.2.2.2.2.2.1), (Value.bool r100.1.2.2.2.2.2.2.1)] <|
      .store (Option.some a3) [(Value.slice r101.1.1.base r101.1.1.len r101.1.1.cap), (Value.int IntKind.i64 r101.1.2.1), (Value.int IntKind.i64 r101.1.2.2.1), (Value.int IntKind.i64 r101.1.2.2.2.1), (Value.int IntKind.i64 r101.1.2.2.2.2.1), (Value.bool r101.1.2.2.2.2.2.1), (Value.bool r101.1.2.2.2.2.2.2.1)] <|
      .load (Ty.agg [B.sl, (B.int IntKind.i64), (B.int IntKind.i64), (B.int IntKind.i64), (B.int IntKind.i64), B.bool, B.bool]) (Option.some a2) fun (r102 : (Sl × (Int × (Int × (Int × (Int × (Bool × (Bool × Unit)))))))) =>
      .load (Ty.agg [B.sl, (B.int IntKind.i64), (B.int IntKind.i64), (B.int IntKind.i64), (B.int IntKind.i64), B.bool, B.bool]) (Option.some a3) fun (r103 : (Sl × (Int × (Int × (Int × (Int × (Bool × (Bool × Unit)))))))) =>
      .ret 0 [(Value.agg (#[(Value.slice r102.1.base r102.1.len r102.1.cap), (Value.int IntKind.i64 r102.2.1), (Value.int IntKind.i64 r102.2.2.1), (Value.int IntKind.i64 r102.2.2.2.1), (Value.int IntKind.i64 r102.2.2.2.2.1), (Value.bool r102.2.2.2.2.2.1), (Value.bool r102.2.2.2.2.2.2.1)])), (Value.agg (#[(Value.slice r103.1.base r103.1.len r103.1.cap), (Value.int IntKind.i64 r103.2.1), (Value.int IntKind.i64 r103.2.2.1), (Value.int IntKind.i64 r103.2.2.2.1), (Value.int IntKind.i64 r103.2.2.2.2.1), (Value.bool r103.2.2.2.2.2.1), (Value.bool r103.2.2.2.2.2.2.1)]))]) <|
    .fail) <|
  .fail
def F_Text_ahead (S : Ids) (t : (Option Addr)) (at_ : Int) : Prog :=
  .alloc [(Value.int IntKind.i64 0), (Value.int IntKind.i64 0), (Value.int IntKind.i64 0), (Value.bool Bool.false), (Value.bool Bool.false)] fun (a1 : Addr) =>
  .call (F_Text_find S t at_) [(Ty.one (B.int IntKind.i64)), (Ty.one (B.int IntKind.i64))] fun (r2 : (Int × (Int × Unit))) =>
  grd (someB t) <|
  grd (someB t) <|
  .load (Ty.agg [B.ptr]) (shiftTo t 2) fun (r3 : ((Option Addr) × Unit)) =>
  .call (F_Tree_part_Upto S (r3.1, ()) r2.1) [(Ty.agg [(B.int IntKind.i64), (B.int IntKind.i64), (B.int IntKind.i64), B.bool, B.bool])] fun (r4 : ((Int × (Int × (Int × (Bool × (Bool × Unit))))) × Unit)) =>
  .alloc [(Value.int IntKind.i64 0), (Value.int IntKind.i64 0), (Value.int IntKind.i64 0), (Value.bool Bool.false), (Value.bool Bool.false)] fun (a5 : Addr) =>
  .store (Option.some a5) [(Value.int IntKind.i64 r4.1.1), (Value.int IntKind.i64 r4.1.2.1), (Value.int IntKind.i64 r4.1.2.2.1), (Value.bool r4.1.2.2.2.1), (Value.bool r4.1.2.2.2.2.1)] <|
  .bind
    (grd (someB t) <|
    grd (someB t) <|
    .load (Ty.agg [B.ptr]) (shiftTo t 2) fun (r86 : ((Option Addr) × Unit)) =>
    .call (F_Tree_part_At S (r86.1, ()) r2.1) [(Ty.agg [B.sl, (B.int IntKind.i64), (B.int IntKind.i64), (B.int IntKind.i64), (B.int IntKind.i64), B.bool, B.bool]), (Ty.one B.bool)] fun (r87 : ((Sl × (Int × (Int × (Int × (Int × (Bool × (Bool × Unit))))))) × (Bool × Unit))) =>
    .alloc [(Value.slice Option.none 0 0), (Value.int IntKind.i64 0), (Value.int IntKind.i64 0), (Value.int IntKind.i64 0), (Value.int IntKind.i64 0), (Value.bool Bool.false), (Value.bool Bool.false)] fun (a88 : Addr) =>
    .store (Option.some a88) [(Value.slice r87.1.1.base r87.1.1.len r87.1.1.cap), (Value.int IntKind.i64 r87.1.2.1), (Value.int IntKind.i64 r87.1.2.2.1), (Value.int IntKind.i64 r87.1.2.2.2.1), (Value.int IntKind.i64 r87.1.2.2.2.2.1), (Value.bool r87.1.2.2.2.2.2.1), (Value.bool r87.1.2.2.2.2.2.2.1)] <|
    ifB r87.2.1
      (.bind
        (.both (.load (Ty.agg [B.sl, (B.int IntKind.i64), (B.int IntKind.i64), (B.int IntKind.i64), (B.int IntKind.i64), B.bool, B.bool]) (Option.some a88) fun (r125 : (Sl × (Int × (Int × (Int × (Int × (Bool × (Bool × Unit)))))))) =>
        grd (someB t) <|
        grd (someB t) <|
        .load (Ty.one (B.int IntKind.i64)) (shiftTo t 0) fun (n126 : Int) =>
        .call (F_part_cut S (r125.1, (r125.2.1, (r125.2.2.1, (r125.2.2.2.1, (r125.2.2.2.2.1, (r125.2.2.2.2.2.1, (r125.2.2.2.2.2.2.1, ()))))))) n126 r2.2.1) [(Ty.agg [B.sl, (B.int IntKind.i64), (B.int IntKind.i64), (B.int IntKind.i64), (B.int IntKind.i64), B.bool, B.bool]), (Ty.agg [B.sl, (B.int IntKind.i64), (B.int IntKind.i64), (B.int IntKind.i64), (B.int IntKind.i64), B.bool, B.bool])] fun (r127 : ((Sl × (Int × (Int × (Int × (Int × (Bool × (Bool × Unit))))))) × ((Sl × (Int × (Int × (Int × (Int × (Bool × (Bool × Unit))))))) × Unit))) =>
        .alloc [(Value.slice Option.none 0 0), (Value.int IntKind.i64 0), (Value.int IntKind.i64 0), (Value.int IntKind.i64 0), (Value.int IntKind.i64 0), (Value.bool Bool.false), (Value.bool Bool.false)] fun (a128 : Addr) =>
        .check (shiftTo t 0) [(Value.int IntKind.i64 n126)] <|
        .check (Option.some a88) [(Value.slice r125.1.base r125.1.len r125.1.cap), (Value.int IntKind.i64 r125.2.1), (Value.int IntKind.i64 r125.2.2.1), (Value.int IntKind.i64 r125.2.2.2.1), (Value.int IntKind.i64 r125.2.2.2.2.1), (Value.bool r125.2.2.2.2.2.1), (Value.bool r125.2.2.2.2.2.2.1)] <|
        .alloc [(Value.slice Option.none 0 0), (Value.int IntKind.i64 0), (Value.int IntKind.i64 0), (Value.int IntKind.i64 0), (Value.int IntKind.i64 0), (Value.bool Bool.false), (Value.bool Bool.false)] fun (a129 : Addr) =>
        .check (shiftTo t 0) [(Value.int IntKind.i64 n126)] <|
        .check (Option.some a88) [(Value.slice r125.1.base r125.1.len r125.1.cap), (Value.int IntKind.i64 r125.2.1), (Value.int IntKind.i64 r125.2.2.1), (Value.int IntKind.i64 r125.2.2.2.1), (Value.int IntKind.i64 r125.2.2.2.2.1), (Value.bool r125.2.2.2.2.2.1), (Value.bool r125.2.2.2.2.2.2.1)] <|
        .store (Option.some a128) [(Value.slice r127.1.1.base r127.1.1.len r127.1.1.cap), (Value.int IntKind.i64 r127.1.2.1), (Value.int IntKind.i64 r127.1.2.2.1), (Value.int IntKind.i64 r127.1.2.2.2.1), (Value.int IntKind.i64 r127.1.2.2.2.2.1), (Value.bool r127.1.2.2.2.2.2.1), (Value.bool r127.1.2.2.2.2.2.2.1)] <|
        .store (Option.some a129) [(Value.slice r127.2.1.1.base r127.2.1.1.len r127.2.1.1.cap), (Value.int IntKind.i64 r127.2.1.2.1), (Value.int IntKind.i64 r127.2.1.2.2.1), (Value.int IntKind.i64 r127.2.1.2.2.2.1), (Value.int IntKind.i64 r127.2.1.2.2.2.2.1), (Value.bool r127.2.1.2.2.2.2.2.1), (Value.bool r127.2.1.2.2.2.2.2.2.1)] <|
        .ret 0 [(Value.pointer (Option.some a128))]) <|
        .both (.load (Ty.agg [B.sl, (B.int IntKind.i64), (B.int IntKind.i64), (B.int IntKind.i64), (B.int IntKind.i64), B.bool, B.bool]) (Option.some a88) fun (r130 : (Sl × (Int × (Int × (Int × (Int × (Bool × (Bool × Unit)))))))) =>
        grd (someB t) <|
        grd (someB t) <|
        .load (Ty.one (B.int IntKind.i64)) (shiftTo t 0) fun (n131 : Int) =>
        .call (F_part_cut S (r130.1, (r130.2.1, (r130.2.2.1, (r130.2.2.2.1, (r130.2.2.2.2.1, (r130.2.2.2.2.2.1, (r130.2.2.2.2.2.2.1, ()))))))) n131 r2.2.1) [(Ty.agg [B.sl, (B.int IntKind.i64), (B.int IntKind.i64), (B.int IntKind.i64), (B.int IntKind.i64), B.bool, B.bool]), (Ty.agg [B.sl, (B.int IntKind.i64), (B.int IntKind.i64), (B.int IntKind.i64), (B.int IntKind.i64), B.bool, B.bool])] fun (r132 : ((Sl × (Int × (Int × (Int × (Int × (Bool × (Bool × Unit))))))) × ((Sl × (Int × (Int × (Int × (Int × (Bool × (Bool × Unit))))))) × Unit))) =>
        .alloc [(Value.slice Option.none 0 0), (Value.int IntKind.i64 0), (Value.int IntKind.i64 0), (Value.int IntKind.i64 0), (Value.int IntKind.i64 0), (Value.bool Bool.false), (Value.bool Bool.false)] fun (a133 : Addr) =>
        .check (shiftTo t 0) [(Value.int IntKind.i64 n131)] <|
        .check (Option.some a88) [(Value.slice r130.1.base r130.1.len r130.1.cap), (Value.int IntKind.i64 r130.2.1), (Value.int IntKind.i64 r130.2.2.1), (Value.int IntKind.i64 r130.2.2.2.1), (Value.int IntKind.i64 r130.2.2.2.2.1), (Value.bool r130.2.2.2.2.2.1), (Value.bool r130.2.2.2.2.2.2.1)] <|
        .alloc [(Value.slice Option.none 0 0), (Value.int IntKind.i64 0), (Value.int IntKind.i64 0), (Value.int IntKind.i64 0), (Value.int IntKind.i64 0), (Value.bool Bool.false), (Value.bool Bool.false)] fun (a134 : Addr) =>
        .check (shiftTo t 0) [(Value.int IntKind.i64 n131)] <|
        .check (Option.some a88) [(Value.slice r130.1.base r130.1.len r130.1.cap), (Value.int IntKind.i64 r130.2.1), (Value.int IntKind.i64 r130.2.2.1), (Value.int IntKind.i64 r130.2.2.2.1), (Value.int IntKind.i64 r130.2.2.2.2.1), (Value.bool r130.2.2.2.2.2.1), (Value.bool r130.2.2.2.2.2.2.1)] <|
        .store (Option.some a134) [(Value.slice r132.1.1.base r132.1.1.len r132.1.1.cap), (Value.int IntKind.i64 r132.1.2.1), (Value.int IntKind.i64 r132.1.2.2.1), (Value.int IntKind.i64 r132.1.2.2.2.1), (Value.int IntKind.i64 r132.1.2.2.2.2.1), (Value.bool r132.1.2.2.2.2.2.1), (Value.bool r132.1.2.2.2.2.2.2.1)] <|
        .store (Option.some a133) [(Value.slice r132.2.1.1.base r132.2.1.1.len r132.2.1.1.cap), (Value.int IntKind.i64 r132.2.1.2.1), (Value.int IntKind.i64 r132.2.1.2.2.1), (Value.int IntKind.i64 r132.2.1.2.2.2.1), (Value.int IntKind.i64 r132.2.1.2.2.2.2.1), (Value.bool r132.2.1.2.2.2.2.2.1), (Value.bool r132.2.1.2.2.2.2.2.2.1)] <|
        .ret 0 [(Value.pointer (Option.some a134))]) <|
        .both (.load (Ty.agg [B.sl, (B.int IntKind.i64), (B.int IntKind.i64), (B.int IntKind.i64), (B.int IntKind.i64), B.bool, B.bool]) (Option.some a88) fun (r135 : (Sl × (Int × (Int × (Int × (Int × (Bool × (Bool × Unit)))))))) =>
        grd (someB t) <|
        grd (someB t) <|
        .load (Ty.one (B.int IntKind.i64)) (shiftTo t 0) fun (n136 : Int) =>
        .alloc [(Value.slice Option.none 0 0), (Value.int IntKind.i64 0), (Value.int IntKind.i64 0), (Value.int IntKind.i64 0), (Value.int IntKind.i64 0), (Value.bool Bool.false), (Value.bool Bool.false)] fun (a137 : Addr) =>
        .check (shiftTo t 0) [(Value.int IntKind.i64 n136)] <|
        .check (Option.some a88) [(Value.slice r135.1.base r135.1.len r135.1.cap), (Value.int IntKind.i64 r135.2.1), (Value.int IntKind.i64 r135.2.2.1), (Value.int IntKind.i64 r135.2.2.2.1), (Value.int IntKind.i64 r135.2.2.2.2.1), (Value.bool r135.2.2.2.2.2.1), (Value.bool r135.2.2.2.2.2.2.1)] <|
        .call (F_part_cut S (r135.1, (r135.2.1, (r135.2.2.1, (r135.2.2.2.1, (r135.2.2.2.2.1, (r135.2.2.2.2.2.1, (r135.2.2.2.2.2.2.1, ()))))))) n136 r2.2.1) [(Ty.agg [B.sl, (B.int IntKind.i64), (B.int IntKind.i64), (B.int IntKind.i64), (B.int IntKind.i64), B.bool, B.bool]), (Ty.agg [B.sl, (B.int IntKind.i64), (B.int IntKind.i64), (B.int IntKind.i64), (B.int IntKind.i64), B.bool, B.bool])] fun (r138 : ((Sl × (Int × (Int × (Int × (Int × (Bool × (Bool × Unit))))))) × ((Sl × (Int × (Int × (Int × (Int × (Bool × (Bool × Unit))))))) × Unit))) =>
        .alloc [(Value.slice Option.none 0 0), (Value.int IntKind.i64 0), (Value.int IntKind.i64 0), (Value.int IntKind.i64 0), (Value.int IntKind.i64 0), (Value.bool Bool.false), (Value.bool Bool.false)] fun (a139 : Addr) =>
        .check (shiftTo t 0) [(Value.int IntKind.i64 n136)] <|
        .check (Option.some a88) [(Value.slice r135.1.base r135.1.len r135.1.cap), (Value.int IntKind.i64 r135.2.1), (Value.int IntKind.i64 r135.2.2.1), (Value.int IntKind.i64 r135.2.2.2.1), (Value.int IntKind.i64 r135.2.2.2.2.1), (Value.bool r135.2.2.2.2.2.1), (Value.bool r135.2.2.2.2.2.2.1)] <|
        .store (Option.some a137) [(Value.slice r138.1.1.base r138.1.1.len r138.1.1.cap), (Value.int IntKind.i64 r138.1.2.1), (Value.int IntKind.i64 r138.1.2.2.1), (Value.int IntKind.i64 r138.1.2.2.2.1), (Value.int IntKind.i64 r138.1.2.2.2.2.1), (Value.bool r138.1.2.2.2.2.2.1), (Value.bool r138.1.2.2.2.2.2.2.1)] <|
        .store (Option.some a139) [(Value.slice r138.2.1.1.base r138.2.1.1.len r138.2.1.1.cap), (Value.int IntKind.i64 r138.2.1.2.1), (Value.int IntKind.i64 r138.2.1.2.2.1), (Value.int IntKind.i64 r138.2.1.2.2.2.1), (Value.int IntKind.i64 r138.2.1.2.2.2.2.1), (Value.bool r138.2.1.2.2.2.2.2.1), (Value.bool r138.2.1.2.2.2.2.2.2.1)] <|
        .ret 0 [(Value.pointer (Option.some a137))]) <|
        .both (.load (Ty.agg [B.sl, (B.int IntKind.i64), (B.int IntKind.i64), (B.int IntKind.i64), (B.int IntKind.i64), B.bool, B.bool]) (Option.some a88) fun (r140 : (Sl × (Int × (Int × (Int × (Int × (Bool × (Bool × Unit)))))))) =>
        grd (someB t) <|
        grd (someB t) <|
        .load (Ty.one (B.int IntKind.i64)) (shiftTo t 0) fun (n141 : Int) =>
        .alloc [(Value.slice Option.none 0 0), (Value.int IntKind.i64 0), (Value.int IntKind.i64 0), (Value.int IntKind.i64 0), (Value.int IntKind.i64 0), (Value.bool Bool.false), (Value.bool Bool.false)] fun (a142 : Addr) =>
        .check (shiftTo t 0) [(Value.int IntKind.i64 n141)] <|
        .check (Option.some a88) [(Value.slice r140.1.base r140.1.len r140.1.cap), (Value.int IntKind.i64 r140.2.1), (Value.int IntKind.i64 r140.2.2.1), (Value.int IntKind.i64 r140.2.2.2.1), (Value.int IntKind.i64 r140.2.2.2.2.1), (Value.bool r140.2.2.2.2.2.1), (Value.bool r140.2.2.2.2.2.2.1)] <|
        .alloc [(Value.slice Option.none 0 0), (Value.int IntKind.i64 0), (Value.int IntKind.i64 0), (Value.int IntKind.i64 0), (Value.int IntKind.i64 0), (Value.bool Bool.false), (Value.bool Bool.false)] fun (a143 : Addr) =>
        .check (shiftTo t 0) [(Value.int IntKind.i64 n141)] <|
        .check (Option.some a88) [(Value.slice r140.1.base r140.1.len r140.1.cap), (Value.int IntKind.i64 r140.2.1), (Value.int IntKind.i64 r140.2.2.1), (Value.int IntKind.i64 r140.2.2.2.1), (Value.int IntKind.i64 r140.2.2.2.2.1), (Value.bool r140.2.2.2.2.2.1), (Value.bool r140.2.2.2.2.2.2.1)] <|
        .call (F_part_cut S (r140.1, (r140.2.1, (r140.2.2.1, (r140.2.2.2.1, (r140.2.2.2.2.1, (r140.2.2.2.2.2.1, (r140.2.2.2.2.2.2.1, ()))))))) n141 r2.2.1) [(Ty.agg [B.sl, (B.int IntKind.i64), (B.int IntKind.i64), (B.int IntKind.i64), (B.int IntKind.i64), B.bool, B.bool]), (Ty.agg [B.sl, (B.int IntKind.i64), (B.int IntKind.i64), (B.int IntKind.i64), (B.int IntKind.i64), B.bool, B.bool])] fun (r144 : ((Sl × (Int × (Int × (Int × (Int × (Bool × (Bool × Unit))))))) × ((Sl × (Int × (Int × (Int × (Int × (Bool × (Bool × Unit))))))) × Unit))) =>
        .store (Option.some a142) [(Value.slice r144.1.1.base r144.1.1.len r144.1.1.cap), (Value.int IntKind.i64 r144.1.2.1), (Value.int IntKind.i64 r144.1.2.2.1), (Value.int IntKind.i64 r144.1.2.2.2.1), (Value.int IntKind.i64 r144.1.2.2.2.2.1), (Value.bool r144.1.2.2.2.2.2.1), (Value.bool r144.1.2.2.2.2.2.2.1)] <|
        .store (Option.some a143) [(Value.slice r144.2.1.1.base r144.2.1.1.len r144.2.1.1.cap), (Value.int IntKind.i64 r144.2.1.2.1), (Value.int IntKind.i64 r144.2.1.2.2.1), (Value.int IntKind.i64 r144.2.1.2.2.2.1), (Value.int IntKind.i64 r144.2.1.2.2.2.2.1), (Value.bool r144.2.1.2.2.2.2.2.1), (Value.bool r144.2.1.2.2.2.2.2.2.1)] <|
        .ret 0 [(Value.pointer (Option.some a142))]) <|
        .both (.load (Ty.agg [B.sl, (B.int IntKind.i64), (B.int IntKind.i64), (B.int IntKind.i64), (B.int IntKind.i64), B.bool, B.bool]) (Option.some a88) fun (r145 : (Sl × (Int × (Int × (Int × (Int × (Bool × (Bool × Unit)))))))) =>
        grd (someB t) <|
        grd (someB t) <|
        .load (Ty.one (B.int IntKind.i64)) (shiftTo t 0) fun (n146 : Int) =>
        .alloc [(Value.slice Option.none 0 0), (Value.int IntKind.i64 0), (Value.int IntKind.i64 0), (Value.int IntKind.i64 0), (Value.int IntKind.i64 0), (Value.bool Bool.false), (Value.bool Bool.false)] fun (a147 : Addr) =>
        .check (shiftTo t 0) [(Value.int IntKind.i64 n146)] <|
        .check (Option.some a88) [(Value.slice r145.1.base r145.1.len r145.1.cap), (Value.int IntKind.i64 r145.2.1), (Value.int IntKind.i64 r145.2.2.1), (Value.int IntKind.i64 r145.2.2.2.1), (Value.int IntKind.i64 r145.2.2.2.2.1), (Value.bool r145.2.2.2.2.2.1), (Value.bool r145.2.2.2.2.2.2.1)] <|
        .call (F_part_cut S (r145.1, (r145.2.1, (r145.2.2.1, (r145.2.2.2.1, (r145.2.2.2.2.1, (r145.2.2.2.2.2.1, (r145.2.2.2.2.2.2.1, ()))))))) n146 r2.2.1) [(Ty.agg [B.sl, (B.int IntKind.i64), (B.int IntKind.i64), (B.int IntKind.i64), (B.int IntKind.i64), B.bool, B.bool]), (Ty.agg [B.sl, (B.int IntKind.i64), (B.int IntKind.i64), (B.int IntKind.i64), (B.int IntKind.i64), B.bool, B.bool])] fun (r148 : ((Sl × (Int × (Int × (Int × (Int × (Bool × (Bool × Unit))))))) × ((Sl × (Int × (Int × (Int × (Int × (Bool × (Bool × Unit))))))) × Unit))) =>
        .alloc [(Value.slice Option.none 0 0), (Value.int IntKind.i64 0), (Value.int IntKind.i64 0), (Value.int IntKind.i64 0), (Value.int IntKind.i64 0), (Value.bool Bool.false), (Value.bool Bool.false)] fun (a149 : Addr) =>
        .check (shiftTo t 0) [(Value.int IntKind.i64 n146)] <|
        .check (Option.some a88) [(Value.slice r145.1.base r145.1.len r145.1.cap), (Value.int IntKind.i64 r145.2.1), (Value.int IntKind.i64 r145.2.2.1), (Value.int IntKind.i64 r145.2.2.2.1), (Value.int IntKind.i64 r145.2.2.2.2.1), (Value.bool r145.2.2.2.2.2.1), (Value.bool r145.2.2.2.2.2.2.1)] <|
        .store (Option.some a149) [(Value.slice r148.1.1.base r148.1.1.len r148.1.1.cap), (Value.int IntKind.i64 r148.1.2.1), (Value.int IntKind.i64 r148.1.2.2.1), (Value.int IntKind.i64 r148.1.2.2.2.1), (Value.int IntKind.i64 r148.1.2.2.2.2.1), (Value.bool r148.1.2.2.2.2.2.1), (Value.bool r148.1.2.2.2.2.2.2.1)] <|
        .store (Option.some a147) [(Value.slice r148.2.1.1.base r148.2.1.1.len r148.2.1.1.cap), (Value.int IntKind.i64 r148.2.1.2.1), (Value.int IntKind.i64 r148.2.1.2.2.1), (Value.int IntKind.i64 r148.2.1.2.2.2.1), (Value.int IntKind.i64 r148.2.1.2.2.2.2.1), (Value.bool r148.2.1.2.2.2.2.2.1), (Value.bool r148.2.1.2.2.2.2.2.2.1)] <|
        .ret 0 [(Value.pointer (Option.some a149))]) <|
        .load (Ty.agg [B.sl, (B.int IntKind.i64), (B.int IntKind.i64), (B.int IntKind.i64), (B.int IntKind.i64), B.bool, B.bool]) (Option.some a88) fun (r150 : (Sl × (Int × (Int × (Int × (Int × (Bool × (Bool × Unit)))))))) =>
        grd (someB t) <|
        grd (someB t) <|
        .load (Ty.one (B.int IntKind.i64)) (shiftTo t 0) fun (n151 : Int) =>
        .alloc [(Value.slice Option.none 0 0), (Value.int IntKind.i64 0), (Value.int IntKind.i64 0), (Value.int IntKind.i64 0), (Value.int IntKind.i64 0), (Value.bool Bool.false), (Value.bool Bool.false)] fun (a152 : Addr) =>
        .check (shiftTo t 0) [(Value.int IntKind.i64 n151)] <|
        .check (Option.some a88) [(Value.slice r150.1.base r150.1.len r150.1.cap), (Value.int IntKind.i64 r150.2.1), (Value.int IntKind.i64 r150.2.2.1), (Value.int IntKind.i64 r150.2.2.2.1), (Value.int IntKind.i64 r150.2.2.2.2.1), (Value.bool r150.2.2.2.2.2.1), (Value.bool r150.2.2.2.2.2.2.1)] <|
        .alloc [(Value.slice Option.none 0 0), (Value.int IntKind.i64 0), (Value.int IntKind.i64 0), (Value.int IntKind.i64 0), (Value.int IntKind.i64 0), (Value.bool Bool.false), (Value.bool Bool.false)] fun (a153 : Addr) =>
        .check (shiftTo t 0) [(Value.int IntKind.i64 n151)] <|
        .check (Option.some a88) [(Value.slice r150.1.base r150.1.len r150.1.cap), (Value.int IntKind.i64 r150.2.1), (Value.int IntKind.i64 r150.2.2.1), (Value.int IntKind.i64 r150.2.2.2.1), (Value.int IntKind.i64 r150.2.2.2.2.1), (Value.bool r150.2.2.2.2.2.1), (Value.bool r150.2.2.2.2.2.2.1)] <|
        .call (F_part_cut S (r150.1, (r150.2.1, (r150.2.2.1, (r150.2.2.2.1, (r150.2.2.2.2.1, (r150.2.2.2.2.2.1, (r150.2.2.2.2.2.2.1, ()))))))) n151 r2.2.1) [(Ty.agg [B.sl, (B.int IntKind.i64), (B.int IntKind.i64), (B.int IntKind.i64), (B.int IntKind.i64), B.bool, B.bool]), (Ty.agg [B.sl, (B.int IntKind.i64), (B.int IntKind.i64), (B.int IntKind.i64), (B.int IntKind.i64), B.bool, B.bool])] fun (r154 : ((Sl × (Int × (Int × (Int × (Int × (Bool × (Bool × Unit))))))) × ((Sl × (Int × (Int × (Int × (Int × (Bool × (Bool × Unit))))))) × Unit))) =>
        .store (Option.some a153) [(Value.slice r154.1.1.base r154.1.1.len r154.1.1.cap), (Value.int IntKind.i64 r154.1.2.1), (Value.int IntKind.i64 r154.1.2.2.1), (Value.int IntKind.i64 r154.1.2.2.2.1), (Value.int IntKind.i64 r154.1.2.2.2.2.1), (Value.bool r154.1.2.2.2.2.2.1), (Value.bool r154.1.2.2.2.2.2.2.1)] <|
        .store (Option.some a152) [(Value.slice r154.2.1.1.base r154.2.1.1.len r154.2.1.1.cap), (Value.int IntKind.i64 r154.2.1.2.1), (Value.int IntKind.i64 r154.2.1.2.2.1), (Value.int IntKind.i64 r154.2.1.2.2.2.1), (Value.int IntKind.i64 r154.2.1.2.2.2.2.1), (Value.bool r154.2.1.2.2.2.2.2.1), (Value.bool r154.2.1.2.2.2.2.2.2.1)] <|
        .ret 0 [(Value.pointer (Option.some a153))]) fun (k155 : Nat) =>
      fun (vs156 : (List Value)) =>
      ifB (eqN k155 0)
        (.cast [(Ty.one B.ptr)] vs156 fun (r157 : ((Option Addr) × Unit)) =>
        .load (Ty.agg [(B.int IntKind.i64), (B.int IntKind.i64), (B.int IntKind.i64), B.bool, B.bool]) (Option.some a5) fun (r158 : (Int × (Int × (Int × (Bool × (Bool × Unit)))))) =>
        grd (someB r157.1) <|
        .load (Ty.agg [(B.int IntKind.i64), (B.int IntKind.i64), (B.int IntKind.i64), B.bool, B.bool]) (shiftTo r157.1 2) fun (r159 : (Int × (Int × (Int × (Bool × (Bool × Unit)))))) =>
        .call (F_sums_Add S (r158.1, (r158.2.1, (r158.2.2.1, (r158.2.2.2.1, (r158.2.2.2.2.1, ()))))) (r159.1, (r159.2.1, (r159.2.2.1, (r159.2.2.2.1, (r159.2.2.2.2.1, ())))))) [(Ty.agg [(B.int IntKind.i64), (B.int IntKind.i64), (B.int IntKind.i64), B.bool, B.bool])] fun (r160 : ((Int × (Int × (Int × (Bool × (Bool × Unit))))) × Unit)) =>
        .store (Option.some a5) [(Value.int IntKind.i64 r160.1.1), (Value.int IntKind.i64 r160.1.2.1), (Value.int IntKind.i64 r160.1.2.2.1), (Value.bool r160.1.2.2.2.1), (Value.bool r160.1.2.2.2.2.1)] <|
        .ret 0 []) <|
      .fail) <|
    .ret 0 []) fun (k161 : Nat) =>
  fun (vs162 : (List Value)) =>
  ifB (eqN k161 0)
    (.cast [] vs162 fun (u163 : Unit) =>
    .load (Ty.agg [(B.int IntKind.i64), (B.int IntKind.i64), (B.int IntKind.i64), B.bool, B.bool]) (Option.some a5) fun (r164 : (Int × (Int × (Int × (Bool × (Bool × Unit)))))) =>
    .store (Option.some a1) [(Value.int IntKind.i64 r164.1), (Value.int IntKind.i64 r164.2.1), (Value.int IntKind.i64 r164.2.2.1), (Value.bool r164.2.2.2.1), (Value.bool r164.2.2.2.2.1)] <|
    .load (Ty.agg [(B.int IntKind.i64), (B.int IntKind.i64), (B.int IntKind.i64), B.bool, B.bool]) (Option.some a1) fun (r165 : (Int × (Int × (Int × (Bool × (Bool × Unit)))))) =>
    .ret 0 [(Value.agg (#[(Value.int IntKind.i64 r165.1), (Value.int IntKind.i64 r165.2.1), (Value.int IntKind.i64 r165.2.2.1), (Value.bool r165.2.2.2.1), (Value.bool r165.2.2.2.2.1)]))]) <|
  .fail
def F_Text_refuse (S : Ids) (t : (Option Addr)) (edits : Sl) : Prog :=
  ifB (gtI (natI edits.len) 70000)
    (.ret 0 [(Value.int IntKind.i64 3)]) <|
  .call (F_Text_Len S t) [(Ty.one (B.int IntKind.i64))] fun (r1 : (Int × Unit)) =>
  .bind
    (.loop [(Ty.one (B.int IntKind.i64)), (Ty.one (B.int IntKind.i64))] ((0 : Int), ((0 : Int), ())) fun (r384 : (Int × (Int × Unit))) =>
      ifB (ltI r384.2.1 (natI edits.len))
        (grd (andB (someB edits.base) (inB r384.2.1 edits.len)) <|
        .load (Ty.agg [(B.int IntKind.i64), (B.int IntKind.i64), B.sl]) (shiftTo edits.base (mulN (toN r384.2.1) 3)) fun (r385 : (Int × (Int × (Sl × Unit)))) =>
        .alloc [(Value.int IntKind.i64 0), (Value.int IntKind.i64 0), (Value.slice Option.none 0 0)] fun (a386 : Addr) =>
        .store (Option.some a386) [(Value.int IntKind.i64 r385.1), (Value.int IntKind.i64 r385.2.1), (Value.slice r385.2.2.1.base r385.2.2.1.len r385.2.2.1.cap)] <|
        .bind
          (.load (Ty.one (B.int IntKind.i64)) (shiftTo (Option.some a386) 0) fun (n395 : Int) =>
          ifB (ltI n395 r384.1)
            (.ret 0 [(Value.bool Bool.true)]) <|
          .load (Ty.one (B.int IntKind.i64)) (shiftTo (Option.some a386) 1) fun (n396 : Int) =>
          .load (Ty.one (B.int IntKind.i64)) (shiftTo (Option.some a386) 0) fun (n397 : Int) =>
          ifB (ltI n396 n397)
            (.ret 0 [(Value.bool Bool.true)]) <|
          .load (Ty.one (B.int IntKind.i64)) (shiftTo (Option.some a386) 1) fun (n398 : Int) =>
          .ret 0 [(Value.bool (gtI n398 r1.1))]) fun (k399 : Nat) =>
        fun (vs400 : (List Value)) =>
        ifB (eqN k399 0)
          (.cast [(Ty.one B.bool)] vs400 fun (r401 : (Bool × Unit)) =>
          ifB r401.1
            (.ret 1 [(Value.int IntKind.i64 2)]) <|
          .load (Ty.one (B.int IntKind.i64)) (shiftTo (Option.some a386) 1) fun (n402 : Int) =>
          .ret 0 [(Value.int IntKind.i64 n402), (Value.int IntKind.i64 (addI IntKind.i64 r384.2.1 1))]) <|
        .fail) <|
      .ret 2 []) fun (k403 : Nat) =>
  fun (vs404 : (List Value)) =>
  ifB (eqN k403 2)
    (.cast [] vs404 fun (u405 : Unit) =>
    .call (F_Text_Size S t) [(Ty.one (B.int IntKind.i64))] fun (r406 : (Int × Unit)) =>
    .bind
      (.loop [(Ty.one (B.int IntKind.i64)), (Ty.one (B.int IntKind.i64))] (r406.1, ((0 : Int), ())) fun (r595 : (Int × (Int × Unit))) =>
        ifB (ltI r595.2.1 (natI edits.len))
          (grd (andB (someB edits.base) (inB r595.2.1 edits.len)) <|
          .load (Ty.agg [(B.int IntKind.i64), (B.int IntKind.i64), B.sl]) (shiftTo edits.base (mulN (toN r595.2.1) 3)) fun (r596 : (Int × (Int × (Sl × Unit)))) =>
          .alloc [(Value.int IntKind.i64 0), (Value.int IntKind.i64 0), (Value.slice Option.none 0 0)] fun (a597 : Addr) =>
          .store (Option.some a597) [(Value.int IntKind.i64 r596.1), (Value.int IntKind.i64 r596.2.1), (Value.slice r596.2.2.1.base r596.2.2.1.len r596.2.2.1.cap)] <|
          .load (Ty.one B.sl) (shiftTo (Option.some a597) 2) fun (l598 : Sl) =>
          .bind
            (.loop [(Ty.one (B.int IntKind.i64)), (Ty.one (B.int IntKind.i64))] (r595.1, ((0 : Int), ())) fun (r615 : (Int × (Int × Unit))) =>
              ifB (ltI r615.2.1 (natI l598.len))
                (grd (andB (someB l598.base) (inB r615.2.1 l598.len)) <|
                .load (Ty.one (B.int IntKind.i64)) (shiftTo l598.base (mulN (toN r615.2.1) 1)) fun (n616 : Int) =>
                grd (someB t) <|
                grd (someB t) <|
                .load (Ty.one (B.int IntKind.i64)) (shiftTo t 0) fun (n617 : Int) =>
                .call (F_codec_Size S n617 n616) [(Ty.one (B.int IntKind.i64))] fun (r618 : (Int × Unit)) =>
                ifB (eqI r618.1 0)
                  (.ret 1 [(Value.int IntKind.i64 11)]) <|
                .ret 0 [(Value.int IntKind.i64 (addI IntKind.i64 r615.1 r618.1)), (Value.int IntKind.i64 (addI IntKind.i64 r615.2.1 1))]) <|
              .ret 6 [(Value.int IntKind.i64 r615.1)]) fun (k619 : Nat) =>
          fun (vs620 : (List Value)) =>
          ifB (eqN k619 6)
            (.cast [(Ty.one (B.int IntKind.i64))] vs620 fun (r621 : (Int × Unit)) =>
            .ret 0 [(Value.int IntKind.i64 r621.1), (Value.int IntKind.i64 (addI IntKind.i64 r595.2.1 1))]) <|
          ifB (eqN k619 1)
            (.cast [(Ty.one (B.int IntKind.i64))] vs620 fun (r622 : (Int × Unit)) =>
            .ret 1 [(Value.int IntKind.i64 r622.1)]) <|
          .fail) <|
        .ret 4 [(Value.int IntKind.i64 r595.1)]) fun (k623 : Nat) =>
    fun (vs624 : (List Value)) =>
    ifB (eqN k623 4)
      (.cast [(Ty.one (B.int IntKind.i64))] vs624 fun (r625 : (Int × Unit)) =>
      .bind
        (.loop [(Ty.one (B.int IntKind.i64)), (Ty.one (B.int IntKind.i64))] (r625.1, ((0 : Int), ())) fun (r699 : (Int × (Int × Unit))) =>
          ifB (ltI r699.2.1 (natI edits.len))
            (.bind
              (grd (andB (someB edits.base) (inB r699.2.1 edits.len)) <|
              .load (Ty.agg [(B.int IntKind.i64), (B.int IntKind.i64), B.sl]) (shiftTo edits.base (mulN (toN r699.2.1) 3)) fun (r711 : (Int × (Int × (Sl × Unit)))) =>
              .alloc [(Value.int IntKind.i64 0), (Value.int IntKind.i64 0), (Value.slice Option.none 0 0)] fun (a712 : Addr) =>
              .store (Option.some a712) [(Value.int IntKind.i64 r711.1), (Value.int IntKind.i64 r711.2.1), (Value.slice r711.2.2.1.base r711.2.2.1.len r711.2.2.1.cap)] <|
              .load (Ty.one (B.int IntKind.i64)) (shiftTo (Option.some a712) 1) fun (n713 : Int) =>
              .load (Ty.one (B.int IntKind.i64)) (shiftTo (Option.some a712) 0) fun (n714 : Int) =>
              ifB (gtI n713 n714)
                (.load (Ty.one (B.int IntKind.i64)) (shiftTo (Option.some a712) 1) fun (n715 : Int) =>
                .load (Ty.one (B.int IntKind.i64)) (shiftTo (Option.some a712) 0) fun (n716 : Int) =>
                .call (F_Text_ahead S t n715) [(Ty.agg [(B.int IntKind.i64), (B.int IntKind.i64), (B.int IntKind.i64), B.bool, B.bool])] fun (r717 : ((Int × (Int × (Int × (Bool × (Bool × Unit))))) × Unit)) =>
                .check (shiftTo (Option.some a712) 0) [(Value.int IntKind.i64 n716)] <|
                .call (F_Text_ahead S t n716) [(Ty.agg [(B.int IntKind.i64), (B.int IntKind.i64), (B.int IntKind.i64), B.bool, B.bool])] fun (r718 : ((Int × (Int × (Int × (Bool × (Bool × Unit))))) × Unit)) =>
                .ret 0 [(Value.int IntKind.i64 (subI IntKind.i64 r699.1 (subI IntKind.i64 r717.1.2.1 r718.1.2.1)))]) <|
              .ret 0 [(Value.int IntKind.i64 r699.1)]) fun (k719 : Nat) =>
            fun (vs720 : (List Value)) =>
            ifB (eqN k719 0)
              (.cast [(Ty.one (B.int IntKind.i64))] vs720 fun (r721 : (Int × Unit)) =>
              .ret 0 [(Value.int IntKind.i64 r721.1), (Value.int IntKind.i64 (addI IntKind.i64 r699.2.1 1))]) <|
            .fail) <|
          .ret 8 [(Value.int IntKind.i64 r699.1)]) fun (k722 : Nat) =>
      fun (vs723 : (List Value)) =>
      ifB (eqN k722 8)
        (.cast [(Ty.one (B.int IntKind.i64))] vs723 fun (r724 : (Int × Unit)) =>
        grd (someB t) <|
        grd (someB t) <|
        .load (Ty.one (B.int IntKind.i64)) (shiftTo t 1) fun (n725 : Int) =>
        ifB (gtI r724.1 n725)
          (.ret 0 [(Value.int IntKind.i64 50)]) <|
        .ret 0 [(Value.int IntKind.i64 0)]) <|
      .fail) <|
    ifB (eqN k623 1)
      (.cast [(Ty.one (B.int IntKind.i64))] vs624 fun (r726 : (Int × Unit)) =>
      .ret 0 [(Value.int IntKind.i64 r726.1)]) <|
    .fail) <|
  ifB (eqN k403 1)
    (.cast [(Ty.one (B.int IntKind.i64))] vs404 fun (r727 : (Int × Unit)) =>
    .ret 0 [(Value.int IntKind.i64 r727.1)]) <|
  .fail
def F_Text_fresh_1 (S : Ids) (x0 : (Option Addr)) (x1 : (Option Addr)) (x2 : (Option Addr)) (x3 : (Option Addr)) : Prog :=
  .load (Ty.one B.ptr) x0 fun (p1 : (Option Addr)) =>
  grd (someB p1) <|
  grd (someB p1) <|
  .load (Ty.one B.sl) (shiftTo p1 3) fun (l2 : Sl) =>
  .load (Ty.one (B.int IntKind.i64)) x1 fun (n3 : Int) =>
  ifB (gtI (natI l2.len) n3)
    (.load (Ty.one B.sl) x2 fun (l4 : Sl) =>
    .load (Ty.one B.ptr) x0 fun (p5 : (Option Addr)) =>
    grd (someB p5) <|
    grd (someB p5) <|
    .load (Ty.one (B.int IntKind.i64)) (shiftTo p5 0) fun (n6 : Int) =>
    .load (Ty.one B.ptr) x0 fun (p7 : (Option Addr)) =>
    grd (someB p7) <|
    grd (someB p7) <|
    .load (Ty.one B.sl) (shiftTo p7 3) fun (l8 : Sl) =>
    .load (Ty.one (B.int IntKind.i64)) x1 fun (n9 : Int) =>
    grd (andB (leB (natI l2.len) l8.cap) (andB (leB (natI l2.len) (toN (natI l2.len))) (leB n9 (toN (natI l2.len))))) <|
    .call (F_piece_newPart S n6 (⟨(cutBase l8.base (toN (natI l2.len)) (toN n9) 1), (subN (toN (natI l2.len)) (toN n9)), (subN (toN (natI l2.len)) (toN n9))⟩) (Int.negSucc 0)) [(Ty.agg [B.sl, (B.int IntKind.i64), (B.int IntKind.i64), (B.int IntKind.i64), (B.int IntKind.i64), B.bool, B.bool])] fun (r10 : ((Sl × (Int × (Int × (Int × (Int × (Bool × (Bool × Unit))))))) × Unit)) =>
    .check x2 [(Value.slice l4.base l4.len l4.cap)] <|
    .alloc [(Value.slice r10.1.1.base r10.1.1.len r10.1.1.cap), (Value.int IntKind.i64 r10.1.2.1), (Value.int IntKind.i64 r10.1.2.2.1), (Value.int IntKind.i64 r10.1.2.2.2.1), (Value.int IntKind.i64 r10.1.2.2.2.2.1), (Value.bool r10.1.2.2.2.2.2.1), (Value.bool r10.1.2.2.2.2.2.2.1)] fun (a11 : Addr) =>
    .check x2 [(Value.slice l4.base l4.len l4.cap)] <|
    .append 7 64 [(Value.slice Option.none 0 0), (Value.int IntKind.i64 0), (Value.int IntKind.i64 0), (Value.int IntKind.i64 0), (Value.int IntKind.i64 0), (Value.bool Bool.false), (Value.bool Bool.false)] l4 (⟨(Option.some a11), 1, 1⟩) fun (l12 : Sl) =>
    .store x2 [(Value.slice l12.base l12.len l12.cap)] <|
    .store x1 [(Value.int IntKind.i64 (natI l2.len))] <|
    .store x3 [(Value.int IntKind.i64 0)] <|
    .ret 0 []) <|
  .ret 0 []
def F_codec_Encode (S : Ids) (enc : Int) (atoms : Sl) : Prog :=
  .call (F_codec_of S enc) [(Ty.one B.any)] fun (r1 : (Value × Unit)) =>
  grd (isIface r1.1) <|
  ifB (isNilIface r1.1)
    (.ret 0 [(Value.slice Option.none 0 0), (Value.int IntKind.i64 0), (Value.int IntKind.i64 10)]) <|
  .bind
    (.loop [(Ty.one B.sl), (Ty.one (B.int IntKind.i64))] ((⟨Option.none, 0, 0⟩ : Sl), ((0 : Int), ())) fun (r18 : (Sl × (Int × Unit))) =>
      ifB (ltI r18.2.1 (natI atoms.len))
        (grd (andB (someB atoms.base) (inB r18.2.1 atoms.len)) <|
        .load (Ty.one (B.int IntKind.i64)) (shiftTo atoms.base (mulN (toN r18.2.1) 1)) fun (n19 : Int) =>
        .invoke r1.1 S.m_size [(Value.int IntKind.i64 n19)] [(Ty.one (B.int IntKind.i64))] fun (r20 : (Int × Unit)) =>
        ifB (eqI r20.1 0)
          (.ret 1 [(Value.slice Option.none 0 0), (Value.int IntKind.i64 r18.2.1), (Value.int IntKind.i64 11)]) <|
        .invoke r1.1 S.m_put [(Value.slice r18.1.base r18.1.len r18.1.cap), (Value.int IntKind.i64 n19)] [(Ty.one B.sl)] fun (r21 : (Sl × Unit)) =>
        .ret 0 [(Value.slice r21.1.base r21.1.len r21.1.cap), (Value.int IntKind.i64 (addI IntKind.i64 r18.2.1 1))]) <|
      .ret 2 [(Value.slice r18.1.base r18.1.len r18.1.cap)]) fun (k22 : Nat) =>
  fun (vs23 : (List Value)) =>
  ifB (eqN k22 2)
    (.cast [(Ty.one B.sl)] vs23 fun (r24 : (Sl × Unit)) =>
    .ret 0 [(Value.slice r24.1.base r24.1.len r24.1.cap), (Value.int IntKind.i64 0), (Value.int IntKind.i64 0)]) <|
  ifB (eqN k22 1)
    (.cast [(Ty.one B.sl), (Ty.one (B.int IntKind.i64)), (Ty.one (B.int IntKind.i64))] vs23 fun (r25 : (Sl × (Int × (Int × Unit)))) =>
    .ret 0 [(Value.slice r25.1.base r25.1.len r25.1.cap), (Value.int IntKind.i64 r25.2.1), (Value.int IntKind.i64 r25.2.2.1)]) <|
  .fail
def F_Text_fresh (S : Ids) (t : (Option Addr)) (put : Sl) : Prog :=
  .alloc [(Value.pointer t)] fun (a1 : Addr) =>
  .alloc [(Value.slice Option.none 0 0)] fun (a2 : Addr) =>
  .load (Ty.one B.ptr) (Option.some a1) fun (p3 : (Option Addr)) =>
  grd (someB p3) <|
  grd (someB p3) <|
  .load (Ty.one B.sl) (shiftTo p3 3) fun (l4 : Sl) =>
  .alloc [(Value.int IntKind.i64 0)] fun (a5 : Addr) =>
  .store (Option.some a5) [(Value.int IntKind.i64 (natI l4.len))] <|
  .alloc [(Value.int IntKind.i64 0)] fun (a6 : Addr) =>
  .store (Option.some a6) [(Value.int IntKind.i64 0)] <|
  .bind
    (.loop [(Ty.one (B.int IntKind.i64))] ((0 : Int), ()) fun (r627 : (Int × Unit)) =>
      ifB (ltI r627.1 (natI put.len))
        (.bind
          (grd (andB (someB put.base) (inB r627.1 put.len)) <|
          .load (Ty.one (B.int IntKind.i64)) (shiftTo put.base (mulN (toN r627.1) 1)) fun (n730 : Int) =>
          .bind
            (ifB (geI n730 0)
              (ifB (ltI n730 55296)
                (.ret 0 [(Value.bool Bool.true)]) <|
              .ret 0 [(Value.bool (gtI n730 57343))]) <|
            .ret 0 [(Value.bool Bool.false)]) fun (k780 : Nat) =>
          fun (vs781 : (List Value)) =>
          ifB (eqN k780 0)
            (.cast [(Ty.one B.bool)] vs781 fun (r782 : (Bool × Unit)) =>
            .bind
              (.bind
                (ifB (notB r782.1)
                  (.ret 0 [(Value.bool Bool.true)]) <|
                .load (Ty.one (B.int IntKind.i64)) (Option.some a6) fun (n811 : Int) =>
                .ret 0 [(Value.bool (eqI n811 128))]) fun (k812 : Nat) =>
              fun (vs813 : (List Value)) =>
              ifB (eqN k812 0)
                (.cast [(Ty.one B.bool)] vs813 fun (r814 : (Bool × Unit)) =>
                ifB r814.1
                  (.call (F_Text_fresh_1 S (Option.some a1) (Option.some a5) (Option.some a2) (Option.some a6)) [] fun (u815 : Unit) =>
                  .ret 0 []) <|
                .ret 0 []) <|
              .fail) fun (k816 : Nat) =>
            fun (vs817 : (List Value)) =>
            ifB (eqN k816 0)
              (.cast [] vs817 fun (u818 : Unit) =>
              .load (Ty.one B.ptr) (Option.some a1) fun (p819 : (Option Addr)) =>
              grd (someB p819) <|
              grd (someB p819) <|
              .load (Ty.one (B.int IntKind.i64)) (shiftTo p819 0) fun (n820 : Int) =>
              .alloc [(Value.int IntKind.i64 n730)] fun (a821 : Addr) =>
              .call (F_codec_Encode S n820 (⟨(Option.some a821), 1, 1⟩)) [(Ty.one B.sl), (Ty.one (B.int IntKind.i64)), (Ty.one (B.int IntKind.i64))] fun (r822 : (Sl × (Int × (Int × Unit)))) =>
              .load (Ty.one B.ptr) (Option.some a1) fun (p823 : (Option Addr)) =>
              .load (Ty.one B.ptr) (Option.some a1) fun (p824 : (Option Addr)) =>
              grd (someB p824) <|
              grd (someB p824) <|
              .load (Ty.one B.sl) (shiftTo p824 3) fun (l825 : Sl) =>
              .append 1 1 [(Value.int IntKind.u8 0)] l825 r822.1 fun (l826 : Sl) =>
              .check (Option.some a1) [(Value.pointer p823)] <|
              grd (someB p823) <|
              grd (someB p823) <|
              .store (shiftTo p823 3) [(Value.slice l826.base l826.len l826.cap)] <|
              .load (Ty.one (B.int IntKind.i64)) (Option.some a6) fun (n827 : Int) =>
              .store (Option.some a6) [(Value.int IntKind.i64 (addI IntKind.i64 n827 1))] <|
              ifB (notB r782.1)
                (.call (F_Text_fresh_1 S (Option.some a1) (Option.some a5) (Option.some a2) (Option.some a6)) [] fun (u828 : Unit) =>
                .ret 0 []) <|
              .ret 0 []) <|
            .fail) <|
          .fail) fun (k829 : Nat) =>
        fun (vs830 : (List Value)) =>
        ifB (eqN k829 0)
          (.cast [] vs830 fun (u831 : Unit) =>
          .ret 0 [(Value.int IntKind.i64 (addI IntKind.i64 r627.1 1))]) <|
        .fail) <|
      .ret 2 []) fun (k832 : Nat) =>
  fun (vs833 : (List Value)) =>
  ifB (eqN k832 2)
    (.cast [] vs833 fun (u834 : Unit) =>
    .call (F_Text_fresh_1 S (Option.some a1) (Option.some a5) (Option.some a2) (Option.some a6)) [] fun (u835 : Unit) =>
    .load (Ty.one B.sl) (Option.some a2) fun (l836 : Sl) =>
    .ret 0 [(Value.slice l836.base l836.len l836.cap)]) <|
  .fail
def F_tree_even_part (S : Ids) (l : (Option Addr)) (x : (Sl × Int × Int × Int × Int × Bool × Bool × Unit)) (r : (Option Addr)) : Prog :=
  .alloc [(Value.slice x.1.base x.1.len x.1.cap), (Value.int IntKind.i64 x.2.1), (Value.int IntKind.i64 x.2.2.1), (Value.int IntKind.i64 x.2.2.2.1), (Value.int IntKind.i64 x.2.2.2.2.1), (Value.bool x.2.2.2.2.2.1), (Value.bool x.2.2.2.2.2.2.1)] fun (a1 : Addr) =>
  .call (F_node_part_tall S l) [(Ty.one (B.int IntKind.i64))] fun (r2 : (Int × Unit)) =>
  .call (F_node_part_tall S r) [(Ty.one (B.int IntKind.i64))] fun (r3 : (Int × Unit)) =>
  ifB (gtI r2.1 (addI IntKind.i64 r3.1 1))
    (grd (someB l) <|
    grd (someB l) <|
    .load (Ty.one B.ptr) (shiftTo l 0) fun (p4 : (Option Addr)) =>
    grd (someB l) <|
    grd (someB l) <|
    .load (Ty.one B.ptr) (shiftTo l 1) fun (p5 : (Option Addr)) =>
    .call (F_node_part_tall S p4) [(Ty.one (B.int IntKind.i64))] fun (r6 : (Int × Unit)) =>
    .check (shiftTo l 1) [(Value.pointer p5)] <|
    .call (F_node_part_tall S p5) [(Ty.one (B.int IntKind.i64))] fun (r7 : (Int × Unit)) =>
    ifB (geI r6.1 r7.1)
      (grd (someB l) <|
      grd (someB l) <|
      .load (Ty.one B.ptr) (shiftTo l 0) fun (p8 : (Option Addr)) =>
      grd (someB l) <|
      grd (someB l) <|
      .load (Ty.agg [B.sl, (B.int IntKind.i64), (B.int IntKind.i64), (B.int IntKind.i64), (B.int IntKind.i64), B.bool, B.bool]) (shiftTo l 2) fun (r9 : (Sl × (Int × (Int × (Int × (Int × (Bool × (Bool × Unit)))))))) =>
      grd (someB l) <|
      grd (someB l) <|
      .load (Ty.one B.ptr) (shiftTo l 1) fun (p10 : (Option Addr)) =>
      .load (Ty.agg [B.sl, (B.int IntKind.i64), (B.int IntKind.i64), (B.int IntKind.i64), (B.int IntKind.i64), B.bool, B.bool]) (Option.some a1) fun (r11 : (Sl × (Int × (Int × (Int × (Int × (Bool × (Bool × Unit)))))))) =>
      .call (F_tree_of_part S p10 (r11.1, (r11.2.1, (r11.2.2.1, (r11.2.2.2.1, (r11.2.2.2.2.1, (r11.2.2.2.2.2.1, (r11.2.2.2.2.2.2.1, ()))))))) r) [(Ty.one B.ptr)] fun (r12 : ((Option Addr) × Unit)) =>
      .check (shiftTo l 2) [(Value.slice r9.1.base r9.1.len r9.1.cap), (Value.int IntKind.i64 r9.2.1), (Value.int IntKind.i64 r9.2.2.1), (Value.int IntKind.i64 r9.2.2.2.1), (Value.int IntKind.i64 r9.2.2.2.2.1), (Value.bool r9.2.2.2.2.2.1), (Value.bool r9.2.2.2.2.2.2.1)] <|
      .check (shiftTo l 0) [(Value.pointer p8)] <|
      .call (F_tree_of_part S p8 (r9.1, (r9.2.1, (r9.2.2.1, (r9.2.2.2.1, (r9.2.2.2.2.1, (r9.2.2.2.2.2.1, (r9.2.2.2.2.2.2.1, ()))))))) r12.1) [(Ty.one B.ptr)] fun (r13 : ((Option Addr) × Unit)) =>
      .ret 0 [(Value.pointer r13.1)]) <|
    grd (someB l) <|
    grd (someB l) <|
    .load (Ty.one B.ptr) (shiftTo l 1) fun (p14 : (Option Addr)) =>
    grd (someB l) <|
    grd (someB l) <|
    .load (Ty.one B.ptr) (shiftTo l 0) fun (p15 : (Option Addr)) =>
    grd (someB l) <|
    grd (someB l) <|
    .load (Ty.agg [B.sl, (B.int IntKind.i64), (B.int IntKind.i64), (B.int IntKind.i64), (B.int IntKind.i64), B.bool, B.bool]) (shiftTo l 2) fun (r16 : (Sl × (Int × (Int × (Int × (Int × (Bool × (Bool × Unit)))))))) =>
    grd (someB p14) <|
    grd (someB p14) <|
    .load (Ty.one B.ptr) (shiftTo p14 0) fun (p17 : (Option Addr)) =>
    grd (someB p14) <|
    grd (someB p14) <|
    .load (Ty.agg [B.sl, (B.int IntKind.i64), (B.int IntKind.i64), (B.int IntKind.i64), (B.int IntKind.i64), B.bool, B.bool]) (shiftTo p14 2) fun (r18 : (Sl × (Int × (Int × (Int × (Int × (Bool × (Bool × Unit)))))))) =>
    grd (someB p14) <|
    grd (someB p14) <|
    .load (Ty.one B.ptr) (shiftTo p14 1) fun (p19 : (Option Addr)) =>
    .load (Ty.agg [B.sl, (B.int IntKind.i64), (B.int IntKind.i64), (B.int IntKind.i64), (B.int IntKind.i64), B.bool, B.bool]) (Option.some a1) fun (r20 : (Sl × (Int × (Int × (Int × (Int × (Bool × (Bool × Unit)))))))) =>
    .call (F_tree_of_part S p15 (r16.1, (r16.2.1, (r16.2.2.1, (r16.2.2.2.1, (r16.2.2.2.2.1, (r16.2.2.2.2.2.1, (r16.2.2.2.2.2.2.1, ()))))))) p17) [(Ty.one B.ptr)] fun (r21 : ((Option Addr) × Unit)) =>
    .check (Option.some a1) [(Value.slice r20.1.base r20.1.len r20.1.cap), (Value.int IntKind.i64 r20.2.1), (Value.int IntKind.i64 r20.2.2.1), (Value.int IntKind.i64 r20.2.2.2.1), (Value.int IntKind.i64 r20.2.2.2.2.1), (Value.bool r20.2.2.2.2.2.1), (Value.bool r20.2.2.2.2.2.2.1)] <|
    .check (shiftTo p14 1) [(Value.pointer p19)] <|
    .check (shiftTo p14 2) [(Value.slice r18.1.base r18.1.len r18.1.cap), (Value.int IntKind.i64 r18.2.1), (Value.int IntKind.i64 r18.2.2.1), (Value.int IntKind.i64 r18.2.2.2.1), (Value.int IntKind.i64 r18.2.2.2.2.1), (Value.bool r18.2.2.2.2.2.1), (Value.bool r18.2.2.2.2.2.2.1)] <|
    .call (F_tree_of_part S p19 (r20.1, (r20.2.1, (r20.2.2.1, (r20.2.2.2.1, (r20.2.2.2.2.1, (r20.2.2.2.2.2.1, (r20.2.2.2.2.2.2.1, ()))))))) r) [(Ty.one B.ptr)] fun (r22 : ((Option Addr) × Unit)) =>
    .check (shiftTo p14 2) [(Value.slice r18.1.base r18.1.len r18.1.cap), (Value.int IntKind.i64 r18.2.1), (Value.int IntKind.i64 r18.2.2.1), (Value.int IntKind.i64 r18.2.2.2.1), (Value.int IntKind.i64 r18.2.2.2.2.1), (Value.bool r18.2.2.2.2.2.1), (Value.bool r18.2.2.2.2.2.2.1)] <|
    .call (F_tree_of_part S r21.1 (r18.1, (r18.2.1, (r18.2.2.1, (r18.2.2.2.1, (r18.2.2.2.2.1, (r18.2.2.2.2.2.1, (r18.2.2.2.2.2.2.1, ()))))))) r22.1) [(Ty.one B.ptr)] fun (r23 : ((Option Addr) × Unit)) =>
    .ret 0 [(Value.pointer r23.1)]) <|
  .call (F_node_part_tall S r) [(Ty.one (B.int IntKind.i64))] fun (r24 : (Int × Unit)) =>
  .call (F_node_part_tall S l) [(Ty.one (B.int IntKind.i64))] fun (r25 : (Int × Unit)) =>
  ifB (gtI r24.1 (addI IntKind.i64 r25.1 1))
    (grd (someB r) <|
    grd (someB r) <|
    .load (Ty.one B.ptr) (shiftTo r 1) fun (p26 : (Option Addr)) =>
    grd (someB r) <|
    grd (someB r) <|
    .load (Ty.one B.ptr) (shiftTo r 0) fun (p27 : (Option Addr)) =>
    .call (F_node_part_tall S p26) [(Ty.one (B.int IntKind.i64))] fun (r28 : (Int × Unit)) =>
    .check (shiftTo r 0) [(Value.pointer p27)] <|
    .call (F_node_part_tall S p27) [(Ty.one (B.int IntKind.i64))] fun (r29 : (Int × Unit)) =>
    ifB (geI r28.1 r29.1)
      (.load (Ty.agg [B.sl, (B.int IntKind.i64), (B.int IntKind.i64), (B.int IntKind.i64), (B.int IntKind.i64), B.bool, B.bool]) (Option.some a1) fun (r30 : (Sl × (Int × (Int × (Int × (Int × (Bool × (Bool × Unit)))))))) =>
      grd (someB r) <|
      grd (someB r) <|
      .load (Ty.one B.ptr) (shiftTo r 0) fun (p31 : (Option Addr)) =>
      grd (someB r) <|
      grd (someB r) <|
      .load (Ty.agg [B.sl, (B.int IntKind.i64), (B.int IntKind.i64), (B.int IntKind.i64), (B.int IntKind.i64), B.bool, B.bool]) (shiftTo r 2) fun (r32 : (Sl × (Int × (Int × (Int × (Int × (Bool × (Bool × Unit)))))))) =>
      grd (someB r) <|
      grd (someB r) <|
      .load (Ty.one B.ptr) (shiftTo r 1) fun (p33 : (Option Addr)) =>
      .call (F_tree_of_part S l (r30.1, (r30.2.1, (r30.2.2.1, (r30.2.2.2.1, (r30.2.2.2.2.1, (r30.2.2.2.2.2.1, (r30.2.2.2.2.2.2.1, ()))))))) p31) [(Ty.one B.ptr)] fun (r34 : ((Option Addr) × Unit)) =>
      .check (shiftTo r 1) [(Value.pointer p33)] <|
      .check (shiftTo r 2) [(Value.slice r32.1.base r32.1.len r32.1.cap), (Value.int IntKind.i64 r32.2.1), (Value.int IntKind.i64 r32.2.2.1), (Value.int IntKind.i64 r32.2.2.2.1), (Value.int IntKind.i64 r32.2.2.2.2.1), (Value.bool r32.2.2.2.2.2.1), (Value.bool r32.2.2.2.2.2.2.1)] <|
      .call (F_tree_of_part S r34.1 (r32.1, (r32.2.1, (r32.2.2.1, (r32.2.2.2.1, (r32.2.2.2.2.1, (r32.2.2.2.2.2.1, (r32.2.2.2.2.2.2.1, ()))))))) p33) [(Ty.one B.ptr)] fun (r35 : ((Option Addr) × Unit)) =>
      .ret 0 [(Value.pointer r35.1)]) <|
    grd (someB r) <|
    grd (someB r) <|
    .load (Ty.one B.ptr) (shiftTo r 0) fun (p36 : (Option Addr)) =>
    .load (Ty.agg [B.sl, (B.int IntKind.i64), (B.int IntKind.i64), (B.int IntKind.i64), (B.int IntKind.i64), B.bool, B.bool]) (Option.some a1) fun (r37 : (Sl × (Int × (Int × (Int × (Int × (Bool × (Bool × Unit)))))))) =>
    grd (someB p36) <|
    grd (someB p36) <|
    .load (Ty.one B.ptr) (shiftTo p36 0) fun (p38 : (Option Addr)) =>
    grd (someB p36) <|
    grd (someB p36) <|
    .load (Ty.agg [B.sl, (B.int IntKind.i64), (B.int IntKind.i64), (B.int IntKind.i64), (B.int IntKind.i64), B.bool, B.bool]) (shiftTo p36 2) fun (r39 : (Sl × (Int × (Int × (Int × (Int × (Bool × (Bool × Unit)))))))) =>
    grd (someB p36) <|
    grd (someB p36) <|
    .load (Ty.one B.ptr) (shiftTo p36 1) fun (p40 : (Option Addr)) =>
    grd (someB r) <|
    grd (someB r) <|
    .load (Ty.agg [B.sl, (B.int IntKind.i64), (B.int IntKind.i64), (B.int IntKind.i64), (B.int IntKind.i64), B.bool, B.bool]) (shiftTo r 2) fun (r41 : (Sl × (Int × (Int × (Int × (Int × (Bool × (Bool × Unit)))))))) =>
    grd (someB r) <|
    grd (someB r) <|
    .load (Ty.one B.ptr) (shiftTo r 1) fun (p42 : (Option Addr)) =>
    .call (F_tree_of_part S l (r37.1, (r37.2.1, (r37.2.2.1, (r37.2.2.2.1, (r37.2.2.2.2.1, (r37.2.2.2.2.2.1, (r37.2.2.2.2.2.2.1, ()))))))) p38) [(Ty.one B.ptr)] fun (r43 : ((Option Addr) × Unit)) =>
    .check (shiftTo r 1) [(Value.pointer p42)] <|
    .check (shiftTo r 2) [(Value.slice r41.1.base r41.1.len r41.1.cap), (Value.int IntKind.i64 r41.2.1), (Value.int IntKind.i64 r41.2.2.1), (Value.int IntKind.i64 r41.2.2.2.1), (Value.int IntKind.i64 r41.2.2.2.2.1), (Value.bool r41.2.2.2.2.2.1), (Value.bool r41.2.2.2.2.2.2.1)] <|
    .check (shiftTo p36 1) [(Value.pointer p40)] <|
    .check (shiftTo p36 2) [(Value.slice r39.1.base r39.1.len r39.1.cap), (Value.int IntKind.i64 r39.2.1), (Value.int IntKind.i64 r39.2.2.1), (Value.int IntKind.i64 r39.2.2.2.1), (Value.int IntKind.i64 r39.2.2.2.2.1), (Value.bool r39.2.2.2.2.2.1), (Value.bool r39.2.2.2.2.2.2.1)] <|
    .call (F_tree_of_part S p40 (r41.1, (r41.2.1, (r41.2.2.1, (r41.2.2.2.1, (r41.2.2.2.2.1, (r41.2.2.2.2.2.1, (r41.2.2.2.2.2.2.1, ()))))))) p42) [(Ty.one B.ptr)] fun (r44 : ((Option Addr) × Unit)) =>
    .check (shiftTo p36 2) [(Value.slice r39.1.base r39.1.len r39.1.cap), (Value.int IntKind.i64 r39.2.1), (Value.int IntKind.i64 r39.2.2.1), (Value.int IntKind.i64 r39.2.2.2.1), (Value.int IntKind.i64 r39.2.2.2.2.1), (Value.bool r39.2.2.2.2.2.1), (Value.bool r39.2.2.2.2.2.2.1)] <|
    .call (F_tree_of_part S r43.1 (r39.1, (r39.2.1, (r39.2.2.1, (r39.2.2.2.1, (r39.2.2.2.2.1, (r39.2.2.2.2.2.1, (r39.2.2.2.2.2.2.1, ()))))))) r44.1) [(Ty.one B.ptr)] fun (r45 : ((Option Addr) × Unit)) =>
    .ret 0 [(Value.pointer r45.1)]) <|
  .load (Ty.agg [B.sl, (B.int IntKind.i64), (B.int IntKind.i64), (B.int IntKind.i64), (B.int IntKind.i64), B.bool, B.bool]) (Option.some a1) fun (r46 : (Sl × (Int × (Int × (Int × (Int × (Bool × (Bool × Unit)))))))) =>
  .call (F_tree_of_part S l (r46.1, (r46.2.1, (r46.2.2.1, (r46.2.2.2.1, (r46.2.2.2.2.1, (r46.2.2.2.2.2.1, (r46.2.2.2.2.2.2.1, ()))))))) r) [(Ty.one B.ptr)] fun (r47 : ((Option Addr) × Unit)) =>
  .ret 0 [(Value.pointer r47.1)]
def R_tree_join_part (fuelN : Nat) (S : Ids) (l : (Option Addr)) (x : (Sl × Int × Int × Int × Int × Bool × Bool × Unit)) (r : (Option Addr)) : Prog :=
  match fuelN with
  | 0 => .fail
  | fuelN + 1 =>
  .alloc [(Value.slice x.1.base x.1.len x.1.cap), (Value.int IntKind.i64 x.2.1), (Value.int IntKind.i64 x.2.2.1), (Value.int IntKind.i64 x.2.2.2.1), (Value.int IntKind.i64 x.2.2.2.2.1), (Value.bool x.2.2.2.2.2.1), (Value.bool x.2.2.2.2.2.2.1)] fun (a1 : Addr) =>
  .call (F_node_part_tall S l) [(Ty.one (B.int IntKind.i64))] fun (r2 : (Int × Unit)) =>
  .call (F_node_part_tall S r) [(Ty.one (B.int IntKind.i64))] fun (r3 : (Int × Unit)) =>
  ifB (gtI r2.1 (addI IntKind.i64 r3.1 1))
    (grd (someB l) <|
    grd (someB l) <|
    .load (Ty.one B.ptr) (shiftTo l 0) fun (p4 : (Option Addr)) =>
    grd (someB l) <|
    grd (someB l) <|
    .load (Ty.agg [B.sl, (B.int IntKind.i64), (B.int IntKind.i64), (B.int IntKind.i64), (B.int IntKind.i64), B.bool, B.bool]) (shiftTo l 2) fun (r5 : (Sl × (Int × (Int × (Int × (Int × (Bool × (Bool × Unit)))))))) =>
    grd (someB l) <|
    grd (someB l) <|
    .load (Ty.one B.ptr) (shiftTo l 1) fun (p6 : (Option Addr)) =>
    .load (Ty.agg [B.sl, (B.int IntKind.i64), (B.int IntKind.i64), (B.int IntKind.i64), (B.int IntKind.i64), B.bool, B.bool]) (Option.some a1) fun (r7 : (Sl × (Int × (Int × (Int × (Int × (Bool × (Bool × Unit)))))))) =>
    .call (R_tree_join_part fuelN S p6 (r7.1, (r7.2.1, (r7.2.2.1, (r7.2.2.2.1, (r7.2.2.2.2.1, (r7.2.2.2.2.2.1, (r7.2.2.2.2.2.2.1, ()))))))) r) [(Ty.one B.ptr)] fun (r8 : ((Option Addr) × Unit)) =>
    .check (shiftTo l 2) [(Value.slice r5.1.base r5.1.len r5.1.cap), (Value.int IntKind.i64 r5.2.1), (Value.int IntKind.i64 r5.2.2.1), (Value.int IntKind.i64 r5.2.2.2.1), (Value.int IntKind.i64 r5.2.2.2.2.1), (Value.bool r5.2.2.2.2.2.1), (Value.bool r5.2.2.2.2.2.2.1)] <|
    .check (shiftTo l 0) [(Value.pointer p4)] <|
    .call (F_tree_even_part S p4 (r5.1, (r5.2.1, (r5.2.2.1, (r5.2.2.2.1, (r5.2.2.2.2.1, (r5.2.2.2.2.2.1, (r5.2.2.2.2.2.2.1, ()))))))) r8.1) [(Ty.one B.ptr)] fun (r9 : ((Option Addr) × Unit)) =>
    .ret 0 [(Value.pointer r9.1)]) <|
  .call (F_node_part_tall S r) [(Ty.one (B.int IntKind.i64))] fun (r10 : (Int × Unit)) =>
  .call (F_node_part_tall S l) [(Ty.one (B.int IntKind.i64))] fun (r11 : (Int × Unit)) =>
  ifB (gtI r10.1 (addI IntKind.i64 r11.1 1))
    (.load (Ty.agg [B.sl, (B.int IntKind.i64), (B.int IntKind.i64), (B.int IntKind.i64), (B.int IntKind.i64), B.bool, B.bool]) (Option.some a1) fun (r12 : (Sl × (Int × (Int × (Int × (Int × (Bool × (Bool × Unit)))))))) =>
    grd (someB r) <|
    grd (someB r) <|
    .load (Ty.one B.ptr) (shiftTo r 0) fun (p13 : (Option Addr)) =>
    grd (someB r) <|
    grd (someB r) <|
    .load (Ty.agg [B.sl, (B.int IntKind.i64), (B.int IntKind.i64), (B.int IntKind.i64), (B.int IntKind.i64), B.bool, B.bool]) (shiftTo r 2) fun (r14 : (Sl × (Int × (Int × (Int × (Int × (Bool × (Bool × Unit)))))))) =>
    grd (someB r) <|
    grd (someB r) <|
    .load (Ty.one B.ptr) (shiftTo r 1) fun (p15 : (Option Addr)) =>
    .call (R_tree_join_part fuelN S l (r12.1, (r12.2.1, (r12.2.2.1, (r12.2.2.2.1, (r12.2.2.2.2.1, (r12.2.2.2.2.2.1, (r12.2.2.2.2.2.2.1, ()))))))) p13) [(Ty.one B.ptr)] fun (r16 : ((Option Addr) × Unit)) =>
    .check (shiftTo r 1) [(Value.pointer p15)] <|
    .check (shiftTo r 2) [(Value.slice r14.1.base r14.1.len r14.1.cap), (Value.int IntKind.i64 r14.2.1), (Value.int IntKind.i64 r14.2.2.1), (Value.int IntKind.i64 r14.2.2.2.1), (Value.int IntKind.i64 r14.2.2.2.2.1), (Value.bool r14.2.2.2.2.2.1), (Value.bool r14.2.2.2.2.2.2.1)] <|
    .call (F_tree_even_part S r16.1 (r14.1, (r14.2.1, (r14.2.2.1, (r14.2.2.2.1, (r14.2.2.2.2.1, (r14.2.2.2.2.2.1, (r14.2.2.2.2.2.2.1, ()))))))) p15) [(Ty.one B.ptr)] fun (r17 : ((Option Addr) × Unit)) =>
    .ret 0 [(Value.pointer r17.1)]) <|
  .load (Ty.agg [B.sl, (B.int IntKind.i64), (B.int IntKind.i64), (B.int IntKind.i64), (B.int IntKind.i64), B.bool, B.bool]) (Option.some a1) fun (r18 : (Sl × (Int × (Int × (Int × (Int × (Bool × (Bool × Unit)))))))) =>
  .call (F_tree_of_part S l (r18.1, (r18.2.1, (r18.2.2.1, (r18.2.2.2.1, (r18.2.2.2.2.1, (r18.2.2.2.2.2.1, (r18.2.2.2.2.2.2.1, ()))))))) r) [(Ty.one B.ptr)] fun (r19 : ((Option Addr) × Unit)) =>
  .ret 0 [(Value.pointer r19.1)]
def F_tree_join_part (S : Ids) (l : (Option Addr)) (x : (Sl × Int × Int × Int × Int × Bool × Bool × Unit)) (r : (Option Addr)) : Prog := .ex fun fuelN => R_tree_join_part fuelN S l x r
def R_node_part_cut (fuelN : Nat) (S : Ids) (n : (Option Addr)) (i : Int) : Prog :=
  match fuelN with
  | 0 => .fail
  | fuelN + 1 =>
  ifB (noneB n)
    (.ret 0 [(Value.pointer Option.none), (Value.pointer Option.none)]) <|
  grd (someB n) <|
  grd (someB n) <|
  .load (Ty.one B.ptr) (shiftTo n 0) fun (p1 : (Option Addr)) =>
  .call (F_node_part_count S p1) [(Ty.one (B.int IntKind.i64))] fun (r2 : (Int × Unit)) =>
  ifB (leI i r2.1)
    (grd (someB n) <|
    grd (someB n) <|
    .load (Ty.one B.ptr) (shiftTo n 0) fun (p3 : (Option Addr)) =>
    .call (R_node_part_cut fuelN S p3 i) [(Ty.one B.ptr), (Ty.one B.ptr)] fun (r4 : ((Option Addr) × ((Option Addr) × Unit))) =>
    grd (someB n) <|
    grd (someB n) <|
    .load (Ty.agg [B.sl, (B.int IntKind.i64), (B.int IntKind.i64), (B.int IntKind.i64), (B.int IntKind.i64), B.bool, B.bool]) (shiftTo n 2) fun (r5 : (Sl × (Int × (Int × (Int × (Int × (Bool × (Bool × Unit)))))))) =>
    grd (someB n) <|
    grd (someB n) <|
    .load (Ty.one B.ptr) (shiftTo n 1) fun (p6 : (Option Addr)) =>
    .call (F_tree_join_part S r4.2.1 (r5.1, (r5.2.1, (r5.2.2.1, (r5.2.2.2.1, (r5.2.2.2.2.1, (r5.2.2.2.2.2.1, (r5.2.2.2.2.2.2.1, ()))))))) p6) [(Ty.one B.ptr)] fun (r7 : ((Option Addr) × Unit)) =>
    .ret 0 [(Value.pointer r4.1), (Value.pointer r7.1)]) <|
  grd (someB n) <|
  grd (someB n) <|
  .load (Ty.one B.ptr) (shiftTo n 1) fun (p8 : (Option Addr)) =>
  .call (R_node_part_cut fuelN S p8 (subI IntKind.i64 (subI IntKind.i64 i r2.1) 1)) [(Ty.one B.ptr), (Ty.one B.ptr)] fun (r9 : ((Option Addr) × ((Option Addr) × Unit))) =>
  grd (someB n) <|
  grd (someB n) <|
  .load (Ty.one B.ptr) (shiftTo n 0) fun (p10 : (Option Addr)) =>
  grd (someB n) <|
  grd (someB n) <|
  .load (Ty.agg [B.sl, (B.int IntKind.i64), (B.int IntKind.i64), (B.int IntKind.i64), (B.int IntKind.i64), B.bool, B.bool]) (shiftTo n 2) fun (r11 : (Sl × (Int × (Int × (Int × (Int × (Bool × (Bool × Unit)))))))) =>
  .call (F_tree_join_part S p10 (r11.1, (r11.2.1, (r11.2.2.1, (r11.2.2.2.1, (r11.2.2.2.2.1, (r11.2.2.2.2.2.1, (r11.2.2.2.2.2.2.1, ()))))))) r9.1) [(Ty.one B.ptr)] fun (r12 : ((Option Addr) × Unit)) =>
  .ret 0 [(Value.pointer r12.1), (Value.pointer r9.2.1)]
def F_node_part_cut (S : Ids) (n : (Option Addr)) (i : Int) : Prog := .ex fun fuelN => R_node_part_cut fuelN S n i
def R_node_part_first (fuelN : Nat) (S : Ids) (n : (Option Addr)) : Prog :=
  match fuelN with
  | 0 => .fail
  | fuelN + 1 =>
  .alloc [(Value.slice Option.none 0 0), (Value.int IntKind.i64 0), (Value.int IntKind.i64 0), (Value.int IntKind.i64 0), (Value.int IntKind.i64 0), (Value.bool Bool.false), (Value.bool Bool.false)] fun (a1 : Addr) =>
  grd (someB n) <|
  grd (someB n) <|
  .load (Ty.one B.ptr) (shiftTo n 0) fun (p2 : (Option Addr)) =>
  ifB (noneB p2)
    (grd (someB n) <|
    grd (someB n) <|
    .load (Ty.agg [B.sl, (B.int IntKind.i64), (B.int IntKind.i64), (B.int IntKind.i64), (B.int IntKind.i64), B.bool, B.bool]) (shiftTo n 2) fun (r3 : (Sl × (Int × (Int × (Int × (Int × (Bool × (Bool × Unit)))))))) =>
    grd (someB n) <|
    grd (someB n) <|
    .load (Ty.one B.ptr) (shiftTo n 1) fun (p4 : (Option Addr)) =>
    .store (Option.some a1) [(Value.slice r3.1.base r3.1.len r3.1.cap), (Value.int IntKind.i64 r3.2.1), (Value.int IntKind.i64 r3.2.2.1), (Value.int IntKind.i64 r3.2.2.2.1), (Value.int IntKind.i64 r3.2.2.2.2.1), (Value.bool r3.2.2.2.2.2.1), (Value.bool r3.2.2.2.2.2.2.1)] <|
    .check (shiftTo n 1) [(Value.pointer p4)] <|
    .load (Ty.agg [B.sl, (B.int IntKind.i64), (B.int IntKind.i64), (B.int IntKind.i64), (B.int IntKind.i64), B.bool, B.bool]) (Option.some a1) fun (r5 : (Sl × (Int × (Int × (Int × (Int × (Bool × (Bool × Unit)))))))) =>
    .ret 0 [(Value.agg (#[(Value.slice r5.1.base r5.1.len r5.1.cap), (Value.int IntKind.i64 r5.2.1), (Value.int IntKind.i64 r5.2.2.1), (Value.int IntKind.i64 r5.2.2.2.1), (Value.int IntKind.i64 r5.2.2.2.2.1), (Value.bool r5.2.2.2.2.2.1), (Value.bool r5.2.2.2.2.2.2.1)])), (Value.pointer p4)]) <|
  grd (someB n) <|
  grd (someB n) <|
  .load (Ty.one B.ptr) (shiftTo n 0) fun (p6 : (Option Addr)) =>
  .call (R_node_part_first fuelN S p6) [(Ty.agg [B.sl, (B.int IntKind.i64), (B.int IntKind.i64), (B.int IntKind.i64), (B.int IntKind.i64), B.bool, B.bool]), (Ty.one B.ptr)] fun (r7 : ((Sl × (Int × (Int × (Int × (Int × (Bool × (Bool × Unit))))))) × ((Option Addr) × Unit))) =>
  .alloc [(Value.slice Option.none 0 0), (Value.int IntKind.i64 0), (Value.int IntKind.i64 0), (Value.int IntKind.i64 0), (Value.int IntKind.i64 0), (Value.bool Bool.false), (Value.bool Bool.false)] fun (a8 : Addr) =>
  .store (Option.some a8) [(Value.slice r7.1.1.base r7.1.1.len r7.1.1.cap), (Value.int IntKind.i64 r7.1.2.1), (Value.int IntKind.i64 r7.1.2.2.1), (Value.int IntKind.i64 r7.1.2.2.2.1), (Value.int IntKind.i64 r7.1.2.2.2.2.1), (Value.bool r7.1.2.2.2.2.2.1), (Value.bool r7.1.2.2.2.2.2.2.1)] <|
  .load (Ty.agg [B.sl, (B.int IntKind.i64), (B.int IntKind.i64), (B.int IntKind.i64), (B.int IntKind.i64), B.bool, B.bool]) (Option.some a8) fun (r9 : (Sl × (Int × (Int × (Int × (Int × (Bool × (Bool × Unit)))))))) =>
  grd (someB n) <|
  grd (someB n) <|
  .load (Ty.agg [B.sl, (B.int IntKind.i64), (B.int IntKind.i64), (B.int IntKind.i64), (B.int IntKind.i64), B.bool, B.bool]) (shiftTo n 2) fun (r10 : (Sl × (Int × (Int × (Int × (Int × (Bool × (Bool × Unit)))))))) =>
  grd (someB n) <|
  grd (someB n) <|
  .load (Ty.one B.ptr) (shiftTo n 1) fun (p11 : (Option Addr)) =>
  .call (F_tree_even_part S r7.2.1 (r10.1, (r10.2.1, (r10.2.2.1, (r10.2.2.2.1, (r10.2.2.2.2.1, (r10.2.2.2.2.2.1, (r10.2.2.2.2.2.2.1, ()))))))) p11) [(Ty.one B.ptr)] fun (r12 : ((Option Addr) × Unit)) =>
  .check (Option.some a8) [(Value.slice r9.1.base r9.1.len r9.1.cap), (Value.int IntKind.i64 r9.2.1), (Value.int IntKind.i64 r9.2.2.1), (Value.int IntKind.i64 r9.2.2.2.1), (Value.int IntKind.i64 r9.2.2.2.2.1), (Value.bool r9.2.2.2.2.2.1), (Value.bool r9.2.2.2.2.2.2.1)] <|
  .store (Option.some a1) [(Value.slice r9.1.base r9.1.len r9.1.cap), (Value.int IntKind.i64 r9.2.1), (Value.int IntKind.i64 r9.2.2.1), (Value.int IntKind.i64 r9.2.2.2.1), (Value.int IntKind.i64 r9.2.2.2.2.1), (Value.bool r9.2.2.2.2.2.1), (Value.bool r9.2.2.2.2.2.2.1)] <|
  .load (Ty.agg [B.sl, (B.int IntKind.i64), (B.int IntKind.i64), (B.int IntKind.i64), (B.int IntKind.i64), B.bool, B.bool]) (Option.some a1) fun (r13 : (Sl × (Int × (Int × (Int × (Int × (Bool × (Bool × Unit)))))))) =>
  .ret 0 [(Value.agg (#[(Value.slice r13.1.base r13.1.len r13.1.cap), (Value.int IntKind.i64 r13.2.1), (Value.int IntKind.i64 r13.2.2.1), (Value.int IntKind.i64 r13.2.2.2.1), (Value.int IntKind.i64 r13.2.2.2.2.1), (Value.bool r13.2.2.2.2.2.1), (Value.bool r13.2.2.2.2.2.2.1)])), (Value.pointer r12.1)]
def F_node_part_first (S : Ids) (n : (Option Addr)) : Prog := .ex fun fuelN => R_node_part_first fuelN S n
def F_tree_both_part (S : Ids) (l : (Option Addr)) (r : (Option Addr)) : Prog :=
  ifB (noneB r)
    (.ret 0 [(Value.pointer l)]) <|
  .call (F_node_part_first S r) [(Ty.agg [B.sl, (B.int IntKind.i64), (B.int IntKind.i64), (B.int IntKind.i64), (B.int IntKind.i64), B.bool, B.bool]), (Ty.one B.ptr)] fun (r1 : ((Sl × (Int × (Int × (Int × (Int × (Bool × (Bool × Unit))))))) × ((Option Addr) × Unit))) =>
  .alloc [(Value.slice Option.none 0 0), (Value.int IntKind.i64 0), (Value.int IntKind.i64 0), (Value.int IntKind.i64 0), (Value.int IntKind.i64 0), (Value.bool Bool.false), (Value.bool Bool.false)] fun (a2 : Addr) =>
  .store (Option.some a2) [(Value.slice r1.1.1.base r1.1.1.len r1.1.1.cap), (Value.int IntKind.i64 r1.1.2.1), (Value.int IntKind.i64 r1.1.2.2.1), (Value.int IntKind.i64 r1.1.2.2.2.1), (Value.int IntKind.i64 r1.1.2.2.2.2.1), (Value.bool r1.1.2.2.2.2.2.1), (Value.bool r1.1.2.2.2.2.2.2.1)] <|
  .load (Ty.agg [B.sl, (B.int IntKind.i64), (B.int IntKind.i64), (B.int IntKind.i64), (B.int IntKind.i64), B.bool, B.bool]) (Option.some a2) fun (r3 : (Sl × (Int × (Int × (Int × (Int × (Bool × (Bool × Unit)))))))) =>
  .call (F_tree_join_part S l (r3.1, (r3.2.1, (r3.2.2.1, (r3.2.2.2.1, (r3.2.2.2.2.1, (r3.2.2.2.2.2.1, (r3.2.2.2.2.2.2.1, ()))))))) r1.2.1) [(Ty.one B.ptr)] fun (r4 : ((Option Addr) × Unit)) =>
  .ret 0 [(Value.pointer r4.1)]
def F_Tree_part_Replace (S : Ids) (t : ((Option Addr) × Unit)) (from_ : Int) (to : Int) (items : Sl) : Prog :=
  .alloc [(Value.pointer t.1)] fun (a1 : Addr) =>
  .alloc [(Value.pointer Option.none)] fun (a2 : Addr) =>
  .bind
    (ifB (ltI from_ 0)
      (.ret 0 [(Value.bool Bool.true)]) <|
    ifB (gtI from_ to)
      (.ret 0 [(Value.bool Bool.true)]) <|
    .load (Ty.agg [B.ptr]) (Option.some a1) fun (r17 : ((Option Addr) × Unit)) =>
    .call (F_Tree_part_Size S (r17.1, ())) [(Ty.one (B.int IntKind.i64))] fun (r18 : (Int × Unit)) =>
    .ret 0 [(Value.bool (gtI to r18.1))]) fun (k19 : Nat) =>
  fun (vs20 : (List Value)) =>
  ifB (eqN k19 0)
    (.cast [(Ty.one B.bool)] vs20 fun (r21 : (Bool × Unit)) =>
    ifB r21.1
      (.store (Option.some a2) [(Value.pointer Option.none)] <|
      .load (Ty.agg [B.ptr]) (Option.some a2) fun (r22 : ((Option Addr) × Unit)) =>
      .ret 0 [(Value.agg (#[(Value.pointer r22.1)])), (Value.int IntKind.i64 1)]) <|
    .load (Ty.one B.ptr) (shiftTo (Option.some a1) 0) fun (p23 : (Option Addr)) =>
    .call (F_node_part_cut S p23 from_) [(Ty.one B.ptr), (Ty.one B.ptr)] fun (r24 : ((Option Addr) × ((Option Addr) × Unit))) =>
    .load (Ty.one B.ptr) (shiftTo (Option.some a1) 0) fun (p25 : (Option Addr)) =>
    .call (F_node_part_cut S p25 to) [(Ty.one B.ptr), (Ty.one B.ptr)] fun (r26 : ((Option Addr) × ((Option Addr) × Unit))) =>
    .call (F_tree_build_part S items) [(Ty.one B.ptr)] fun (r27 : ((Option Addr) × Unit)) =>
    .call (F_tree_both_part S r24.1 r27.1) [(Ty.one B.ptr)] fun (r28 : ((Option Addr) × Unit)) =>
    .call (F_tree_both_part S r28.1 r26.2.1) [(Ty.one B.ptr)] fun (r29 : ((Option Addr) × Unit)) =>
    .store (Option.some a2) [(Value.pointer r29.1)] <|
    .load (Ty.agg [B.ptr]) (Option.some a2) fun (r30 : ((Option Addr) × Unit)) =>
    .ret 0 [(Value.agg (#[(Value.pointer r30.1)])), (Value.int IntKind.i64 0)]) <|
  .fail
def F_Text_replace (S : Ids) (t : (Option Addr)) (from_ : Int) (to : Int) (put : Sl) : Prog :=
  .call (F_Text_find S t from_) [(Ty.one (B.int IntKind.i64)), (Ty.one (B.int IntKind.i64))] fun (r1 : (Int × (Int × Unit))) =>
  .call (F_Text_find S t to) [(Ty.one (B.int IntKind.i64)), (Ty.one (B.int IntKind.i64))] fun (r2 : (Int × (Int × Unit))) =>
  .bind
    (grd (someB t) <|
    grd (someB t) <|
    .load (Ty.agg [B.ptr]) (shiftTo t 2) fun (r329 : ((Option Addr) × Unit)) =>
    .call (F_Tree_part_At S (r329.1, ()) r1.1) [(Ty.agg [B.sl, (B.int IntKind.i64), (B.int IntKind.i64), (B.int IntKind.i64), (B.int IntKind.i64), B.bool, B.bool]), (Ty.one B.bool)] fun (r330 : ((Sl × (Int × (Int × (Int × (Int × (Bool × (Bool × Unit))))))) × (Bool × Unit))) =>
    .alloc [(Value.slice Option.none 0 0), (Value.int IntKind.i64 0), (Value.int IntKind.i64 0), (Value.int IntKind.i64 0), (Value.int IntKind.i64 0), (Value.bool Bool.false), (Value.bool Bool.false)] fun (a331 : Addr) =>
    .store (Option.some a331) [(Value.slice r330.1.1.base r330.1.1.len r330.1.1.cap), (Value.int IntKind.i64 r330.1.2.1), (Value.int IntKind.i64 r330.1.2.2.1), (Value.int IntKind.i64 r330.1.2.2.2.1), (Value.int IntKind.i64 r330.1.2.2.2.2.1), (Value.bool r330.1.2.2.2.2.2.1), (Value.bool r330.1.2.2.2.2.2.2.1)] <|
    .bind
      (ifB r330.2.1
        (.ret 0 [(Value.bool (gtI r1.2.1 0))]) <|
      .ret 0 [(Value.bool Bool.false)]) fun (k407 : Nat) =>
    fun (vs408 : (List Value)) =>
    ifB (eqN k407 0)
      (.cast [(Ty.one B.bool)] vs408 fun (r409 : (Bool × Unit)) =>
      ifB r409.1
        (.bind
          (.both (.load (Ty.agg [B.sl, (B.int IntKind.i64), (B.int IntKind.i64), (B.int IntKind.i64), (B.int IntKind.i64), B.bool, B.bool]) (Option.some a331) fun (r446 : (Sl × (Int × (Int × (Int × (Int × (Bool × (Bool × Unit)))))))) =>
          grd (someB t) <|
          grd (someB t) <|
          .load (Ty.one (B.int IntKind.i64)) (shiftTo t 0) fun (n447 : Int) =>
          .call (F_part_cut S (r446.1, (r446.2.1, (r446.2.2.1, (r446.2.2.2.1, (r446.2.2.2.2.1, (r446.2.2.2.2.2.1, (r446.2.2.2.2.2.2.1, ()))))))) n447 r1.2.1) [(Ty.agg [B.sl, (B.int IntKind.i64), (B.int IntKind.i64), (B.int IntKind.i64), (B.int IntKind.i64), B.bool, B.bool]), (Ty.agg [B.sl, (B.int IntKind.i64), (B.int IntKind.i64), (B.int IntKind.i64), (B.int IntKind.i64), B.bool, B.bool])] fun (r448 : ((Sl × (Int × (Int × (Int × (Int × (Bool × (Bool × Unit))))))) × ((Sl × (Int × (Int × (Int × (Int × (Bool × (Bool × Unit))))))) × Unit))) =>
          .alloc [(Value.slice Option.none 0 0), (Value.int IntKind.i64 0), (Value.int IntKind.i64 0), (Value.int IntKind.i64 0), (Value.int IntKind.i64 0), (Value.bool Bool.false), (Value.bool Bool.false)] fun (a449 : Addr) =>
          .check (shiftTo t 0) [(Value.int IntKind.i64 n447)] <|
          .check (Option.some a331) [(Value.slice r446.1.base r446.1.len r446.1.cap), (Value.int IntKind.i64 r446.2.1), (Value.int IntKind.i64 r446.2.2.1), (Value.int IntKind.i64 r446.2.2.2.1), (Value.int IntKind.i64 r446.2.2.2.2.1), (Value.bool r446.2.2.2.2.2.1), (Value.bool r446.2.2.2.2.2.2.1)] <|
          .alloc [(Value.slice Option.none 0 0), (Value.int IntKind.i64 0), (Value.int IntKind.i64 0), (Value.int IntKind.i64 0), (Value.int IntKind.i64 0), (Value.bool Bool.false), (Value.bool Bool.false)] fun (a450 : Addr) =>
          .check (shiftTo t 0) [(Value.int IntKind.i64 n447)] <|
          .check (Option.some a331) [(Value.slice r446.1.base r446.1.len r446.1.cap), (Value.int IntKind.i64 r446.2.1), (Value.int IntKind.i64 r446.2.2.1), (Value.int IntKind.i64 r446.2.2.2.1), (Value.int IntKind.i64 r446.2.2.2.2.1), (Value.bool r446.2.2.2.2.2.1), (Value.bool r446.2.2.2.2.2.2.1)] <|
          .store (Option.some a449) [(Value.slice r448.1.1.base r448.1.1.len r448.1.1.cap), (Value.int IntKind.i64 r448.1.2.1), (Value.int IntKind.i64 r448.1.2.2.1), (Value.int IntKind.i64 r448.1.2.2.2.1), (Value.int IntKind.i64 r448.1.2.2.2.2.1), (Value.bool r448.1.2.2.2.2.2.1), (Value.bool r448.1.2.2.2.2.2.2.1)] <|
          .store (Option.some a450) [(Value.slice r448.2.1.1.base r448.2.1.1.len r448.2.1.1.cap), (Value.int IntKind.i64 r448.2.1.2.1), (Value.int IntKind.i64 r448.2.1.2.2.1), (Value.int IntKind.i64 r448.2.1.2.2.2.1), (Value.int IntKind.i64 r448.2.1.2.2.2.2.1), (Value.bool r448.2.1.2.2.2.2.2.1), (Value.bool r448.2.1.2.2.2.2.2.2.1)] <|
          .ret 0 [(Value.pointer (Option.some a449))]) <|
          .both (.load (Ty.agg [B.sl, (B.int IntKind.i64), (B.int IntKind.i64), (B.int IntKind.i64), (B.int IntKind.i64), B.bool, B.bool]) (Option.some a331) fun (r451 : (Sl × (Int × (Int × (Int × (Int × (Bool × (Bool × Unit)))))))) =>
          grd (someB t) <|
          grd (someB t) <|
          .load (Ty.one (B.int IntKind.i64)) (shiftTo t 0) fun (n452 : Int) =>
          .call (F_part_cut S (r451.1, (r451.2.1, (r451.2.2.1, (r451.2.2.2.1, (r451.2.2.2.2.1, (r451.2.2.2.2.2.1, (r451.2.2.2.2.2.2.1, ()))))))) n452 r1.2.1) [(Ty.agg [B.sl, (B.int IntKind.i64), (B.int IntKind.i64), (B.int IntKind.i64), (B.int IntKind.i64), B.bool, B.bool]), (Ty.agg [B.sl, (B.int IntKind.i64), (B.int IntKind.i64), (B.int IntKind.i64), (B.int IntKind.i64), B.bool, B.bool])] fun (r453 : ((Sl × (Int × (Int × (Int × (Int × (Bool × (Bool × Unit))))))) × ((Sl × (Int × (Int × (Int × (Int × (Bool × (Bool × Unit))))))) × Unit))) =>
          .alloc [(Value.slice Option.none 0 0), (Value.int IntKind.i64 0), (Value.int IntKind.i64 0), (Value.int IntKind.i64 0), (Value.int IntKind.i64 0), (Value.bool Bool.false), (Value.bool Bool.false)] fun (a454 : Addr) =>
          .check (shiftTo t 0) [(Value.int IntKind.i64 n452)] <|
          .check (Option.some a331) [(Value.slice r451.1.base r451.1.len r451.1.cap), (Value.int IntKind.i64 r451.2.1), (Value.int IntKind.i64 r451.2.2.1), (Value.int IntKind.i64 r451.2.2.2.1), (Value.int IntKind.i64 r451.2.2.2.2.1), (Value.bool r451.2.2.2.2.2.1), (Value.bool r451.2.2.2.2.2.2.1)] <|
          .alloc [(Value.slice Option.none 0 0), (Value.int IntKind.i64 0), (Value.int IntKind.i64 0), (Value.int IntKind.i64 0), (Value.int IntKind.i64 0), (Value.bool Bool.false), (Value.bool Bool.false)] fun (a455 : Addr) =>
          .check (shiftTo t 0) [(Value.int IntKind.i64 n452)] <|
          .check (Option.some a331) [(Value.slice r451.1.base r451.1.len r451.1.cap), (Value.int IntKind.i64 r451.2.1), (Value.int IntKind.i64 r451.2.2.1), (Value.int IntKind.i64 r451.2.2.2.1), (Value.int IntKind.i64 r451.2.2.2.2.1), (Value.bool r451.2.2.2.2.2.1), (Value.bool r451.2.2.2.2.2.2.1)] <|
          .store (Option.some a455) [(Value.slice r453.1.1.base r453.1.1.len r453.1.1.cap), (Value.int IntKind.i64 r453.1.2.1), (Value.int IntKind.i64 r453.1.2.2.1), (Value.int IntKind.i64 r453.1.2.2.2.1), (Value.int IntKind.i64 r453.1.2.2.2.2.1), (Value.bool r453.1.2.2.2.2.2.1), (Value.bool r453.1.2.2.2.2.2.2.1)] <|
          .store (Option.some a454) [(Value.slice r453.2.1.1.base r453.2.1.1.len r453.2.1.1.cap), (Value.int IntKind.i64 r453.2.1.2.1), (Value.int IntKind.i64 r453.2.1.2.2.1), (Value.int IntKind.i64 r453.2.1.2.2.2.1), (Value.int IntKind.i64 r453.2.1.2.2.2.2.1), (Value.bool r453.2.1.2.2.2.2.2.1), (Value.bool r453.2.1.2.2.2.2.2.2.1)] <|
          .ret 0 [(Value.pointer (Option.some a455))]) <|
          .both (.load (Ty.agg [B.sl, (B.int IntKind.i64), (B.int IntKind.i64), (B.int IntKind.i64), (B.int IntKind.i64), B.bool, B.bool]) (Option.some a331) fun (r456 : (Sl × (Int × (Int × (Int × (Int × (Bool × (Bool × Unit)))))))) =>
          grd (someB t) <|
          grd (someB t) <|
          .load (Ty.one (B.int IntKind.i64)) (shiftTo t 0) fun (n457 : Int) =>
          .alloc [(Value.slice Option.none 0 0), (Value.int IntKind.i64 0), (Value.int IntKind.i64 0), (Value.int IntKind.i64 0), (Value.int IntKind.i64 0), (Value.bool Bool.false), (Value.bool Bool.false)] fun (a458 : Addr) =>
          .check (shiftTo t 0) [(Value.int IntKind.i64 n457)] <|
          .check (Option.some a331) [(Value.slice r456.1.base r456.1.len r456.1.cap), (Value.int IntKind.i64 r456.2.1), (Value.int IntKind.i64 r456.2.2.1), (Value.int IntKind.i64 r456.2.2.2.1), (Value.int IntKind.i64 r456.2.2.2.2.1), (Value.bool r456.2.2.2.2.2.1), (Value.bool r456.2.2.2.2.2.2.1)] <|
          .call (F_part_cut S (r456.1, (r456.2.1, (r456.2.2.1, (r456.2.2.2.1, (r456.2.2.2.2.1, (r456.2.2.2.2.2.1, (r456.2.2.2.2.2.2.1, ()))))))) n457 r1.2.1) [(Ty.agg [B.sl, (B.int IntKind.i64), (B.int IntKind.i64), (B.int IntKind.i64), (B.int IntKind.i64), B.bool, B.bool]), (Ty.agg [B.sl, (B.int IntKind.i64), (B.int IntKind.i64), (B.int IntKind.i64), (B.int IntKind.i64), B.bool, B.bool])] fun (r459 : ((Sl × (Int × (Int × (Int × (Int × (Bool × (Bool × Unit))))))) × ((Sl × (Int × (Int × (Int × (Int × (Bool × (Bool × Unit))))))) × Unit))) =>
          .alloc [(Value.slice Option.none 0 0), (Value.int IntKind.i64 0), (Value.int IntKind.i64 0), (Value.int IntKind.i64 0), (Value.int IntKind.i64 0), (Value.bool Bool.false), (Value.bool Bool.false)] fun (a460 : Addr) =>
          .check (shiftTo t 0) [(Value.int IntKind.i64 n457)] <|
          .check (Option.some a331) [(Value.slice r456.1.base r456.1.len r456.1.cap), (Value.int IntKind.i64 r456.2.1), (Value.int IntKind.i64 r456.2.2.1), (Value.int IntKind.i64 r456.2.2.2.1), (Value.int IntKind.i64 r456.2.2.2.2.1), (Value.bool r456.2.2.2.2.2.1), (Value.bool r456.2.2.2.2.2.2.1)] <|
          .store (Option.some a458) [(Value.slice r459.1.1.base r459.1.1.len r459.1.1.cap), (Value.int IntKind.i64 r459.1.2.1), (Value.int IntKind.i64 r459.1.2.2.1), (Value.int IntKind.i64 r459.1.2.2.2.1), (Value.int IntKind.i64 r459.1.2.2.2.2.1), (Value.bool r459.1.2.2.2.2.2.1), (Value.bool r459.1.2.2.2.2.2.2.1)] <|
          .store (Option.some a460) [(Value.slice r459.2.1.1.base r459.2.1.1.len r459.2.1.1.cap), (Value.int IntKind.i64 r459.2.1.2.1), (Value.int IntKind.i64 r459.2.1.2.2.1), (Value.int IntKind.i64 r459.2.1.2.2.2.1), (Value.int IntKind.i64 r459.2.1.2.2.2.2.1), (Value.bool r459.2.1.2.2.2.2.2.1), (Value.bool r459.2.1.2.2.2.2.2.2.1)] <|
          .ret 0 [(Value.pointer (Option.some a458))]) <|
          .both (.load (Ty.agg [B.sl, (B.int IntKind.i64), (B.int IntKind.i64), (B.int IntKind.i64), (B.int IntKind.i64), B.bool, B.bool]) (Option.some a331) fun (r461 : (Sl × (Int × (Int × (Int × (Int × (Bool × (Bool × Unit)))))))) =>
          grd (someB t) <|
          grd (someB t) <|
          .load (Ty.one (B.int IntKind.i64)) (shiftTo t 0) fun (n462 : Int) =>
          .alloc [(Value.slice Option.none 0 0), (Value.int IntKind.i64 0), (Value.int IntKind.i64 0), (Value.int IntKind.i64 0), (Value.int IntKind.i64 0), (Value.bool Bool.false), (Value.bool Bool.false)] fun (a463 : Addr) =>
          .check (shiftTo t 0) [(Value.int IntKind.i64 n462)] <|
          .check (Option.some a331) [(Value.slice r461.1.base r461.1.len r461.1.cap), (Value.int IntKind.i64 r461.2.1), (Value.int IntKind.i64 r461.2.2.1), (Value.int IntKind.i64 r461.2.2.2.1), (Value.int IntKind.i64 r461.2.2.2.2.1), (Value.bool r461.2.2.2.2.2.1), (Value.bool r461.2.2.2.2.2.2.1)] <|
          .alloc [(Value.slice Option.none 0 0), (Value.int IntKind.i64 0), (Value.int IntKind.i64 0), (Value.int IntKind.i64 0), (Value.int IntKind.i64 0), (Value.bool Bool.false), (Value.bool Bool.false)] fun (a464 : Addr) =>
          .check (shiftTo t 0) [(Value.int IntKind.i64 n462)] <|
          .check (Option.some a331) [(Value.slice r461.1.base r461.1.len r461.1.cap), (Value.int IntKind.i64 r461.2.1), (Value.int IntKind.i64 r461.2.2.1), (Value.int IntKind.i64 r461.2.2.2.1), (Value.int IntKind.i64 r461.2.2.2.2.1), (Value.bool r461.2.2.2.2.2.1), (Value.bool r461.2.2.2.2.2.2.1)] <|
          .call (F_part_cut S (r461.1, (r461.2.1, (r461.2.2.1, (r461.2.2.2.1, (r461.2.2.2.2.1, (r461.2.2.2.2.2.1, (r461.2.2.2.2.2.2.1, ()))))))) n462 r1.2.1) [(Ty.agg [B.sl, (B.int IntKind.i64), (B.int IntKind.i64), (B.int IntKind.i64), (B.int IntKind.i64), B.bool, B.bool]), (Ty.agg [B.sl, (B.int IntKind.i64), (B.int IntKind.i64), (B.int IntKind.i64), (B.int IntKind.i64), B.bool, B.bool])] fun (r465 : ((Sl × (Int × (Int × (Int × (Int × (Bool × (Bool × Unit))))))) × ((Sl × (Int × (Int × (Int × (Int × (Bool × (Bool × Unit))))))) × Unit))) =>
          .store (Option.some a463) [(Value.slice r465.1.1.base r465.1.1.len r465.1.1.cap), (Value.int IntKind.i64 r465.1.2.1), (Value.int IntKind.i64 r465.1.2.2.1), (Value.int IntKind.i64 r465.1.2.2.2.1), (Value.int IntKind.i64 r465.1.2.2.2.2.1), (Value.bool r465.1.2.2.2.2.2.1), (Value.bool r465.1.2.2.2.2.2.2.1)] <|
          .store (Option.some a464) [(Value.slice r465.2.1.1.base r465.2.1.1.len r465.2.1.1.cap), (Value.int IntKind.i64 r465.2.1.2.1), (Value.int IntKind.i64 r465.2.1.2.2.1), (Value.int IntKind.i64 r465.2.1.2.2.2.1), (Value.int IntKind.i64 r465.2.1.2.2.2.2.1), (Value.bool r465.2.1.2.2.2.2.2.1), (Value.bool r465.2.1.2.2.2.2.2.2.1)] <|
          .ret 0 [(Value.pointer (Option.some a463))]) <|
          .both (.load (Ty.agg [B.sl, (B.int IntKind.i64), (B.int IntKind.i64), (B.int IntKind.i64), (B.int IntKind.i64), B.bool, B.bool]) (Option.some a331) fun (r466 : (Sl × (Int × (Int × (Int × (Int × (Bool × (Bool × Unit)))))))) =>
          grd (someB t) <|
          grd (someB t) <|
          .load (Ty.one (B.int IntKind.i64)) (shiftTo t 0) fun (n467 : Int) =>
          .alloc [(Value.slice Option.none 0 0), (Value.int IntKind.i64 0), (Value.int IntKind.i64 0), (Value.int IntKind.i64 0), (Value.int IntKind.i64 0), (Value.bool Bool.false), (Value.bool Bool.false)] fun (a468 : Addr) =>
          .check (shiftTo t 0) [(Value.int IntKind.i64 n467)] <|
          .check (Option.some a331) [(Value.slice r466.1.base r466.1.len r466.1.cap), (Value.int IntKind.i64 r466.2.1), (Value.int IntKind.i64 r466.2.2.1), (Value.int IntKind.i64 r466.2.2.2.1), (Value.int IntKind.i64 r466.2.2.2.2.1), (Value.bool r466.2.2.2.2.2.1), (Value.bool r466.2.2.2.2.2.2.1)] <|
          .call (F_part_cut S (r466.1, (r466.2.1, (r466.2.2.1, (r466.2.2.2.1, (r466.2.2.2.2.1, (r466.2.2.2.2.2.1, (r466.2.2.2.2.2.2.1, ()))))))) n467 r1.2.1) [(Ty.agg [B.sl, (B.int IntKind.i64), (B.int IntKind.i64), (B.int IntKind.i64), (B.int IntKind.i64), B.bool, B.bool]), (Ty.agg [B.sl, (B.int IntKind.i64), (B.int IntKind.i64), (B.int IntKind.i64), (B.int IntKind.i64), B.bool, B.bool])] fun (r469 : ((Sl × (Int × (Int × (Int × (Int × (Bool × (Bool × Unit))))))) × ((Sl × (Int × (Int × (Int × (Int × (Bool × (Bool × Unit))))))) × Unit))) =>
          .alloc [(Value.slice Option.none 0 0), (Value.int IntKind.i64 0), (Value.int IntKind.i64 0), (Value.int IntKind.i64 0), (Value.int IntKind.i64 0), (Value.bool Bool.false), (Value.bool Bool.false)] fun (a470 : Addr) =>
          .check (shiftTo t 0) [(Value.int IntKind.i64 n467)] <|
          .check (Option.some a331) [(Value.slice r466.1.base r466.1.len r466.1.cap), (Value.int IntKind.i64 r466.2.1), (Value.int IntKind.i64 r466.2.2.1), (Value.int IntKind.i64 r466.2.2.2.1), (Value.int IntKind.i64 r466.2.2.2.2.1), (Value.bool r466.2.2.2.2.2.1), (Value.bool r466.2.2.2.2.2.2.1)] <|
          .store (Option.some a470) [(Value.slice r469.1.1.base r469.1.1.len r469.1.1.cap), (Value.int IntKind.i64 r469.1.2.1), (Value.int IntKind.i64 r469.1.2.2.1), (Value.int IntKind.i64 r469.1.2.2.2.1), (Value.int IntKind.i64 r469.1.2.2.2.2.1), (Value.bool r469.1.2.2.2.2.2.1), (Value.bool r469.1.2.2.2.2.2.2.1)] <|
          .store (Option.some a468) [(Value.slice r469.2.1.1.base r469.2.1.1.len r469.2.1.1.cap), (Value.int IntKind.i64 r469.2.1.2.1), (Value.int IntKind.i64 r469.2.1.2.2.1), (Value.int IntKind.i64 r469.2.1.2.2.2.1), (Value.int IntKind.i64 r469.2.1.2.2.2.2.1), (Value.bool r469.2.1.2.2.2.2.2.1), (Value.bool r469.2.1.2.2.2.2.2.2.1)] <|
          .ret 0 [(Value.pointer (Option.some a470))]) <|
          .load (Ty.agg [B.sl, (B.int IntKind.i64), (B.int IntKind.i64), (B.int IntKind.i64), (B.int IntKind.i64), B.bool, B.bool]) (Option.some a331) fun (r471 : (Sl × (Int × (Int × (Int × (Int × (Bool × (Bool × Unit)))))))) =>
          grd (someB t) <|
          grd (someB t) <|
          .load (Ty.one (B.int IntKind.i64)) (shiftTo t 0) fun (n472 : Int) =>
          .alloc [(Value.slice Option.none 0 0), (Value.int IntKind.i64 0), (Value.int IntKind.i64 0), (Value.int IntKind.i64 0), (Value.int IntKind.i64 0), (Value.bool Bool.false), (Value.bool Bool.false)] fun (a473 : Addr) =>
          .check (shiftTo t 0) [(Value.int IntKind.i64 n472)] <|
          .check (Option.some a331) [(Value.slice r471.1.base r471.1.len r471.1.cap), (Value.int IntKind.i64 r471.2.1), (Value.int IntKind.i64 r471.2.2.1), (Value.int IntKind.i64 r471.2.2.2.1), (Value.int IntKind.i64 r471.2.2.2.2.1), (Value.bool r471.2.2.2.2.2.1), (Value.bool r471.2.2.2.2.2.2.1)] <|
          .alloc [(Value.slice Option.none 0 0), (Value.int IntKind.i64 0), (Value.int IntKind.i64 0), (Value.int IntKind.i64 0), (Value.int IntKind.i64 0), (Value.bool Bool.false), (Value.bool Bool.false)] fun (a474 : Addr) =>
          .check (shiftTo t 0) [(Value.int IntKind.i64 n472)] <|
          .check (Option.some a331) [(Value.slice r471.1.base r471.1.len r471.1.cap), (Value.int IntKind.i64 r471.2.1), (Value.int IntKind.i64 r471.2.2.1), (Value.int IntKind.i64 r471.2.2.2.1), (Value.int IntKind.i64 r471.2.2.2.2.1), (Value.bool r471.2.2.2.2.2.1), (Value.bool r471.2.2.2.2.2.2.1)] <|
          .call (F_part_cut S (r471.1, (r471.2.1, (r471.2.2.1, (r471.2.2.2.1, (r471.2.2.2.2.1, (r471.2.2.2.2.2.1, (r471.2.2.2.2.2.2.1, ()))))))) n472 r1.2.1) [(Ty.agg [B.sl, (B.int IntKind.i64), (B.int IntKind.i64), (B.int IntKind.i64), (B.int IntKind.i64), B.bool, B.bool]), (Ty.agg [B.sl, (B.int IntKind.i64), (B.int IntKind.i64), (B.int IntKind.i64), (B.int IntKind.i64), B.bool, B.bool])] fun (r475 : ((Sl × (Int × (Int × (Int × (Int × (Bool × (Bool × Unit))))))) × ((Sl × (Int × (Int × (Int × (Int × (Bool × (Bool × Unit))))))) × Unit))) =>
          .store (Option.some a474) [(Value.slice r475.1.1.base r475.1.1.len r475.1.1.cap), (Value.int IntKind.i64 r475.1.2.1), (Value.int IntKind.i64 r475.1.2.2.1), (Value.int IntKind.i64 r475.1.2.2.2.1), (Value.int IntKind.i64 r475.1.2.2.2.2.1), (Value.bool r475.1.2.2.2.2.2.1), (Value.bool r475.1.2.2.2.2.2.2.1)] <|
          .store (Option.some a473) [(Value.slice r475.2.1.1.base r475.2.1.1.len r475.2.1.1.cap), (Value.int IntKind.i64 r475.2.1.2.1), (Value.int IntKind.i64 r475.2.1.2.2.1), (Value.int IntKind.i64 r475.2.1.2.2.2.1), (Value.int IntKind.i64 r475.2.1.2.2.2.2.1), (Value.bool r475.2.1.2.2.2.2.2.1), (Value.bool r475.2.1.2.2.2.2.2.2.1)] <|
          .ret 0 [(Value.pointer (Option.some a474))]) fun (k476 : Nat) =>
        fun (vs477 : (List Value)) =>
        ifB (eqN k476 0)
          (.cast [(Ty.one B.ptr)] vs477 fun (r478 : ((Option Addr) × Unit)) =>
          .load (Ty.agg [B.sl, (B.int IntKind.i64), (B.int IntKind.i64), (B.int IntKind.i64), (B.int IntKind.i64), B.bool, B.bool]) r478.1 fun (r479 : (Sl × (Int × (Int × (Int × (Int × (Bool × (Bool × Unit)))))))) =>
          .alloc [(Value.slice r479.1.base r479.1.len r479.1.cap), (Value.int IntKind.i64 r479.2.1), (Value.int IntKind.i64 r479.2.2.1), (Value.int IntKind.i64 r479.2.2.2.1), (Value.int IntKind.i64 r479.2.2.2.2.1), (Value.bool r479.2.2.2.2.2.1), (Value.bool r479.2.2.2.2.2.2.1)] fun (a480 : Addr) =>
          .append 7 64 [(Value.slice Option.none 0 0), (Value.int IntKind.i64 0), (Value.int IntKind.i64 0), (Value.int IntKind.i64 0), (Value.int IntKind.i64 0), (Value.bool Bool.false), (Value.bool Bool.false)] (⟨Option.none, 0, 0⟩) (⟨(Option.some a480), 1, 1⟩) fun (l481 : Sl) =>
          .ret 0 [(Value.slice l481.base l481.len l481.cap)]) <|
        .fail) <|
      .ret 0 [(Value.slice Option.none 0 0)]) <|
    .fail) fun (k482 : Nat) =>
  fun (vs483 : (List Value)) =>
  ifB (eqN k482 0)
    (.cast [(Ty.one B.sl)] vs483 fun (r484 : (Sl × Unit)) =>
    .call (F_Text_fresh S t put) [(Ty.one B.sl)] fun (r485 : (Sl × Unit)) =>
    .append 7 64 [(Value.slice Option.none 0 0), (Value.int IntKind.i64 0), (Value.int IntKind.i64 0), (Value.int IntKind.i64 0), (Value.int IntKind.i64 0), (Value.bool Bool.false), (Value.bool Bool.false)] r484.1 r485.1 fun (l486 : Sl) =>
    .bind
      (grd (someB t) <|
      grd (someB t) <|
      .load (Ty.agg [B.ptr]) (shiftTo t 2) fun (r571 : ((Option Addr) × Unit)) =>
      .call (F_Tree_part_At S (r571.1, ()) r2.1) [(Ty.agg [B.sl, (B.int IntKind.i64), (B.int IntKind.i64), (B.int IntKind.i64), (B.int IntKind.i64), B.bool, B.bool]), (Ty.one B.bool)] fun (r572 : ((Sl × (Int × (Int × (Int × (Int × (Bool × (Bool × Unit))))))) × (Bool × Unit))) =>
      .alloc [(Value.slice Option.none 0 0), (Value.int IntKind.i64 0), (Value.int IntKind.i64 0), (Value.int IntKind.i64 0), (Value.int IntKind.i64 0), (Value.bool Bool.false), (Value.bool Bool.false)] fun (a573 : Addr) =>
      .store (Option.some a573) [(Value.slice r572.1.1.base r572.1.1.len r572.1.1.cap), (Value.int IntKind.i64 r572.1.2.1), (Value.int IntKind.i64 r572.1.2.2.1), (Value.int IntKind.i64 r572.1.2.2.2.1), (Value.int IntKind.i64 r572.1.2.2.2.2.1), (Value.bool r572.1.2.2.2.2.2.1), (Value.bool r572.1.2.2.2.2.2.2.1)] <|
      ifB r572.2.1
        (.bind
          (.both (.load (Ty.agg [B.sl, (B.int IntKind.i64), (B.int IntKind.i64), (B.int IntKind.i64), (B.int IntKind.i64), B.bool, B.bool]) (Option.some a573) fun (r611 : (Sl × (Int × (Int × (Int × (Int × (Bool × (Bool × Unit)))))))) =>
          grd (someB t) <|
          grd (someB t) <|
          .load (Ty.one (B.int IntKind.i64)) (shiftTo t 0) fun (n612 : Int) =>
          .call (F_part_cut S (r611.1, (r611.2.1, (r611.2.2.1, (r611.2.2.2.1, (r611.2.2.2.2.1, (r611.2.2.2.2.2.1, (r611.2.2.2.2.2.2.1, ()))))))) n612 r2.2.1) [(Ty.agg [B.sl, (B.int IntKind.i64), (B.int IntKind.i64), (B.int IntKind.i64), (B.int IntKind.i64), B.bool, B.bool]), (Ty.agg [B.sl, (B.int IntKind.i64), (B.int IntKind.i64), (B.int IntKind.i64), (B.int IntKind.i64), B.bool, B.bool])] fun (r613 : ((Sl × (Int × (Int × (Int × (Int × (Bool × (Bool × Unit))))))) × ((Sl × (Int × (Int × (Int × (Int × (Bool × (Bool × Unit))))))) × Unit))) =>
          .alloc [(Value.slice Option.none 0 0), (Value.int IntKind.i64 0), (Value.int IntKind.i64 0), (Value.int IntKind.i64 0), (Value.int IntKind.i64 0), (Value.bool Bool.false), (Value.bool Bool.false)] fun (a614 : Addr) =>
          .check (shiftTo t 0) [(Value.int IntKind.i64 n612)] <|
          .check (Option.some a573) [(Value.slice r611.1.base r611.1.len r611.1.cap), (Value.int IntKind.i64 r611.2.1), (Value.int IntKind.i64 r611.2.2.1), (Value.int IntKind.i64 r611.2.2.2.1), (Value.int IntKind.i64 r611.2.2.2.2.1), (Value.bool r611.2.2.2.2.2.1), (Value.bool r611.2.2.2.2.2.2.1)] <|
          .alloc [(Value.slice Option.none 0 0), (Value.int IntKind.i64 0), (Value.int IntKind.i64 0), (Value.int IntKind.i64 0), (Value.int IntKind.i64 0), (Value.bool Bool.false), (Value.bool Bool.false)] fun (a615 : Addr) =>
          .check (shiftTo t 0) [(Value.int IntKind.i64 n612)] <|
          .check (Option.some a573) [(Value.slice r611.1.base r611.1.len r611.1.cap), (Value.int IntKind.i64 r611.2.1), (Value.int IntKind.i64 r611.2.2.1), (Value.int IntKind.i64 r611.2.2.2.1), (Value.int IntKind.i64 r611.2.2.2.2.1), (Value.bool r611.2.2.2.2.2.1), (Value.bool r611.2.2.2.2.2.2.1)] <|
          .store (Option.some a614) [(Value.slice r613.1.1.base r613.1.1.len r613.1.1.cap), (Value.int IntKind.i64 r613.1.2.1), (Value.int IntKind.i64 r613.1.2.2.1), (Value.int IntKind.i64 r613.1.2.2.2.1), (Value.int IntKind.i64 r613.1.2.2.2.2.1), (Value.bool r613.1.2.2.2.2.2.1), (Value.bool r613.1.2.2.2.2.2.2.1)] <|
          .store (Option.some a615) [(Value.slice r613.2.1.1.base r613.2.1.1.len r613.2.1.1.cap), (Value.int IntKind.i64 r613.2.1.2.1), (Value.int IntKind.i64 r613.2.1.2.2.1), (Value.int IntKind.i64 r613.2.1.2.2.2.1), (Value.int IntKind.i64 r613.2.1.2.2.2.2.1), (Value.bool r613.2.1.2.2.2.2.2.1), (Value.bool r613.2.1.2.2.2.2.2.2.1)] <|
          .ret 0 [(Value.pointer (Option.some a615))]) <|
          .both (.load (Ty.agg [B.sl, (B.int IntKind.i64), (B.int IntKind.i64), (B.int IntKind.i64), (B.int IntKind.i64), B.bool, B.bool]) (Option.some a573) fun (r616 : (Sl × (Int × (Int × (Int × (Int × (Bool × (Bool × Unit)))))))) =>
          grd (someB t) <|
          grd (someB t) <|
          .load (Ty.one (B.int IntKind.i64)) (shiftTo t 0) fun (n617 : Int) =>
          .call (F_part_cut S (r616.1, (r616.2.1, (r616.2.2.1, (r616.2.2.2.1, (r616.2.2.2.2.1, (r616.2.2.2.2.2.1, (r616.2.2.2.2.2.2.1, ()))))))) n617 r2.2.1) [(Ty.agg [B.sl, (B.int IntKind.i64), (B.int IntKind.i64), (B.int IntKind.i64), (B.int IntKind.i64), B.bool, B.bool]), (Ty.agg [B.sl, (B.int IntKind.i64), (B.int IntKind.i64), (B.int IntKind.i64), (B.int IntKind.i64), B.bool, B.bool])] fun (r618 : ((Sl × (Int × (Int × (Int × (Int × (Bool × (Bool × Unit))))))) × ((Sl × (Int × (Int × (Int × (Int × (Bool × (Bool × Unit))))))) × Unit))) =>
          .alloc [(Value.slice Option.none 0 0), (Value.int IntKind.i64 0), (Value.int IntKind.i64 0), (Value.int IntKind.i64 0), (Value.int IntKind.i64 0), (Value.bool Bool.false), (Value.bool Bool.false)] fun (a619 : Addr) =>
          .check (shiftTo t 0) [(Value.int IntKind.i64 n617)] <|
          .check (Option.some a573) [(Value.slice r616.1.base r616.1.len r616.1.cap), (Value.int IntKind.i64 r616.2.1), (Value.int IntKind.i64 r616.2.2.1), (Value.int IntKind.i64 r616.2.2.2.1), (Value.int IntKind.i64 r616.2.2.2.2.1), (Value.bool r616.2.2.2.2.2.1), (Value.bool r616.2.2.2.2.2.2.1)] <|
          .alloc [(Value.slice Option.none 0 0), (Value.int IntKind.i64 0), (Value.int IntKind.i64 0), (Value.int IntKind.i64 0), (Value.int IntKind.i64 0), (Value.bool Bool.false), (Value.bool Bool.false)] fun (a620 : Addr) =>
          .check (shiftTo t 0) [(Value.int IntKind.i64 n617)] <|
          .check (Option.some a573) [(Value.slice r616.1.base r616.1.len r616.1.cap), (Value.int IntKind.i64 r616.2.1), (Value.int IntKind.i64 r616.2.2.1), (Value.int IntKind.i64 r616.2.2.2.1), (Value.int IntKind.i64 r616.2.2.2.2.1), (Value.bool r616.2.2.2.2.2.1), (Value.bool r616.2.2.2.2.2.2.1)] <|
          .store (Option.some a620) [(Value.slice r618.1.1.base r618.1.1.len r618.1.1.cap), (Value.int IntKind.i64 r618.1.2.1), (Value.int IntKind.i64 r618.1.2.2.1), (Value.int IntKind.i64 r618.1.2.2.2.1), (Value.int IntKind.i64 r618.1.2.2.2.2.1), (Value.bool r618.1.2.2.2.2.2.1), (Value.bool r618.1.2.2.2.2.2.2.1)] <|
          .store (Option.some a619) [(Value.slice r618.2.1.1.base r618.2.1.1.len r618.2.1.1.cap), (Value.int IntKind.i64 r618.2.1.2.1), (Value.int IntKind.i64 r618.2.1.2.2.1), (Value.int IntKind.i64 r618.2.1.2.2.2.1), (Value.int IntKind.i64 r618.2.1.2.2.2.2.1), (Value.bool r618.2.1.2.2.2.2.2.1), (Value.bool r618.2.1.2.2.2.2.2.2.1)] <|
          .ret 0 [(Value.pointer (Option.some a619))]) <|
          .both (.load (Ty.agg [B.sl, (B.int IntKind.i64), (B.int IntKind.i64), (B.int IntKind.i64), (B.int IntKind.i64), B.bool, B.bool]) (Option.some a573) fun (r621 : (Sl × (Int × (Int × (Int × (Int × (Bool × (Bool × Unit)))))))) =>
          grd (someB t) <|
          grd (someB t) <|
          .load (Ty.one (B.int IntKind.i64)) (shiftTo t 0) fun (n622 : Int) =>
          .alloc [(Value.slice Option.none 0 0), (Value.int IntKind.i64 0), (Value.int IntKind.i64 0), (Value.int IntKind.i64 0), (Value.int IntKind.i64 0), (Value.bool Bool.false), (Value.bool Bool.false)] fun (a623 : Addr) =>
          .check (shiftTo t 0) [(Value.int IntKind.i64 n622)] <|
          .check (Option.some a573) [(Value.slice r621.1.base r621.1.len r621.1.cap), (Value.int IntKind.i64 r621.2.1), (Value.int IntKind.i64 r621.2.2.1), (Value.int IntKind.i64 r621.2.2.2.1), (Value.int IntKind.i64 r621.2.2.2.2.1), (Value.bool r621.2.2.2.2.2.1), (Value.bool r621.2.2.2.2.2.2.1)] <|
          .call (F_part_cut S (r621.1, (r621.2.1, (r621.2.2.1, (r621.2.2.2.1, (r621.2.2.2.2.1, (r621.2.2.2.2.2.1, (r621.2.2.2.2.2.2.1, ()))))))) n622 r2.2.1) [(Ty.agg [B.sl, (B.int IntKind.i64), (B.int IntKind.i64), (B.int IntKind.i64), (B.int IntKind.i64), B.bool, B.bool]), (Ty.agg [B.sl, (B.int IntKind.i64), (B.int IntKind.i64), (B.int IntKind.i64), (B.int IntKind.i64), B.bool, B.bool])] fun (r624 : ((Sl × (Int × (Int × (Int × (Int × (Bool × (Bool × Unit))))))) × ((Sl × (Int × (Int × (Int × (Int × (Bool × (Bool × Unit))))))) × Unit))) =>
          .alloc [(Value.slice Option.none 0 0), (Value.int IntKind.i64 0), (Value.int IntKind.i64 0), (Value.int IntKind.i64 0), (Value.int IntKind.i64 0), (Value.bool Bool.false), (Value.bool Bool.false)] fun (a625 : Addr) =>
          .check (shiftTo t 0) [(Value.int IntKind.i64 n622)] <|
          .check (Option.some a573) [(Value.slice r621.1.base r621.1.len r621.1.cap), (Value.int IntKind.i64 r621.2.1), (Value.int IntKind.i64 r621.2.2.1), (Value.int IntKind.i64 r621.2.2.2.1), (Value.int IntKind.i64 r621.2.2.2.2.1), (Value.bool r621.2.2.2.2.2.1), (Value.bool r621.2.2.2.2.2.2.1)] <|
          .store (Option.some a623) [(Value.slice r624.1.1.base r624.1.1.len r624.1.1.cap), (Value.int IntKind.i64 r624.1.2.1), (Value.int IntKind.i64 r624.1.2.2.1), (Value.int IntKind.i64 r624.1.2.2.2.1), (Value.int IntKind.i64 r624.1.2.2.2.2.1), (Value.bool r624.1.2.2.2.2.2.1), (Value.bool r624.1.2.2.2.2.2.2.1)] <|
          .store (Option.some a625) [(Value.slice r624.2.1.1.base r624.2.1.1.len r624.2.1.1.cap), (Value.int IntKind.i64 r624.2.1.2.1), (Value.int IntKind.i64 r624.2.1.2.2.1), (Value.int IntKind.i64 r624.2.1.2.2.2.1), (Value.int IntKind.i64 r624.2.1.2.2.2.2.1), (Value.bool r624.2.1.2.2.2.2.2.1), (Value.bool r624.2.1.2.2.2.2.2.2.1)] <|
          .ret 0 [(Value.pointer (Option.some a625))]) <|
          .both (.load (Ty.agg [B.sl, (B.int IntKind.i64), (B.int IntKind.i64), (B.int IntKind.i64), (B.int IntKind.i64), B.bool, B.bool]) (Option.some a573) fun (r626 : (Sl × (Int × (Int × (Int × (Int × (Bool × (Bool × Unit)))))))) =>
          grd (someB t) <|
          grd (someB t) <|
          .load (Ty.one (B.int IntKind.i64)) (shiftTo t 0) fun (n627 : Int) =>
          .alloc [(Value.slice Option.none 0 0), (Value.int IntKind.i64 0), (Value.int IntKind.i64 0), (Value.int IntKind.i64 0), (Value.int IntKind.i64 0), (Value.bool Bool.false), (Value.bool Bool.false)] fun (a628 : Addr) =>
          .check (shiftTo t 0) [(Value.int IntKind.i64 n627)] <|
          .check (Option.some a573) [(Value.slice r626.1.base r626.1.len r626.1.cap), (Value.int IntKind.i64 r626.2.1), (Value.int IntKind.i64 r626.2.2.1), (Value.int IntKind.i64 r626.2.2.2.1), (Value.int IntKind.i64 r626.2.2.2.2.1), (Value.bool r626.2.2.2.2.2.1), (Value.bool r626.2.2.2.2.2.2.1)] <|
          .alloc [(Value.slice Option.none 0 0), (Value.int IntKind.i64 0), (Value.int IntKind.i64 0), (Value.int IntKind.i64 0), (Value.int IntKind.i64 0), (Value.bool Bool.false), (Value.bool Bool.false)] fun (a629 : Addr) =>
          .check (shiftTo t 0) [(Value.int IntKind.i64 n627)] <|
          .check (Option.some a573) [(Value.slice r626.1.base r626.1.len r626.1.cap), (Value.int IntKind.i64 r626.2.1), (Value.int IntKind.i64 r626.2.2.1), (Value.int IntKind.i64 r626.2.2.2.1), (Value.int IntKind.i64 r626.2.2.2.2.1), (Value.bool r626.2.2.2.2.2.1), (Value.bool r626.2.2.2.2.2.2.1)] <|
          .call (F_part_cut S (r626.1, (r626.2.1, (r626.2.2.1, (r626.2.2.2.1, (r626.2.2.2.2.1, (r626.2.2.2.2.2.1, (r626.2.2.2.2.2.2.1, ()))))))) n627 r2.2.1) [(Ty.agg [B.sl, (B.int IntKind.i64), (B.int IntKind.i64), (B.int IntKind.i64), (B.int IntKind.i64), B.bool, B.bool]), (Ty.agg [B.sl, (B.int IntKind.i64), (B.int IntKind.i64), (B.int IntKind.i64), (B.int IntKind.i64), B.bool, B.bool])] fun (r630 : ((Sl × (Int × (Int × (Int × (Int × (Bool × (Bool × Unit))))))) × ((Sl × (Int × (Int × (Int × (Int × (Bool × (Bool × Unit))))))) × Unit))) =>
          .store (Option.some a628) [(Value.slice r630.1.1.base r630.1.1.len r630.1.1.cap), (Value.int IntKind.i64 r630.1.2.1), (Value.int IntKind.i64 r630.1.2.2.1), (Value.int IntKind.i64 r630.1.2.2.2.1), (Value.int IntKind.i64 r630.1.2.2.2.2.1), (Value.bool r630.1.2.2.2.2.2.1), (Value.bool r630.1.2.2.2.2.2.2.1)] <|
          .store (Option.some a629) [(Value.slice r630.2.1.1.base r630.2.1.1.len r630.2.1.1.cap), (Value.int IntKind.i64 r630.2.1.2.1), (Value.int IntKind.i64 r630.2.1.2.2.1), (Value.int IntKind.i64 r630.2.1.2.2.2.1), (Value.int IntKind.i64 r630.2.1.2.2.2.2.1), (Value.bool r630.2.1.2.2.2.2.2.1), (Value.bool r630.2.1.2.2.2.2.2.2.1)] <|
          .ret 0 [(Value.pointer (Option.some a629))]) <|
          .both (.load (Ty.agg [B.sl, (B.int IntKind.i64), (B.int IntKind.i64), (B.int IntKind.i64), (B.int IntKind.i64), B.bool, B.bool]) (Option.some a573) fun (r631 : (Sl × (Int × (Int × (Int × (Int × (Bool × (Bool × Unit)))))))) =>
          grd (someB t) <|
          grd (someB t) <|
          .load (Ty.one (B.int IntKind.i64)) (shiftTo t 0) fun (n632 : Int) =>
          .alloc [(Value.slice Option.none 0 0), (Value.int IntKind.i64 0), (Value.int IntKind.i64 0), (Value.int IntKind.i64 0), (Value.int IntKind.i64 0), (Value.bool Bool.false), (Value.bool Bool.false)] fun (a633 : Addr) =>
          .check (shiftTo t 0) [(Value.int IntKind.i64 n632)] <|
          .check (Option.some a573) [(Value.slice r631.1.base r631.1.len r631.1.cap), (Value.int IntKind.i64 r631.2.1), (Value.int IntKind.i64 r631.2.2.1), (Value.int IntKind.i64 r631.2.2.2.1), (Value.int IntKind.i64 r631.2.2.2.2.1), (Value.bool r631.2.2.2.2.2.1), (Value.bool r631.2.2.2.2.2.2.1)] <|
          .call (F_part_cut S (r631.1, (r631.2.1, (r631.2.2.1, (r631.2.2.2.1, (r631.2.2.2.2.1, (r631.2.2.2.2.2.1, (r631.2.2.2.2.2.2.1, ()))))))) n632 r2.2.1) [(Ty.agg [B.sl, (B.int IntKind.i64), (B.int IntKind.i64), (B.int IntKind.i64), (B.int IntKind.i64), B.bool, B.bool]), (Ty.agg [B.sl, (B.int IntKind.i64), (B.int IntKind.i64), (B.int IntKind.i64), (B.int IntKind.i64), B.bool, B.bool])] fun (r634 : ((Sl × (Int × (Int × (Int × (Int × (Bool × (Bool × Unit))))))) × ((Sl × (Int × (Int × (Int × (Int × (Bool × (Bool × Unit))))))) × Unit))) =>
          .alloc [(Value.slice Option.none 0 0), (Value.int IntKind.i64 0), (Value.int IntKind.i64 0), (Value.int IntKind.i64 0), (Value.int IntKind.i64 0), (Value.bool Bool.false), (Value.bool Bool.false)] fun (a635 : Addr) =>
          .check (shiftTo t 0) [(Value.int IntKind.i64 n632)] <|
          .check (Option.some a573) [(Value.slice r631.1.base r631.1.len r631.1.cap), (Value.int IntKind.i64 r631.2.1), (Value.int IntKind.i64 r631.2.2.1), (Value.int IntKind.i64 r631.2.2.2.1), (Value.int IntKind.i64 r631.2.2.2.2.1), (Value.bool r631.2.2.2.2.2.1), (Value.bool r631.2.2.2.2.2.2.1)] <|
          .store (Option.some a635) [(Value.slice r634.1.1.base r634.1.1.len r634.1.1.cap), (Value.int IntKind.i64 r634.1.2.1), (Value.int IntKind.i64 r634.1.2.2.1), (Value.int IntKind.i64 r634.1.2.2.2.1), (Value.int IntKind.i64 r634.1.2.2.2.2.1), (Value.bool r634.1.2.2.2.2.2.1), (Value.bool r634.1.2.2.2.2.2.2.1)] <|
          .store (Option.some a633) [(Value.slice r634.2.1.1.base r634.2.1.1.len r634.2.1.1.cap), (Value.int IntKind.i64 r634.2.1.2.1), (Value.int IntKind.i64 r634.2.1.2.2.1), (Value.int IntKind.i64 r634.2.1.2.2.2.1), (Value.int IntKind.i64 r634.2.1.2.2.2.2.1), (Value.bool r634.2.1.2.2.2.2.2.1), (Value.bool r634.2.1.2.2.2.2.2.2.1)] <|
          .ret 0 [(Value.pointer (Option.some a633))]) <|
          .load (Ty.agg [B.sl, (B.int IntKind.i64), (B.int IntKind.i64), (B.int IntKind.i64), (B.int IntKind.i64), B.bool, B.bool]) (Option.some a573) fun (r636 : (Sl × (Int × (Int × (Int × (Int × (Bool × (Bool × Unit)))))))) =>
          grd (someB t) <|
          grd (someB t) <|
          .load (Ty.one (B.int IntKind.i64)) (shiftTo t 0) fun (n637 : Int) =>
          .alloc [(Value.slice Option.none 0 0), (Value.int IntKind.i64 0), (Value.int IntKind.i64 0), (Value.int IntKind.i64 0), (Value.int IntKind.i64 0), (Value.bool Bool.false), (Value.bool Bool.false)] fun (a638 : Addr) =>
          .check (shiftTo t 0) [(Value.int IntKind.i64 n637)] <|
          .check (Option.some a573) [(Value.slice r636.1.base r636.1.len r636.1.cap), (Value.int IntKind.i64 r636.2.1), (Value.int IntKind.i64 r636.2.2.1), (Value.int IntKind.i64 r636.2.2.2.1), (Value.int IntKind.i64 r636.2.2.2.2.1), (Value.bool r636.2.2.2.2.2.1), (Value.bool r636.2.2.2.2.2.2.1)] <|
          .alloc [(Value.slice Option.none 0 0), (Value.int IntKind.i64 0), (Value.int IntKind.i64 0), (Value.int IntKind.i64 0), (Value.int IntKind.i64 0), (Value.bool Bool.false), (Value.bool Bool.false)] fun (a639 : Addr) =>
          .check (shiftTo t 0) [(Value.int IntKind.i64 n637)] <|
          .check (Option.some a573) [(Value.slice r636.1.base r636.1.len r636.1.cap), (Value.int IntKind.i64 r636.2.1), (Value.int IntKind.i64 r636.2.2.1), (Value.int IntKind.i64 r636.2.2.2.1), (Value.int IntKind.i64 r636.2.2.2.2.1), (Value.bool r636.2.2.2.2.2.1), (Value.bool r636.2.2.2.2.2.2.1)] <|
          .call (F_part_cut S (r636.1, (r636.2.1, (r636.2.2.1, (r636.2.2.2.1, (r636.2.2.2.2.1, (r636.2.2.2.2.2.1, (r636.2.2.2.2.2.2.1, ()))))))) n637 r2.2.1) [(Ty.agg [B.sl, (B.int IntKind.i64), (B.int IntKind.i64), (B.int IntKind.i64), (B.int IntKind.i64), B.bool, B.bool]), (Ty.agg [B.sl, (B.int IntKind.i64), (B.int IntKind.i64), (B.int IntKind.i64), (B.int IntKind.i64), B.bool, B.bool])] fun (r640 : ((Sl × (Int × (Int × (Int × (Int × (Bool × (Bool × Unit))))))) × ((Sl × (Int × (Int × (Int × (Int × (Bool × (Bool × Unit))))))) × Unit))) =>
          .store (Option.some a639) [(Value.slice r640.1.1.base r640.1.1.len r640.1.1.cap), (Value.int IntKind.i64 r640.1.2.1), (Value.int IntKind.i64 r640.1.2.2.1), (Value.int IntKind.i64 r640.1.2.2.2.1), (Value.int IntKind.i64 r640.1.2.2.2.2.1), (Value.bool r640.1.2.2.2.2.2.1), (Value.bool r640.1.2.2.2.2.2.2.1)] <|
          .store (Option.some a638) [(Value.slice r640.2.1.1.base r640.2.1.1.len r640.2.1.1.cap), (Value.int IntKind.i64 r640.2.1.2.1), (Value.int IntKind.i64 r640.2.1.2.2.1), (Value.int IntKind.i64 r640.2.1.2.2.2.1), (Value.int IntKind.i64 r640.2.1.2.2.2.2.1), (Value.bool r640.2.1.2.2.2.2.2.1), (Value.bool r640.2.1.2.2.2.2.2.2.1)] <|
          .ret 0 [(Value.pointer (Option.some a638))]) fun (k641 : Nat) =>
        fun (vs642 : (List Value)) =>
        ifB (eqN k641 0)
          (.cast [(Ty.one B.ptr)] vs642 fun (r643 : ((Option Addr) × Unit)) =>
          grd (someB r643.1) <|
          grd (someB (shiftTo r643.1 2)) <|
          .load (Ty.one (B.int IntKind.i64)) (shiftTo (shiftTo r643.1 2) 0) fun (n644 : Int) =>
          ifB (gtI n644 0)
            (.load (Ty.agg [B.sl, (B.int IntKind.i64), (B.int IntKind.i64), (B.int IntKind.i64), (B.int IntKind.i64), B.bool, B.bool]) r643.1 fun (r645 : (Sl × (Int × (Int × (Int × (Int × (Bool × (Bool × Unit)))))))) =>
            .alloc [(Value.slice r645.1.base r645.1.len r645.1.cap), (Value.int IntKind.i64 r645.2.1), (Value.int IntKind.i64 r645.2.2.1), (Value.int IntKind.i64 r645.2.2.2.1), (Value.int IntKind.i64 r645.2.2.2.2.1), (Value.bool r645.2.2.2.2.2.1), (Value.bool r645.2.2.2.2.2.2.1)] fun (a646 : Addr) =>
            .append 7 64 [(Value.slice Option.none 0 0), (Value.int IntKind.i64 0), (Value.int IntKind.i64 0), (Value.int IntKind.i64 0), (Value.int IntKind.i64 0), (Value.bool Bool.false), (Value.bool Bool.false)] l486 (⟨(Option.some a646), 1, 1⟩) fun (l647 : Sl) =>
            .ret 0 [(Value.slice l647.base l647.len l647.cap)]) <|
          .ret 0 [(Value.slice l486.base l486.len l486.cap)]) <|
        .fail) <|
      .ret 0 [(Value.slice l486.base l486.len l486.cap)]) fun (k648 : Nat) =>
    fun (vs649 : (List Value)) =>
    ifB (eqN k648 0)
      (.cast [(Ty.one B.sl)] vs649 fun (r650 : (Sl × Unit)) =>
      grd (someB t) <|
      grd (someB t) <|
      .load (Ty.agg [B.ptr]) (shiftTo t 2) fun (r651 : ((Option Addr) × Unit)) =>
      grd (someB t) <|
      grd (someB t) <|
      .load (Ty.agg [B.ptr]) (shiftTo t 2) fun (r652 : ((Option Addr) × Unit)) =>
      .call (F_Tree_part_Size S (r652.1, ())) [(Ty.one (B.int IntKind.i64))] fun (r653 : (Int × Unit)) =>
      .check (shiftTo t 2) [(Value.pointer r651.1)] <|
      .call (F_Tree_part_Replace S (r651.1, ()) r1.1 (minI (addI IntKind.i64 r2.1 1) r653.1) r650.1) [(Ty.agg [B.ptr]), (Ty.one (B.int IntKind.i64))] fun (r654 : (((Option Addr) × Unit) × (Int × Unit))) =>
      grd (someB t) <|
      grd (someB t) <|
      .store (shiftTo t 2) [(Value.pointer r654.1.1)] <|
      .ret 0 []) <|
    .fail) <|
  .fail
def F_Text_Change (S : Ids) (t : (Option Addr)) (edits : Sl) : Prog :=
  .call (F_Text_refuse S t edits) [(Ty.one (B.int IntKind.i64))] fun (r1 : (Int × Unit)) =>
  ifB (neI r1.1 0)
    (.ret 0 [(Value.int IntKind.i64 r1.1)]) <|
  .bind
    (.loop [(Ty.one (B.int IntKind.i64))] ((subI IntKind.i64 (natI edits.len) 1), ()) fun (r158 : (Int × Unit)) =>
      ifB (geI r158.1 0)
        (.bind
          (grd (andB (someB edits.base) (inB r158.1 edits.len)) <|
          .load (Ty.agg [(B.int IntKind.i64), (B.int IntKind.i64), B.sl]) (shiftTo edits.base (mulN (toN r158.1) 3)) fun (r184 : (Int × (Int × (Sl × Unit)))) =>
          .alloc [(Value.int IntKind.i64 0), (Value.int IntKind.i64 0), (Value.slice Option.none 0 0)] fun (a185 : Addr) =>
          .store (Option.some a185) [(Value.int IntKind.i64 r184.1), (Value.int IntKind.i64 r184.2.1), (Value.slice r184.2.2.1.base r184.2.2.1.len r184.2.2.1.cap)] <|
          .bind
            (.load (Ty.one (B.int IntKind.i64)) (shiftTo (Option.some a185) 0) fun (n196 : Int) =>
            .load (Ty.one (B.int IntKind.i64)) (shiftTo (Option.some a185) 1) fun (n197 : Int) =>
            ifB (ltI n196 n197)
              (.ret 0 [(Value.bool Bool.true)]) <|
            .load (Ty.one B.sl) (shiftTo (Option.some a185) 2) fun (l198 : Sl) =>
            .ret 0 [(Value.bool (gtI (natI l198.len) 0))]) fun (k199 : Nat) =>
          fun (vs200 : (List Value)) =>
          ifB (eqN k199 0)
            (.cast [(Ty.one B.bool)] vs200 fun (r201 : (Bool × Unit)) =>
            ifB r201.1
              (.load (Ty.one (B.int IntKind.i64)) (shiftTo (Option.some a185) 0) fun (n202 : Int) =>
              .load (Ty.one (B.int IntKind.i64)) (shiftTo (Option.some a185) 1) fun (n203 : Int) =>
              .load (Ty.one B.sl) (shiftTo (Option.some a185) 2) fun (l204 : Sl) =>
              .call (F_Text_replace S t n202 n203 l204) [] fun (u205 : Unit) =>
              .ret 0 []) <|
            .ret 0 []) <|
          .fail) fun (k206 : Nat) =>
        fun (vs207 : (List Value)) =>
        ifB (eqN k206 0)
          (.cast [] vs207 fun (u208 : Unit) =>
          .ret 0 [(Value.int IntKind.i64 (subI IntKind.i64 r158.1 1))]) <|
        .fail) <|
      .ret 2 []) fun (k209 : Nat) =>
  fun (vs210 : (List Value)) =>
  ifB (eqN k209 2)
    (.cast [] vs210 fun (u211 : Unit) =>
    .ret 0 [(Value.int IntKind.i64 0)]) <|
  .fail
def F_law5_able (S : Ids) : Prog :=
  .alloc [(Value.int IntKind.u8 97)] fun (a1 : Addr) =>
  .call (F_codec_Next S (Int.ofNat 1) (⟨(Option.some a1), 1, 1⟩) (Int.ofNat 0)) [(Ty.one (B.int IntKind.i64)), (Ty.one (B.int IntKind.i64))] fun (r2 : (Int × (Int × Unit))) =>
  .bind
    (ifB (neI r2.1 97)
      (.ret 0 [(Value.bool Bool.true)]) <|
    .ret 0 [(Value.bool (neI r2.2.1 1))]) fun (k44 : Nat) =>
  fun (vs45 : (List Value)) =>
  ifB (eqN k44 0)
    (.cast [(Ty.one B.bool)] vs45 fun (r46 : (Bool × Unit)) =>
    ifB r46.1
      (.ret 0 [(Value.bool Bool.false)]) <|
    .alloc [(Value.int IntKind.u8 97)] fun (a47 : Addr) =>
    .call (F_piece_Open S (Int.ofNat 1) (⟨(Option.some a47), 1, 1⟩) (Int.ofNat 2)) [(Ty.one B.ptr), (Ty.one (B.int IntKind.i64))] fun (r48 : ((Option Addr) × (Int × Unit))) =>
    .bind
      (ifB (noneB r48.1)
        (.ret 0 [(Value.bool Bool.true)]) <|
      ifB (neI r48.2.1 0)
        (.ret 0 [(Value.bool Bool.true)]) <|
      .call (F_Text_Len S r48.1) [(Ty.one (B.int IntKind.i64))] fun (r67 : (Int × Unit)) =>
      .ret 0 [(Value.bool (neI r67.1 1))]) fun (k68 : Nat) =>
    fun (vs69 : (List Value)) =>
    ifB (eqN k68 0)
      (.cast [(Ty.one B.bool)] vs69 fun (r70 : (Bool × Unit)) =>
      ifB r70.1
        (.ret 0 [(Value.bool Bool.false)]) <|
      .bind
        (.alloc [(Value.int IntKind.i64 98)] fun (a78 : Addr) =>
        .alloc [(Value.int IntKind.i64 1), (Value.int IntKind.i64 1), (Value.slice (Option.some a78) 1 1)] fun (a79 : Addr) =>
        .call (F_Text_Change S r48.1 (⟨(Option.some a79), 1, 1⟩)) [(Ty.one (B.int IntKind.i64))] fun (r80 : (Int × Unit)) =>
        ifB (eqI r80.1 0)
          (.call (F_Text_Len S r48.1) [(Ty.one (B.int IntKind.i64))] fun (r81 : (Int × Unit)) =>
          .ret 0 [(Value.bool (eqI r81.1 2))]) <|
        .ret 0 [(Value.bool Bool.false)]) fun (k82 : Nat) =>
      fun (vs83 : (List Value)) =>
      ifB (eqN k82 0)
        (.cast [(Ty.one B.bool)] vs83 fun (r84 : (Bool × Unit)) =>
        .ret 0 [(Value.bool r84.1)]) <|
      .fail) <|
    .fail) <|
  .fail
def F_law5_known (S : Ids) (enc : Int) (b : Sl) : Prog :=
  .bind
    (ifB (geI enc 1)
      (ifB (leI enc 4)
        (.ret 0 [(Value.bool (leI (natI b.len) 65536))]) <|
      .ret 0 [(Value.bool Bool.false)]) <|
    .ret 0 [(Value.bool Bool.false)]) fun (k4 : Nat) =>
  fun (vs5 : (List Value)) =>
  ifB (eqN k4 0)
    (.cast [(Ty.one B.bool)] vs5 fun (r6 : (Bool × Unit)) =>
    .ret 0 [(Value.bool r6.1)]) <|
  .fail
def F_law5_opened (S : Ids) (enc : Int) (b : Sl) : Prog :=
  .append 1 1 [(Value.int IntKind.u8 0)] (⟨Option.none, 0, 0⟩) b fun (l1 : Sl) =>
  .call (F_piece_Open S enc l1 (Int.ofNat 65536)) [(Ty.one B.ptr), (Ty.one (B.int IntKind.i64))] fun (r2 : ((Option Addr) × (Int × Unit))) =>
  ifB (neI r2.2.1 0)
    (.ret 0 [(Value.pointer Option.none)]) <|
  .ret 0 [(Value.pointer r2.1)]
def F_law5_sameBytes (S : Ids) (a : Sl) (b : Sl) : Prog :=
  ifB (neI (natI a.len) (natI b.len))
    (.ret 0 [(Value.bool Bool.false)]) <|
  .bind
    (.loop [(Ty.one (B.int IntKind.i64))] ((0 : Int), ()) fun (r14 : (Int × Unit)) =>
      ifB (ltI r14.1 (natI a.len))
        (grd (andB (someB a.base) (inB r14.1 a.len)) <|
        .load (Ty.one (B.int IntKind.u8)) (shiftTo a.base (mulN (toN r14.1) 1)) fun (n15 : Int) =>
        grd (andB (someB b.base) (inB r14.1 b.len)) <|
        .load (Ty.one (B.int IntKind.u8)) (shiftTo b.base (mulN (toN r14.1) 1)) fun (n16 : Int) =>
        ifB (neI n15 n16)
          (.ret 1 [(Value.bool Bool.false)]) <|
        .ret 0 [(Value.int IntKind.i64 (addI IntKind.i64 r14.1 1))]) <|
      .ret 2 []) fun (k17 : Nat) =>
  fun (vs18 : (List Value)) =>
  ifB (eqN k17 2)
    (.cast [] vs18 fun (u19 : Unit) =>
    .ret 0 [(Value.bool Bool.true)]) <|
  ifB (eqN k17 1)
    (.cast [(Ty.one B.bool)] vs18 fun (r20 : (Bool × Unit)) =>
    .ret 0 [(Value.bool r20.1)]) <|
  .fail
def F_Tree_part_Items (S : Ids) (t : ((Option Addr) × Unit)) (from_ : Int) : Prog :=
  .alloc [(Value.pointer t.1)] fun (a1 : Addr) =>
  .alloc [(Value.int IntKind.i64 from_)] fun (a2 : Addr) =>
  .ret 0 [(Value.func (Fn.func S.f_Tree_part_Items_1) #[] (#[(Value.pointer (Option.some a1)), (Value.pointer (Option.some a2))]))]
def F_Text_walk (S : Ids) (t : (Option Addr)) (from_ : Int) (to : Int) (see : Value) : Prog :=
  .alloc [(Value.pointer t)] fun (a1 : Addr) =>
  grd (flatB see) <|
  .alloc [see] fun (a2 : Addr) =>
  .load (Ty.one B.ptr) (Option.some a1) fun (p3 : (Option Addr)) =>
  .call (F_Text_Len S p3) [(Ty.one (B.int IntKind.i64))] fun (r4 : (Int × Unit)) =>
  ifB (geI (maxI from_ 0) (minI to r4.1))
    (.ret 0 []) <|
  .load (Ty.one B.ptr) (Option.some a1) fun (p5 : (Option Addr)) =>
  .call (F_Text_find S p5 (maxI from_ 0)) [(Ty.one (B.int IntKind.i64)), (Ty.one (B.int IntKind.i64))] fun (r6 : (Int × (Int × Unit))) =>
  .alloc [(Value.int IntKind.i64 0)] fun (a7 : Addr) =>
  .store (Option.some a7) [(Value.int IntKind.i64 r6.2.1)] <|
  .alloc [(Value.int IntKind.i64 0)] fun (a8 : Addr) =>
  .store (Option.some a8) [(Value.int IntKind.i64 (subI IntKind.i64 (minI to r4.1) (maxI from_ 0)))] <|
  .load (Ty.one B.ptr) (Option.some a1) fun (p9 : (Option Addr)) =>
  grd (someB p9) <|
  grd (someB p9) <|
  .load (Ty.agg [B.ptr]) (shiftTo p9 2) fun (r10 : ((Option Addr) × Unit)) =>
  .call (F_Tree_part_Items S (r10.1, ()) r6.1) [(Ty.one B.any)] fun (r11 : (Value × Unit)) =>
  .range r11.1 [(Ty.agg [B.sl, (B.int IntKind.i64), (B.int IntKind.i64), (B.int IntKind.i64), (B.int IntKind.i64), B.bool, B.bool])] [(Ty.one B.ptr)] (fun (r12 : ((Sl × (Int × (Int × (Int × (Int × (Bool × (Bool × Unit))))))) × Unit)) =>
  .alloc [(Value.slice Option.none 0 0), (Value.int IntKind.i64 0), (Value.int IntKind.i64 0), (Value.int IntKind.i64 0), (Value.int IntKind.i64 0), (Value.bool Bool.false), (Value.bool Bool.false)] fun (a13 : Addr) =>
  .store (Option.some a13) [(Value.slice r12.1.1.base r12.1.1.len r12.1.1.cap), (Value.int IntKind.i64 r12.1.2.1), (Value.int IntKind.i64 r12.1.2.2.1), (Value.int IntKind.i64 r12.1.2.2.2.1), (Value.int IntKind.i64 r12.1.2.2.2.2.1), (Value.bool r12.1.2.2.2.2.2.1), (Value.bool r12.1.2.2.2.2.2.2.1)] <|
  .ret 0 [(Value.pointer (Option.some a13))]) (fun (r14 : ((Option Addr) × Unit)) =>
  .bind
    (.loop [(Ty.one (B.int IntKind.i64))] ((0 : Int), ()) fun (r205 : (Int × Unit)) =>
      grd (someB r14.1) <|
      .load (Ty.one B.sl) (shiftTo r14.1 0) fun (l206 : Sl) =>
      ifB (ltI r205.1 (natI l206.len))
        (.load (Ty.one B.ptr) (Option.some a1) fun (p207 : (Option Addr)) =>
        grd (someB p207) <|
        grd (someB p207) <|
        .load (Ty.one (B.int IntKind.i64)) (shiftTo p207 0) fun (n208 : Int) =>
        grd (someB r14.1) <|
        .load (Ty.one B.sl) (shiftTo r14.1 0) fun (l209 : Sl) =>
        .call (F_codec_Next S n208 l209 r205.1) [(Ty.one (B.int IntKind.i64)), (Ty.one (B.int IntKind.i64))] fun (r210 : (Int × (Int × Unit))) =>
        .bind
          (.load (Ty.one (B.int IntKind.i64)) (Option.some a7) fun (n239 : Int) =>
          ifB (gtI n239 0)
            (.load (Ty.one (B.int IntKind.i64)) (Option.some a7) fun (n240 : Int) =>
            .store (Option.some a7) [(Value.int IntKind.i64 (subI IntKind.i64 n240 1))] <|
            .ret 0 []) <|
          .bind
            (grd (someB r14.1) <|
            .load (Ty.one (B.int IntKind.i64)) (shiftTo r14.1 1) fun (n252 : Int) =>
            ifB (ltI n252 0)
              (.load (Ty.one B.any) (Option.some a2) fun (c253 : Value) =>
              .callv c253 [(Value.int IntKind.i64 r210.1), (Value.int IntKind.i64 (-1))] [] fun (u254 : Unit) =>
              .ret 0 []) <|
            .load (Ty.one B.any) (Option.some a2) fun (c255 : Value) =>
            grd (someB r14.1) <|
            .load (Ty.one (B.int IntKind.i64)) (shiftTo r14.1 1) fun (n256 : Int) =>
            .callv c255 [(Value.int IntKind.i64 r210.1), (Value.int IntKind.i64 (addI IntKind.i64 n256 r205.1))] [] fun (u257 : Unit) =>
            .ret 0 []) fun (k258 : Nat) =>
          fun (vs259 : (List Value)) =>
          ifB (eqN k258 0)
            (.cast [] vs259 fun (u260 : Unit) =>
            .load (Ty.one (B.int IntKind.i64)) (Option.some a8) fun (n261 : Int) =>
            .store (Option.some a8) [(Value.int IntKind.i64 (subI IntKind.i64 n261 1))] <|
            .load (Ty.one (B.int IntKind.i64)) (Option.some a8) fun (n262 : Int) =>
            ifB (eqI n262 0)
              (.ret 1 []) <|
            .ret 0 []) <|
          .fail) fun (k263 : Nat) =>
        fun (vs264 : (List Value)) =>
        ifB (eqN k263 1)
          (.cast [] vs264 fun (u265 : Unit) =>
          .ret 1 []) <|
        ifB (eqN k263 0)
          (.cast [] vs264 fun (u266 : Unit) =>
          .ret 0 [(Value.int IntKind.i64 (addI IntKind.i64 r205.1 r210.2.1))]) <|
        .fail) <|
      .ret 4 []) fun (k267 : Nat) =>
  fun (vs268 : (List Value)) =>
  ifB (eqN k267 4)
    (.cast [] vs268 fun (u269 : Unit) =>
    .ret 0 []) <|
  ifB (eqN k267 1)
    (.cast [] vs268 fun (u270 : Unit) =>
    .ret 1 []) <|
  .fail) fun (k271 : Nat) =>
  ifB (eqN k271 1)
    (.ret 0 []) <|
  ifB (eqN k271 0)
    (.ret 0 []) <|
  .fail
def F_Text_Atoms (S : Ids) (t : (Option Addr)) (from_ : Int) (to : Int) : Prog :=
  .alloc [(Value.slice Option.none 0 0)] fun (a1 : Addr) =>
  .call (F_Text_walk S t from_ to (Value.func (Fn.func S.f_Text_Atoms_1) #[] (#[(Value.pointer (Option.some a1))]))) [] fun (u2 : Unit) =>
  .load (Ty.one B.sl) (Option.some a1) fun (l3 : Sl) =>
  .ret 0 [(Value.slice l3.base l3.len l3.cap)]
def F_law5_sameInts (S : Ids) (a : Sl) (b : Sl) : Prog :=
  ifB (neI (natI a.len) (natI b.len))
    (.ret 0 [(Value.bool Bool.false)]) <|
  .bind
    (.loop [(Ty.one (B.int IntKind.i64))] ((0 : Int), ()) fun (r14 : (Int × Unit)) =>
      ifB (ltI r14.1 (natI a.len))
        (grd (andB (someB a.base) (inB r14.1 a.len)) <|
        .load (Ty.one (B.int IntKind.i64)) (shiftTo a.base (mulN (toN r14.1) 1)) fun (n15 : Int) =>
        grd (andB (someB b.base) (inB r14.1 b.len)) <|
        .load (Ty.one (B.int IntKind.i64)) (shiftTo b.base (mulN (toN r14.1) 1)) fun (n16 : Int) =>
        ifB (neI n15 n16)
          (.ret 1 [(Value.bool Bool.false)]) <|
        .ret 0 [(Value.int IntKind.i64 (addI IntKind.i64 r14.1 1))]) <|
      .ret 2 []) fun (k17 : Nat) =>
  fun (vs18 : (List Value)) =>
  ifB (eqN k17 2)
    (.cast [] vs18 fun (u19 : Unit) =>
    .ret 0 [(Value.bool Bool.true)]) <|
  ifB (eqN k17 1)
    (.cast [(Ty.one B.bool)] vs18 fun (r20 : (Bool × Unit)) =>
    .ret 0 [(Value.bool r20.1)]) <|
  .fail
def F_Text_Bytes (S : Ids) (t : (Option Addr)) : Prog :=
  .call (F_Text_Size S t) [(Ty.one (B.int IntKind.i64))] fun (r1 : (Int × Unit)) =>
  .mk 1 [(Value.int IntKind.u8 0)] r1.1 r1.1 fun (l2 : Sl) =>
  .alloc [(Value.slice Option.none 0 0)] fun (a3 : Addr) =>
  .store (Option.some a3) [(Value.slice l2.base l2.len l2.cap)] <|
  .alloc [(Value.int IntKind.i64 0)] fun (a4 : Addr) =>
  .store (Option.some a4) [(Value.int IntKind.i64 0)] <|
  grd (someB t) <|
  grd (someB t) <|
  .load (Ty.agg [B.ptr]) (shiftTo t 2) fun (r5 : ((Option Addr) × Unit)) =>
  .call (F_Tree_part_Items S (r5.1, ()) (Int.ofNat 0)) [(Ty.one B.any)] fun (r6 : (Value × Unit)) =>
  .range r6.1 [(Ty.agg [B.sl, (B.int IntKind.i64), (B.int IntKind.i64), (B.int IntKind.i64), (B.int IntKind.i64), B.bool, B.bool])] [(Ty.one B.ptr)] (fun (r7 : ((Sl × (Int × (Int × (Int × (Int × (Bool × (Bool × Unit))))))) × Unit)) =>
  .alloc [(Value.slice Option.none 0 0), (Value.int IntKind.i64 0), (Value.int IntKind.i64 0), (Value.int IntKind.i64 0), (Value.int IntKind.i64 0), (Value.bool Bool.false), (Value.bool Bool.false)] fun (a8 : Addr) =>
  .store (Option.some a8) [(Value.slice r7.1.1.base r7.1.1.len r7.1.1.cap), (Value.int IntKind.i64 r7.1.2.1), (Value.int IntKind.i64 r7.1.2.2.1), (Value.int IntKind.i64 r7.1.2.2.2.1), (Value.int IntKind.i64 r7.1.2.2.2.2.1), (Value.bool r7.1.2.2.2.2.2.1), (Value.bool r7.1.2.2.2.2.2.2.1)] <|
  .ret 0 [(Value.pointer (Option.some a8))]) (fun (r9 : ((Option Addr) × Unit)) =>
  .load (Ty.one (B.int IntKind.i64)) (Option.some a4) fun (n10 : Int) =>
  .load (Ty.one B.sl) (Option.some a3) fun (l11 : Sl) =>
  .load (Ty.one (B.int IntKind.i64)) (Option.some a4) fun (n12 : Int) =>
  grd (leB n12 l11.len) <|
  grd (someB r9.1) <|
  .load (Ty.one B.sl) (shiftTo r9.1 0) fun (l13 : Sl) =>
  .copy 1 (⟨(cutBase l11.base l11.cap (toN n12) 1), (subN l11.len (toN n12)), (subN l11.cap (toN n12))⟩) l13 fun (k14 : Nat) =>
  .check (Option.some a4) [(Value.int IntKind.i64 n10)] <|
  .store (Option.some a4) [(Value.int IntKind.i64 (addI IntKind.i64 n10 (natI k14)))] <|
  .ret 0 []) fun (k15 : Nat) =>
  ifB (eqN k15 0)
    (.load (Ty.one B.sl) (Option.some a3) fun (l16 : Sl) =>
    .ret 0 [(Value.slice l16.base l16.len l16.cap)]) <|
  .fail
def F_pen_edits (S : Ids) (p : (Option Addr)) (n : Int) : Prog :=
  .bind
    (ifB (noneB p)
      (.ret 0 [(Value.bool Bool.true)]) <|
    .ret 0 [(Value.bool (gtI n 200))]) fun (k17 : Nat) =>
  fun (vs18 : (List Value)) =>
  ifB (eqN k17 0)
    (.cast [(Ty.one B.bool)] vs18 fun (r19 : (Bool × Unit)) =>
    ifB r19.1
      (.mk 40 [(Value.int IntKind.i64 0), (Value.int IntKind.i64 0), (Value.slice Option.none 0 0)] n n fun (l20 : Sl) =>
      .ret 0 [(Value.slice l20.base l20.len l20.cap)]) <|
    .bind
      (grd (someB p) <|
      grd (someB p) <|
      .load (Ty.one B.sl) (shiftTo p 0) fun (l27 : Sl) =>
      ifB (noneB l27.base)
        (.mk 40 [(Value.int IntKind.i64 0), (Value.int IntKind.i64 0), (Value.slice Option.none 0 0)] 200 200 fun (l28 : Sl) =>
        grd (someB p) <|
        grd (someB p) <|
        .store (shiftTo p 0) [(Value.slice l28.base l28.len l28.cap)] <|
        .ret 0 []) <|
      .ret 0 []) fun (k29 : Nat) =>
    fun (vs30 : (List Value)) =>
    ifB (eqN k29 0)
      (.cast [] vs30 fun (u31 : Unit) =>
      grd (someB p) <|
      grd (someB p) <|
      .load (Ty.one B.sl) (shiftTo p 0) fun (l32 : Sl) =>
      grd (andB (leB n l32.cap) (leB n (toN n))) <|
      .ret 0 [(Value.slice (cutBase l32.base (toN n) 0 3) (subN (toN n) 0) (subN (toN n) 0))]) <|
    .fail) <|
  .fail
def F_pen_put (S : Ids) (p : (Option Addr)) (i : Int) (n : Int) : Prog :=
  .bind
    (ifB (noneB p)
      (.ret 0 [(Value.bool Bool.true)]) <|
    ifB (geI i 8)
      (.ret 0 [(Value.bool Bool.true)]) <|
    .ret 0 [(Value.bool (gtI n 400))]) fun (k39 : Nat) =>
  fun (vs40 : (List Value)) =>
  ifB (eqN k39 0)
    (.cast [(Ty.one B.bool)] vs40 fun (r41 : (Bool × Unit)) =>
    ifB r41.1
      (.mk 8 [(Value.int IntKind.i64 0)] n n fun (l42 : Sl) =>
      .ret 0 [(Value.slice l42.base l42.len l42.cap)]) <|
    .bind
      (.loop [] () fun (u66 : Unit) =>
        grd (someB p) <|
        grd (someB p) <|
        .load (Ty.one B.sl) (shiftTo p 1) fun (l67 : Sl) =>
        ifB (leI (natI l67.len) i)
          (grd (someB p) <|
          grd (someB p) <|
          .load (Ty.one B.sl) (shiftTo p 1) fun (l68 : Sl) =>
          .mk 8 [(Value.int IntKind.i64 0)] 400 400 fun (l69 : Sl) =>
          .check (shiftTo p 1) [(Value.slice l68.base l68.len l68.cap)] <|
          .alloc [(Value.slice l69.base l69.len l69.cap)] fun (a70 : Addr) =>
          .check (shiftTo p 1) [(Value.slice l68.base l68.len l68.cap)] <|
          .append 1 24 [(Value.slice Option.none 0 0)] l68 (⟨(Option.some a70), 1, 1⟩) fun (l71 : Sl) =>
          grd (someB p) <|
          grd (someB p) <|
          .store (shiftTo p 1) [(Value.slice l71.base l71.len l71.cap)] <|
          .ret 0 []) <|
        .ret 2 []) fun (k72 : Nat) =>
    fun (vs73 : (List Value)) =>
    ifB (eqN k72 2)
      (.cast [] vs73 fun (u74 : Unit) =>
      grd (someB p) <|
      grd (someB p) <|
      .load (Ty.one B.sl) (shiftTo p 1) fun (l75 : Sl) =>
      grd (andB (someB l75.base) (inB i l75.len)) <|
      .load (Ty.one B.sl) (shiftTo l75.base (mulN (toN i) 1)) fun (l76 : Sl) =>
      grd (andB (leB n l76.cap) (leB n (toN n))) <|
      .ret 0 [(Value.slice (cutBase l76.base (toN n) 0 1) (subN (toN n) 0) (subN (toN n) 0))]) <|
    .fail) <|
  .fail
def F_law5_hand (S : Ids) (p : (Option Addr)) (l : Sl) : Prog :=
  .alloc [(Value.int IntKind.i64 0), (Value.slice Option.none 0 0), (Value.slice Option.none 0 0)] fun (a1 : Addr) =>
  .alloc [(Value.int IntKind.i64 0), (Value.slice Option.none 0 0), (Value.slice Option.none 0 0)] fun (a2 : Addr) =>
  .store (Option.some a2) [(Value.int IntKind.i64 100), (Value.slice Option.none 0 0), (Value.slice Option.none 0 0)] <|
  .bind
    (ifB (gtI (natI l.len) 64)
      (.store (shiftTo (Option.some a2) 0) [(Value.int IntKind.i64 2)] <|
      .ret 0 []) <|
    .ret 0 []) fun (k266 : Nat) =>
  fun (vs267 : (List Value)) =>
  ifB (eqN k266 0)
    (.cast [] vs267 fun (u268 : Unit) =>
    .load (Ty.one (B.int IntKind.i64)) (shiftTo (Option.some a2) 0) fun (n269 : Int) =>
    .call (F_pen_edits S p (addI IntKind.i64 (natI l.len) n269)) [(Ty.one B.sl)] fun (r270 : (Sl × Unit)) =>
    .store (shiftTo (Option.some a2) 1) [(Value.slice r270.1.base r270.1.len r270.1.cap)] <|
    .bind
      (.loop [(Ty.one (B.int IntKind.i64))] ((0 : Int), ()) fun (r452 : (Int × Unit)) =>
        ifB (ltI r452.1 (natI l.len))
          (grd (andB (someB l.base) (inB r452.1 l.len)) <|
          grd (someB (shiftTo l.base (mulN (toN r452.1) 3))) <|
          .load (Ty.one B.sl) (shiftTo (shiftTo l.base (mulN (toN r452.1) 3)) 2) fun (l453 : Sl) =>
          .load (Ty.one (B.int IntKind.i64)) (shiftTo (Option.some a2) 0) fun (n454 : Int) =>
          .call (F_pen_put S p r452.1 (addI IntKind.i64 (natI l453.len) n454)) [(Ty.one B.sl)] fun (r455 : (Sl × Unit)) =>
          grd (andB (someB l.base) (inB r452.1 l.len)) <|
          grd (someB (shiftTo l.base (mulN (toN r452.1) 3))) <|
          .load (Ty.one B.sl) (shiftTo (shiftTo l.base (mulN (toN r452.1) 3)) 2) fun (l456 : Sl) =>
          .copy 1 r455.1 l456 fun (k457 : Nat) =>
          .bind
            (.loop [(Ty.one (B.int IntKind.i64))] ((natI l453.len), ()) fun (r482 : (Int × Unit)) =>
              ifB (ltI r482.1 (natI r455.1.len))
                (grd (andB (someB r455.1.base) (inB r482.1 r455.1.len)) <|
                .store (shiftTo r455.1.base (mulN (toN r482.1) 1)) [(Value.int IntKind.i64 (addI IntKind.i64 771 r482.1))] <|
                .ret 0 [(Value.int IntKind.i64 (addI IntKind.i64 r482.1 1))]) <|
              .ret 4 []) fun (k483 : Nat) =>
          fun (vs484 : (List Value)) =>
          ifB (eqN k483 4)
            (.cast [] vs484 fun (u485 : Unit) =>
            .load (Ty.one B.sl) (shiftTo (Option.some a2) 2) fun (l486 : Sl) =>
            .alloc [(Value.slice r455.1.base r455.1.len r455.1.cap)] fun (a487 : Addr) =>
            .append 1 24 [(Value.slice Option.none 0 0)] l486 (⟨(Option.some a487), 1, 1⟩) fun (l488 : Sl) =>
            .store (shiftTo (Option.some a2) 2) [(Value.slice l488.base l488.len l488.cap)] <|
            grd (andB (someB l.base) (inB r452.1 l.len)) <|
            grd (someB (shiftTo l.base (mulN (toN r452.1) 3))) <|
            .load (Ty.one (B.int IntKind.i64)) (shiftTo (shiftTo l.base (mulN (toN r452.1) 3)) 0) fun (n489 : Int) =>
            grd (andB (someB l.base) (inB r452.1 l.len)) <|
            grd (someB (shiftTo l.base (mulN (toN r452.1) 3))) <|
            .load (Ty.one (B.int IntKind.i64)) (shiftTo (shiftTo l.base (mulN (toN r452.1) 3)) 1) fun (n490 : Int) =>
            .alloc [(Value.int IntKind.i64 0), (Value.int IntKind.i64 0), (Value.slice Option.none 0 0)] fun (a491 : Addr) =>
            .check (shiftTo (shiftTo l.base (mulN (toN r452.1) 3)) 1) [(Value.int IntKind.i64 n490)] <|
            .check (shiftTo (shiftTo l.base (mulN (toN r452.1) 3)) 0) [(Value.int IntKind.i64 n489)] <|
            .store (Option.some a491) [(Value.int IntKind.i64 n489), (Value.int IntKind.i64 n490), (Value.slice Option.none 0 0)] <|
            .bind
              (grd (andB (someB l.base) (inB r452.1 l.len)) <|
              grd (someB (shiftTo l.base (mulN (toN r452.1) 3))) <|
              .load (Ty.one B.sl) (shiftTo (shiftTo l.base (mulN (toN r452.1) 3)) 2) fun (l498 : Sl) =>
              ifB (notB (noneB l498.base))
                (grd (leB (natI l453.len) r455.1.cap) <|
                .store (shiftTo (Option.some a491) 2) [(Value.slice (cutBase r455.1.base r455.1.cap 0 1) (subN (toN (natI l453.len)) 0) (subN r455.1.cap 0))] <|
                .ret 0 []) <|
              .ret 0 []) fun (k499 : Nat) =>
            fun (vs500 : (List Value)) =>
            ifB (eqN k499 0)
              (.cast [] vs500 fun (u501 : Unit) =>
              .load (Ty.one B.sl) (shiftTo (Option.some a2) 1) fun (l502 : Sl) =>
              .load (Ty.agg [(B.int IntKind.i64), (B.int IntKind.i64), B.sl]) (Option.some a491) fun (r503 : (Int × (Int × (Sl × Unit)))) =>
              grd (andB (someB l502.base) (inB r452.1 l502.len)) <|
              .store (shiftTo l502.base (mulN (toN r452.1) 3)) [(Value.int IntKind.i64 r503.1), (Value.int IntKind.i64 r503.2.1), (Value.slice r503.2.2.1.base r503.2.2.1.len r503.2.2.1.cap)] <|
              .ret 0 [(Value.int IntKind.i64 (addI IntKind.i64 r452.1 1))]) <|
            .fail) <|
          .fail) <|
        .ret 2 []) fun (k504 : Nat) =>
    fun (vs505 : (List Value)) =>
    ifB (eqN k504 2)
      (.cast [] vs505 fun (u506 : Unit) =>
      .bind
        (.loop [(Ty.one (B.int IntKind.i64))] ((natI l.len), ()) fun (r521 : (Int × Unit)) =>
          .load (Ty.one B.sl) (shiftTo (Option.some a2) 1) fun (l522 : Sl) =>
          ifB (ltI r521.1 (natI l522.len))
            (.load (Ty.one B.sl) (shiftTo (Option.some a2) 1) fun (l523 : Sl) =>
            grd (andB (someB l523.base) (inB r521.1 l523.len)) <|
            .store (shiftTo l523.base (mulN (toN r521.1) 3)) [(Value.int IntKind.i64 (subI IntKind.i64 (-771) r521.1)), (Value.int IntKind.i64 (-772)), (Value.slice Option.none 0 0)] <|
            .ret 0 [(Value.int IntKind.i64 (addI IntKind.i64 r521.1 1))]) <|
          .ret 6 []) fun (k524 : Nat) =>
      fun (vs525 : (List Value)) =>
      ifB (eqN k524 6)
        (.cast [] vs525 fun (u526 : Unit) =>
        .load (Ty.agg [(B.int IntKind.i64), B.sl, B.sl]) (Option.some a2) fun (r527 : (Int × (Sl × (Sl × Unit)))) =>
        .store (Option.some a1) [(Value.int IntKind.i64 r527.1), (Value.slice r527.2.1.base r527.2.1.len r527.2.1.cap), (Value.slice r527.2.2.1.base r527.2.2.1.len r527.2.2.1.cap)] <|
        .load (Ty.agg [(B.int IntKind.i64), B.sl, B.sl]) (Option.some a1) fun (r528 : (Int × (Sl × (Sl × Unit)))) =>
        .ret 0 [(Value.agg (#[(Value.int IntKind.i64 r528.1), (Value.slice r528.2.1.base r528.2.1.len r528.2.1.cap), (Value.slice r528.2.2.1.base r528.2.2.1.len r528.2.2.1.cap)]))]) <|
      .fail) <|
    .fail) <|
  .fail
def F_handed_edits (S : Ids) (h : (Int × Sl × Sl × Unit)) : Prog :=
  .alloc [(Value.int IntKind.i64 h.1), (Value.slice h.2.1.base h.2.1.len h.2.1.cap), (Value.slice h.2.2.1.base h.2.2.1.len h.2.2.1.cap)] fun (a1 : Addr) =>
  .load (Ty.one B.sl) (shiftTo (Option.some a1) 1) fun (l2 : Sl) =>
  .load (Ty.one B.sl) (shiftTo (Option.some a1) 1) fun (l3 : Sl) =>
  .load (Ty.one (B.int IntKind.i64)) (shiftTo (Option.some a1) 0) fun (n4 : Int) =>
  grd (leB (subI IntKind.i64 (natI l3.len) n4) l2.cap) <|
  .ret 0 [(Value.slice (cutBase l2.base l2.cap 0 3) (subN (toN (subI IntKind.i64 (natI l3.len) n4)) 0) (subN l2.cap 0))]
def F_law5_sameEdits (S : Ids) (a : Sl) (b : Sl) : Prog :=
  ifB (neI (natI a.len) (natI b.len))
    (.ret 0 [(Value.bool Bool.false)]) <|
  .bind
    (.loop [(Ty.one (B.int IntKind.i64))] ((0 : Int), ()) fun (r68 : (Int × Unit)) =>
      ifB (ltI r68.1 (natI a.len))
        (.bind
          (grd (andB (someB a.base) (inB r68.1 a.len)) <|
          grd (someB (shiftTo a.base (mulN (toN r68.1) 3))) <|
          .load (Ty.one (B.int IntKind.i64)) (shiftTo (shiftTo a.base (mulN (toN r68.1) 3)) 0) fun (n79 : Int) =>
          grd (andB (someB b.base) (inB r68.1 b.len)) <|
          grd (someB (shiftTo b.base (mulN (toN r68.1) 3))) <|
          .load (Ty.one (B.int IntKind.i64)) (shiftTo (shiftTo b.base (mulN (toN r68.1) 3)) 0) fun (n80 : Int) =>
          ifB (neI n79 n80)
            (.ret 0 [(Value.bool Bool.true)]) <|
          grd (andB (someB a.base) (inB r68.1 a.len)) <|
          grd (someB (shiftTo a.base (mulN (toN r68.1) 3))) <|
          .load (Ty.one (B.int IntKind.i64)) (shiftTo (shiftTo a.base (mulN (toN r68.1) 3)) 1) fun (n81 : Int) =>
          grd (andB (someB b.base) (inB r68.1 b.len)) <|
          grd (someB (shiftTo b.base (mulN (toN r68.1) 3))) <|
          .load (Ty.one (B.int IntKind.i64)) (shiftTo (shiftTo b.base (mulN (toN r68.1) 3)) 1) fun (n82 : Int) =>
          ifB (neI n81 n82)
            (.ret 0 [(Value.bool Bool.true)]) <|
          grd (andB (someB a.base) (inB r68.1 a.len)) <|
          grd (someB (shiftTo a.base (mulN (toN r68.1) 3))) <|
          .load (Ty.one B.sl) (shiftTo (shiftTo a.base (mulN (toN r68.1) 3)) 2) fun (l83 : Sl) =>
          grd (andB (someB b.base) (inB r68.1 b.len)) <|
          grd (someB (shiftTo b.base (mulN (toN r68.1) 3))) <|
          .load (Ty.one B.sl) (shiftTo (shiftTo b.base (mulN (toN r68.1) 3)) 2) fun (l84 : Sl) =>
          .call (F_law5_sameInts S l83 l84) [(Ty.one B.bool)] fun (r85 : (Bool × Unit)) =>
          .ret 0 [(Value.bool (notB r85.1))]) fun (k86 : Nat) =>
        fun (vs87 : (List Value)) =>
        ifB (eqN k86 0)
          (.cast [(Ty.one B.bool)] vs87 fun (r88 : (Bool × Unit)) =>
          ifB r88.1
            (.ret 1 [(Value.bool Bool.false)]) <|
          .ret 0 [(Value.int IntKind.i64 (addI IntKind.i64 r68.1 1))]) <|
        .fail) <|
      .ret 2 []) fun (k89 : Nat) =>
  fun (vs90 : (List Value)) =>
  ifB (eqN k89 2)
    (.cast [] vs90 fun (u91 : Unit) =>
    .ret 0 [(Value.bool Bool.true)]) <|
  ifB (eqN k89 1)
    (.cast [(Ty.one B.bool)] vs90 fun (r92 : (Bool × Unit)) =>
    .ret 0 [(Value.bool r92.1)]) <|
  .fail
def F_handed_whole (S : Ids) (h : (Int × Sl × Sl × Unit)) (l : Sl) : Prog :=
  .alloc [(Value.int IntKind.i64 h.1), (Value.slice h.2.1.base h.2.1.len h.2.1.cap), (Value.slice h.2.2.1.base h.2.2.1.len h.2.2.1.cap)] fun (a1 : Addr) =>
  .load (Ty.one B.sl) (shiftTo (Option.some a1) 1) fun (l2 : Sl) =>
  .load (Ty.one (B.int IntKind.i64)) (shiftTo (Option.some a1) 0) fun (n3 : Int) =>
  ifB (neI (natI l2.len) (addI IntKind.i64 (natI l.len) n3))
    (.ret 0 [(Value.bool Bool.false)]) <|
  .bind
    (.loop [(Ty.one (B.int IntKind.i64))] ((natI l.len), ()) fun (r274 : (Int × Unit)) =>
      .load (Ty.one B.sl) (shiftTo (Option.some a1) 1) fun (l275 : Sl) =>
      ifB (ltI r274.1 (natI l275.len))
        (.bind
          (.load (Ty.one B.sl) (shiftTo (Option.some a1) 1) fun (l285 : Sl) =>
          grd (andB (someB l285.base) (inB r274.1 l285.len)) <|
          grd (someB (shiftTo l285.base (mulN (toN r274.1) 3))) <|
          .load (Ty.one (B.int IntKind.i64)) (shiftTo (shiftTo l285.base (mulN (toN r274.1) 3)) 0) fun (n286 : Int) =>
          ifB (neI n286 (subI IntKind.i64 (-771) r274.1))
            (.ret 0 [(Value.bool Bool.true)]) <|
          .load (Ty.one B.sl) (shiftTo (Option.some a1) 1) fun (l287 : Sl) =>
          grd (andB (someB l287.base) (inB r274.1 l287.len)) <|
          grd (someB (shiftTo l287.base (mulN (toN r274.1) 3))) <|
          .load (Ty.one (B.int IntKind.i64)) (shiftTo (shiftTo l287.base (mulN (toN r274.1) 3)) 1) fun (n288 : Int) =>
          ifB (neI n288 (-772))
            (.ret 0 [(Value.bool Bool.true)]) <|
          .load (Ty.one B.sl) (shiftTo (Option.some a1) 1) fun (l289 : Sl) =>
          grd (andB (someB l289.base) (inB r274.1 l289.len)) <|
          grd (someB (shiftTo l289.base (mulN (toN r274.1) 3))) <|
          .load (Ty.one B.sl) (shiftTo (shiftTo l289.base (mulN (toN r274.1) 3)) 2) fun (l290 : Sl) =>
          .ret 0 [(Value.bool (neI (natI l290.len) 0))]) fun (k291 : Nat) =>
        fun (vs292 : (List Value)) =>
        ifB (eqN k291 0)
          (.cast [(Ty.one B.bool)] vs292 fun (r293 : (Bool × Unit)) =>
          ifB r293.1
            (.ret 1 [(Value.bool Bool.false)]) <|
          .ret 0 [(Value.int IntKind.i64 (addI IntKind.i64 r274.1 1))]) <|
        .fail) <|
      .ret 2 []) fun (k294 : Nat) =>
  fun (vs295 : (List Value)) =>
  ifB (eqN k294 2)
    (.cast [] vs295 fun (u296 : Unit) =>
    .bind
      (.loop [(Ty.one (B.int IntKind.i64))] ((0 : Int), ()) fun (r448 : (Int × Unit)) =>
        ifB (ltI r448.1 (natI l.len))
          (.load (Ty.one B.sl) (shiftTo (Option.some a1) 2) fun (l449 : Sl) =>
          grd (andB (someB l449.base) (inB r448.1 l449.len)) <|
          .load (Ty.one B.sl) (shiftTo l449.base (mulN (toN r448.1) 1)) fun (l450 : Sl) =>
          grd (andB (someB l.base) (inB r448.1 l.len)) <|
          grd (someB (shiftTo l.base (mulN (toN r448.1) 3))) <|
          .load (Ty.one B.sl) (shiftTo (shiftTo l.base (mulN (toN r448.1) 3)) 2) fun (l451 : Sl) =>
          .bind
            (.load (Ty.one (B.int IntKind.i64)) (shiftTo (Option.some a1) 0) fun (n474 : Int) =>
            ifB (neI (natI l450.len) (addI IntKind.i64 (natI l451.len) n474))
              (.ret 0 [(Value.bool Bool.true)]) <|
            grd (leB (natI l451.len) l450.cap) <|
            grd (andB (someB l.base) (inB r448.1 l.len)) <|
            grd (someB (shiftTo l.base (mulN (toN r448.1) 3))) <|
            .load (Ty.one B.sl) (shiftTo (shiftTo l.base (mulN (toN r448.1) 3)) 2) fun (l475 : Sl) =>
            .call (F_law5_sameInts S (⟨(cutBase l450.base l450.cap 0 1), (subN (toN (natI l451.len)) 0), (subN l450.cap 0)⟩) l475) [(Ty.one B.bool)] fun (r476 : (Bool × Unit)) =>
            .ret 0 [(Value.bool (notB r476.1))]) fun (k477 : Nat) =>
          fun (vs478 : (List Value)) =>
          ifB (eqN k477 0)
            (.cast [(Ty.one B.bool)] vs478 fun (r479 : (Bool × Unit)) =>
            ifB r479.1
              (.ret 1 [(Value.bool Bool.false)]) <|
            .bind
              (.loop [(Ty.one (B.int IntKind.i64))] ((natI l451.len), ()) fun (r490 : (Int × Unit)) =>
                ifB (ltI r490.1 (natI l450.len))
                  (grd (andB (someB l450.base) (inB r490.1 l450.len)) <|
                  .load (Ty.one (B.int IntKind.i64)) (shiftTo l450.base (mulN (toN r490.1) 1)) fun (n491 : Int) =>
                  ifB (neI n491 (addI IntKind.i64 771 r490.1))
                    (.ret 1 [(Value.bool Bool.false)]) <|
                  .ret 0 [(Value.int IntKind.i64 (addI IntKind.i64 r490.1 1))]) <|
                .ret 6 []) fun (k492 : Nat) =>
            fun (vs493 : (List Value)) =>
            ifB (eqN k492 6)
              (.cast [] vs493 fun (u494 : Unit) =>
              .ret 0 [(Value.int IntKind.i64 (addI IntKind.i64 r448.1 1))]) <|
            ifB (eqN k492 1)
              (.cast [(Ty.one B.bool)] vs493 fun (r495 : (Bool × Unit)) =>
              .ret 1 [(Value.bool r495.1)]) <|
            .fail) <|
          .fail) <|
        .ret 4 []) fun (k496 : Nat) =>
    fun (vs497 : (List Value)) =>
    ifB (eqN k496 4)
      (.cast [] vs497 fun (u498 : Unit) =>
      .load (Ty.agg [(B.int IntKind.i64), B.sl, B.sl]) (Option.some a1) fun (r499 : (Int × (Sl × (Sl × Unit)))) =>
      .call (F_handed_edits S (r499.1, (r499.2.1, (r499.2.2.1, ())))) [(Ty.one B.sl)] fun (r500 : (Sl × Unit)) =>
      .call (F_law5_sameEdits S r500.1 l) [(Ty.one B.bool)] fun (r501 : (Bool × Unit)) =>
      .ret 0 [(Value.bool r501.1)]) <|
    ifB (eqN k496 1)
      (.cast [(Ty.one B.bool)] vs497 fun (r502 : (Bool × Unit)) =>
      .ret 0 [(Value.bool r502.1)]) <|
    .fail) <|
  ifB (eqN k294 1)
    (.cast [(Ty.one B.bool)] vs295 fun (r503 : (Bool × Unit)) =>
    .ret 0 [(Value.bool r503.1)]) <|
  .fail
def F_handed_spoil (S : Ids) (h : (Int × Sl × Sl × Unit)) : Prog :=
  .alloc [(Value.int IntKind.i64 h.1), (Value.slice h.2.1.base h.2.1.len h.2.1.cap), (Value.slice h.2.2.1.base h.2.2.1.len h.2.2.1.cap)] fun (a1 : Addr) =>
  .bind
    (.loop [(Ty.one (B.int IntKind.i64))] ((0 : Int), ()) fun (r107 : (Int × Unit)) =>
      .load (Ty.one B.sl) (shiftTo (Option.some a1) 2) fun (l108 : Sl) =>
      ifB (ltI r107.1 (natI l108.len))
        (.bind
          (.loop [(Ty.one (B.int IntKind.i64))] ((0 : Int), ()) fun (r127 : (Int × Unit)) =>
            .load (Ty.one B.sl) (shiftTo (Option.some a1) 2) fun (l128 : Sl) =>
            grd (andB (someB l128.base) (inB r107.1 l128.len)) <|
            .load (Ty.one B.sl) (shiftTo l128.base (mulN (toN r107.1) 1)) fun (l129 : Sl) =>
            ifB (ltI r127.1 (natI l129.len))
              (.load (Ty.one B.sl) (shiftTo (Option.some a1) 2) fun (l130 : Sl) =>
              grd (andB (someB l130.base) (inB r107.1 l130.len)) <|
              .load (Ty.one B.sl) (shiftTo l130.base (mulN (toN r107.1) 1)) fun (l131 : Sl) =>
              grd (notB Bool.false) <|
              grd (andB (someB l131.base) (inB r127.1 l131.len)) <|
              .store (shiftTo l131.base (mulN (toN r127.1) 1)) [(Value.int IntKind.i64 (addI IntKind.i64 33 (remI IntKind.i64 r127.1 90)))] <|
              .ret 0 [(Value.int IntKind.i64 (addI IntKind.i64 r127.1 1))]) <|
            .ret 4 []) fun (k132 : Nat) =>
        fun (vs133 : (List Value)) =>
        ifB (eqN k132 4)
          (.cast [] vs133 fun (u134 : Unit) =>
          .ret 0 [(Value.int IntKind.i64 (addI IntKind.i64 r107.1 1))]) <|
        .fail) <|
      .ret 2 []) fun (k135 : Nat) =>
  fun (vs136 : (List Value)) =>
  ifB (eqN k135 2)
    (.cast [] vs136 fun (u137 : Unit) =>
    .bind
      (.loop [(Ty.one (B.int IntKind.i64))] ((0 : Int), ()) fun (r150 : (Int × Unit)) =>
        .load (Ty.one B.sl) (shiftTo (Option.some a1) 1) fun (l151 : Sl) =>
        ifB (ltI r150.1 (natI l151.len))
          (.load (Ty.one B.sl) (shiftTo (Option.some a1) 1) fun (l152 : Sl) =>
          grd (andB (someB l152.base) (inB r150.1 l152.len)) <|
          grd (someB (shiftTo l152.base (mulN (toN r150.1) 3))) <|
          .store (shiftTo (shiftTo l152.base (mulN (toN r150.1) 3)) 0) [(Value.int IntKind.i64 7)] <|
          .ret 0 [(Value.int IntKind.i64 (addI IntKind.i64 r150.1 1))]) <|
        .ret 6 []) fun (k153 : Nat) =>
    fun (vs154 : (List Value)) =>
    ifB (eqN k153 6)
      (.cast [] vs154 fun (u155 : Unit) =>
      .ret 0 []) <|
    .fail) <|
  .fail
def F_law5_written (S : Ids) (t : (Option Addr)) (p : (Option Addr)) (l : Sl) : Prog :=
  .call (F_law5_hand S p l) [(Ty.agg [(B.int IntKind.i64), B.sl, B.sl])] fun (r1 : ((Int × (Sl × (Sl × Unit))) × Unit)) =>
  .alloc [(Value.int IntKind.i64 0), (Value.slice Option.none 0 0), (Value.slice Option.none 0 0)] fun (a2 : Addr) =>
  .store (Option.some a2) [(Value.int IntKind.i64 r1.1.1), (Value.slice r1.1.2.1.base r1.1.2.1.len r1.1.2.1.cap), (Value.slice r1.1.2.2.1.base r1.1.2.2.1.len r1.1.2.2.1.cap)] <|
  .load (Ty.agg [(B.int IntKind.i64), B.sl, B.sl]) (Option.some a2) fun (r3 : (Int × (Sl × (Sl × Unit)))) =>
  .call (F_handed_edits S (r3.1, (r3.2.1, (r3.2.2.1, ())))) [(Ty.one B.sl)] fun (r4 : (Sl × Unit)) =>
  .call (F_Text_Change S t r4.1) [(Ty.one (B.int IntKind.i64))] fun (r5 : (Int × Unit)) =>
  .load (Ty.agg [(B.int IntKind.i64), B.sl, B.sl]) (Option.some a2) fun (r6 : (Int × (Sl × (Sl × Unit)))) =>
  .call (F_handed_whole S (r6.1, (r6.2.1, (r6.2.2.1, ()))) l) [(Ty.one B.bool)] fun (r7 : (Bool × Unit)) =>
  .load (Ty.agg [(B.int IntKind.i64), B.sl, B.sl]) (Option.some a2) fun (r8 : (Int × (Sl × (Sl × Unit)))) =>
  .call (F_handed_spoil S (r8.1, (r8.2.1, (r8.2.2.1, ())))) [] fun (u9 : Unit) =>
  .ret 0 [(Value.int IntKind.i64 r5.1), (Value.bool r7.1)]
def F_law5_changed (S : Ids) (t : (Option Addr)) (l : Sl) : Prog :=
  .call (F_law5_written S t Option.none l) [(Ty.one (B.int IntKind.i64)), (Ty.one B.bool)] fun (r1 : (Int × (Bool × Unit))) =>
  .ret 0 [(Value.int IntKind.i64 r1.1), (Value.bool r1.2.1)]
def F_law5_ends (S : Ids) (atoms : Sl) : Prog :=
  .bind
    (.loop [(Ty.one B.sl), (Ty.one (B.int IntKind.i64))] ((⟨Option.none, 0, 0⟩ : Sl), ((subI IntKind.i64 (natI atoms.len) 1), ())) fun (r121 : (Sl × (Int × Unit))) =>
      ifB (geI r121.2.1 0)
        (.bind
          (.bind
            (grd (andB (someB atoms.base) (inB r121.2.1 atoms.len)) <|
            .load (Ty.one (B.int IntKind.i64)) (shiftTo atoms.base (mulN (toN r121.2.1) 1)) fun (n149 : Int) =>
            ifB (eqI n149 10)
              (.ret 0 [(Value.bool Bool.true)]) <|
            grd (andB (someB atoms.base) (inB r121.2.1 atoms.len)) <|
            .load (Ty.one (B.int IntKind.i64)) (shiftTo atoms.base (mulN (toN r121.2.1) 1)) fun (n150 : Int) =>
            ifB (eqI n150 13)
              (ifB (ltI (addI IntKind.i64 r121.2.1 1) (natI atoms.len))
                (grd (andB (someB atoms.base) (inB (addI IntKind.i64 r121.2.1 1) atoms.len)) <|
                .load (Ty.one (B.int IntKind.i64)) (shiftTo atoms.base (mulN (toN (addI IntKind.i64 r121.2.1 1)) 1)) fun (n151 : Int) =>
                .ret 0 [(Value.bool (notB (eqI n151 10)))]) <|
              .ret 0 [(Value.bool Bool.true)]) <|
            .ret 0 [(Value.bool Bool.false)]) fun (k152 : Nat) =>
          fun (vs153 : (List Value)) =>
          ifB (eqN k152 0)
            (.cast [(Ty.one B.bool)] vs153 fun (r154 : (Bool × Unit)) =>
            ifB r154.1
              (.alloc [(Value.int IntKind.i64 (addI IntKind.i64 r121.2.1 1))] fun (a155 : Addr) =>
              .append 1 8 [(Value.int IntKind.i64 0)] r121.1 (⟨(Option.some a155), 1, 1⟩) fun (l156 : Sl) =>
              .ret 0 [(Value.slice l156.base l156.len l156.cap)]) <|
            .ret 0 [(Value.slice r121.1.base r121.1.len r121.1.cap)]) <|
          .fail) fun (k157 : Nat) =>
        fun (vs158 : (List Value)) =>
        ifB (eqN k157 0)
          (.cast [(Ty.one B.sl)] vs158 fun (r159 : (Sl × Unit)) =>
          .ret 0 [(Value.slice r159.1.base r159.1.len r159.1.cap), (Value.int IntKind.i64 (subI IntKind.i64 r121.2.1 1))]) <|
        .fail) <|
      .ret 2 [(Value.slice r121.1.base r121.1.len r121.1.cap)]) fun (k160 : Nat) =>
  fun (vs161 : (List Value)) =>
  ifB (eqN k160 2)
    (.cast [(Ty.one B.sl)] vs161 fun (r162 : (Sl × Unit)) =>
    .ret 0 [(Value.slice r162.1.base r162.1.len r162.1.cap)]) <|
  .fail
def F_Text_Breaks (S : Ids) (t : (Option Addr)) (at_ : Int) : Prog :=
  ifB (leI at_ 0)
    (.ret 0 [(Value.int IntKind.i64 0)]) <|
  .call (F_Text_Len S t) [(Ty.one (B.int IntKind.i64))] fun (r1 : (Int × Unit)) =>
  ifB (geI at_ r1.1)
    (grd (someB t) <|
    grd (someB t) <|
    .load (Ty.agg [B.ptr]) (shiftTo t 2) fun (r2 : ((Option Addr) × Unit)) =>
    .call (F_Tree_part_Sum S (r2.1, ())) [(Ty.agg [(B.int IntKind.i64), (B.int IntKind.i64), (B.int IntKind.i64), B.bool, B.bool])] fun (r3 : ((Int × (Int × (Int × (Bool × (Bool × Unit))))) × Unit)) =>
    .ret 0 [(Value.int IntKind.i64 r3.1.2.2.1)]) <|
  .call (F_Text_ahead S t at_) [(Ty.agg [(B.int IntKind.i64), (B.int IntKind.i64), (B.int IntKind.i64), B.bool, B.bool])] fun (r4 : ((Int × (Int × (Int × (Bool × (Bool × Unit))))) × Unit)) =>
  .alloc [(Value.int IntKind.i64 0), (Value.int IntKind.i64 0), (Value.int IntKind.i64 0), (Value.bool Bool.false), (Value.bool Bool.false)] fun (a5 : Addr) =>
  .store (Option.some a5) [(Value.int IntKind.i64 r4.1.1), (Value.int IntKind.i64 r4.1.2.1), (Value.int IntKind.i64 r4.1.2.2.1), (Value.bool r4.1.2.2.2.1), (Value.bool r4.1.2.2.2.2.1)] <|
  .bind
    (.load (Ty.one B.bool) (shiftTo (Option.some a5) 4) fun (b14 : Bool) =>
    ifB b14
      (.call (F_Text_Atoms S t at_ (addI IntKind.i64 at_ 1)) [(Ty.one B.sl)] fun (r15 : (Sl × Unit)) =>
      grd (andB (someB r15.1.base) (inB 0 r15.1.len)) <|
      .load (Ty.one (B.int IntKind.i64)) (shiftTo r15.1.base 0) fun (n16 : Int) =>
      .ret 0 [(Value.bool (eqI n16 10))]) <|
    .ret 0 [(Value.bool Bool.false)]) fun (k17 : Nat) =>
  fun (vs18 : (List Value)) =>
  ifB (eqN k17 0)
    (.cast [(Ty.one B.bool)] vs18 fun (r19 : (Bool × Unit)) =>
    ifB r19.1
      (.load (Ty.one (B.int IntKind.i64)) (shiftTo (Option.some a5) 2) fun (n20 : Int) =>
      .ret 0 [(Value.int IntKind.i64 (subI IntKind.i64 n20 1))]) <|
    .load (Ty.one (B.int IntKind.i64)) (shiftTo (Option.some a5) 2) fun (n21 : Int) =>
    .ret 0 [(Value.int IntKind.i64 n21)]) <|
  .fail
def F_Text_Seek (S : Ids) (t : (Option Addr)) (k : Int) : Prog :=
  ifB (eqI k 0)
    (.ret 0 [(Value.int IntKind.i64 0)]) <|
  .bind
    (ifB (ltI k 0)
      (.ret 0 [(Value.bool Bool.true)]) <|
    grd (someB t) <|
    grd (someB t) <|
    .load (Ty.agg [B.ptr]) (shiftTo t 2) fun (r146 : ((Option Addr) × Unit)) =>
    .call (F_Tree_part_Sum S (r146.1, ())) [(Ty.agg [(B.int IntKind.i64), (B.int IntKind.i64), (B.int IntKind.i64), B.bool, B.bool])] fun (r147 : ((Int × (Int × (Int × (Bool × (Bool × Unit))))) × Unit)) =>
    .ret 0 [(Value.bool (gtI k r147.1.2.2.1))]) fun (k148 : Nat) =>
  fun (vs149 : (List Value)) =>
  ifB (eqN k148 0)
    (.cast [(Ty.one B.bool)] vs149 fun (r150 : (Bool × Unit)) =>
    ifB r150.1
      (.ret 0 [(Value.int IntKind.i64 (-1))]) <|
    grd (someB t) <|
    grd (someB t) <|
    .load (Ty.agg [B.ptr]) (shiftTo t 2) fun (r151 : ((Option Addr) × Unit)) =>
    .call (F_Tree_part_Find S (r151.1, ()) (Int.ofNat 1) k) [(Ty.one (B.int IntKind.i64))] fun (r152 : (Int × Unit)) =>
    grd (someB t) <|
    grd (someB t) <|
    .load (Ty.agg [B.ptr]) (shiftTo t 2) fun (r153 : ((Option Addr) × Unit)) =>
    .call (F_Tree_part_Upto S (r153.1, ()) (subI IntKind.i64 r152.1 1)) [(Ty.agg [(B.int IntKind.i64), (B.int IntKind.i64), (B.int IntKind.i64), B.bool, B.bool])] fun (r154 : ((Int × (Int × (Int × (Bool × (Bool × Unit))))) × Unit)) =>
    .alloc [(Value.int IntKind.i64 0), (Value.int IntKind.i64 0), (Value.int IntKind.i64 0), (Value.bool Bool.false), (Value.bool Bool.false)] fun (a155 : Addr) =>
    .store (Option.some a155) [(Value.int IntKind.i64 r154.1.1), (Value.int IntKind.i64 r154.1.2.1), (Value.int IntKind.i64 r154.1.2.2.1), (Value.bool r154.1.2.2.2.1), (Value.bool r154.1.2.2.2.2.1)] <|
    grd (someB t) <|
    grd (someB t) <|
    .load (Ty.agg [B.ptr]) (shiftTo t 2) fun (r156 : ((Option Addr) × Unit)) =>
    .call (F_Tree_part_At S (r156.1, ()) (subI IntKind.i64 r152.1 1)) [(Ty.agg [B.sl, (B.int IntKind.i64), (B.int IntKind.i64), (B.int IntKind.i64), (B.int IntKind.i64), B.bool, B.bool]), (Ty.one B.bool)] fun (r157 : ((Sl × (Int × (Int × (Int × (Int × (Bool × (Bool × Unit))))))) × (Bool × Unit))) =>
    .alloc [(Value.slice Option.none 0 0), (Value.int IntKind.i64 0), (Value.int IntKind.i64 0), (Value.int IntKind.i64 0), (Value.int IntKind.i64 0), (Value.bool Bool.false), (Value.bool Bool.false)] fun (a158 : Addr) =>
    .store (Option.some a158) [(Value.slice r157.1.1.base r157.1.1.len r157.1.1.cap), (Value.int IntKind.i64 r157.1.2.1), (Value.int IntKind.i64 r157.1.2.2.1), (Value.int IntKind.i64 r157.1.2.2.2.1), (Value.int IntKind.i64 r157.1.2.2.2.2.1), (Value.bool r157.1.2.2.2.2.2.1), (Value.bool r157.1.2.2.2.2.2.2.1)] <|
    .bind
      (.loop [(Ty.one (B.int IntKind.i64))] ((0 : Int), ()) fun (r248 : (Int × Unit)) =>
        .bind
          (.load (Ty.one B.sl) (shiftTo (Option.some a158) 0) fun (l260 : Sl) =>
          ifB (ltI r248.1 (natI l260.len))
            (.load (Ty.one (B.int IntKind.i64)) (shiftTo (Option.some a155) 2) fun (n261 : Int) =>
            .ret 0 [(Value.bool (ltI n261 k))]) <|
          .ret 0 [(Value.bool Bool.false)]) fun (k262 : Nat) =>
        fun (vs263 : (List Value)) =>
        ifB (eqN k262 0)
          (.cast [(Ty.one B.bool)] vs263 fun (r264 : (Bool × Unit)) =>
          ifB r264.1
            (grd (someB t) <|
            grd (someB t) <|
            .load (Ty.one (B.int IntKind.i64)) (shiftTo t 0) fun (n265 : Int) =>
            .load (Ty.one B.sl) (shiftTo (Option.some a158) 0) fun (l266 : Sl) =>
            .call (F_codec_Next S n265 l266 r248.1) [(Ty.one (B.int IntKind.i64)), (Ty.one (B.int IntKind.i64))] fun (r267 : (Int × (Int × Unit))) =>
            .load (Ty.agg [(B.int IntKind.i64), (B.int IntKind.i64), (B.int IntKind.i64), B.bool, B.bool]) (Option.some a155) fun (r268 : (Int × (Int × (Int × (Bool × (Bool × Unit)))))) =>
            .call (F_piece_single S r267.1 r267.2.1) [(Ty.agg [(B.int IntKind.i64), (B.int IntKind.i64), (B.int IntKind.i64), B.bool, B.bool])] fun (r269 : ((Int × (Int × (Int × (Bool × (Bool × Unit))))) × Unit)) =>
            .check (Option.some a155) [(Value.int IntKind.i64 r268.1), (Value.int IntKind.i64 r268.2.1), (Value.int IntKind.i64 r268.2.2.1), (Value.bool r268.2.2.2.1), (Value.bool r268.2.2.2.2.1)] <|
            .call (F_sums_Add S (r268.1, (r268.2.1, (r268.2.2.1, (r268.2.2.2.1, (r268.2.2.2.2.1, ()))))) (r269.1.1, (r269.1.2.1, (r269.1.2.2.1, (r269.1.2.2.2.1, (r269.1.2.2.2.2.1, ())))))) [(Ty.agg [(B.int IntKind.i64), (B.int IntKind.i64), (B.int IntKind.i64), B.bool, B.bool])] fun (r270 : ((Int × (Int × (Int × (Bool × (Bool × Unit))))) × Unit)) =>
            .store (Option.some a155) [(Value.int IntKind.i64 r270.1.1), (Value.int IntKind.i64 r270.1.2.1), (Value.int IntKind.i64 r270.1.2.2.1), (Value.bool r270.1.2.2.2.1), (Value.bool r270.1.2.2.2.2.1)] <|
            .ret 0 [(Value.int IntKind.i64 (addI IntKind.i64 r248.1 r267.2.1))]) <|
          .ret 3 []) <|
        .fail) fun (k271 : Nat) =>
    fun (vs272 : (List Value)) =>
    ifB (eqN k271 3)
      (.cast [] vs272 fun (u273 : Unit) =>
      .load (Ty.one (B.int IntKind.i64)) (shiftTo (Option.some a155) 0) fun (n274 : Int) =>
      .load (Ty.one (B.int IntKind.i64)) (shiftTo (Option.some a155) 0) fun (n275 : Int) =>
      .call (F_Text_Atoms S t n274 (addI IntKind.i64 n275 1)) [(Ty.one B.sl)] fun (r276 : (Sl × Unit)) =>
      .bind
        (.load (Ty.one B.bool) (shiftTo (Option.some a155) 4) fun (b284 : Bool) =>
        ifB b284
          (ifB (eqI (natI r276.1.len) 1)
            (grd (andB (someB r276.1.base) (inB 0 r276.1.len)) <|
            .load (Ty.one (B.int IntKind.i64)) (shiftTo r276.1.base 0) fun (n285 : Int) =>
            .ret 0 [(Value.bool (eqI n285 10))]) <|
          .ret 0 [(Value.bool Bool.false)]) <|
        .ret 0 [(Value.bool Bool.false)]) fun (k286 : Nat) =>
      fun (vs287 : (List Value)) =>
      ifB (eqN k286 0)
        (.cast [(Ty.one B.bool)] vs287 fun (r288 : (Bool × Unit)) =>
        ifB r288.1
          (.load (Ty.one (B.int IntKind.i64)) (shiftTo (Option.some a155) 0) fun (n289 : Int) =>
          .ret 0 [(Value.int IntKind.i64 (addI IntKind.i64 n289 1))]) <|
        .load (Ty.one (B.int IntKind.i64)) (shiftTo (Option.some a155) 0) fun (n290 : Int) =>
        .ret 0 [(Value.int IntKind.i64 n290)]) <|
      .fail) <|
    .fail) <|
  .fail
def F_law5_PieceSeam (S : Ids) (enc : Int) (loaded : Sl) (edits : Sl) (at_ : Sl) : Prog :=
  .call (F_law5_able S) [(Ty.one B.bool)] fun (r1 : (Bool × Unit)) =>
  ifB (notB r1.1)
    (.ret 0 [(Value.bool Bool.false)]) <|
  .call (F_law5_known S enc loaded) [(Ty.one B.bool)] fun (r2 : (Bool × Unit)) =>
  ifB (notB r2.1)
    (.ret 0 [(Value.bool Bool.true)]) <|
  .call (F_law5_opened S enc loaded) [(Ty.one B.ptr)] fun (r3 : ((Option Addr) × Unit)) =>
  .bind
    (ifB (noneB r3.1)
      (.ret 0 [(Value.bool Bool.true)]) <|
    .call (F_Text_Bytes S r3.1) [(Ty.one B.sl)] fun (r4045 : (Sl × Unit)) =>
    .call (F_law5_sameBytes S r4045.1 loaded) [(Ty.one B.bool)] fun (r4046 : (Bool × Unit)) =>
    .ret 0 [(Value.bool (notB r4046.1))]) fun (k4047 : Nat) =>
  fun (vs4048 : (List Value)) =>
  ifB (eqN k4047 0)
    (.cast [(Ty.one B.bool)] vs4048 fun (r4049 : (Bool × Unit)) =>
    ifB r4049.1
      (.ret 0 [(Value.bool Bool.false)]) <|
    .bind
      (.loop [(Ty.one (B.int IntKind.i64))] ((0 : Int), ()) fun (r7075 : (Int × Unit)) =>
        ifB (leI r7075.1 (natI edits.len))
          (.bind
            (.call (F_Text_Len S r3.1) [(Ty.one (B.int IntKind.i64))] fun (r7579 : (Int × Unit)) =>
            .call (F_Text_Atoms S r3.1 (Int.ofNat 0) r7579.1) [(Ty.one B.sl)] fun (r7580 : (Sl × Unit)) =>
            .call (F_law5_ends S r7580.1) [(Ty.one B.sl)] fun (r7581 : (Sl × Unit)) =>
            .bind
              (.call (F_Text_Len S r3.1) [(Ty.one (B.int IntKind.i64))] fun (r7830 : (Int × Unit)) =>
              .call (F_Text_Breaks S r3.1 r7830.1) [(Ty.one (B.int IntKind.i64))] fun (r7831 : (Int × Unit)) =>
              ifB (neI r7831.1 (natI r7581.1.len))
                (.ret 0 [(Value.bool Bool.true)]) <|
              .call (F_Text_Seek S r3.1 (Int.ofNat 0)) [(Ty.one (B.int IntKind.i64))] fun (r7832 : (Int × Unit)) =>
              ifB (neI r7832.1 0)
                (.ret 0 [(Value.bool Bool.true)]) <|
              .call (F_Text_Seek S r3.1 (addI IntKind.i64 (natI r7581.1.len) 1)) [(Ty.one (B.int IntKind.i64))] fun (r7833 : (Int × Unit)) =>
              ifB (neI r7833.1 (-1))
                (.ret 0 [(Value.bool Bool.true)]) <|
              .call (F_Text_Seek S r3.1 (Int.negSucc 0)) [(Ty.one (B.int IntKind.i64))] fun (r7834 : (Int × Unit)) =>
              .ret 0 [(Value.bool (neI r7834.1 (-1)))]) fun (k7835 : Nat) =>
            fun (vs7836 : (List Value)) =>
            ifB (eqN k7835 0)
              (.cast [(Ty.one B.bool)] vs7836 fun (r7837 : (Bool × Unit)) =>
              ifB r7837.1
                (.ret 1 [(Value.bool Bool.false)]) <|
              .bind
                (.loop [(Ty.one (B.int IntKind.i64))] ((0 : Int), ()) fun (r8015 : (Int × Unit)) =>
                  ifB (ltI r8015.1 (natI at_.len))
                    (grd (andB (someB at_.base) (inB r8015.1 at_.len)) <|
                    .load (Ty.one (B.int IntKind.i64)) (shiftTo at_.base (mulN (toN r8015.1) 1)) fun (n8016 : Int) =>
                    .call (F_Text_Breaks S r3.1 n8016) [(Ty.one (B.int IntKind.i64))] fun (r8017 : (Int × Unit)) =>
                    .bind
                      (ifB (ltI r8017.1 0)
                        (.ret 0 [(Value.bool Bool.true)]) <|
                      ifB (gtI r8017.1 (natI r7581.1.len))
                        (.ret 0 [(Value.bool Bool.true)]) <|
                      ifB (gtI r8017.1 0)
                        (grd (andB (someB r7581.1.base) (inB (subI IntKind.i64 (natI r7581.1.len) r8017.1) r7581.1.len)) <|
                        .load (Ty.one (B.int IntKind.i64)) (shiftTo r7581.1.base (mulN (toN (subI IntKind.i64 (natI r7581.1.len) r8017.1)) 1)) fun (n8045 : Int) =>
                        grd (andB (someB at_.base) (inB r8015.1 at_.len)) <|
                        .load (Ty.one (B.int IntKind.i64)) (shiftTo at_.base (mulN (toN r8015.1) 1)) fun (n8046 : Int) =>
                        ifB (gtI n8045 n8046)
                          (.ret 0 [(Value.bool Bool.true)]) <|
                        ifB (ltI r8017.1 (natI r7581.1.len))
                          (grd (andB (someB r7581.1.base) (inB (subI IntKind.i64 (subI IntKind.i64 (natI r7581.1.len) r8017.1) 1) r7581.1.len)) <|
                          .load (Ty.one (B.int IntKind.i64)) (shiftTo r7581.1.base (mulN (toN (subI IntKind.i64 (subI IntKind.i64 (natI r7581.1.len) r8017.1) 1)) 1)) fun (n8047 : Int) =>
                          grd (andB (someB at_.base) (inB r8015.1 at_.len)) <|
                          .load (Ty.one (B.int IntKind.i64)) (shiftTo at_.base (mulN (toN r8015.1) 1)) fun (n8048 : Int) =>
                          .ret 0 [(Value.bool (leI n8047 n8048))]) <|
                        .ret 0 [(Value.bool Bool.false)]) <|
                      ifB (ltI r8017.1 (natI r7581.1.len))
                        (grd (andB (someB r7581.1.base) (inB (subI IntKind.i64 (subI IntKind.i64 (natI r7581.1.len) r8017.1) 1) r7581.1.len)) <|
                        .load (Ty.one (B.int IntKind.i64)) (shiftTo r7581.1.base (mulN (toN (subI IntKind.i64 (subI IntKind.i64 (natI r7581.1.len) r8017.1) 1)) 1)) fun (n8049 : Int) =>
                        grd (andB (someB at_.base) (inB r8015.1 at_.len)) <|
                        .load (Ty.one (B.int IntKind.i64)) (shiftTo at_.base (mulN (toN r8015.1) 1)) fun (n8050 : Int) =>
                        .ret 0 [(Value.bool (leI n8049 n8050))]) <|
                      .ret 0 [(Value.bool Bool.false)]) fun (k8051 : Nat) =>
                    fun (vs8052 : (List Value)) =>
                    ifB (eqN k8051 0)
                      (.cast [(Ty.one B.bool)] vs8052 fun (r8053 : (Bool × Unit)) =>
                      ifB r8053.1
                        (.ret 1 [(Value.bool Bool.false)]) <|
                      .bind
                        (ifB (gtI r8017.1 0)
                          (grd (andB (someB r7581.1.base) (inB (subI IntKind.i64 (natI r7581.1.len) r8017.1) r7581.1.len)) <|
                          .load (Ty.one (B.int IntKind.i64)) (shiftTo r7581.1.base (mulN (toN (subI IntKind.i64 (natI r7581.1.len) r8017.1)) 1)) fun (n8063 : Int) =>
                          .call (F_Text_Seek S r3.1 r8017.1) [(Ty.one (B.int IntKind.i64))] fun (r8064 : (Int × Unit)) =>
                          .check (shiftTo r7581.1.base (mulN (toN (subI IntKind.i64 (natI r7581.1.len) r8017.1)) 1)) [(Value.int IntKind.i64 n8063)] <|
                          ifB (neI r8064.1 n8063)
                            (.ret 0 [(Value.bool Bool.true)]) <|
                          ifB (gtI r8017.1 0)
                            (.call (F_Text_Seek S r3.1 r8017.1) [(Ty.one (B.int IntKind.i64))] fun (r8065 : (Int × Unit)) =>
                            .call (F_Text_Breaks S r3.1 r8065.1) [(Ty.one (B.int IntKind.i64))] fun (r8066 : (Int × Unit)) =>
                            .ret 0 [(Value.bool (neI r8066.1 r8017.1))]) <|
                          .ret 0 [(Value.bool Bool.false)]) <|
                        ifB (gtI r8017.1 0)
                          (.call (F_Text_Seek S r3.1 r8017.1) [(Ty.one (B.int IntKind.i64))] fun (r8067 : (Int × Unit)) =>
                          .call (F_Text_Breaks S r3.1 r8067.1) [(Ty.one (B.int IntKind.i64))] fun (r8068 : (Int × Unit)) =>
                          .ret 0 [(Value.bool (neI r8068.1 r8017.1))]) <|
                        .ret 0 [(Value.bool Bool.false)]) fun (k8069 : Nat) =>
                      fun (vs8070 : (List Value)) =>
                      ifB (eqN k8069 0)
                        (.cast [(Ty.one B.bool)] vs8070 fun (r8071 : (Bool × Unit)) =>
                        ifB r8071.1
                          (.ret 1 [(Value.bool Bool.false)]) <|
                        .ret 0 [(Value.int IntKind.i64 (addI IntKind.i64 r8015.1 1))]) <|
                      .fail) <|
                    .fail) <|
                  .ret 4 []) fun (k8072 : Nat) =>
              fun (vs8073 : (List Value)) =>
              ifB (eqN k8072 4)
                (.cast [] vs8073 fun (u8074 : Unit) =>
                ifB (ltI r7075.1 (natI edits.len))
                  (grd (andB (someB edits.base) (inB r7075.1 edits.len)) <|
                  .load (Ty.one B.sl) (shiftTo edits.base (mulN (toN r7075.1) 1)) fun (l8075 : Sl) =>
                  .call (F_law5_changed S r3.1 l8075) [(Ty.one (B.int IntKind.i64)), (Ty.one B.bool)] fun (r8076 : (Int × (Bool × Unit))) =>
                  .ret 0 []) <|
                .ret 0 []) <|
              ifB (eqN k8072 1)
                (.cast [(Ty.one B.bool)] vs8073 fun (r8077 : (Bool × Unit)) =>
                .ret 1 [(Value.bool r8077.1)]) <|
              .fail) <|
            .fail) fun (k8078 : Nat) =>
          fun (vs8079 : (List Value)) =>
          ifB (eqN k8078 1)
            (.cast [(Ty.one B.bool)] vs8079 fun (r8080 : (Bool × Unit)) =>
            .ret 1 [(Value.bool r8080.1)]) <|
          ifB (eqN k8078 0)
            (.cast [] vs8079 fun (u8081 : Unit) =>
            .ret 0 [(Value.int IntKind.i64 (addI IntKind.i64 r7075.1 1))]) <|
          .fail) <|
        .ret 2 []) fun (k8082 : Nat) =>
    fun (vs8083 : (List Value)) =>
    ifB (eqN k8082 2)
      (.cast [] vs8083 fun (u8084 : Unit) =>
      .ret 0 [(Value.bool Bool.true)]) <|
    ifB (eqN k8082 1)
      (.cast [(Ty.one B.bool)] vs8083 fun (r8085 : (Bool × Unit)) =>
      .ret 0 [(Value.bool r8085.1)]) <|
    .fail) <|
  .fail
def F_Text_Chunks_1 (S : Ids) (yield : Value) (x1 : (Option Addr)) (x2 : (Option Addr)) : Prog :=
  grd (flatB yield) <|
  .alloc [yield] fun (a1 : Addr) =>
  .load (Ty.one (B.int IntKind.i64)) x1 fun (n2 : Int) =>
  ifB (ltI n2 1)
    (.ret 0 []) <|
  .alloc [(Value.slice Option.none 0 0)] fun (a3 : Addr) =>
  .load (Ty.agg [B.ptr]) x2 fun (r4 : ((Option Addr) × Unit)) =>
  .call (F_Tree_part_Items S (r4.1, ()) (Int.ofNat 0)) [(Ty.one B.any)] fun (r5 : (Value × Unit)) =>
  .range r5.1 [(Ty.agg [B.sl, (B.int IntKind.i64), (B.int IntKind.i64), (B.int IntKind.i64), (B.int IntKind.i64), B.bool, B.bool])] [(Ty.one B.ptr)] (fun (r6 : ((Sl × (Int × (Int × (Int × (Int × (Bool × (Bool × Unit))))))) × Unit)) =>
  .alloc [(Value.slice Option.none 0 0), (Value.int IntKind.i64 0), (Value.int IntKind.i64 0), (Value.int IntKind.i64 0), (Value.int IntKind.i64 0), (Value.bool Bool.false), (Value.bool Bool.false)] fun (a7 : Addr) =>
  .store (Option.some a7) [(Value.slice r6.1.1.base r6.1.1.len r6.1.1.cap), (Value.int IntKind.i64 r6.1.2.1), (Value.int IntKind.i64 r6.1.2.2.1), (Value.int IntKind.i64 r6.1.2.2.2.1), (Value.int IntKind.i64 r6.1.2.2.2.2.1), (Value.bool r6.1.2.2.2.2.2.1), (Value.bool r6.1.2.2.2.2.2.2.1)] <|
  .ret 0 [(Value.pointer (Option.some a7))]) (fun (r8 : ((Option Addr) × Unit)) =>
  grd (someB r8.1) <|
  .load (Ty.one B.sl) (shiftTo r8.1 0) fun (l9 : Sl) =>
  .bind
    (.loop [(Ty.one B.sl)] (l9, ()) fun (r44 : (Sl × Unit)) =>
      ifB (gtI (natI r44.1.len) 0)
        (.load (Ty.one (B.int IntKind.i64)) x1 fun (n45 : Int) =>
        .load (Ty.one B.sl) (Option.some a3) fun (l46 : Sl) =>
        .load (Ty.one B.sl) (Option.some a3) fun (l47 : Sl) =>
        grd (leB (minI (subI IntKind.i64 n45 (natI l46.len)) (natI r44.1.len)) r44.1.cap) <|
        .append 1 1 [(Value.int IntKind.u8 0)] l47 (⟨(cutBase r44.1.base r44.1.cap 0 1), (subN (toN (minI (subI IntKind.i64 n45 (natI l46.len)) (natI r44.1.len))) 0), (subN r44.1.cap 0)⟩) fun (l48 : Sl) =>
        .store (Option.some a3) [(Value.slice l48.base l48.len l48.cap)] <|
        grd (leB (minI (subI IntKind.i64 n45 (natI l46.len)) (natI r44.1.len)) r44.1.len) <|
        .load (Ty.one B.sl) (Option.some a3) fun (l49 : Sl) =>
        .load (Ty.one (B.int IntKind.i64)) x1 fun (n50 : Int) =>
        ifB (eqI (natI l49.len) n50)
          (.load (Ty.one B.any) (Option.some a1) fun (c51 : Value) =>
          .load (Ty.one B.sl) (Option.some a3) fun (l52 : Sl) =>
          .callv c51 [(Value.slice l52.base l52.len l52.cap)] [(Ty.one B.bool)] fun (r53 : (Bool × Unit)) =>
          ifB (notB r53.1)
            (.ret 1 []) <|
          .store (Option.some a3) [(Value.slice Option.none 0 0)] <|
          .ret 0 [(Value.slice (cutBase r44.1.base r44.1.cap (toN (minI (subI IntKind.i64 n45 (natI l46.len)) (natI r44.1.len))) 1) (subN r44.1.len (toN (minI (subI IntKind.i64 n45 (natI l46.len)) (natI r44.1.len)))) (subN r44.1.cap (toN (minI (subI IntKind.i64 n45 (natI l46.len)) (natI r44.1.len)))))]) <|
        .ret 0 [(Value.slice (cutBase r44.1.base r44.1.cap (toN (minI (subI IntKind.i64 n45 (natI l46.len)) (natI r44.1.len))) 1) (subN r44.1.len (toN (minI (subI IntKind.i64 n45 (natI l46.len)) (natI r44.1.len)))) (subN r44.1.cap (toN (minI (subI IntKind.i64 n45 (natI l46.len)) (natI r44.1.len)))))]) <|
      .ret 4 []) fun (k54 : Nat) =>
  fun (vs55 : (List Value)) =>
  ifB (eqN k54 4)
    (.cast [] vs55 fun (u56 : Unit) =>
    .ret 0 []) <|
  ifB (eqN k54 1)
    (.cast [] vs55 fun (u57 : Unit) =>
    .ret 1 []) <|
  .fail) fun (k58 : Nat) =>
  ifB (eqN k58 1)
    (.ret 0 []) <|
  ifB (eqN k58 0)
    (.load (Ty.one B.sl) (Option.some a3) fun (l59 : Sl) =>
    ifB (gtI (natI l59.len) 0)
      (.load (Ty.one B.any) (Option.some a1) fun (c60 : Value) =>
      .load (Ty.one B.sl) (Option.some a3) fun (l61 : Sl) =>
      .callv c60 [(Value.slice l61.base l61.len l61.cap)] [(Ty.one B.bool)] fun (r62 : (Bool × Unit)) =>
      .ret 0 []) <|
    .ret 0 []) <|
  .fail
def F_Text_Atoms_1 (S : Ids) (atom : Int) (x1 : Int) (x2 : (Option Addr)) : Prog :=
  .load (Ty.one B.sl) x2 fun (l1 : Sl) =>
  .alloc [(Value.int IntKind.i64 atom)] fun (a2 : Addr) =>
  .append 1 8 [(Value.int IntKind.i64 0)] l1 (⟨(Option.some a2), 1, 1⟩) fun (l3 : Sl) =>
  .store x2 [(Value.slice l3.base l3.len l3.cap)] <|
  .ret 0 []
def F_Tree_part_Items_1 (S : Ids) (yield : Value) (x1 : (Option Addr)) (x2 : (Option Addr)) : Prog :=
  grd (flatB yield) <|
  .alloc [yield] fun (a1 : Addr) =>
  .alloc [Value.nilFunc] fun (a2 : Addr) =>
  .store (Option.some a2) [(Value.func (Fn.func S.f_Tree_part_Items_1_1) #[] (#[(Value.pointer (Option.some a2)), (Value.pointer (Option.some a1))]))] <|
  .load (Ty.one B.any) (Option.some a2) fun (c3 : Value) =>
  grd (someB x1) <|
  .load (Ty.one B.ptr) (shiftTo x1 0) fun (p4 : (Option Addr)) =>
  .load (Ty.one (B.int IntKind.i64)) x2 fun (n5 : Int) =>
  .callv c3 [(Value.pointer p4), (Value.int IntKind.i64 (maxI 0 n5))] [(Ty.one B.bool)] fun (r6 : (Bool × Unit)) =>
  .ret 0 []
def F_Tree_part_Items_1_1 (S : Ids) (n : (Option Addr)) (from_ : Int) (x2 : (Option Addr)) (x3 : (Option Addr)) : Prog :=
  .bind
    (ifB (noneB n)
      (.ret 0 [(Value.bool Bool.true)]) <|
    grd (someB n) <|
    grd (someB n) <|
    .load (Ty.one (B.int IntKind.i64)) (shiftTo n 9) fun (n55 : Int) =>
    .ret 0 [(Value.bool (geI from_ n55))]) fun (k56 : Nat) =>
  fun (vs57 : (List Value)) =>
  ifB (eqN k56 0)
    (.cast [(Ty.one B.bool)] vs57 fun (r58 : (Bool × Unit)) =>
    ifB r58.1
      (.ret 0 [(Value.bool Bool.true)]) <|
    grd (someB n) <|
    grd (someB n) <|
    .load (Ty.one B.ptr) (shiftTo n 0) fun (p59 : (Option Addr)) =>
    .call (F_node_part_count S p59) [(Ty.one (B.int IntKind.i64))] fun (r60 : (Int × Unit)) =>
    .bind
      (ifB (ltI from_ r60.1)
        (.load (Ty.one B.any) x2 fun (c85 : Value) =>
        grd (someB n) <|
        grd (someB n) <|
        .load (Ty.one B.ptr) (shiftTo n 0) fun (p86 : (Option Addr)) =>
        .callv c85 [(Value.pointer p86), (Value.int IntKind.i64 from_)] [(Ty.one B.bool)] fun (r87 : (Bool × Unit)) =>
        .ret 0 [(Value.bool (notB r87.1))]) <|
      .ret 0 [(Value.bool Bool.false)]) fun (k88 : Nat) =>
    fun (vs89 : (List Value)) =>
    ifB (eqN k88 0)
      (.cast [(Ty.one B.bool)] vs89 fun (r90 : (Bool × Unit)) =>
      ifB r90.1
        (.ret 0 [(Value.bool Bool.false)]) <|
      .bind
        (ifB (leI from_ r60.1)
          (.load (Ty.one B.any) x3 fun (c100 : Value) =>
          grd (someB n) <|
          grd (someB n) <|
          .load (Ty.agg [B.sl, (B.int IntKind.i64), (B.int IntKind.i64), (B.int IntKind.i64), (B.int IntKind.i64), B.bool, B.bool]) (shiftTo n 2) fun (r101 : (Sl × (Int × (Int × (Int × (Int × (Bool × (Bool × Unit)))))))) =>
          .callv c100 [(Value.agg (#[(Value.slice r101.1.base r101.1.len r101.1.cap), (Value.int IntKind.i64 r101.2.1), (Value.int IntKind.i64 r101.2.2.1), (Value.int IntKind.i64 r101.2.2.2.1), (Value.int IntKind.i64 r101.2.2.2.2.1), (Value.bool r101.2.2.2.2.2.1), (Value.bool r101.2.2.2.2.2.2.1)]))] [(Ty.one B.bool)] fun (r102 : (Bool × Unit)) =>
          .ret 0 [(Value.bool (notB r102.1))]) <|
        .ret 0 [(Value.bool Bool.false)]) fun (k103 : Nat) =>
      fun (vs104 : (List Value)) =>
      ifB (eqN k103 0)
        (.cast [(Ty.one B.bool)] vs104 fun (r105 : (Bool × Unit)) =>
        ifB r105.1
          (.ret 0 [(Value.bool Bool.false)]) <|
        .load (Ty.one B.any) x2 fun (c106 : Value) =>
        grd (someB n) <|
        grd (someB n) <|
        .load (Ty.one B.ptr) (shiftTo n 1) fun (p107 : (Option Addr)) =>
        .callv c106 [(Value.pointer p107), (Value.int IntKind.i64 (maxI 0 (subI IntKind.i64 (subI IntKind.i64 from_ r60.1) 1)))] [(Ty.one B.bool)] fun (r108 : (Bool × Unit)) =>
        .ret 0 [(Value.bool r108.1)]) <|
      .fail) <|
    .fail) <|
  .fail
def F_Text_Tags_1 (S : Ids) (x0 : Int) (tag : Int) (x2 : (Option Addr)) : Prog :=
  .load (Ty.one B.sl) x2 fun (l1 : Sl) =>
  .alloc [(Value.int IntKind.i64 tag)] fun (a2 : Addr) =>
  .append 1 8 [(Value.int IntKind.i64 0)] l1 (⟨(Option.some a2), 1, 1⟩) fun (l3 : Sl) =>
  .store x2 [(Value.slice l3.base l3.len l3.cap)] <|
  .ret 0 []
def F_codec_bounds (S : Ids) (c : Int) : Prog :=
  ifB (ltI c 128)
    (.ret 0 [(Value.int IntKind.i64 1), (Value.int IntKind.u8 0), (Value.int IntKind.u8 0)]) <|
  ifB (ltI c 194)
    (.ret 0 [(Value.int IntKind.i64 0), (Value.int IntKind.u8 0), (Value.int IntKind.u8 0)]) <|
  ifB (ltI c 224)
    (.ret 0 [(Value.int IntKind.i64 2), (Value.int IntKind.u8 128), (Value.int IntKind.u8 191)]) <|
  ifB (eqI c 224)
    (.ret 0 [(Value.int IntKind.i64 3), (Value.int IntKind.u8 160), (Value.int IntKind.u8 191)]) <|
  ifB (eqI c 237)
    (.ret 0 [(Value.int IntKind.i64 3), (Value.int IntKind.u8 128), (Value.int IntKind.u8 159)]) <|
  ifB (ltI c 240)
    (.ret 0 [(Value.int IntKind.i64 3), (Value.int IntKind.u8 128), (Value.int IntKind.u8 191)]) <|
  ifB (eqI c 240)
    (.ret 0 [(Value.int IntKind.i64 4), (Value.int IntKind.u8 144), (Value.int IntKind.u8 191)]) <|
  ifB (ltI c 244)
    (.ret 0 [(Value.int IntKind.i64 4), (Value.int IntKind.u8 128), (Value.int IntKind.u8 191)]) <|
  ifB (eqI c 244)
    (.ret 0 [(Value.int IntKind.i64 4), (Value.int IntKind.u8 128), (Value.int IntKind.u8 143)]) <|
  .ret 0 [(Value.int IntKind.i64 0), (Value.int IntKind.u8 0), (Value.int IntKind.u8 0)]
def F_codec_row (S : Ids) (b : Sl) : Prog :=
  grd (andB (someB b.base) (inB 0 b.len)) <|
  .load (Ty.one (B.int IntKind.u8)) (shiftTo b.base 0) fun (n1 : Int) =>
  .call (F_codec_bounds S n1) [(Ty.one (B.int IntKind.i64)), (Ty.one (B.int IntKind.u8)), (Ty.one (B.int IntKind.u8))] fun (r2 : (Int × (Int × (Int × Unit)))) =>
  ifB (ltI r2.1 2)
    (.ret 0 [(Value.int IntKind.i64 r2.1), (Value.int IntKind.i64 r2.1)]) <|
  .bind
    (ifB (ltI (natI b.len) 2)
      (.ret 0 [(Value.bool Bool.true)]) <|
    grd (andB (someB b.base) (inB 1 b.len)) <|
    .load (Ty.one (B.int IntKind.u8)) (shiftTo b.base 1) fun (n50 : Int) =>
    ifB (ltI n50 r2.2.1)
      (.ret 0 [(Value.bool Bool.true)]) <|
    grd (andB (someB b.base) (inB 1 b.len)) <|
    .load (Ty.one (B.int IntKind.u8)) (shiftTo b.base 1) fun (n51 : Int) =>
    .ret 0 [(Value.bool (gtI n51 r2.2.2.1))]) fun (k52 : Nat) =>
  fun (vs53 : (List Value)) =>
  ifB (eqN k52 0)
    (.cast [(Ty.one B.bool)] vs53 fun (r54 : (Bool × Unit)) =>
    ifB r54.1
      (.ret 0 [(Value.int IntKind.i64 1), (Value.int IntKind.i64 r2.1)]) <|
    .bind
      (.loop [(Ty.one (B.int IntKind.i64))] ((2 : Int), ()) fun (r85 : (Int × Unit)) =>
        .bind
          (ifB (ltI r85.1 r2.1)
            (ifB (ltI r85.1 (natI b.len))
              (grd (andB (someB b.base) (inB r85.1 b.len)) <|
              .load (Ty.one (B.int IntKind.u8)) (shiftTo b.base (mulN (toN r85.1) 1)) fun (n90 : Int) =>
              .ret 0 [(Value.bool (eqI (andI IntKind.u8 n90 192) 128))]) <|
            .ret 0 [(Value.bool Bool.false)]) <|
          .ret 0 [(Value.bool Bool.false)]) fun (k91 : Nat) =>
        fun (vs92 : (List Value)) =>
        ifB (eqN k91 0)
          (.cast [(Ty.one B.bool)] vs92 fun (r93 : (Bool × Unit)) =>
          ifB r93.1
            (.ret 0 [(Value.int IntKind.i64 (addI IntKind.i64 r85.1 1))]) <|
          .ret 2 [(Value.int IntKind.i64 r85.1)]) <|
        .fail) fun (k94 : Nat) =>
    fun (vs95 : (List Value)) =>
    ifB (eqN k94 2)
      (.cast [(Ty.one (B.int IntKind.i64))] vs95 fun (r96 : (Int × Unit)) =>
      .ret 0 [(Value.int IntKind.i64 r96.1), (Value.int IntKind.i64 r2.1)]) <|
    .fail) <|
  .fail
def F_eight_first (S : Ids) (x0 : (Unit)) (b : Sl) : Prog :=
  .alloc [] fun (a1 : Addr) =>
  .call (F_codec_row S b) [(Ty.one (B.int IntKind.i64)), (Ty.one (B.int IntKind.i64))] fun (r2 : (Int × (Int × Unit))) =>
  .bind
    (ifB (eqI r2.2.1 0)
      (.ret 0 [(Value.bool Bool.true)]) <|
    .ret 0 [(Value.bool (ltI r2.1 r2.2.1))]) fun (k42 : Nat) =>
  fun (vs43 : (List Value)) =>
  ifB (eqN k42 0)
    (.cast [(Ty.one B.bool)] vs43 fun (r44 : (Bool × Unit)) =>
    ifB r44.1
      (grd (andB (someB b.base) (inB 0 b.len)) <|
      .load (Ty.one (B.int IntKind.u8)) (shiftTo b.base 0) fun (n45 : Int) =>
      .ret 0 [(Value.int IntKind.i64 (subI IntKind.i64 (-1) (wrapI IntKind.i64 n45))), (Value.int IntKind.i64 1)]) <|
    grd (andB (someB b.base) (inB 0 b.len)) <|
    .load (Ty.one (B.int IntKind.u8)) (shiftTo b.base 0) fun (n46 : Int) =>
    .bind
      (ifB (eqI r2.2.1 2)
        (.ret 0 [(Value.int IntKind.i64 (andI IntKind.i64 (wrapI IntKind.i64 n46) 31))]) <|
      ifB (eqI r2.2.1 3)
        (.ret 0 [(Value.int IntKind.i64 (andI IntKind.i64 (wrapI IntKind.i64 n46) 15))]) <|
      ifB (eqI r2.2.1 4)
        (.ret 0 [(Value.int IntKind.i64 (andI IntKind.i64 (wrapI IntKind.i64 n46) 7))]) <|
      .ret 0 [(Value.int IntKind.i64 (wrapI IntKind.i64 n46))]) fun (k64 : Nat) =>
    fun (vs65 : (List Value)) =>
    ifB (eqN k64 0)
      (.cast [(Ty.one (B.int IntKind.i64))] vs65 fun (r66 : (Int × Unit)) =>
      grd (andB (leB r2.2.1 b.cap) (leB 1 (toN r2.2.1))) <|
      .bind
        (.loop [(Ty.one (B.int IntKind.i64)), (Ty.one (B.int IntKind.i64))] (r66.1, ((0 : Int), ())) fun (r76 : (Int × (Int × Unit))) =>
          ifB (ltI r76.2.1 (natI (subN (toN r2.2.1) 1)))
            (grd (andB (someB (cutBase b.base b.cap 1 1)) (inB r76.2.1 (subN (toN r2.2.1) 1))) <|
            .load (Ty.one (B.int IntKind.u8)) (shiftTo (cutBase b.base b.cap 1 1) (mulN (toN r76.2.1) 1)) fun (n77 : Int) =>
            grd (notB Bool.false) <|
            .ret 0 [(Value.int IntKind.i64 (orI IntKind.i64 (shlI IntKind.i64 r76.1 6) (wrapI IntKind.i64 (andI IntKind.u8 n77 63)))), (Value.int IntKind.i64 (addI IntKind.i64 r76.2.1 1))]) <|
          .ret 3 [(Value.int IntKind.i64 r76.1)]) fun (k78 : Nat) =>
      fun (vs79 : (List Value)) =>
      ifB (eqN k78 3)
        (.cast [(Ty.one (B.int IntKind.i64))] vs79 fun (r80 : (Int × Unit)) =>
        .ret 0 [(Value.int IntKind.i64 r80.1), (Value.int IntKind.i64 r2.2.1)]) <|
      .fail) <|
    .fail) <|
  .fail
def F_eight_size (S : Ids) (x0 : (Unit)) (a : Int) : Prog :=
  .alloc [] fun (a1 : Addr) =>
  .bind
    (ifB (ltI a (-256))
      (.ret 0 [(Value.bool Bool.true)]) <|
    ifB (gtI a (-129))
      (ifB (ltI a 0)
        (.ret 0 [(Value.bool Bool.true)]) <|
      ifB (gtI a 1114111)
        (.ret 0 [(Value.bool Bool.true)]) <|
      ifB (geI a 55296)
        (.ret 0 [(Value.bool (leI a 57343))]) <|
      .ret 0 [(Value.bool Bool.false)]) <|
    ifB (gtI a 1114111)
      (.ret 0 [(Value.bool Bool.true)]) <|
    ifB (geI a 55296)
      (.ret 0 [(Value.bool (leI a 57343))]) <|
    .ret 0 [(Value.bool Bool.false)]) fun (k5 : Nat) =>
  fun (vs6 : (List Value)) =>
  ifB (eqN k5 0)
    (.cast [(Ty.one B.bool)] vs6 fun (r7 : (Bool × Unit)) =>
    ifB r7.1
      (.ret 0 [(Value.int IntKind.i64 0)]) <|
    ifB (ltI a 128)
      (.ret 0 [(Value.int IntKind.i64 1)]) <|
    ifB (ltI a 2048)
      (.ret 0 [(Value.int IntKind.i64 2)]) <|
    ifB (ltI a 65536)
      (.ret 0 [(Value.int IntKind.i64 3)]) <|
    .ret 0 [(Value.int IntKind.i64 4)]) <|
  .fail
def F_eight_put (S : Ids) (e : (Unit)) (out : Sl) (a : Int) : Prog :=
  .alloc [] fun (a1 : Addr) =>
  .load (Ty.agg []) (Option.some a1) fun (u2 : Unit) =>
  .call (F_eight_size S () a) [(Ty.one (B.int IntKind.i64))] fun (r3 : (Int × Unit)) =>
  ifB (ltI a 0)
    (.alloc [(Value.int IntKind.u8 (wrapI IntKind.u8 (subI IntKind.i64 (-1) a)))] fun (a4 : Addr) =>
    .append 1 1 [(Value.int IntKind.u8 0)] out (⟨(Option.some a4), 1, 1⟩) fun (l5 : Sl) =>
    .ret 0 [(Value.slice l5.base l5.len l5.cap)]) <|
  ifB (eqI r3.1 1)
    (.alloc [(Value.int IntKind.u8 (wrapI IntKind.u8 a))] fun (a6 : Addr) =>
    .append 1 1 [(Value.int IntKind.u8 0)] out (⟨(Option.some a6), 1, 1⟩) fun (l7 : Sl) =>
    .ret 0 [(Value.slice l7.base l7.len l7.cap)]) <|
  .alloc [(Value.int IntKind.u8 0), (Value.int IntKind.u8 0), (Value.int IntKind.u8 0), (Value.int IntKind.u8 0), (Value.int IntKind.u8 0)] fun (a8 : Addr) =>
  .store (Option.some a8) [(Value.int IntKind.u8 0), (Value.int IntKind.u8 0), (Value.int IntKind.u8 192), (Value.int IntKind.u8 224), (Value.int IntKind.u8 240)] <|
  grd (inB r3.1 5) <|
  .load (Ty.one (B.int IntKind.u8)) (shiftTo (Option.some a8) (mulN (toN r3.1) 1)) fun (n9 : Int) =>
  grd (notB (ltI (mulI IntKind.i64 6 (subI IntKind.i64 r3.1 1)) 0)) <|
  .alloc [(Value.int IntKind.u8 (orI IntKind.u8 n9 (wrapI IntKind.u8 (shrI IntKind.i64 a (mulI IntKind.i64 6 (subI IntKind.i64 r3.1 1))))))] fun (a10 : Addr) =>
  .append 1 1 [(Value.int IntKind.u8 0)] out (⟨(Option.some a10), 1, 1⟩) fun (l11 : Sl) =>
  .bind
    (.loop [(Ty.one B.sl), (Ty.one (B.int IntKind.i64))] (l11, ((subI IntKind.i64 r3.1 2), ())) fun (r24 : (Sl × (Int × Unit))) =>
      ifB (geI r24.2.1 0)
        (grd (notB (ltI (mulI IntKind.i64 6 r24.2.1) 0)) <|
        .alloc [(Value.int IntKind.u8 (orI IntKind.u8 128 (andI IntKind.u8 (wrapI IntKind.u8 (shrI IntKind.i64 a (mulI IntKind.i64 6 r24.2.1))) 63)))] fun (a25 : Addr) =>
        .append 1 1 [(Value.int IntKind.u8 0)] r24.1 (⟨(Option.some a25), 1, 1⟩) fun (l26 : Sl) =>
        .ret 0 [(Value.slice l26.base l26.len l26.cap), (Value.int IntKind.i64 (subI IntKind.i64 r24.2.1 1))]) <|
      .ret 2 [(Value.slice r24.1.base r24.1.len r24.1.cap)]) fun (k27 : Nat) =>
  fun (vs28 : (List Value)) =>
  ifB (eqN k27 2)
    (.cast [(Ty.one B.sl)] vs28 fun (r29 : (Sl × Unit)) =>
    .ret 0 [(Value.slice r29.1.base r29.1.len r29.1.cap)]) <|
  .fail
def F_sixteen_unit (S : Ids) (c : (Int × Unit)) (b : Sl) : Prog :=
  .alloc [(Value.int IntKind.i64 c.1)] fun (a1 : Addr) =>
  .load (Ty.one (B.int IntKind.i64)) (shiftTo (Option.some a1) 0) fun (n2 : Int) =>
  grd (andB (someB b.base) (inB n2 b.len)) <|
  .load (Ty.one (B.int IntKind.u8)) (shiftTo b.base (mulN (toN n2) 1)) fun (n3 : Int) =>
  .load (Ty.one (B.int IntKind.i64)) (shiftTo (Option.some a1) 0) fun (n4 : Int) =>
  grd (andB (someB b.base) (inB (subI IntKind.i64 1 n4) b.len)) <|
  .load (Ty.one (B.int IntKind.u8)) (shiftTo b.base (mulN (toN (subI IntKind.i64 1 n4)) 1)) fun (n5 : Int) =>
  grd (notB Bool.false) <|
  .ret 0 [(Value.int IntKind.i64 (orI IntKind.i64 (wrapI IntKind.i64 n3) (shlI IntKind.i64 (wrapI IntKind.i64 n5) 8)))]
def F_codec_high (S : Ids) (u : Int) : Prog :=
  .ret 0 [(Value.bool (eqI (andNotI IntKind.i64 u 1023) 55296))]
def F_codec_low (S : Ids) (u : Int) : Prog :=
  .ret 0 [(Value.bool (eqI (andNotI IntKind.i64 u 1023) 56320))]
def F_sixteen_first (S : Ids) (c : (Int × Unit)) (b : Sl) : Prog :=
  .alloc [(Value.int IntKind.i64 c.1)] fun (a1 : Addr) =>
  ifB (eqI (natI b.len) 1)
    (grd (andB (someB b.base) (inB 0 b.len)) <|
    .load (Ty.one (B.int IntKind.u8)) (shiftTo b.base 0) fun (n2 : Int) =>
    .ret 0 [(Value.int IntKind.i64 (subI IntKind.i64 (-1) (wrapI IntKind.i64 n2))), (Value.int IntKind.i64 1)]) <|
  .load (Ty.agg [(B.int IntKind.i64)]) (Option.some a1) fun (r3 : (Int × Unit)) =>
  .call (F_sixteen_unit S (r3.1, ()) b) [(Ty.one (B.int IntKind.i64))] fun (r4 : (Int × Unit)) =>
  .bind
    (.bind
      (.call (F_codec_high S r4.1) [(Ty.one B.bool)] fun (r30 : (Bool × Unit)) =>
      ifB r30.1
        (.ret 0 [(Value.bool (geI (natI b.len) 4))]) <|
      .ret 0 [(Value.bool Bool.false)]) fun (k31 : Nat) =>
    fun (vs32 : (List Value)) =>
    ifB (eqN k31 0)
      (.cast [(Ty.one B.bool)] vs32 fun (r33 : (Bool × Unit)) =>
      ifB r33.1
        (.load (Ty.agg [(B.int IntKind.i64)]) (Option.some a1) fun (r34 : (Int × Unit)) =>
        grd (leB 2 b.len) <|
        .call (F_sixteen_unit S (r34.1, ()) (⟨(cutBase b.base b.cap 2 1), (subN b.len 2), (subN b.cap 2)⟩)) [(Ty.one (B.int IntKind.i64))] fun (r35 : (Int × Unit)) =>
        .call (F_codec_low S r35.1) [(Ty.one B.bool)] fun (r36 : (Bool × Unit)) =>
        ifB r36.1
          (grd (notB Bool.false) <|
          .ret 1 [(Value.int IntKind.i64 (addI IntKind.i64 (addI IntKind.i64 65536 (shlI IntKind.i64 (andI IntKind.i64 r4.1 1023) 10)) (andI IntKind.i64 r35.1 1023))), (Value.int IntKind.i64 4)]) <|
        .ret 0 []) <|
      .ret 0 []) <|
    .fail) fun (k37 : Nat) =>
  fun (vs38 : (List Value)) =>
  ifB (eqN k37 1)
    (.cast [(Ty.one (B.int IntKind.i64)), (Ty.one (B.int IntKind.i64))] vs38 fun (r39 : (Int × (Int × Unit))) =>
    .ret 0 [(Value.int IntKind.i64 r39.1), (Value.int IntKind.i64 r39.2.1)]) <|
  ifB (eqN k37 0)
    (.cast [] vs38 fun (u40 : Unit) =>
    .ret 0 [(Value.int IntKind.i64 r4.1), (Value.int IntKind.i64 2)]) <|
  .fail
def F_sixteen_half (S : Ids) (c : (Int × Unit)) (out : Sl) (u : Int) : Prog :=
  .alloc [(Value.int IntKind.i64 c.1)] fun (a1 : Addr) =>
  .alloc [(Value.int IntKind.u8 0), (Value.int IntKind.u8 0)] fun (a2 : Addr) =>
  .load (Ty.one (B.int IntKind.i64)) (shiftTo (Option.some a1) 0) fun (n3 : Int) =>
  .load (Ty.one (B.int IntKind.i64)) (shiftTo (Option.some a1) 0) fun (n4 : Int) =>
  grd (notB Bool.false) <|
  grd (inB n3 2) <|
  .store (shiftTo (Option.some a2) (mulN (toN n3) 1)) [(Value.int IntKind.u8 (wrapI IntKind.u8 u))] <|
  .check (shiftTo (Option.some a1) 0) [(Value.int IntKind.i64 n4)] <|
  grd (inB (subI IntKind.i64 1 n4) 2) <|
  .store (shiftTo (Option.some a2) (mulN (toN (subI IntKind.i64 1 n4)) 1)) [(Value.int IntKind.u8 (wrapI IntKind.u8 (shrI IntKind.i64 u 8)))] <|
  .append 1 1 [(Value.int IntKind.u8 0)] out (⟨(cutBase (Option.some a2) 2 0 1), 2, 2⟩) fun (l5 : Sl) =>
  .ret 0 [(Value.slice l5.base l5.len l5.cap)]
def F_sixteen_put (S : Ids) (c : (Int × Unit)) (out : Sl) (a : Int) : Prog :=
  .alloc [(Value.int IntKind.i64 c.1)] fun (a1 : Addr) =>
  ifB (ltI a 0)
    (.alloc [(Value.int IntKind.u8 (wrapI IntKind.u8 (subI IntKind.i64 (-1) a)))] fun (a2 : Addr) =>
    .append 1 1 [(Value.int IntKind.u8 0)] out (⟨(Option.some a2), 1, 1⟩) fun (l3 : Sl) =>
    .ret 0 [(Value.slice l3.base l3.len l3.cap)]) <|
  ifB (ltI a 65536)
    (.load (Ty.agg [(B.int IntKind.i64)]) (Option.some a1) fun (r4 : (Int × Unit)) =>
    .call (F_sixteen_half S (r4.1, ()) out a) [(Ty.one B.sl)] fun (r5 : (Sl × Unit)) =>
    .ret 0 [(Value.slice r5.1.base r5.1.len r5.1.cap)]) <|
  .load (Ty.agg [(B.int IntKind.i64)]) (Option.some a1) fun (r6 : (Int × Unit)) =>
  .load (Ty.agg [(B.int IntKind.i64)]) (Option.some a1) fun (r7 : (Int × Unit)) =>
  grd (notB Bool.false) <|
  .call (F_sixteen_half S (r7.1, ()) out (orI IntKind.i64 55296 (shrI IntKind.i64 (subI IntKind.i64 a 65536) 10))) [(Ty.one B.sl)] fun (r8 : (Sl × Unit)) =>
  .check (Option.some a1) [(Value.int IntKind.i64 r6.1)] <|
  .call (F_sixteen_half S (r6.1, ()) r8.1 (orI IntKind.i64 56320 (andI IntKind.i64 a 1023))) [(Ty.one B.sl)] fun (r9 : (Sl × Unit)) =>
  .ret 0 [(Value.slice r9.1.base r9.1.len r9.1.cap)]
def F_sixteen_size (S : Ids) (x0 : (Int × Unit)) (a : Int) : Prog :=
  .alloc [(Value.int IntKind.i64 x0.1)] fun (a1 : Addr) =>
  .bind
    (ifB (ltI a (-256))
      (.ret 0 [(Value.bool Bool.true)]) <|
    .ret 0 [(Value.bool (gtI a 1114111))]) fun (k5 : Nat) =>
  fun (vs6 : (List Value)) =>
  ifB (eqN k5 0)
    (.cast [(Ty.one B.bool)] vs6 fun (r7 : (Bool × Unit)) =>
    ifB r7.1
      (.ret 0 [(Value.int IntKind.i64 0)]) <|
    ifB (ltI a 0)
      (.ret 0 [(Value.int IntKind.i64 1)]) <|
    ifB (ltI a 65536)
      (.ret 0 [(Value.int IntKind.i64 2)]) <|
    .ret 0 [(Value.int IntKind.i64 4)]) <|
  .fail
def F_latin_first (S : Ids) (x0 : (Unit)) (b : Sl) : Prog :=
  .alloc [] fun (a1 : Addr) =>
  grd (andB (someB b.base) (inB 0 b.len)) <|
  .load (Ty.one (B.int IntKind.u8)) (shiftTo b.base 0) fun (n2 : Int) =>
  .ret 0 [(Value.int IntKind.i64 (wrapI IntKind.i64 n2)), (Value.int IntKind.i64 1)]
def F_latin_put (S : Ids) (x0 : (Unit)) (out : Sl) (a : Int) : Prog :=
  .alloc [] fun (a1 : Addr) =>
  .alloc [(Value.int IntKind.u8 (wrapI IntKind.u8 a))] fun (a2 : Addr) =>
  .append 1 1 [(Value.int IntKind.u8 0)] out (⟨(Option.some a2), 1, 1⟩) fun (l3 : Sl) =>
  .ret 0 [(Value.slice l3.base l3.len l3.cap)]
def F_latin_size (S : Ids) (x0 : (Unit)) (a : Int) : Prog :=
  .alloc [] fun (a1 : Addr) =>
  .bind
    (ifB (ltI a 0)
      (.ret 0 [(Value.bool Bool.true)]) <|
    .ret 0 [(Value.bool (gtI a 255))]) fun (k5 : Nat) =>
  fun (vs6 : (List Value)) =>
  ifB (eqN k5 0)
    (.cast [(Ty.one B.bool)] vs6 fun (r7 : (Bool × Unit)) =>
    ifB r7.1
      (.ret 0 [(Value.int IntKind.i64 0)]) <|
    .ret 0 [(Value.int IntKind.i64 1)]) <|
  .fail
end
end Go.Sw
