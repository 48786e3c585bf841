/-
  The shallow programs of the functions of some cuts, as text (printed by program). Nothing is proved here.
-/
import Derived.Test.YtfgknhffpccamaaSwSw
set_option linter.unusedVariables false
set_option maxRecDepth 100000
namespace Go.Sw
/-- The numbers of types and functions, the names of methods. -/
structure Ids where
  m_first : String
  m_held : String
  m_last : String
  m_put : String
  m_size : String
  t_codec_eight : TypeId
  t_codec_latin : TypeId
  t_codec_sixteen : TypeId
  none : Unit
noncomputable section
def F_codec_Mark (S : Ids) (enc : Int) : Prog :=
  ifB (eqI enc 1)
    (.alloc [(Value.int IntKind.u8 239), (Value.int IntKind.u8 187), (Value.int IntKind.u8 191)] fun (a1 : Addr) =>
    .ret 0 [(Value.slice (Option.some a1) 3 3)]) <|
  ifB (eqI enc 2)
    (.alloc [(Value.int IntKind.u8 255), (Value.int IntKind.u8 254)] fun (a2 : Addr) =>
    .ret 0 [(Value.slice (Option.some a2) 2 2)]) <|
  ifB (eqI enc 3)
    (.alloc [(Value.int IntKind.u8 254), (Value.int IntKind.u8 255)] fun (a3 : Addr) =>
    .ret 0 [(Value.slice (Option.some a3) 2 2)]) <|
  .ret 0 [(Value.slice Option.none 0 0)]
def F_law1_copyBytes (S : Ids) (b : Sl) : Prog :=
  .bind
    (.loop [(Ty.one B.sl), (Ty.one (B.int IntKind.i64))] ((⟨Option.none, 0, 0⟩ : Sl), ((0 : Int), ())) fun (r16 : (Sl × (Int × Unit))) =>
      ifB (ltI r16.2.1 (natI b.len))
        (grd (andB (someB b.base) (inB r16.2.1 b.len)) <|
        .load (Ty.one (B.int IntKind.u8)) (shiftTo b.base (mulN (toN r16.2.1) 1)) fun (n17 : Int) =>
        .alloc [(Value.int IntKind.u8 n17)] fun (a18 : Addr) =>
        .append 1 1 [(Value.int IntKind.u8 0)] r16.1 (⟨(Option.some a18), 1, 1⟩) fun (l19 : Sl) =>
        .ret 0 [(Value.slice l19.base l19.len l19.cap), (Value.int IntKind.i64 (addI IntKind.i64 r16.2.1 1))]) <|
      .ret 2 [(Value.slice r16.1.base r16.1.len r16.1.cap)]) fun (k20 : Nat) =>
  fun (vs21 : (List Value)) =>
  ifB (eqN k20 2)
    (.cast [(Ty.one B.sl)] vs21 fun (r22 : (Sl × Unit)) =>
    .ret 0 [(Value.slice r22.1.base r22.1.len r22.1.cap)]) <|
  .fail
def F_law1_lend (S : Ids) (b : Sl) : Prog :=
  .call (F_law1_copyBytes S b) [(Ty.one B.sl)] fun (r1 : (Sl × Unit)) =>
  .bind
    (.loop [(Ty.one B.sl), (Ty.one (B.int IntKind.i64))] (r1.1, ((0 : Int), ())) fun (r24 : (Sl × (Int × Unit))) =>
      ifB (ltI r24.2.1 40)
        (.alloc [(Value.int IntKind.u8 167)] fun (a25 : Addr) =>
        .append 1 1 [(Value.int IntKind.u8 0)] r24.1 (⟨(Option.some a25), 1, 1⟩) fun (l26 : Sl) =>
        .ret 0 [(Value.slice l26.base l26.len l26.cap), (Value.int IntKind.i64 (addI IntKind.i64 r24.2.1 1))]) <|
      .ret 2 [(Value.slice r24.1.base r24.1.len r24.1.cap)]) fun (k27 : Nat) =>
  fun (vs28 : (List Value)) =>
  ifB (eqN k27 2)
    (.cast [(Ty.one B.sl)] vs28 fun (r29 : (Sl × Unit)) =>
    grd (leB (natI r29.1.cap) r29.1.cap) <|
    .bind
      (.loop [(Ty.one (B.int IntKind.i64))] ((natI b.len), ()) fun (r36 : (Int × Unit)) =>
        ifB (ltI r36.1 (natI (subN (toN (natI r29.1.cap)) 0)))
          (grd (andB (someB (cutBase r29.1.base r29.1.cap 0 1)) (inB r36.1 (subN (toN (natI r29.1.cap)) 0))) <|
          .store (shiftTo (cutBase r29.1.base r29.1.cap 0 1) (mulN (toN r36.1) 1)) [(Value.int IntKind.u8 (wrapI IntKind.u8 (addI IntKind.i64 167 r36.1)))] <|
          .ret 0 [(Value.int IntKind.i64 (addI IntKind.i64 r36.1 1))]) <|
        .ret 4 []) fun (k37 : Nat) =>
    fun (vs38 : (List Value)) =>
    ifB (eqN k37 4)
      (.cast [] vs38 fun (u39 : Unit) =>
      .ret 0 [(Value.slice (cutBase r29.1.base r29.1.cap 0 1) (subN (toN (natI r29.1.cap)) 0) (subN r29.1.cap 0))]) <|
    .fail) <|
  .fail
def F_codec_Detect (S : Ids) (b : Sl) : Prog :=
  .bind
    (ifB (geI (natI b.len) 3)
      (grd (andB (someB b.base) (inB 0 b.len)) <|
      .load (Ty.one (B.int IntKind.u8)) (shiftTo b.base 0) fun (n37 : Int) =>
      ifB (eqI n37 239)
        (grd (andB (someB b.base) (inB 1 b.len)) <|
        .load (Ty.one (B.int IntKind.u8)) (shiftTo b.base 1) fun (n38 : Int) =>
        ifB (eqI n38 187)
          (grd (andB (someB b.base) (inB 2 b.len)) <|
          .load (Ty.one (B.int IntKind.u8)) (shiftTo b.base 2) fun (n39 : Int) =>
          .ret 0 [(Value.bool (eqI n39 191))]) <|
        .ret 0 [(Value.bool Bool.false)]) <|
      .ret 0 [(Value.bool Bool.false)]) <|
    .ret 0 [(Value.bool Bool.false)]) fun (k40 : Nat) =>
  fun (vs41 : (List Value)) =>
  ifB (eqN k40 0)
    (.cast [(Ty.one B.bool)] vs41 fun (r42 : (Bool × Unit)) =>
    ifB r42.1
      (.ret 0 [(Value.int IntKind.i64 1), (Value.int IntKind.i64 3)]) <|
    .bind
      (ifB (geI (natI b.len) 2)
        (grd (andB (someB b.base) (inB 0 b.len)) <|
        .load (Ty.one (B.int IntKind.u8)) (shiftTo b.base 0) fun (n58 : Int) =>
        ifB (eqI n58 255)
          (grd (andB (someB b.base) (inB 1 b.len)) <|
          .load (Ty.one (B.int IntKind.u8)) (shiftTo b.base 1) fun (n59 : Int) =>
          .ret 0 [(Value.bool (eqI n59 254))]) <|
        .ret 0 [(Value.bool Bool.false)]) <|
      .ret 0 [(Value.bool Bool.false)]) fun (k60 : Nat) =>
    fun (vs61 : (List Value)) =>
    ifB (eqN k60 0)
      (.cast [(Ty.one B.bool)] vs61 fun (r62 : (Bool × Unit)) =>
      ifB r62.1
        (.ret 0 [(Value.int IntKind.i64 2), (Value.int IntKind.i64 2)]) <|
      .bind
        (ifB (geI (natI b.len) 2)
          (grd (andB (someB b.base) (inB 0 b.len)) <|
          .load (Ty.one (B.int IntKind.u8)) (shiftTo b.base 0) fun (n68 : Int) =>
          ifB (eqI n68 254)
            (grd (andB (someB b.base) (inB 1 b.len)) <|
            .load (Ty.one (B.int IntKind.u8)) (shiftTo b.base 1) fun (n69 : Int) =>
            .ret 0 [(Value.bool (eqI n69 255))]) <|
          .ret 0 [(Value.bool Bool.false)]) <|
        .ret 0 [(Value.bool Bool.false)]) fun (k70 : Nat) =>
      fun (vs71 : (List Value)) =>
      ifB (eqN k70 0)
        (.cast [(Ty.one B.bool)] vs71 fun (r72 : (Bool × Unit)) =>
        ifB r72.1
          (.ret 0 [(Value.int IntKind.i64 3), (Value.int IntKind.i64 2)]) <|
        .ret 0 [(Value.int IntKind.i64 0), (Value.int IntKind.i64 0)]) <|
      .fail) <|
    .fail) <|
  .fail
def F_ref1_Mark (S : Ids) (enc : Int) : Prog :=
  ifB (eqI enc 1)
    (.alloc [(Value.int IntKind.u8 239), (Value.int IntKind.u8 187), (Value.int IntKind.u8 191)] fun (a1 : Addr) =>
    .ret 0 [(Value.slice (Option.some a1) 3 3)]) <|
  ifB (eqI enc 2)
    (.alloc [(Value.int IntKind.u8 255), (Value.int IntKind.u8 254)] fun (a2 : Addr) =>
    .ret 0 [(Value.slice (Option.some a2) 2 2)]) <|
  ifB (eqI enc 3)
    (.alloc [(Value.int IntKind.u8 254), (Value.int IntKind.u8 255)] fun (a3 : Addr) =>
    .ret 0 [(Value.slice (Option.some a3) 2 2)]) <|
  .ret 0 [(Value.slice Option.none 0 0)]
def F_ref1_begins (S : Ids) (b : Sl) (at_ : Int) (l : Sl) : Prog :=
  ifB (gtI (addI IntKind.i64 at_ (natI l.len)) (natI b.len))
    (.ret 0 [(Value.bool Bool.false)]) <|
  .bind
    (.loop [(Ty.one (B.int IntKind.i64))] ((0 : Int), ()) fun (r14 : (Int × Unit)) =>
      ifB (ltI r14.1 (natI l.len))
        (grd (andB (someB b.base) (inB (addI IntKind.i64 at_ r14.1) b.len)) <|
        .load (Ty.one (B.int IntKind.u8)) (shiftTo b.base (mulN (toN (addI IntKind.i64 at_ r14.1)) 1)) fun (n15 : Int) =>
        grd (andB (someB l.base) (inB r14.1 l.len)) <|
        .load (Ty.one (B.int IntKind.u8)) (shiftTo l.base (mulN (toN r14.1) 1)) fun (n16 : Int) =>
        ifB (neI n15 n16)
          (.ret 1 [(Value.bool Bool.false)]) <|
        .ret 0 [(Value.int IntKind.i64 (addI IntKind.i64 r14.1 1))]) <|
      .ret 2 []) fun (k17 : Nat) =>
  fun (vs18 : (List Value)) =>
  ifB (eqN k17 2)
    (.cast [] vs18 fun (u19 : Unit) =>
    .ret 0 [(Value.bool Bool.true)]) <|
  ifB (eqN k17 1)
    (.cast [(Ty.one B.bool)] vs18 fun (r20 : (Bool × Unit)) =>
    .ret 0 [(Value.bool r20.1)]) <|
  .fail
def F_ref1_Detect (S : Ids) (b : Sl) : Prog :=
  .bind
    (.loop [(Ty.one (B.int IntKind.i64))] ((1 : Int), ()) fun (r14 : (Int × Unit)) =>
      ifB (leI r14.1 3)
        (.call (F_ref1_Mark S r14.1) [(Ty.one B.sl)] fun (r15 : (Sl × Unit)) =>
        .call (F_ref1_begins S b (Int.ofNat 0) r15.1) [(Ty.one B.bool)] fun (r16 : (Bool × Unit)) =>
        ifB r16.1
          (.ret 1 [(Value.int IntKind.i64 r14.1), (Value.int IntKind.i64 (natI r15.1.len))]) <|
        .ret 0 [(Value.int IntKind.i64 (addI IntKind.i64 r14.1 1))]) <|
      .ret 2 []) fun (k17 : Nat) =>
  fun (vs18 : (List Value)) =>
  ifB (eqN k17 2)
    (.cast [] vs18 fun (u19 : Unit) =>
    .ret 0 [(Value.int IntKind.i64 0), (Value.int IntKind.i64 0)]) <|
  ifB (eqN k17 1)
    (.cast [(Ty.one (B.int IntKind.i64)), (Ty.one (B.int IntKind.i64))] vs18 fun (r20 : (Int × (Int × Unit))) =>
    .ret 0 [(Value.int IntKind.i64 r20.1), (Value.int IntKind.i64 r20.2.1)]) <|
  .fail
def F_law1_sameBytes (S : Ids) (a : Sl) (b : Sl) : Prog :=
  .bytes a fun (s1 : ByteArray) =>
  .bytes b fun (s2 : ByteArray) =>
  .ret 0 [(Value.bool (eqS s1 s2))]
def F_law1_kept (S : Ids) (c : Sl) (b : Sl) : Prog :=
  .bind
    (.loop [(Ty.one (B.int IntKind.i64))] ((natI b.len), ()) fun (r21 : (Int × Unit)) =>
      ifB (ltI r21.1 (natI c.len))
        (grd (andB (someB c.base) (inB r21.1 c.len)) <|
        .load (Ty.one (B.int IntKind.u8)) (shiftTo c.base (mulN (toN r21.1) 1)) fun (n22 : Int) =>
        ifB (neI n22 (wrapI IntKind.u8 (addI IntKind.i64 167 r21.1)))
          (.ret 1 [(Value.bool Bool.false)]) <|
        .ret 0 [(Value.int IntKind.i64 (addI IntKind.i64 r21.1 1))]) <|
      .ret 2 []) fun (k23 : Nat) =>
  fun (vs24 : (List Value)) =>
  ifB (eqN k23 2)
    (.cast [] vs24 fun (u25 : Unit) =>
    .bind
      (ifB (geI (natI c.len) (addI IntKind.i64 (natI b.len) 40))
        (grd (leB (natI b.len) c.cap) <|
        .bytes (⟨(cutBase c.base c.cap 0 1), (subN (toN (natI b.len)) 0), (subN c.cap 0)⟩) fun (s31 : ByteArray) =>
        .bytes b fun (s32 : ByteArray) =>
        .ret 0 [(Value.bool (eqS s31 s32))]) <|
      .ret 0 [(Value.bool Bool.false)]) fun (k33 : Nat) =>
    fun (vs34 : (List Value)) =>
    ifB (eqN k33 0)
      (.cast [(Ty.one B.bool)] vs34 fun (r35 : (Bool × Unit)) =>
      .ret 0 [(Value.bool r35.1)]) <|
    .fail) <|
  ifB (eqN k23 1)
    (.cast [(Ty.one B.bool)] vs24 fun (r36 : (Bool × Unit)) =>
    .ret 0 [(Value.bool r36.1)]) <|
  .fail
def F_law1_turned (S : Ids) (c : Sl) (n : Int) : Prog :=
  .bind
    (.loop [(Ty.one (B.int IntKind.i64))] ((0 : Int), ()) fun (r11 : (Int × Unit)) =>
      ifB (ltI r11.1 n)
        (grd (andB (someB c.base) (inB r11.1 c.len)) <|
        .load (Ty.one (B.int IntKind.u8)) (shiftTo c.base (mulN (toN r11.1) 1)) fun (n12 : Int) =>
        grd (notB Bool.false) <|
        grd (andB (someB c.base) (inB r11.1 c.len)) <|
        .store (shiftTo c.base (mulN (toN r11.1) 1)) [(Value.int IntKind.u8 (xorI IntKind.u8 n12 (wrapI IntKind.u8 (addI IntKind.i64 1 (remI IntKind.i64 r11.1 3)))))] <|
        .ret 0 [(Value.int IntKind.i64 (addI IntKind.i64 r11.1 1))]) <|
      .ret 2 []) fun (k13 : Nat) =>
  fun (vs14 : (List Value)) =>
  ifB (eqN k13 2)
    (.cast [] vs14 fun (u15 : Unit) =>
    grd (leB n c.cap) <|
    .call (F_law1_copyBytes S (⟨(cutBase c.base c.cap 0 1), (subN (toN n) 0), (subN c.cap 0)⟩)) [(Ty.one B.sl)] fun (r16 : (Sl × Unit)) =>
    .ret 0 [(Value.slice r16.1.base r16.1.len r16.1.cap)]) <|
  .fail
def F_law1_marked (S : Ids) (enc : Int) (b : Sl) : Prog :=
  .call (F_codec_Mark S enc) [(Ty.one B.sl)] fun (r1 : (Sl × Unit)) =>
  .call (F_law1_lend S b) [(Ty.one B.sl)] fun (r2 : (Sl × Unit)) =>
  grd (leB (natI b.len) r2.1.cap) <|
  .call (F_codec_Detect S (⟨(cutBase r2.1.base r2.1.cap 0 1), (subN (toN (natI b.len)) 0), (subN r2.1.cap 0)⟩)) [(Ty.one (B.int IntKind.i64)), (Ty.one (B.int IntKind.i64))] fun (r3 : (Int × (Int × Unit))) =>
  .call (F_ref1_Detect S b) [(Ty.one (B.int IntKind.i64)), (Ty.one (B.int IntKind.i64))] fun (r4 : (Int × (Int × Unit))) =>
  .bind
    (.call (F_ref1_Mark S enc) [(Ty.one B.sl)] fun (r20 : (Sl × Unit)) =>
    .call (F_law1_sameBytes S r1.1 r20.1) [(Ty.one B.bool)] fun (r21 : (Bool × Unit)) =>
    ifB (notB r21.1)
      (.ret 0 [(Value.bool Bool.true)]) <|
    ifB (neI r3.1 r4.1)
      (.ret 0 [(Value.bool Bool.true)]) <|
    ifB (neI r3.2.1 r4.2.1)
      (.ret 0 [(Value.bool Bool.true)]) <|
    .call (F_law1_kept S r2.1 b) [(Ty.one B.bool)] fun (r22 : (Bool × Unit)) =>
    .ret 0 [(Value.bool (notB r22.1))]) fun (k23 : Nat) =>
  fun (vs24 : (List Value)) =>
  ifB (eqN k23 0)
    (.cast [(Ty.one B.bool)] vs24 fun (r25 : (Bool × Unit)) =>
    ifB r25.1
      (.ret 0 [(Value.bool Bool.false)]) <|
    .call (F_law1_turned S r2.1 (natI b.len)) [(Ty.one B.sl)] fun (r26 : (Sl × Unit)) =>
    grd (leB (natI b.len) r2.1.cap) <|
    .call (F_codec_Detect S (⟨(cutBase r2.1.base r2.1.cap 0 1), (subN (toN (natI b.len)) 0), (subN r2.1.cap 0)⟩)) [(Ty.one (B.int IntKind.i64)), (Ty.one (B.int IntKind.i64))] fun (r27 : (Int × (Int × Unit))) =>
    .call (F_ref1_Detect S r26.1) [(Ty.one (B.int IntKind.i64)), (Ty.one (B.int IntKind.i64))] fun (r28 : (Int × (Int × Unit))) =>
    .bind
      (ifB (eqI r27.1 r28.1)
        (.ret 0 [(Value.bool (eqI r27.2.1 r28.2.1))]) <|
      .ret 0 [(Value.bool Bool.false)]) fun (k32 : Nat) =>
    fun (vs33 : (List Value)) =>
    ifB (eqN k32 0)
      (.cast [(Ty.one B.bool)] vs33 fun (r34 : (Bool × Unit)) =>
      .ret 0 [(Value.bool r34.1)]) <|
    .fail) <|
  .fail
def F_law1_CodecMarks (S : Ids) (enc : Int) (b : Sl) : Prog :=
  .bind
    (.alloc [(Value.int IntKind.u8 254), (Value.int IntKind.u8 255)] fun (a7 : Addr) =>
    .call (F_law1_marked S (Int.ofNat 1) (⟨(Option.some a7), 2, 2⟩)) [(Ty.one B.bool)] fun (r8 : (Bool × Unit)) =>
    ifB r8.1
      (.call (F_law1_marked S enc b) [(Ty.one B.bool)] fun (r9 : (Bool × Unit)) =>
      .ret 0 [(Value.bool r9.1)]) <|
    .ret 0 [(Value.bool Bool.false)]) fun (k10 : Nat) =>
  fun (vs11 : (List Value)) =>
  ifB (eqN k10 0)
    (.cast [(Ty.one B.bool)] vs11 fun (r12 : (Bool × Unit)) =>
    .ret 0 [(Value.bool r12.1)]) <|
  .fail
def F_codec_of (S : Ids) (enc : Int) : Prog :=
  ifB (eqI enc 1)
    (.ret 0 [(Value.iface S.t_codec_eight (Value.agg #[]))]) <|
  ifB (eqI enc 2)
    (.ret 0 [(Value.iface S.t_codec_sixteen (Value.agg (#[(Value.int IntKind.i64 0)])))]) <|
  ifB (eqI enc 3)
    (.ret 0 [(Value.iface S.t_codec_sixteen (Value.agg (#[(Value.int IntKind.i64 1)])))]) <|
  ifB (eqI enc 4)
    (.ret 0 [(Value.iface S.t_codec_latin (Value.agg #[]))]) <|
  .ret 0 [Value.nilIface]
def F_codec_Size (S : Ids) (enc : Int) (atom : Int) : Prog :=
  .call (F_codec_of S enc) [(Ty.one B.any)] fun (r1 : (Value × Unit)) =>
  grd (isIface r1.1) <|
  ifB (isNilIface r1.1)
    (.ret 0 [(Value.int IntKind.i64 0)]) <|
  .invoke r1.1 S.m_size [(Value.int IntKind.i64 atom)] [(Ty.one (B.int IntKind.i64))] fun (r2 : (Int × Unit)) =>
  .ret 0 [(Value.int IntKind.i64 r2.1)]
def F_codec_Fits (S : Ids) (enc : Int) (atom : Int) : Prog :=
  .call (F_codec_Size S enc atom) [(Ty.one (B.int IntKind.i64))] fun (r1 : (Int × Unit)) =>
  .ret 0 [(Value.bool (gtI r1.1 0))]
def F_ref1_Scalar (S : Ids) (a : Int) : Prog :=
  .bind
    (ifB (geI a 0)
      (ifB (ltI a 55296)
        (.ret 0 [(Value.bool Bool.true)]) <|
      ifB (gtI a 57343)
        (.ret 0 [(Value.bool (leI a 1114111))]) <|
      .ret 0 [(Value.bool Bool.false)]) <|
    ifB (gtI a 57343)
      (.ret 0 [(Value.bool (leI a 1114111))]) <|
    .ret 0 [(Value.bool Bool.false)]) fun (k4 : Nat) =>
  fun (vs5 : (List Value)) =>
  ifB (eqN k4 0)
    (.cast [(Ty.one B.bool)] vs5 fun (r6 : (Bool × Unit)) =>
    .ret 0 [(Value.bool r6.1)]) <|
  .fail
def F_ref1_Fits (S : Ids) (enc : Int) (a : Int) : Prog :=
  .bind
    (ifB (eqI enc 1)
      (.bind
        (.call (F_ref1_Scalar S a) [(Ty.one B.bool)] fun (r41 : (Bool × Unit)) =>
        ifB r41.1
          (.ret 0 [(Value.bool Bool.true)]) <|
        ifB (leI a (-129))
          (.ret 0 [(Value.bool (geI a (-256)))]) <|
        .ret 0 [(Value.bool Bool.false)]) fun (k42 : Nat) =>
      fun (vs43 : (List Value)) =>
      ifB (eqN k42 0)
        (.cast [(Ty.one B.bool)] vs43 fun (r44 : (Bool × Unit)) =>
        .ret 1 [(Value.bool r44.1)]) <|
      .fail) <|
    ifB (eqI enc 2)
      (ifB (eqI enc 2)
        (.bind
          (ifB (geI a (-256))
            (.ret 0 [(Value.bool (leI a 1114111))]) <|
          .ret 0 [(Value.bool Bool.false)]) fun (k48 : Nat) =>
        fun (vs49 : (List Value)) =>
        ifB (eqN k48 0)
          (.cast [(Ty.one B.bool)] vs49 fun (r50 : (Bool × Unit)) =>
          .ret 1 [(Value.bool r50.1)]) <|
        .fail) <|
      ifB (eqI enc 4)
        (.bind
          (ifB (geI a 0)
            (.ret 0 [(Value.bool (leI a 255))]) <|
          .ret 0 [(Value.bool Bool.false)]) fun (k54 : Nat) =>
        fun (vs55 : (List Value)) =>
        ifB (eqN k54 0)
          (.cast [(Ty.one B.bool)] vs55 fun (r56 : (Bool × Unit)) =>
          .ret 1 [(Value.bool r56.1)]) <|
        .fail) <|
      .ret 0 []) <|
    ifB (eqI enc 3)
      (.bind
        (ifB (geI a (-256))
          (.ret 0 [(Value.bool (leI a 1114111))]) <|
        .ret 0 [(Value.bool Bool.false)]) fun (k60 : Nat) =>
      fun (vs61 : (List Value)) =>
      ifB (eqN k60 0)
        (.cast [(Ty.one B.bool)] vs61 fun (r62 : (Bool × Unit)) =>
        .ret 1 [(Value.bool r62.1)]) <|
      .fail) <|
    ifB (eqI enc 4)
      (.bind
        (ifB (geI a 0)
          (.ret 0 [(Value.bool (leI a 255))]) <|
        .ret 0 [(Value.bool Bool.false)]) fun (k66 : Nat) =>
      fun (vs67 : (List Value)) =>
      ifB (eqN k66 0)
        (.cast [(Ty.one B.bool)] vs67 fun (r68 : (Bool × Unit)) =>
        .ret 1 [(Value.bool r68.1)]) <|
      .fail) <|
    .ret 0 []) fun (k69 : Nat) =>
  fun (vs70 : (List Value)) =>
  ifB (eqN k69 1)
    (.cast [(Ty.one B.bool)] vs70 fun (r71 : (Bool × Unit)) =>
    .ret 0 [(Value.bool r71.1)]) <|
  ifB (eqN k69 0)
    (.cast [] vs70 fun (u72 : Unit) =>
    .ret 0 [(Value.bool Bool.false)]) <|
  .fail
def F_ref1_eight (S : Ids) (a : Int) : Prog :=
  ifB (ltI a 128)
    (.alloc [(Value.int IntKind.u8 (wrapI IntKind.u8 a))] fun (a1 : Addr) =>
    .ret 0 [(Value.slice (Option.some a1) 1 1)]) <|
  ifB (ltI a 2048)
    (grd (notB Bool.false) <|
    grd (notB Bool.false) <|
    .alloc [(Value.int IntKind.u8 (wrapI IntKind.u8 (addI IntKind.i64 192 (quoI IntKind.i64 a 64)))), (Value.int IntKind.u8 (wrapI IntKind.u8 (addI IntKind.i64 128 (remI IntKind.i64 a 64))))] fun (a2 : Addr) =>
    .ret 0 [(Value.slice (Option.some a2) 2 2)]) <|
  ifB (ltI a 65536)
    (grd (notB Bool.false) <|
    grd (notB Bool.false) <|
    grd (notB Bool.false) <|
    grd (notB Bool.false) <|
    .alloc [(Value.int IntKind.u8 (wrapI IntKind.u8 (addI IntKind.i64 224 (quoI IntKind.i64 a 4096)))), (Value.int IntKind.u8 (wrapI IntKind.u8 (addI IntKind.i64 128 (remI IntKind.i64 (quoI IntKind.i64 a 64) 64)))), (Value.int IntKind.u8 (wrapI IntKind.u8 (addI IntKind.i64 128 (remI IntKind.i64 a 64))))] fun (a3 : Addr) =>
    .ret 0 [(Value.slice (Option.some a3) 3 3)]) <|
  grd (notB Bool.false) <|
  grd (notB Bool.false) <|
  grd (notB Bool.false) <|
  grd (notB Bool.false) <|
  grd (notB Bool.false) <|
  grd (notB Bool.false) <|
  .alloc [(Value.int IntKind.u8 (wrapI IntKind.u8 (addI IntKind.i64 240 (quoI IntKind.i64 a 262144)))), (Value.int IntKind.u8 (wrapI IntKind.u8 (addI IntKind.i64 128 (remI IntKind.i64 (quoI IntKind.i64 a 4096) 64)))), (Value.int IntKind.u8 (wrapI IntKind.u8 (addI IntKind.i64 128 (remI IntKind.i64 (quoI IntKind.i64 a 64) 64)))), (Value.int IntKind.u8 (wrapI IntKind.u8 (addI IntKind.i64 128 (remI IntKind.i64 a 64))))] fun (a4 : Addr) =>
  .ret 0 [(Value.slice (Option.some a4) 4 4)]
def F_ref1_unit (S : Ids) (enc : Int) (u : Int) : Prog :=
  ifB (eqI enc 2)
    (grd (notB Bool.false) <|
    grd (notB Bool.false) <|
    .alloc [(Value.int IntKind.u8 (wrapI IntKind.u8 (remI IntKind.i64 u 256))), (Value.int IntKind.u8 (wrapI IntKind.u8 (quoI IntKind.i64 u 256)))] fun (a1 : Addr) =>
    .ret 0 [(Value.slice (Option.some a1) 2 2)]) <|
  grd (notB Bool.false) <|
  grd (notB Bool.false) <|
  .alloc [(Value.int IntKind.u8 (wrapI IntKind.u8 (quoI IntKind.i64 u 256))), (Value.int IntKind.u8 (wrapI IntKind.u8 (remI IntKind.i64 u 256)))] fun (a2 : Addr) =>
  .ret 0 [(Value.slice (Option.some a2) 2 2)]
def F_ref1_Put (S : Ids) (enc : Int) (a : Int) : Prog :=
  ifB (ltI a 0)
    (.alloc [(Value.int IntKind.u8 (wrapI IntKind.u8 (subI IntKind.i64 (-1) a)))] fun (a1 : Addr) =>
    .ret 0 [(Value.slice (Option.some a1) 1 1)]) <|
  ifB (eqI enc 1)
    (.call (F_ref1_eight S a) [(Ty.one B.sl)] fun (r2 : (Sl × Unit)) =>
    .ret 0 [(Value.slice r2.1.base r2.1.len r2.1.cap)]) <|
  ifB (eqI enc 4)
    (.alloc [(Value.int IntKind.u8 (wrapI IntKind.u8 a))] fun (a3 : Addr) =>
    .ret 0 [(Value.slice (Option.some a3) 1 1)]) <|
  ifB (geI a 65536)
    (grd (notB Bool.false) <|
    .call (F_ref1_unit S enc (addI IntKind.i64 55296 (quoI IntKind.i64 (subI IntKind.i64 a 65536) 1024))) [(Ty.one B.sl)] fun (r4 : (Sl × Unit)) =>
    grd (notB Bool.false) <|
    .call (F_ref1_unit S enc (addI IntKind.i64 56320 (remI IntKind.i64 a 1024))) [(Ty.one B.sl)] fun (r5 : (Sl × Unit)) =>
    grd (andB (someB r4.1.base) (inB 0 r4.1.len)) <|
    .load (Ty.one (B.int IntKind.u8)) (shiftTo r4.1.base 0) fun (n6 : Int) =>
    grd (andB (someB r4.1.base) (inB 1 r4.1.len)) <|
    .load (Ty.one (B.int IntKind.u8)) (shiftTo r4.1.base 1) fun (n7 : Int) =>
    grd (andB (someB r5.1.base) (inB 0 r5.1.len)) <|
    .load (Ty.one (B.int IntKind.u8)) (shiftTo r5.1.base 0) fun (n8 : Int) =>
    grd (andB (someB r5.1.base) (inB 1 r5.1.len)) <|
    .load (Ty.one (B.int IntKind.u8)) (shiftTo r5.1.base 1) fun (n9 : Int) =>
    .alloc [(Value.int IntKind.u8 n6), (Value.int IntKind.u8 n7), (Value.int IntKind.u8 n8), (Value.int IntKind.u8 n9)] fun (a10 : Addr) =>
    .ret 0 [(Value.slice (Option.some a10) 4 4)]) <|
  .call (F_ref1_unit S enc a) [(Ty.one B.sl)] fun (r11 : (Sl × Unit)) =>
  .ret 0 [(Value.slice r11.1.base r11.1.len r11.1.cap)]
def F_ref1_Size (S : Ids) (enc : Int) (a : Int) : Prog :=
  .call (F_ref1_Fits S enc a) [(Ty.one B.bool)] fun (r1 : (Bool × Unit)) =>
  ifB (notB r1.1)
    (.ret 0 [(Value.int IntKind.i64 0)]) <|
  .call (F_ref1_Put S enc a) [(Ty.one B.sl)] fun (r2 : (Sl × Unit)) =>
  .ret 0 [(Value.int IntKind.i64 (natI r2.1.len))]
def F_law1_sized (S : Ids) (enc : Int) (atom : Int) : Prog :=
  .bind
    (.call (F_codec_Fits S enc atom) [(Ty.one B.bool)] fun (r8 : (Bool × Unit)) =>
    .call (F_ref1_Fits S enc atom) [(Ty.one B.bool)] fun (r9 : (Bool × Unit)) =>
    ifB (eqB r8.1 r9.1)
      (.call (F_codec_Size S enc atom) [(Ty.one (B.int IntKind.i64))] fun (r10 : (Int × Unit)) =>
      .call (F_ref1_Size S enc atom) [(Ty.one (B.int IntKind.i64))] fun (r11 : (Int × Unit)) =>
      .ret 0 [(Value.bool (eqI r10.1 r11.1))]) <|
    .ret 0 [(Value.bool Bool.false)]) fun (k12 : Nat) =>
  fun (vs13 : (List Value)) =>
  ifB (eqN k12 0)
    (.cast [(Ty.one B.bool)] vs13 fun (r14 : (Bool × Unit)) =>
    .ret 0 [(Value.bool r14.1)]) <|
  .fail
def F_law1_CodecSizes (S : Ids) (enc : Int) (atom : Int) : Prog :=
  .bind
    (.call (F_law1_sized S 1 233) [(Ty.one B.bool)] fun (r6 : (Bool × Unit)) =>
    ifB r6.1
      (.call (F_law1_sized S enc atom) [(Ty.one B.bool)] fun (r7 : (Bool × Unit)) =>
      .ret 0 [(Value.bool r7.1)]) <|
    .ret 0 [(Value.bool Bool.false)]) fun (k8 : Nat) =>
  fun (vs9 : (List Value)) =>
  ifB (eqN k8 0)
    (.cast [(Ty.one B.bool)] vs9 fun (r10 : (Bool × Unit)) =>
    .ret 0 [(Value.bool r10.1)]) <|
  .fail
def F_law1_copyInts (S : Ids) (b : Sl) : Prog :=
  .bind
    (.loop [(Ty.one B.sl), (Ty.one (B.int IntKind.i64))] ((⟨Option.none, 0, 0⟩ : Sl), ((0 : Int), ())) fun (r16 : (Sl × (Int × Unit))) =>
      ifB (ltI r16.2.1 (natI b.len))
        (grd (andB (someB b.base) (inB r16.2.1 b.len)) <|
        .load (Ty.one (B.int IntKind.i64)) (shiftTo b.base (mulN (toN r16.2.1) 1)) fun (n17 : Int) =>
        .alloc [(Value.int IntKind.i64 n17)] fun (a18 : Addr) =>
        .append 1 8 [(Value.int IntKind.i64 0)] r16.1 (⟨(Option.some a18), 1, 1⟩) fun (l19 : Sl) =>
        .ret 0 [(Value.slice l19.base l19.len l19.cap), (Value.int IntKind.i64 (addI IntKind.i64 r16.2.1 1))]) <|
      .ret 2 [(Value.slice r16.1.base r16.1.len r16.1.cap)]) fun (k20 : Nat) =>
  fun (vs21 : (List Value)) =>
  ifB (eqN k20 2)
    (.cast [(Ty.one B.sl)] vs21 fun (r22 : (Sl × Unit)) =>
    .ret 0 [(Value.slice r22.1.base r22.1.len r22.1.cap)]) <|
  .fail
def F_law1_lendInts (S : Ids) (b : Sl) : Prog :=
  .call (F_law1_copyInts S b) [(Ty.one B.sl)] fun (r1 : (Sl × Unit)) =>
  .bind
    (.loop [(Ty.one B.sl), (Ty.one (B.int IntKind.i64))] (r1.1, ((0 : Int), ())) fun (r24 : (Sl × (Int × Unit))) =>
      ifB (ltI r24.2.1 40)
        (.alloc [(Value.int IntKind.i64 (-71))] fun (a25 : Addr) =>
        .append 1 8 [(Value.int IntKind.i64 0)] r24.1 (⟨(Option.some a25), 1, 1⟩) fun (l26 : Sl) =>
        .ret 0 [(Value.slice l26.base l26.len l26.cap), (Value.int IntKind.i64 (addI IntKind.i64 r24.2.1 1))]) <|
      .ret 2 [(Value.slice r24.1.base r24.1.len r24.1.cap)]) fun (k27 : Nat) =>
  fun (vs28 : (List Value)) =>
  ifB (eqN k27 2)
    (.cast [(Ty.one B.sl)] vs28 fun (r29 : (Sl × Unit)) =>
    grd (leB (natI r29.1.cap) r29.1.cap) <|
    .bind
      (.loop [(Ty.one (B.int IntKind.i64))] ((natI b.len), ()) fun (r36 : (Int × Unit)) =>
        ifB (ltI r36.1 (natI (subN (toN (natI r29.1.cap)) 0)))
          (grd (andB (someB (cutBase r29.1.base r29.1.cap 0 1)) (inB r36.1 (subN (toN (natI r29.1.cap)) 0))) <|
          .store (shiftTo (cutBase r29.1.base r29.1.cap 0 1) (mulN (toN r36.1) 1)) [(Value.int IntKind.i64 (subI IntKind.i64 (-71) r36.1))] <|
          .ret 0 [(Value.int IntKind.i64 (addI IntKind.i64 r36.1 1))]) <|
        .ret 4 []) fun (k37 : Nat) =>
    fun (vs38 : (List Value)) =>
    ifB (eqN k37 4)
      (.cast [] vs38 fun (u39 : Unit) =>
      .ret 0 [(Value.slice (cutBase r29.1.base r29.1.cap 0 1) (subN (toN (natI r29.1.cap)) 0) (subN r29.1.cap 0))]) <|
    .fail) <|
  .fail
def F_codec_Encode (S : Ids) (enc : Int) (atoms : Sl) : Prog :=
  .call (F_codec_of S enc) [(Ty.one B.any)] fun (r1 : (Value × Unit)) =>
  grd (isIface r1.1) <|
  ifB (isNilIface r1.1)
    (.ret 0 [(Value.slice Option.none 0 0), (Value.int IntKind.i64 0), (Value.int IntKind.i64 10)]) <|
  .bind
    (.loop [(Ty.one B.sl), (Ty.one (B.int IntKind.i64))] ((⟨Option.none, 0, 0⟩ : Sl), ((0 : Int), ())) fun (r18 : (Sl × (Int × Unit))) =>
      ifB (ltI r18.2.1 (natI atoms.len))
        (grd (andB (someB atoms.base) (inB r18.2.1 atoms.len)) <|
        .load (Ty.one (B.int IntKind.i64)) (shiftTo atoms.base (mulN (toN r18.2.1) 1)) fun (n19 : Int) =>
        .invoke r1.1 S.m_size [(Value.int IntKind.i64 n19)] [(Ty.one (B.int IntKind.i64))] fun (r20 : (Int × Unit)) =>
        ifB (eqI r20.1 0)
          (.ret 1 [(Value.slice Option.none 0 0), (Value.int IntKind.i64 r18.2.1), (Value.int IntKind.i64 11)]) <|
        .invoke r1.1 S.m_put [(Value.slice r18.1.base r18.1.len r18.1.cap), (Value.int IntKind.i64 n19)] [(Ty.one B.sl)] fun (r21 : (Sl × Unit)) =>
        .ret 0 [(Value.slice r21.1.base r21.1.len r21.1.cap), (Value.int IntKind.i64 (addI IntKind.i64 r18.2.1 1))]) <|
      .ret 2 [(Value.slice r18.1.base r18.1.len r18.1.cap)]) fun (k22 : Nat) =>
  fun (vs23 : (List Value)) =>
  ifB (eqN k22 2)
    (.cast [(Ty.one B.sl)] vs23 fun (r24 : (Sl × Unit)) =>
    .ret 0 [(Value.slice r24.1.base r24.1.len r24.1.cap), (Value.int IntKind.i64 0), (Value.int IntKind.i64 0)]) <|
  ifB (eqN k22 1)
    (.cast [(Ty.one B.sl), (Ty.one (B.int IntKind.i64)), (Ty.one (B.int IntKind.i64))] vs23 fun (r25 : (Sl × (Int × (Int × Unit)))) =>
    .ret 0 [(Value.slice r25.1.base r25.1.len r25.1.cap), (Value.int IntKind.i64 r25.2.1), (Value.int IntKind.i64 r25.2.2.1)]) <|
  .fail
def F_ref1_known (S : Ids) (enc : Int) : Prog :=
  .bind
    (ifB (geI enc 1)
      (.ret 0 [(Value.bool (leI enc 4))]) <|
    .ret 0 [(Value.bool Bool.false)]) fun (k4 : Nat) =>
  fun (vs5 : (List Value)) =>
  ifB (eqN k4 0)
    (.cast [(Ty.one B.bool)] vs5 fun (r6 : (Bool × Unit)) =>
    .ret 0 [(Value.bool r6.1)]) <|
  .fail
def F_ref1_Encode (S : Ids) (enc : Int) (atoms : Sl) : Prog :=
  .call (F_ref1_known S enc) [(Ty.one B.bool)] fun (r1 : (Bool × Unit)) =>
  ifB (notB r1.1)
    (.ret 0 [(Value.slice Option.none 0 0), (Value.int IntKind.i64 0), (Value.int IntKind.i64 10)]) <|
  .bind
    (.loop [(Ty.one B.sl), (Ty.one (B.int IntKind.i64))] ((⟨Option.none, 0, 0⟩ : Sl), ((0 : Int), ())) fun (r87 : (Sl × (Int × Unit))) =>
      ifB (ltI r87.2.1 (natI atoms.len))
        (grd (andB (someB atoms.base) (inB r87.2.1 atoms.len)) <|
        .load (Ty.one (B.int IntKind.i64)) (shiftTo atoms.base (mulN (toN r87.2.1) 1)) fun (n88 : Int) =>
        .call (F_ref1_Fits S enc n88) [(Ty.one B.bool)] fun (r89 : (Bool × Unit)) =>
        ifB (notB r89.1)
          (.ret 1 [(Value.slice Option.none 0 0), (Value.int IntKind.i64 r87.2.1), (Value.int IntKind.i64 11)]) <|
        grd (andB (someB atoms.base) (inB r87.2.1 atoms.len)) <|
        .load (Ty.one (B.int IntKind.i64)) (shiftTo atoms.base (mulN (toN r87.2.1) 1)) fun (n90 : Int) =>
        .call (F_ref1_Put S enc n90) [(Ty.one B.sl)] fun (r91 : (Sl × Unit)) =>
        .bind
          (.loop [(Ty.one B.sl), (Ty.one (B.int IntKind.i64))] (r87.1, ((0 : Int), ())) fun (r107 : (Sl × (Int × Unit))) =>
            ifB (ltI r107.2.1 (natI r91.1.len))
              (grd (andB (someB r91.1.base) (inB r107.2.1 r91.1.len)) <|
              .load (Ty.one (B.int IntKind.u8)) (shiftTo r91.1.base (mulN (toN r107.2.1) 1)) fun (n108 : Int) =>
              .alloc [(Value.int IntKind.u8 n108)] fun (a109 : Addr) =>
              .append 1 1 [(Value.int IntKind.u8 0)] r107.1 (⟨(Option.some a109), 1, 1⟩) fun (l110 : Sl) =>
              .ret 0 [(Value.slice l110.base l110.len l110.cap), (Value.int IntKind.i64 (addI IntKind.i64 r107.2.1 1))]) <|
            .ret 4 [(Value.slice r107.1.base r107.1.len r107.1.cap)]) fun (k111 : Nat) =>
        fun (vs112 : (List Value)) =>
        ifB (eqN k111 4)
          (.cast [(Ty.one B.sl)] vs112 fun (r113 : (Sl × Unit)) =>
          .ret 0 [(Value.slice r113.1.base r113.1.len r113.1.cap), (Value.int IntKind.i64 (addI IntKind.i64 r87.2.1 1))]) <|
        .fail) <|
      .ret 2 [(Value.slice r87.1.base r87.1.len r87.1.cap)]) fun (k114 : Nat) =>
  fun (vs115 : (List Value)) =>
  ifB (eqN k114 2)
    (.cast [(Ty.one B.sl)] vs115 fun (r116 : (Sl × Unit)) =>
    .ret 0 [(Value.slice r116.1.base r116.1.len r116.1.cap), (Value.int IntKind.i64 0), (Value.int IntKind.i64 0)]) <|
  ifB (eqN k114 1)
    (.cast [(Ty.one B.sl), (Ty.one (B.int IntKind.i64)), (Ty.one (B.int IntKind.i64))] vs115 fun (r117 : (Sl × (Int × (Int × Unit)))) =>
    .ret 0 [(Value.slice r117.1.base r117.1.len r117.1.cap), (Value.int IntKind.i64 r117.2.1), (Value.int IntKind.i64 r117.2.2.1)]) <|
  .fail
def F_law1_num (S : Ids) (e : Int) : Prog :=
  .ret 0 [(Value.int IntKind.i64 e)]
def F_law1_sameInts (S : Ids) (a : Sl) (b : Sl) : Prog :=
  ifB (neI (natI a.len) (natI b.len))
    (.ret 0 [(Value.bool Bool.false)]) <|
  .bind
    (.loop [(Ty.one (B.int IntKind.i64))] ((0 : Int), ()) fun (r14 : (Int × Unit)) =>
      ifB (ltI r14.1 (natI a.len))
        (grd (andB (someB a.base) (inB r14.1 a.len)) <|
        .load (Ty.one (B.int IntKind.i64)) (shiftTo a.base (mulN (toN r14.1) 1)) fun (n15 : Int) =>
        grd (andB (someB b.base) (inB r14.1 b.len)) <|
        .load (Ty.one (B.int IntKind.i64)) (shiftTo b.base (mulN (toN r14.1) 1)) fun (n16 : Int) =>
        ifB (neI n15 n16)
          (.ret 1 [(Value.bool Bool.false)]) <|
        .ret 0 [(Value.int IntKind.i64 (addI IntKind.i64 r14.1 1))]) <|
      .ret 2 []) fun (k17 : Nat) =>
  fun (vs18 : (List Value)) =>
  ifB (eqN k17 2)
    (.cast [] vs18 fun (u19 : Unit) =>
    .ret 0 [(Value.bool Bool.true)]) <|
  ifB (eqN k17 1)
    (.cast [(Ty.one B.bool)] vs18 fun (r20 : (Bool × Unit)) =>
    .ret 0 [(Value.bool r20.1)]) <|
  .fail
def F_law1_keptInts (S : Ids) (c : Sl) (b : Sl) : Prog :=
  .bind
    (.loop [(Ty.one (B.int IntKind.i64))] ((natI b.len), ()) fun (r19 : (Int × Unit)) =>
      ifB (ltI r19.1 (natI c.len))
        (grd (andB (someB c.base) (inB r19.1 c.len)) <|
        .load (Ty.one (B.int IntKind.i64)) (shiftTo c.base (mulN (toN r19.1) 1)) fun (n20 : Int) =>
        ifB (neI n20 (subI IntKind.i64 (-71) r19.1))
          (.ret 1 [(Value.bool Bool.false)]) <|
        .ret 0 [(Value.int IntKind.i64 (addI IntKind.i64 r19.1 1))]) <|
      .ret 2 []) fun (k21 : Nat) =>
  fun (vs22 : (List Value)) =>
  ifB (eqN k21 2)
    (.cast [] vs22 fun (u23 : Unit) =>
    .bind
      (ifB (geI (natI c.len) (addI IntKind.i64 (natI b.len) 40))
        (grd (leB (natI b.len) c.cap) <|
        .call (F_law1_sameInts S (⟨(cutBase c.base c.cap 0 1), (subN (toN (natI b.len)) 0), (subN c.cap 0)⟩) b) [(Ty.one B.bool)] fun (r28 : (Bool × Unit)) =>
        .ret 0 [(Value.bool r28.1)]) <|
      .ret 0 [(Value.bool Bool.false)]) fun (k29 : Nat) =>
    fun (vs30 : (List Value)) =>
    ifB (eqN k29 0)
      (.cast [(Ty.one B.bool)] vs30 fun (r31 : (Bool × Unit)) =>
      .ret 0 [(Value.bool r31.1)]) <|
    .fail) <|
  ifB (eqN k21 1)
    (.cast [(Ty.one B.bool)] vs22 fun (r32 : (Bool × Unit)) =>
    .ret 0 [(Value.bool r32.1)]) <|
  .fail
def F_law1_encoded (S : Ids) (enc : Int) (atoms : Sl) : Prog :=
  .call (F_law1_lendInts S atoms) [(Ty.one B.sl)] fun (r1 : (Sl × Unit)) =>
  grd (leB (natI atoms.len) r1.1.cap) <|
  .call (F_codec_Encode S enc (⟨(cutBase r1.1.base r1.1.cap 0 1), (subN (toN (natI atoms.len)) 0), (subN r1.1.cap 0)⟩)) [(Ty.one B.sl), (Ty.one (B.int IntKind.i64)), (Ty.one (B.int IntKind.i64))] fun (r2 : (Sl × (Int × (Int × Unit)))) =>
  .call (F_ref1_Encode S enc atoms) [(Ty.one B.sl), (Ty.one (B.int IntKind.i64)), (Ty.one (B.int IntKind.i64))] fun (r3 : (Sl × (Int × (Int × Unit)))) =>
  .call (F_codec_Encode S enc (⟨Option.none, 0, 0⟩)) [(Ty.one B.sl), (Ty.one (B.int IntKind.i64)), (Ty.one (B.int IntKind.i64))] fun (r4 : (Sl × (Int × (Int × Unit)))) =>
  .call (F_ref1_Encode S enc (⟨Option.none, 0, 0⟩)) [(Ty.one B.sl), (Ty.one (B.int IntKind.i64)), (Ty.one (B.int IntKind.i64))] fun (r5 : (Sl × (Int × (Int × Unit)))) =>
  .bind
    (ifB (neI (natI r4.1.len) 0)
      (.ret 0 [(Value.bool Bool.true)]) <|
    ifB (neI r4.2.1 0)
      (.ret 0 [(Value.bool Bool.true)]) <|
    .call (F_law1_num S r4.2.2.1) [(Ty.one (B.int IntKind.i64))] fun (r102 : (Int × Unit)) =>
    .ret 0 [(Value.bool (neI r102.1 r5.2.2.1))]) fun (k103 : Nat) =>
  fun (vs104 : (List Value)) =>
  ifB (eqN k103 0)
    (.cast [(Ty.one B.bool)] vs104 fun (r105 : (Bool × Unit)) =>
    ifB r105.1
      (.ret 0 [(Value.bool Bool.false)]) <|
    .bind
      (.call (F_law1_num S r2.2.2.1) [(Ty.one (B.int IntKind.i64))] fun (r152 : (Int × Unit)) =>
      ifB (neI r152.1 r3.2.2.1)
        (.ret 0 [(Value.bool Bool.true)]) <|
      ifB (neI r2.2.1 r3.2.1)
        (.ret 0 [(Value.bool Bool.true)]) <|
      .call (F_law1_sameBytes S r2.1 r3.1) [(Ty.one B.bool)] fun (r153 : (Bool × Unit)) =>
      ifB (notB r153.1)
        (.ret 0 [(Value.bool Bool.true)]) <|
      .call (F_law1_keptInts S r1.1 atoms) [(Ty.one B.bool)] fun (r154 : (Bool × Unit)) =>
      .ret 0 [(Value.bool (notB r154.1))]) fun (k155 : Nat) =>
    fun (vs156 : (List Value)) =>
    ifB (eqN k155 0)
      (.cast [(Ty.one B.bool)] vs156 fun (r157 : (Bool × Unit)) =>
      ifB r157.1
        (.ret 0 [(Value.bool Bool.false)]) <|
      .bind
        (.loop [(Ty.one (B.int IntKind.i64))] ((0 : Int), ()) fun (r180 : (Int × Unit)) =>
          ifB (ltI r180.1 (natI atoms.len))
            (grd (andB (someB r1.1.base) (inB r180.1 r1.1.len)) <|
            .load (Ty.one (B.int IntKind.i64)) (shiftTo r1.1.base (mulN (toN r180.1) 1)) fun (n181 : Int) =>
            grd (andB (someB r1.1.base) (inB r180.1 r1.1.len)) <|
            .store (shiftTo r1.1.base (mulN (toN r180.1) 1)) [(Value.int IntKind.i64 (xorI IntKind.i64 n181 1))] <|
            .ret 0 [(Value.int IntKind.i64 (addI IntKind.i64 r180.1 1))]) <|
          .ret 2 []) fun (k182 : Nat) =>
      fun (vs183 : (List Value)) =>
      ifB (eqN k182 2)
        (.cast [] vs183 fun (u184 : Unit) =>
        grd (leB (natI atoms.len) r1.1.cap) <|
        .call (F_law1_copyInts S (⟨(cutBase r1.1.base r1.1.cap 0 1), (subN (toN (natI atoms.len)) 0), (subN r1.1.cap 0)⟩)) [(Ty.one B.sl)] fun (r185 : (Sl × Unit)) =>
        grd (leB (natI atoms.len) r1.1.cap) <|
        .call (F_codec_Encode S enc (⟨(cutBase r1.1.base r1.1.cap 0 1), (subN (toN (natI atoms.len)) 0), (subN r1.1.cap 0)⟩)) [(Ty.one B.sl), (Ty.one (B.int IntKind.i64)), (Ty.one (B.int IntKind.i64))] fun (r186 : (Sl × (Int × (Int × Unit)))) =>
        .call (F_ref1_Encode S enc r185.1) [(Ty.one B.sl), (Ty.one (B.int IntKind.i64)), (Ty.one (B.int IntKind.i64))] fun (r187 : (Sl × (Int × (Int × Unit)))) =>
        .bind
          (.call (F_law1_num S r186.2.2.1) [(Ty.one (B.int IntKind.i64))] fun (r193 : (Int × Unit)) =>
          ifB (eqI r193.1 r187.2.2.1)
            (ifB (eqI r186.2.1 r187.2.1)
              (.call (F_law1_sameBytes S r186.1 r187.1) [(Ty.one B.bool)] fun (r194 : (Bool × Unit)) =>
              .ret 0 [(Value.bool r194.1)]) <|
            .ret 0 [(Value.bool Bool.false)]) <|
          .ret 0 [(Value.bool Bool.false)]) fun (k195 : Nat) =>
        fun (vs196 : (List Value)) =>
        ifB (eqN k195 0)
          (.cast [(Ty.one B.bool)] vs196 fun (r197 : (Bool × Unit)) =>
          .ret 0 [(Value.bool r197.1)]) <|
        .fail) <|
      .fail) <|
    .fail) <|
  .fail
def F_law1_CodecEncode (S : Ids) (enc : Int) (atoms : Sl) : Prog :=
  .bind
    (.alloc [(Value.int IntKind.i64 233)] fun (a7 : Addr) =>
    .call (F_law1_encoded S (Int.ofNat 1) (⟨(Option.some a7), 1, 1⟩)) [(Ty.one B.bool)] fun (r8 : (Bool × Unit)) =>
    ifB r8.1
      (.call (F_law1_encoded S enc atoms) [(Ty.one B.bool)] fun (r9 : (Bool × Unit)) =>
      .ret 0 [(Value.bool r9.1)]) <|
    .ret 0 [(Value.bool Bool.false)]) fun (k10 : Nat) =>
  fun (vs11 : (List Value)) =>
  ifB (eqN k10 0)
    (.cast [(Ty.one B.bool)] vs11 fun (r12 : (Bool × Unit)) =>
    .ret 0 [(Value.bool r12.1)]) <|
  .fail
def F_codec_all (S : Ids) (c : Value) (b : Sl) : Prog :=
  .mk 8 [(Value.int IntKind.i64 0)] 0 (natI b.len) fun (l1 : Sl) =>
  .bind
    (.loop [(Ty.one B.sl), (Ty.one B.sl)] (b, (l1, ())) fun (r17 : (Sl × (Sl × Unit))) =>
      ifB (gtI (natI r17.1.len) 0)
        (.invoke c S.m_first [(Value.slice r17.1.base r17.1.len r17.1.cap)] [(Ty.one (B.int IntKind.i64)), (Ty.one (B.int IntKind.i64))] fun (r18 : (Int × (Int × Unit))) =>
        .alloc [(Value.int IntKind.i64 r18.1)] fun (a19 : Addr) =>
        .append 1 8 [(Value.int IntKind.i64 0)] r17.2.1 (⟨(Option.some a19), 1, 1⟩) fun (l20 : Sl) =>
        grd (leB r18.2.1 r17.1.len) <|
        .ret 0 [(Value.slice (cutBase r17.1.base r17.1.cap (toN r18.2.1) 1) (subN r17.1.len (toN r18.2.1)) (subN r17.1.cap (toN r18.2.1))), (Value.slice l20.base l20.len l20.cap)]) <|
      .ret 2 [(Value.slice r17.2.1.base r17.2.1.len r17.2.1.cap)]) fun (k21 : Nat) =>
  fun (vs22 : (List Value)) =>
  ifB (eqN k21 2)
    (.cast [(Ty.one B.sl)] vs22 fun (r23 : (Sl × Unit)) =>
    .ret 0 [(Value.slice r23.1.base r23.1.len r23.1.cap)]) <|
  .fail
def F_codec_Decode (S : Ids) (enc : Int) (b : Sl) : Prog :=
  .call (F_codec_of S enc) [(Ty.one B.any)] fun (r1 : (Value × Unit)) =>
  grd (isIface r1.1) <|
  ifB (isNilIface r1.1)
    (.ret 0 [(Value.slice Option.none 0 0), (Value.int IntKind.i64 10)]) <|
  .call (F_codec_all S r1.1 b) [(Ty.one B.sl)] fun (r2 : (Sl × Unit)) =>
  .ret 0 [(Value.slice r2.1.base r2.1.len r2.1.cap), (Value.int IntKind.i64 0)]
def F_ref1_meant (S : Ids) (b : Sl) (at_ : Int) (n : Int) : Prog :=
  .alloc [(Value.int IntKind.i64 0), (Value.int IntKind.i64 0), (Value.int IntKind.i64 0), (Value.int IntKind.i64 0), (Value.int IntKind.i64 0)] fun (a1 : Addr) =>
  .store (Option.some a1) [(Value.int IntKind.i64 0), (Value.int IntKind.i64 0), (Value.int IntKind.i64 192), (Value.int IntKind.i64 224), (Value.int IntKind.i64 240)] <|
  grd (andB (someB b.base) (inB at_ b.len)) <|
  .load (Ty.one (B.int IntKind.u8)) (shiftTo b.base (mulN (toN at_) 1)) fun (n2 : Int) =>
  grd (inB n 5) <|
  .load (Ty.one (B.int IntKind.i64)) (shiftTo (Option.some a1) (mulN (toN n) 1)) fun (n3 : Int) =>
  .bind
    (.loop [(Ty.one (B.int IntKind.i64)), (Ty.one (B.int IntKind.i64))] ((subI IntKind.i64 (wrapI IntKind.i64 n2) n3), ((1 : Int), ())) fun (r13 : (Int × (Int × Unit))) =>
      ifB (ltI r13.2.1 n)
        (grd (andB (someB b.base) (inB (addI IntKind.i64 at_ r13.2.1) b.len)) <|
        .load (Ty.one (B.int IntKind.u8)) (shiftTo b.base (mulN (toN (addI IntKind.i64 at_ r13.2.1)) 1)) fun (n14 : Int) =>
        .ret 0 [(Value.int IntKind.i64 (subI IntKind.i64 (addI IntKind.i64 (mulI IntKind.i64 r13.1 64) (wrapI IntKind.i64 n14)) 128)), (Value.int IntKind.i64 (addI IntKind.i64 r13.2.1 1))]) <|
      .ret 2 [(Value.int IntKind.i64 r13.1)]) fun (k15 : Nat) =>
  fun (vs16 : (List Value)) =>
  ifB (eqN k15 2)
    (.cast [(Ty.one (B.int IntKind.i64))] vs16 fun (r17 : (Int × Unit)) =>
    .ret 0 [(Value.int IntKind.i64 r17.1)]) <|
  .fail
def F_ref1_eightAt (S : Ids) (b : Sl) (at_ : Int) : Prog :=
  .bind
    (.loop [(Ty.one (B.int IntKind.i64))] ((1 : Int), ()) fun (r195 : (Int × Unit)) =>
      .bind
        (ifB (leI r195.1 4)
          (.ret 0 [(Value.bool (leI (addI IntKind.i64 at_ r195.1) (natI b.len)))]) <|
        .ret 0 [(Value.bool Bool.false)]) fun (k227 : Nat) =>
      fun (vs228 : (List Value)) =>
      ifB (eqN k227 0)
        (.cast [(Ty.one B.bool)] vs228 fun (r229 : (Bool × Unit)) =>
        ifB r229.1
          (.bind
            (.call (F_ref1_meant S b at_ r195.1) [(Ty.one (B.int IntKind.i64))] fun (r244 : (Int × Unit)) =>
            .call (F_ref1_Scalar S r244.1) [(Ty.one B.bool)] fun (r245 : (Bool × Unit)) =>
            ifB (notB r245.1)
              (.ret 0 []) <|
            .call (F_ref1_eight S r244.1) [(Ty.one B.sl)] fun (r246 : (Sl × Unit)) =>
            .call (F_ref1_begins S b at_ r246.1) [(Ty.one B.bool)] fun (r247 : (Bool × Unit)) =>
            .bind
              (ifB (eqI (natI r246.1.len) r195.1)
                (.ret 0 [(Value.bool r247.1)]) <|
              .ret 0 [(Value.bool Bool.false)]) fun (k251 : Nat) =>
            fun (vs252 : (List Value)) =>
            ifB (eqN k251 0)
              (.cast [(Ty.one B.bool)] vs252 fun (r253 : (Bool × Unit)) =>
              ifB r253.1
                (.ret 1 [(Value.int IntKind.i64 r244.1), (Value.int IntKind.i64 r195.1)]) <|
              .ret 0 []) <|
            .fail) fun (k254 : Nat) =>
          fun (vs255 : (List Value)) =>
          ifB (eqN k254 1)
            (.cast [(Ty.one (B.int IntKind.i64)), (Ty.one (B.int IntKind.i64))] vs255 fun (r256 : (Int × (Int × Unit))) =>
            .ret 1 [(Value.int IntKind.i64 r256.1), (Value.int IntKind.i64 r256.2.1)]) <|
          ifB (eqN k254 0)
            (.cast [] vs255 fun (u257 : Unit) =>
            .ret 0 [(Value.int IntKind.i64 (addI IntKind.i64 r195.1 1))]) <|
          .fail) <|
        .ret 2 []) <|
      .fail) fun (k258 : Nat) =>
  fun (vs259 : (List Value)) =>
  ifB (eqN k258 2)
    (.cast [] vs259 fun (u260 : Unit) =>
    grd (andB (someB b.base) (inB at_ b.len)) <|
    .load (Ty.one (B.int IntKind.u8)) (shiftTo b.base (mulN (toN at_) 1)) fun (n261 : Int) =>
    .ret 0 [(Value.int IntKind.i64 (subI IntKind.i64 (-1) (wrapI IntKind.i64 n261))), (Value.int IntKind.i64 1)]) <|
  ifB (eqN k258 1)
    (.cast [(Ty.one (B.int IntKind.i64)), (Ty.one (B.int IntKind.i64))] vs259 fun (r262 : (Int × (Int × Unit))) =>
    .ret 0 [(Value.int IntKind.i64 r262.1), (Value.int IntKind.i64 r262.2.1)]) <|
  .fail
def F_ref1_unitAt (S : Ids) (enc : Int) (b : Sl) (at_ : Int) : Prog :=
  ifB (gtI (addI IntKind.i64 at_ 2) (natI b.len))
    (.ret 0 [(Value.int IntKind.i64 (-1))]) <|
  ifB (eqI enc 2)
    (grd (andB (someB b.base) (inB at_ b.len)) <|
    .load (Ty.one (B.int IntKind.u8)) (shiftTo b.base (mulN (toN at_) 1)) fun (n1 : Int) =>
    grd (andB (someB b.base) (inB (addI IntKind.i64 at_ 1) b.len)) <|
    .load (Ty.one (B.int IntKind.u8)) (shiftTo b.base (mulN (toN (addI IntKind.i64 at_ 1)) 1)) fun (n2 : Int) =>
    .ret 0 [(Value.int IntKind.i64 (addI IntKind.i64 (wrapI IntKind.i64 n1) (mulI IntKind.i64 256 (wrapI IntKind.i64 n2))))]) <|
  grd (andB (someB b.base) (inB at_ b.len)) <|
  .load (Ty.one (B.int IntKind.u8)) (shiftTo b.base (mulN (toN at_) 1)) fun (n3 : Int) =>
  grd (andB (someB b.base) (inB (addI IntKind.i64 at_ 1) b.len)) <|
  .load (Ty.one (B.int IntKind.u8)) (shiftTo b.base (mulN (toN (addI IntKind.i64 at_ 1)) 1)) fun (n4 : Int) =>
  .ret 0 [(Value.int IntKind.i64 (addI IntKind.i64 (mulI IntKind.i64 256 (wrapI IntKind.i64 n3)) (wrapI IntKind.i64 n4)))]
def F_ref1_At (S : Ids) (enc : Int) (b : Sl) (at_ : Int) : Prog :=
  ifB (eqI enc 1)
    (.call (F_ref1_eightAt S b at_) [(Ty.one (B.int IntKind.i64)), (Ty.one (B.int IntKind.i64))] fun (r1 : (Int × (Int × Unit))) =>
    .ret 0 [(Value.int IntKind.i64 r1.1), (Value.int IntKind.i64 r1.2.1)]) <|
  ifB (eqI enc 4)
    (grd (andB (someB b.base) (inB at_ b.len)) <|
    .load (Ty.one (B.int IntKind.u8)) (shiftTo b.base (mulN (toN at_) 1)) fun (n2 : Int) =>
    .ret 0 [(Value.int IntKind.i64 (wrapI IntKind.i64 n2)), (Value.int IntKind.i64 1)]) <|
  .call (F_ref1_unitAt S enc b at_) [(Ty.one (B.int IntKind.i64))] fun (r3 : (Int × Unit)) =>
  ifB (ltI r3.1 0)
    (grd (andB (someB b.base) (inB at_ b.len)) <|
    .load (Ty.one (B.int IntKind.u8)) (shiftTo b.base (mulN (toN at_) 1)) fun (n4 : Int) =>
    .ret 0 [(Value.int IntKind.i64 (subI IntKind.i64 (-1) (wrapI IntKind.i64 n4))), (Value.int IntKind.i64 1)]) <|
  .call (F_ref1_unitAt S enc b (addI IntKind.i64 at_ 2)) [(Ty.one (B.int IntKind.i64))] fun (r5 : (Int × Unit)) =>
  .bind
    (ifB (geI r3.1 55296)
      (ifB (ltI r3.1 56320)
        (ifB (geI r5.1 56320)
          (.ret 0 [(Value.bool (ltI r5.1 57344))]) <|
        .ret 0 [(Value.bool Bool.false)]) <|
      .ret 0 [(Value.bool Bool.false)]) <|
    .ret 0 [(Value.bool Bool.false)]) fun (k9 : Nat) =>
  fun (vs10 : (List Value)) =>
  ifB (eqN k9 0)
    (.cast [(Ty.one B.bool)] vs10 fun (r11 : (Bool × Unit)) =>
    ifB r11.1
      (.ret 0 [(Value.int IntKind.i64 (subI IntKind.i64 (addI IntKind.i64 (addI IntKind.i64 65536 (mulI IntKind.i64 (subI IntKind.i64 r3.1 55296) 1024)) r5.1) 56320)), (Value.int IntKind.i64 4)]) <|
    .ret 0 [(Value.int IntKind.i64 r3.1), (Value.int IntKind.i64 2)]) <|
  .fail
def F_ref1_Decode (S : Ids) (enc : Int) (b : Sl) : Prog :=
  .call (F_ref1_known S enc) [(Ty.one B.bool)] fun (r1 : (Bool × Unit)) =>
  ifB (notB r1.1)
    (.ret 0 [(Value.slice Option.none 0 0), (Value.int IntKind.i64 10)]) <|
  .bind
    (.loop [(Ty.one B.sl), (Ty.one (B.int IntKind.i64))] ((⟨Option.none, 0, 0⟩ : Sl), ((0 : Int), ())) fun (r17 : (Sl × (Int × Unit))) =>
      ifB (ltI r17.2.1 (natI b.len))
        (.call (F_ref1_At S enc b r17.2.1) [(Ty.one (B.int IntKind.i64)), (Ty.one (B.int IntKind.i64))] fun (r18 : (Int × (Int × Unit))) =>
        .alloc [(Value.int IntKind.i64 r18.1)] fun (a19 : Addr) =>
        .append 1 8 [(Value.int IntKind.i64 0)] r17.1 (⟨(Option.some a19), 1, 1⟩) fun (l20 : Sl) =>
        .ret 0 [(Value.slice l20.base l20.len l20.cap), (Value.int IntKind.i64 (addI IntKind.i64 r17.2.1 r18.2.1))]) <|
      .ret 2 [(Value.slice r17.1.base r17.1.len r17.1.cap)]) fun (k21 : Nat) =>
  fun (vs22 : (List Value)) =>
  ifB (eqN k21 2)
    (.cast [(Ty.one B.sl)] vs22 fun (r23 : (Sl × Unit)) =>
    .ret 0 [(Value.slice r23.1.base r23.1.len r23.1.cap), (Value.int IntKind.i64 0)]) <|
  .fail
def F_law1_decoded (S : Ids) (enc : Int) (b : Sl) : Prog :=
  .call (F_law1_lend S b) [(Ty.one B.sl)] fun (r1 : (Sl × Unit)) =>
  grd (leB (natI b.len) r1.1.cap) <|
  .call (F_codec_Decode S enc (⟨(cutBase r1.1.base r1.1.cap 0 1), (subN (toN (natI b.len)) 0), (subN r1.1.cap 0)⟩)) [(Ty.one B.sl), (Ty.one (B.int IntKind.i64))] fun (r2 : (Sl × (Int × Unit))) =>
  .call (F_ref1_Decode S enc b) [(Ty.one B.sl), (Ty.one (B.int IntKind.i64))] fun (r3 : (Sl × (Int × Unit))) =>
  .call (F_codec_Decode S enc (⟨Option.none, 0, 0⟩)) [(Ty.one B.sl), (Ty.one (B.int IntKind.i64))] fun (r4 : (Sl × (Int × Unit))) =>
  .call (F_ref1_Decode S enc (⟨Option.none, 0, 0⟩)) [(Ty.one B.sl), (Ty.one (B.int IntKind.i64))] fun (r5 : (Sl × (Int × Unit))) =>
  .bind
    (.call (F_law1_num S r2.2.1) [(Ty.one (B.int IntKind.i64))] fun (r26 : (Int × Unit)) =>
    ifB (neI r26.1 r3.2.1)
      (.ret 0 [(Value.bool Bool.true)]) <|
    .call (F_law1_sameInts S r2.1 r3.1) [(Ty.one B.bool)] fun (r27 : (Bool × Unit)) =>
    ifB (notB r27.1)
      (.ret 0 [(Value.bool Bool.true)]) <|
    .call (F_law1_kept S r1.1 b) [(Ty.one B.bool)] fun (r28 : (Bool × Unit)) =>
    ifB (notB r28.1)
      (.ret 0 [(Value.bool Bool.true)]) <|
    ifB (neI (natI r4.1.len) 0)
      (.ret 0 [(Value.bool Bool.true)]) <|
    .call (F_law1_num S r4.2.1) [(Ty.one (B.int IntKind.i64))] fun (r29 : (Int × Unit)) =>
    .ret 0 [(Value.bool (neI r29.1 r5.2.1))]) fun (k30 : Nat) =>
  fun (vs31 : (List Value)) =>
  ifB (eqN k30 0)
    (.cast [(Ty.one B.bool)] vs31 fun (r32 : (Bool × Unit)) =>
    ifB r32.1
      (.ret 0 [(Value.bool Bool.false)]) <|
    .call (F_law1_turned S r1.1 (natI b.len)) [(Ty.one B.sl)] fun (r33 : (Sl × Unit)) =>
    grd (leB (natI b.len) r1.1.cap) <|
    .call (F_codec_Decode S enc (⟨(cutBase r1.1.base r1.1.cap 0 1), (subN (toN (natI b.len)) 0), (subN r1.1.cap 0)⟩)) [(Ty.one B.sl), (Ty.one (B.int IntKind.i64))] fun (r34 : (Sl × (Int × Unit))) =>
    .call (F_ref1_Decode S enc r33.1) [(Ty.one B.sl), (Ty.one (B.int IntKind.i64))] fun (r35 : (Sl × (Int × Unit))) =>
    .bind
      (.call (F_law1_num S r34.2.1) [(Ty.one (B.int IntKind.i64))] fun (r41 : (Int × Unit)) =>
      ifB (eqI r41.1 r35.2.1)
        (.call (F_law1_sameInts S r34.1 r35.1) [(Ty.one B.bool)] fun (r42 : (Bool × Unit)) =>
        .ret 0 [(Value.bool r42.1)]) <|
      .ret 0 [(Value.bool Bool.false)]) fun (k43 : Nat) =>
    fun (vs44 : (List Value)) =>
    ifB (eqN k43 0)
      (.cast [(Ty.one B.bool)] vs44 fun (r45 : (Bool × Unit)) =>
      .ret 0 [(Value.bool r45.1)]) <|
    .fail) <|
  .fail
def F_law1_CodecDecode (S : Ids) (enc : Int) (b : Sl) : Prog :=
  .bind
    (.alloc [(Value.int IntKind.u8 195), (Value.int IntKind.u8 169)] fun (a7 : Addr) =>
    .call (F_law1_decoded S (Int.ofNat 1) (⟨(Option.some a7), 2, 2⟩)) [(Ty.one B.bool)] fun (r8 : (Bool × Unit)) =>
    ifB r8.1
      (.call (F_law1_decoded S enc b) [(Ty.one B.bool)] fun (r9 : (Bool × Unit)) =>
      .ret 0 [(Value.bool r9.1)]) <|
    .ret 0 [(Value.bool Bool.false)]) fun (k10 : Nat) =>
  fun (vs11 : (List Value)) =>
  ifB (eqN k10 0)
    (.cast [(Ty.one B.bool)] vs11 fun (r12 : (Bool × Unit)) =>
    .ret 0 [(Value.bool r12.1)]) <|
  .fail
def F_codec_zeros (S : Ids) (b : Sl) (from_ : Int) (units : Int) : Prog :=
  .bind
    (.loop [(Ty.one (B.int IntKind.i64)), (Ty.one (B.int IntKind.i64))] ((0 : Int), (from_, ())) fun (r32 : (Int × (Int × Unit))) =>
      ifB (ltI r32.2.1 (mulI IntKind.i64 2 units))
        (.bind
          (grd (andB (someB b.base) (inB r32.2.1 b.len)) <|
          .load (Ty.one (B.int IntKind.u8)) (shiftTo b.base (mulN (toN r32.2.1) 1)) fun (n37 : Int) =>
          ifB (eqI n37 0)
            (.ret 0 [(Value.int IntKind.i64 (addI IntKind.i64 r32.1 1))]) <|
          .ret 0 [(Value.int IntKind.i64 r32.1)]) fun (k38 : Nat) =>
        fun (vs39 : (List Value)) =>
        ifB (eqN k38 0)
          (.cast [(Ty.one (B.int IntKind.i64))] vs39 fun (r40 : (Int × Unit)) =>
          .ret 0 [(Value.int IntKind.i64 r40.1), (Value.int IntKind.i64 (addI IntKind.i64 r32.2.1 2))]) <|
        .fail) <|
      .ret 2 [(Value.int IntKind.i64 r32.1)]) fun (k41 : Nat) =>
  fun (vs42 : (List Value)) =>
  ifB (eqN k41 2)
    (.cast [(Ty.one (B.int IntKind.i64))] vs42 fun (r43 : (Int × Unit)) =>
    .flt (quoF FloatKind.f64 (intF FloatKind.f64 r43.1) (intF FloatKind.f64 units)) fun (k44 : Nat) =>
    .ret 0 [(Value.float FloatKind.f64 k44)]) <|
  .fail
def F_codec_bounds (S : Ids) (c : Int) : Prog :=
  ifB (ltI c 128)
    (.ret 0 [(Value.int IntKind.i64 1), (Value.int IntKind.u8 0), (Value.int IntKind.u8 0)]) <|
  ifB (ltI c 194)
    (.ret 0 [(Value.int IntKind.i64 0), (Value.int IntKind.u8 0), (Value.int IntKind.u8 0)]) <|
  ifB (ltI c 224)
    (.ret 0 [(Value.int IntKind.i64 2), (Value.int IntKind.u8 128), (Value.int IntKind.u8 191)]) <|
  ifB (eqI c 224)
    (.ret 0 [(Value.int IntKind.i64 3), (Value.int IntKind.u8 160), (Value.int IntKind.u8 191)]) <|
  ifB (eqI c 237)
    (.ret 0 [(Value.int IntKind.i64 3), (Value.int IntKind.u8 128), (Value.int IntKind.u8 159)]) <|
  ifB (ltI c 240)
    (.ret 0 [(Value.int IntKind.i64 3), (Value.int IntKind.u8 128), (Value.int IntKind.u8 191)]) <|
  ifB (eqI c 240)
    (.ret 0 [(Value.int IntKind.i64 4), (Value.int IntKind.u8 144), (Value.int IntKind.u8 191)]) <|
  ifB (ltI c 244)
    (.ret 0 [(Value.int IntKind.i64 4), (Value.int IntKind.u8 128), (Value.int IntKind.u8 191)]) <|
  ifB (eqI c 244)
    (.ret 0 [(Value.int IntKind.i64 4), (Value.int IntKind.u8 128), (Value.int IntKind.u8 143)]) <|
  .ret 0 [(Value.int IntKind.i64 0), (Value.int IntKind.u8 0), (Value.int IntKind.u8 0)]
def F_codec_row (S : Ids) (b : Sl) : Prog :=
  grd (andB (someB b.base) (inB 0 b.len)) <|
  .load (Ty.one (B.int IntKind.u8)) (shiftTo b.base 0) fun (n1 : Int) =>
  .call (F_codec_bounds S n1) [(Ty.one (B.int IntKind.i64)), (Ty.one (B.int IntKind.u8)), (Ty.one (B.int IntKind.u8))] fun (r2 : (Int × (Int × (Int × Unit)))) =>
  ifB (ltI r2.1 2)
    (.ret 0 [(Value.int IntKind.i64 r2.1), (Value.int IntKind.i64 r2.1)]) <|
  .bind
    (ifB (ltI (natI b.len) 2)
      (.ret 0 [(Value.bool Bool.true)]) <|
    grd (andB (someB b.base) (inB 1 b.len)) <|
    .load (Ty.one (B.int IntKind.u8)) (shiftTo b.base 1) fun (n50 : Int) =>
    ifB (ltI n50 r2.2.1)
      (.ret 0 [(Value.bool Bool.true)]) <|
    grd (andB (someB b.base) (inB 1 b.len)) <|
    .load (Ty.one (B.int IntKind.u8)) (shiftTo b.base 1) fun (n51 : Int) =>
    .ret 0 [(Value.bool (gtI n51 r2.2.2.1))]) fun (k52 : Nat) =>
  fun (vs53 : (List Value)) =>
  ifB (eqN k52 0)
    (.cast [(Ty.one B.bool)] vs53 fun (r54 : (Bool × Unit)) =>
    ifB r54.1
      (.ret 0 [(Value.int IntKind.i64 1), (Value.int IntKind.i64 r2.1)]) <|
    .bind
      (.loop [(Ty.one (B.int IntKind.i64))] ((2 : Int), ()) fun (r85 : (Int × Unit)) =>
        .bind
          (ifB (ltI r85.1 r2.1)
            (ifB (ltI r85.1 (natI b.len))
              (grd (andB (someB b.base) (inB r85.1 b.len)) <|
              .load (Ty.one (B.int IntKind.u8)) (shiftTo b.base (mulN (toN r85.1) 1)) fun (n90 : Int) =>
              .ret 0 [(Value.bool (eqI (andI IntKind.u8 n90 192) 128))]) <|
            .ret 0 [(Value.bool Bool.false)]) <|
          .ret 0 [(Value.bool Bool.false)]) fun (k91 : Nat) =>
        fun (vs92 : (List Value)) =>
        ifB (eqN k91 0)
          (.cast [(Ty.one B.bool)] vs92 fun (r93 : (Bool × Unit)) =>
          ifB r93.1
            (.ret 0 [(Value.int IntKind.i64 (addI IntKind.i64 r85.1 1))]) <|
          .ret 2 [(Value.int IntKind.i64 r85.1)]) <|
        .fail) fun (k94 : Nat) =>
    fun (vs95 : (List Value)) =>
    ifB (eqN k94 2)
      (.cast [(Ty.one (B.int IntKind.i64))] vs95 fun (r96 : (Int × Unit)) =>
      .ret 0 [(Value.int IntKind.i64 r96.1), (Value.int IntKind.i64 r2.1)]) <|
    .fail) <|
  .fail
def F_eight_first (S : Ids) (x0 : (Unit)) (b : Sl) : Prog :=
  .alloc [] fun (a1 : Addr) =>
  .call (F_codec_row S b) [(Ty.one (B.int IntKind.i64)), (Ty.one (B.int IntKind.i64))] fun (r2 : (Int × (Int × Unit))) =>
  .bind
    (ifB (eqI r2.2.1 0)
      (.ret 0 [(Value.bool Bool.true)]) <|
    .ret 0 [(Value.bool (ltI r2.1 r2.2.1))]) fun (k42 : Nat) =>
  fun (vs43 : (List Value)) =>
  ifB (eqN k42 0)
    (.cast [(Ty.one B.bool)] vs43 fun (r44 : (Bool × Unit)) =>
    ifB r44.1
      (grd (andB (someB b.base) (inB 0 b.len)) <|
      .load (Ty.one (B.int IntKind.u8)) (shiftTo b.base 0) fun (n45 : Int) =>
      .ret 0 [(Value.int IntKind.i64 (subI IntKind.i64 (-1) (wrapI IntKind.i64 n45))), (Value.int IntKind.i64 1)]) <|
    grd (andB (someB b.base) (inB 0 b.len)) <|
    .load (Ty.one (B.int IntKind.u8)) (shiftTo b.base 0) fun (n46 : Int) =>
    .bind
      (ifB (eqI r2.2.1 2)
        (.ret 0 [(Value.int IntKind.i64 (andI IntKind.i64 (wrapI IntKind.i64 n46) 31))]) <|
      ifB (eqI r2.2.1 3)
        (.ret 0 [(Value.int IntKind.i64 (andI IntKind.i64 (wrapI IntKind.i64 n46) 15))]) <|
      ifB (eqI r2.2.1 4)
        (.ret 0 [(Value.int IntKind.i64 (andI IntKind.i64 (wrapI IntKind.i64 n46) 7))]) <|
      .ret 0 [(Value.int IntKind.i64 (wrapI IntKind.i64 n46))]) fun (k64 : Nat) =>
    fun (vs65 : (List Value)) =>
    ifB (eqN k64 0)
      (.cast [(Ty.one (B.int IntKind.i64))] vs65 fun (r66 : (Int × Unit)) =>
      grd (andB (leB r2.2.1 b.cap) (leB 1 (toN r2.2.1))) <|
      .bind
        (.loop [(Ty.one (B.int IntKind.i64)), (Ty.one (B.int IntKind.i64))] (r66.1, ((0 : Int), ())) fun (r76 : (Int × (Int × Unit))) =>
          ifB (ltI r76.2.1 (natI (subN (toN r2.2.1) 1)))
            (grd (andB (someB (cutBase b.base b.cap 1 1)) (inB r76.2.1 (subN (toN r2.2.1) 1))) <|
            .load (Ty.one (B.int IntKind.u8)) (shiftTo (cutBase b.base b.cap 1 1) (mulN (toN r76.2.1) 1)) fun (n77 : Int) =>
            grd (notB Bool.false) <|
            .ret 0 [(Value.int IntKind.i64 (orI IntKind.i64 (shlI IntKind.i64 r76.1 6) (wrapI IntKind.i64 (andI IntKind.u8 n77 63)))), (Value.int IntKind.i64 (addI IntKind.i64 r76.2.1 1))]) <|
          .ret 3 [(Value.int IntKind.i64 r76.1)]) fun (k78 : Nat) =>
      fun (vs79 : (List Value)) =>
      ifB (eqN k78 3)
        (.cast [(Ty.one (B.int IntKind.i64))] vs79 fun (r80 : (Int × Unit)) =>
        .ret 0 [(Value.int IntKind.i64 r80.1), (Value.int IntKind.i64 r2.2.1)]) <|
      .fail) <|
    .fail) <|
  .fail
def F_codec_Guess (S : Ids) (b : Sl) : Prog :=
  .call (F_codec_Detect S b) [(Ty.one (B.int IntKind.i64)), (Ty.one (B.int IntKind.i64))] fun (r1 : (Int × (Int × Unit))) =>
  ifB (neI r1.1 0)
    (.ret 0 [(Value.int IntKind.i64 r1.1), (Value.float FloatKind.f64 4607182418800017408)]) <|
  .bind
    (grd (notB Bool.false) <|
    ifB (gtI (quoI IntKind.i64 (natI b.len) 2) 0)
      (.call (F_codec_zeros S b (Int.ofNat 0) (quoI IntKind.i64 (natI b.len) 2)) [(Ty.one (B.flt FloatKind.f64))] fun (r132 : (Nat × Unit)) =>
      .call (F_codec_zeros S b (Int.ofNat 1) (quoI IntKind.i64 (natI b.len) 2)) [(Ty.one (B.flt FloatKind.f64))] fun (r133 : (Nat × Unit)) =>
      .bind
        (ifB (geF FloatKind.f64 r133.1 4602678819172646912)
          (.ret 0 [(Value.bool (leF FloatKind.f64 r132.1 4593671619917905920))]) <|
        .ret 0 [(Value.bool Bool.false)]) fun (k143 : Nat) =>
      fun (vs144 : (List Value)) =>
      ifB (eqN k143 0)
        (.cast [(Ty.one B.bool)] vs144 fun (r145 : (Bool × Unit)) =>
        ifB r145.1
          (.ret 1 [(Value.int IntKind.i64 2), (Value.float FloatKind.f64 r133.1)]) <|
        .bind
          (ifB (geF FloatKind.f64 r132.1 4602678819172646912)
            (.ret 0 [(Value.bool (leF FloatKind.f64 r133.1 4593671619917905920))]) <|
          .ret 0 [(Value.bool Bool.false)]) fun (k149 : Nat) =>
        fun (vs150 : (List Value)) =>
        ifB (eqN k149 0)
          (.cast [(Ty.one B.bool)] vs150 fun (r151 : (Bool × Unit)) =>
          ifB r151.1
            (.ret 1 [(Value.int IntKind.i64 3), (Value.float FloatKind.f64 r132.1)]) <|
          .ret 0 []) <|
        .fail) <|
      .fail) <|
    .ret 0 []) fun (k152 : Nat) =>
  fun (vs153 : (List Value)) =>
  ifB (eqN k152 1)
    (.cast [(Ty.one (B.int IntKind.i64)), (Ty.one (B.flt FloatKind.f64))] vs153 fun (r154 : (Int × (Nat × Unit))) =>
    .ret 0 [(Value.int IntKind.i64 r154.1), (Value.float FloatKind.f64 r154.2.1)]) <|
  ifB (eqN k152 0)
    (.cast [] vs153 fun (u155 : Unit) =>
    .bind
      (.loop [(Ty.one (B.int IntKind.i64)), (Ty.one (B.int IntKind.i64)), (Ty.one (B.int IntKind.i64))] ((0 : Int), ((0 : Int), ((0 : Int), ()))) fun (r233 : (Int × (Int × (Int × Unit)))) =>
        ifB (ltI r233.2.2.1 (natI b.len))
          (grd (leB r233.2.2.1 b.len) <|
          .call (F_eight_first S () (⟨(cutBase b.base b.cap (toN r233.2.2.1) 1), (subN b.len (toN r233.2.2.1)), (subN b.cap (toN r233.2.2.1))⟩)) [(Ty.one (B.int IntKind.i64)), (Ty.one (B.int IntKind.i64))] fun (r234 : (Int × (Int × Unit))) =>
          .bind
            (ifB (ltI r234.1 0)
              (.ret 0 [(Value.int IntKind.i64 (addI IntKind.i64 r233.2.1 1))]) <|
            .ret 0 [(Value.int IntKind.i64 r233.2.1)]) fun (k246 : Nat) =>
          fun (vs247 : (List Value)) =>
          ifB (eqN k246 0)
            (.cast [(Ty.one (B.int IntKind.i64))] vs247 fun (r248 : (Int × Unit)) =>
            .bind
              (grd (andB (someB b.base) (inB r233.2.2.1 b.len)) <|
              .load (Ty.one (B.int IntKind.u8)) (shiftTo b.base (mulN (toN r233.2.2.1) 1)) fun (n253 : Int) =>
              ifB (geI n253 128)
                (.ret 0 [(Value.int IntKind.i64 (addI IntKind.i64 r233.1 r234.2.1))]) <|
              .ret 0 [(Value.int IntKind.i64 r233.1)]) fun (k254 : Nat) =>
            fun (vs255 : (List Value)) =>
            ifB (eqN k254 0)
              (.cast [(Ty.one (B.int IntKind.i64))] vs255 fun (r256 : (Int × Unit)) =>
              .ret 0 [(Value.int IntKind.i64 r256.1), (Value.int IntKind.i64 r248.1), (Value.int IntKind.i64 (addI IntKind.i64 r233.2.2.1 r234.2.1))]) <|
            .fail) <|
          .fail) <|
        .ret 3 [(Value.int IntKind.i64 r233.1), (Value.int IntKind.i64 r233.2.1)]) fun (k257 : Nat) =>
    fun (vs258 : (List Value)) =>
    ifB (eqN k257 3)
      (.cast [(Ty.one (B.int IntKind.i64)), (Ty.one (B.int IntKind.i64))] vs258 fun (r259 : (Int × (Int × Unit))) =>
      ifB (eqI r259.2.1 0)
        (.ret 0 [(Value.int IntKind.i64 1), (Value.float FloatKind.f64 4607182418800017408)]) <|
      .flt (quoF FloatKind.f64 (intF FloatKind.f64 (subI IntKind.i64 r259.1 r259.2.1)) (intF FloatKind.f64 r259.1)) fun (k260 : Nat) =>
      ifB (geF FloatKind.f64 k260 4604930618986332160)
        (.ret 0 [(Value.int IntKind.i64 1), (Value.float FloatKind.f64 k260)]) <|
      .flt (subF FloatKind.f64 4607182418800017408 k260) fun (k261 : Nat) =>
      .ret 0 [(Value.int IntKind.i64 4), (Value.float FloatKind.f64 k261)]) <|
    .fail) <|
  .fail
def F_ref1_Guess (S : Ids) (b : Sl) : Prog :=
  .call (F_ref1_Detect S b) [(Ty.one (B.int IntKind.i64)), (Ty.one (B.int IntKind.i64))] fun (r1 : (Int × (Int × Unit))) =>
  ifB (neI r1.1 0)
    (.ret 0 [(Value.int IntKind.i64 r1.1), (Value.float FloatKind.f64 4607182418800017408)]) <|
  grd (notB Bool.false) <|
  .bind
    (ifB (gtI (quoI IntKind.i64 (natI b.len) 2) 0)
      (.alloc [(Value.int IntKind.i64 0), (Value.int IntKind.i64 0)] fun (a237 : Addr) =>
      .store (Option.some a237) [(Value.int IntKind.i64 0), (Value.int IntKind.i64 0)] <|
      .bind
        (.loop [(Ty.one (B.int IntKind.i64))] ((0 : Int), ()) fun (r296 : (Int × Unit)) =>
          ifB (ltI r296.1 (mulI IntKind.i64 2 (quoI IntKind.i64 (natI b.len) 2)))
            (.bind
              (grd (andB (someB b.base) (inB r296.1 b.len)) <|
              .load (Ty.one (B.int IntKind.u8)) (shiftTo b.base (mulN (toN r296.1) 1)) fun (n302 : Int) =>
              ifB (eqI n302 0)
                (grd (notB Bool.false) <|
                grd (inB (remI IntKind.i64 r296.1 2) 2) <|
                .load (Ty.one (B.int IntKind.i64)) (shiftTo (Option.some a237) (mulN (toN (remI IntKind.i64 r296.1 2)) 1)) fun (n303 : Int) =>
                grd (inB (remI IntKind.i64 r296.1 2) 2) <|
                .store (shiftTo (Option.some a237) (mulN (toN (remI IntKind.i64 r296.1 2)) 1)) [(Value.int IntKind.i64 (addI IntKind.i64 n303 1))] <|
                .ret 0 []) <|
              .ret 0 []) fun (k304 : Nat) =>
            fun (vs305 : (List Value)) =>
            ifB (eqN k304 0)
              (.cast [] vs305 fun (u306 : Unit) =>
              .ret 0 [(Value.int IntKind.i64 (addI IntKind.i64 r296.1 1))]) <|
            .fail) <|
          .ret 2 []) fun (k307 : Nat) =>
      fun (vs308 : (List Value)) =>
      ifB (eqN k307 2)
        (.cast [] vs308 fun (u309 : Unit) =>
        .load (Ty.one (B.int IntKind.i64)) (shiftTo (Option.some a237) 0) fun (n310 : Int) =>
        .flt (quoF FloatKind.f64 (intF FloatKind.f64 n310) (intF FloatKind.f64 (quoI IntKind.i64 (natI b.len) 2))) fun (k311 : Nat) =>
        .load (Ty.one (B.int IntKind.i64)) (shiftTo (Option.some a237) 1) fun (n312 : Int) =>
        .flt (quoF FloatKind.f64 (intF FloatKind.f64 n312) (intF FloatKind.f64 (quoI IntKind.i64 (natI b.len) 2))) fun (k313 : Nat) =>
        .bind
          (ifB (geF FloatKind.f64 k313 4602678819172646912)
            (.ret 0 [(Value.bool (leF FloatKind.f64 k311 4593671619917905920))]) <|
          .ret 0 [(Value.bool Bool.false)]) fun (k323 : Nat) =>
        fun (vs324 : (List Value)) =>
        ifB (eqN k323 0)
          (.cast [(Ty.one B.bool)] vs324 fun (r325 : (Bool × Unit)) =>
          ifB r325.1
            (.ret 1 [(Value.int IntKind.i64 2), (Value.float FloatKind.f64 k313)]) <|
          .bind
            (ifB (geF FloatKind.f64 k311 4602678819172646912)
              (.ret 0 [(Value.bool (leF FloatKind.f64 k313 4593671619917905920))]) <|
            .ret 0 [(Value.bool Bool.false)]) fun (k329 : Nat) =>
          fun (vs330 : (List Value)) =>
          ifB (eqN k329 0)
            (.cast [(Ty.one B.bool)] vs330 fun (r331 : (Bool × Unit)) =>
            ifB r331.1
              (.ret 1 [(Value.int IntKind.i64 3), (Value.float FloatKind.f64 k311)]) <|
            .ret 0 []) <|
          .fail) <|
        .fail) <|
      .fail) <|
    .ret 0 []) fun (k332 : Nat) =>
  fun (vs333 : (List Value)) =>
  ifB (eqN k332 1)
    (.cast [(Ty.one (B.int IntKind.i64)), (Ty.one (B.flt FloatKind.f64))] vs333 fun (r334 : (Int × (Nat × Unit))) =>
    .ret 0 [(Value.int IntKind.i64 r334.1), (Value.float FloatKind.f64 r334.2.1)]) <|
  ifB (eqN k332 0)
    (.cast [] vs333 fun (u335 : Unit) =>
    .bind
      (.loop [(Ty.one (B.int IntKind.i64)), (Ty.one (B.int IntKind.i64))] ((0 : Int), ((0 : Int), ())) fun (r413 : (Int × (Int × Unit))) =>
        ifB (ltI r413.2.1 (natI b.len))
          (.bind
            (grd (andB (someB b.base) (inB r413.2.1 b.len)) <|
            .load (Ty.one (B.int IntKind.u8)) (shiftTo b.base (mulN (toN r413.2.1) 1)) fun (n418 : Int) =>
            ifB (geI n418 128)
              (.ret 0 [(Value.int IntKind.i64 (addI IntKind.i64 r413.1 1))]) <|
            .ret 0 [(Value.int IntKind.i64 r413.1)]) fun (k419 : Nat) =>
          fun (vs420 : (List Value)) =>
          ifB (eqN k419 0)
            (.cast [(Ty.one (B.int IntKind.i64))] vs420 fun (r421 : (Int × Unit)) =>
            .ret 0 [(Value.int IntKind.i64 r421.1), (Value.int IntKind.i64 (addI IntKind.i64 r413.2.1 1))]) <|
          .fail) <|
        .ret 4 [(Value.int IntKind.i64 r413.1)]) fun (k422 : Nat) =>
    fun (vs423 : (List Value)) =>
    ifB (eqN k422 4)
      (.cast [(Ty.one (B.int IntKind.i64))] vs423 fun (r424 : (Int × Unit)) =>
      .call (F_ref1_Decode S (Int.ofNat 1) b) [(Ty.one B.sl), (Ty.one (B.int IntKind.i64))] fun (r425 : (Sl × (Int × Unit))) =>
      .bind
        (.loop [(Ty.one (B.int IntKind.i64)), (Ty.one (B.int IntKind.i64))] ((0 : Int), ((0 : Int), ())) fun (r458 : (Int × (Int × Unit))) =>
          ifB (ltI r458.2.1 (natI r425.1.len))
            (.bind
              (grd (andB (someB r425.1.base) (inB r458.2.1 r425.1.len)) <|
              .load (Ty.one (B.int IntKind.i64)) (shiftTo r425.1.base (mulN (toN r458.2.1) 1)) fun (n463 : Int) =>
              ifB (ltI n463 0)
                (.ret 0 [(Value.int IntKind.i64 (addI IntKind.i64 r458.1 1))]) <|
              .ret 0 [(Value.int IntKind.i64 r458.1)]) fun (k464 : Nat) =>
            fun (vs465 : (List Value)) =>
            ifB (eqN k464 0)
              (.cast [(Ty.one (B.int IntKind.i64))] vs465 fun (r466 : (Int × Unit)) =>
              .ret 0 [(Value.int IntKind.i64 r466.1), (Value.int IntKind.i64 (addI IntKind.i64 r458.2.1 1))]) <|
            .fail) <|
          .ret 6 [(Value.int IntKind.i64 r458.1)]) fun (k467 : Nat) =>
      fun (vs468 : (List Value)) =>
      ifB (eqN k467 6)
        (.cast [(Ty.one (B.int IntKind.i64))] vs468 fun (r469 : (Int × Unit)) =>
        ifB (eqI r469.1 0)
          (.ret 0 [(Value.int IntKind.i64 1), (Value.float FloatKind.f64 4607182418800017408)]) <|
        .flt (quoF FloatKind.f64 (intF FloatKind.f64 (subI IntKind.i64 r424.1 r469.1)) (intF FloatKind.f64 r424.1)) fun (k470 : Nat) =>
        ifB (geF FloatKind.f64 k470 4604930618986332160)
          (.ret 0 [(Value.int IntKind.i64 1), (Value.float FloatKind.f64 k470)]) <|
        .flt (subF FloatKind.f64 4607182418800017408 k470) fun (k471 : Nat) =>
        .ret 0 [(Value.int IntKind.i64 4), (Value.float FloatKind.f64 k471)]) <|
      .fail) <|
    .fail) <|
  .fail
def F_law1_guessed (S : Ids) (b : Sl) : Prog :=
  .call (F_law1_lend S b) [(Ty.one B.sl)] fun (r1 : (Sl × Unit)) =>
  grd (leB (natI b.len) r1.1.cap) <|
  .call (F_codec_Guess S (⟨(cutBase r1.1.base r1.1.cap 0 1), (subN (toN (natI b.len)) 0), (subN r1.1.cap 0)⟩)) [(Ty.one (B.int IntKind.i64)), (Ty.one (B.flt FloatKind.f64))] fun (r2 : (Int × (Nat × Unit))) =>
  .call (F_ref1_Guess S b) [(Ty.one (B.int IntKind.i64)), (Ty.one (B.flt FloatKind.f64))] fun (r3 : (Int × (Nat × Unit))) =>
  .bind
    (ifB (neI r2.1 r3.1)
      (.ret 0 [(Value.bool Bool.true)]) <|
    ifB (neF FloatKind.f64 r2.2.1 r3.2.1)
      (.ret 0 [(Value.bool Bool.true)]) <|
    .call (F_law1_kept S r1.1 b) [(Ty.one B.bool)] fun (r17 : (Bool × Unit)) =>
    .ret 0 [(Value.bool (notB r17.1))]) fun (k18 : Nat) =>
  fun (vs19 : (List Value)) =>
  ifB (eqN k18 0)
    (.cast [(Ty.one B.bool)] vs19 fun (r20 : (Bool × Unit)) =>
    ifB r20.1
      (.ret 0 [(Value.bool Bool.false)]) <|
    .call (F_law1_turned S r1.1 (natI b.len)) [(Ty.one B.sl)] fun (r21 : (Sl × Unit)) =>
    grd (leB (natI b.len) r1.1.cap) <|
    .call (F_codec_Guess S (⟨(cutBase r1.1.base r1.1.cap 0 1), (subN (toN (natI b.len)) 0), (subN r1.1.cap 0)⟩)) [(Ty.one (B.int IntKind.i64)), (Ty.one (B.flt FloatKind.f64))] fun (r22 : (Int × (Nat × Unit))) =>
    .call (F_ref1_Guess S r21.1) [(Ty.one (B.int IntKind.i64)), (Ty.one (B.flt FloatKind.f64))] fun (r23 : (Int × (Nat × Unit))) =>
    .bind
      (ifB (eqI r22.1 r23.1)
        (.ret 0 [(Value.bool (eqF FloatKind.f64 r22.2.1 r23.2.1))]) <|
      .ret 0 [(Value.bool Bool.false)]) fun (k27 : Nat) =>
    fun (vs28 : (List Value)) =>
    ifB (eqN k27 0)
      (.cast [(Ty.one B.bool)] vs28 fun (r29 : (Bool × Unit)) =>
      .ret 0 [(Value.bool r29.1)]) <|
    .fail) <|
  .fail
def F_law1_CodecGuess (S : Ids) (b : Sl) : Prog :=
  .bind
    (.alloc [(Value.int IntKind.u8 65), (Value.int IntKind.u8 233)] fun (a7 : Addr) =>
    .call (F_law1_guessed S (⟨(Option.some a7), 2, 2⟩)) [(Ty.one B.bool)] fun (r8 : (Bool × Unit)) =>
    ifB r8.1
      (.call (F_law1_guessed S b) [(Ty.one B.bool)] fun (r9 : (Bool × Unit)) =>
      .ret 0 [(Value.bool r9.1)]) <|
    .ret 0 [(Value.bool Bool.false)]) fun (k10 : Nat) =>
  fun (vs11 : (List Value)) =>
  ifB (eqN k10 0)
    (.cast [(Ty.one B.bool)] vs11 fun (r12 : (Bool × Unit)) =>
    .ret 0 [(Value.bool r12.1)]) <|
  .fail
def F_codec_Next (S : Ids) (enc : Int) (b : Sl) (at_ : Int) : Prog :=
  .call (F_codec_of S enc) [(Ty.one B.any)] fun (r1 : (Value × Unit)) =>
  .bind
    (grd (isIface r1.1) <|
    ifB (isNilIface r1.1)
      (.ret 0 [(Value.bool Bool.true)]) <|
    ifB (ltI at_ 0)
      (.ret 0 [(Value.bool Bool.true)]) <|
    .ret 0 [(Value.bool (geI at_ (natI b.len)))]) fun (k6 : Nat) =>
  fun (vs7 : (List Value)) =>
  ifB (eqN k6 0)
    (.cast [(Ty.one B.bool)] vs7 fun (r8 : (Bool × Unit)) =>
    ifB r8.1
      (.ret 0 [(Value.int IntKind.i64 0), (Value.int IntKind.i64 0)]) <|
    grd (leB at_ b.len) <|
    .nilok (Value.func (Fn.method S.m_first) #[r1.1] #[]) <|
    .invoke r1.1 S.m_first [(Value.slice (cutBase b.base b.cap (toN at_) 1) (subN b.len (toN at_)) (subN b.cap (toN at_)))] [(Ty.one (B.int IntKind.i64)), (Ty.one (B.int IntKind.i64))] fun (r9 : (Int × (Int × Unit))) =>
    .ret 0 [(Value.int IntKind.i64 r9.1), (Value.int IntKind.i64 r9.2.1)]) <|
  .fail
def F_codec_Prev (S : Ids) (enc : Int) (b : Sl) (at_ : Int) : Prog :=
  .call (F_codec_of S enc) [(Ty.one B.any)] fun (r1 : (Value × Unit)) =>
  .bind
    (grd (isIface r1.1) <|
    ifB (isNilIface r1.1)
      (.ret 0 [(Value.bool Bool.true)]) <|
    ifB (leI at_ 0)
      (.ret 0 [(Value.bool Bool.true)]) <|
    .ret 0 [(Value.bool (gtI at_ (natI b.len)))]) fun (k6 : Nat) =>
  fun (vs7 : (List Value)) =>
  ifB (eqN k6 0)
    (.cast [(Ty.one B.bool)] vs7 fun (r8 : (Bool × Unit)) =>
    ifB r8.1
      (.ret 0 [(Value.int IntKind.i64 0), (Value.int IntKind.i64 0)]) <|
    grd (leB at_ b.cap) <|
    .nilok (Value.func (Fn.method S.m_last) #[r1.1] #[]) <|
    .invoke r1.1 S.m_last [(Value.slice (cutBase b.base b.cap 0 1) (subN (toN at_) 0) (subN b.cap 0))] [(Ty.one (B.int IntKind.i64)), (Ty.one (B.int IntKind.i64))] fun (r9 : (Int × (Int × Unit))) =>
    .ret 0 [(Value.int IntKind.i64 r9.1), (Value.int IntKind.i64 r9.2.1)]) <|
  .fail
def F_ref1_Next (S : Ids) (enc : Int) (b : Sl) (at_ : Int) : Prog :=
  .call (F_ref1_known S enc) [(Ty.one B.bool)] fun (r1 : (Bool × Unit)) =>
  .bind
    (ifB (notB r1.1)
      (.ret 0 [(Value.bool Bool.true)]) <|
    ifB (ltI at_ 0)
      (.ret 0 [(Value.bool Bool.true)]) <|
    .ret 0 [(Value.bool (geI at_ (natI b.len)))]) fun (k6 : Nat) =>
  fun (vs7 : (List Value)) =>
  ifB (eqN k6 0)
    (.cast [(Ty.one B.bool)] vs7 fun (r8 : (Bool × Unit)) =>
    ifB r8.1
      (.ret 0 [(Value.int IntKind.i64 0), (Value.int IntKind.i64 0)]) <|
    grd (leB at_ b.len) <|
    .call (F_ref1_At S enc (⟨(cutBase b.base b.cap (toN at_) 1), (subN b.len (toN at_)), (subN b.cap (toN at_))⟩) (Int.ofNat 0)) [(Ty.one (B.int IntKind.i64)), (Ty.one (B.int IntKind.i64))] fun (r9 : (Int × (Int × Unit))) =>
    .ret 0 [(Value.int IntKind.i64 r9.1), (Value.int IntKind.i64 r9.2.1)]) <|
  .fail
def F_ref1_Prev (S : Ids) (enc : Int) (b : Sl) (at_ : Int) : Prog :=
  .call (F_ref1_known S enc) [(Ty.one B.bool)] fun (r1 : (Bool × Unit)) =>
  .bind
    (ifB (notB r1.1)
      (.ret 0 [(Value.bool Bool.true)]) <|
    ifB (leI at_ 0)
      (.ret 0 [(Value.bool Bool.true)]) <|
    .ret 0 [(Value.bool (gtI at_ (natI b.len)))]) fun (k19 : Nat) =>
  fun (vs20 : (List Value)) =>
  ifB (eqN k19 0)
    (.cast [(Ty.one B.bool)] vs20 fun (r21 : (Bool × Unit)) =>
    ifB r21.1
      (.ret 0 [(Value.int IntKind.i64 0), (Value.int IntKind.i64 0)]) <|
    .bind
      (.loop [(Ty.one (B.int IntKind.i64)), (Ty.one (B.int IntKind.i64)), (Ty.one (B.int IntKind.i64))] ((0 : Int), ((0 : Int), ((0 : Int), ()))) fun (r31 : (Int × (Int × (Int × Unit)))) =>
        ifB (ltI r31.2.2.1 at_)
          (grd (leB at_ b.cap) <|
          .call (F_ref1_At S enc (⟨(cutBase b.base b.cap 0 1), (subN (toN at_) 0), (subN b.cap 0)⟩) r31.2.2.1) [(Ty.one (B.int IntKind.i64)), (Ty.one (B.int IntKind.i64))] fun (r32 : (Int × (Int × Unit))) =>
          .ret 0 [(Value.int IntKind.i64 r32.1), (Value.int IntKind.i64 r32.2.1), (Value.int IntKind.i64 (addI IntKind.i64 r31.2.2.1 r32.2.1))]) <|
        .ret 2 [(Value.int IntKind.i64 r31.1), (Value.int IntKind.i64 r31.2.1)]) fun (k33 : Nat) =>
    fun (vs34 : (List Value)) =>
    ifB (eqN k33 2)
      (.cast [(Ty.one (B.int IntKind.i64)), (Ty.one (B.int IntKind.i64))] vs34 fun (r35 : (Int × (Int × Unit))) =>
      .ret 0 [(Value.int IntKind.i64 r35.1), (Value.int IntKind.i64 r35.2.1)]) <|
    .fail) <|
  .fail
def F_law1_tokens (S : Ids) (enc : Int) (b : Sl) (at_ : Int) : Prog :=
  .call (F_law1_lend S b) [(Ty.one B.sl)] fun (r1 : (Sl × Unit)) =>
  grd (leB (natI b.len) r1.1.cap) <|
  .call (F_codec_Next S enc (⟨(cutBase r1.1.base r1.1.cap 0 1), (subN (toN (natI b.len)) 0), (subN r1.1.cap 0)⟩) at_) [(Ty.one (B.int IntKind.i64)), (Ty.one (B.int IntKind.i64))] fun (r2 : (Int × (Int × Unit))) =>
  grd (leB (natI b.len) r1.1.cap) <|
  .call (F_codec_Prev S enc (⟨(cutBase r1.1.base r1.1.cap 0 1), (subN (toN (natI b.len)) 0), (subN r1.1.cap 0)⟩) at_) [(Ty.one (B.int IntKind.i64)), (Ty.one (B.int IntKind.i64))] fun (r3 : (Int × (Int × Unit))) =>
  .call (F_ref1_Next S enc b at_) [(Ty.one (B.int IntKind.i64)), (Ty.one (B.int IntKind.i64))] fun (r4 : (Int × (Int × Unit))) =>
  .call (F_ref1_Prev S enc b at_) [(Ty.one (B.int IntKind.i64)), (Ty.one (B.int IntKind.i64))] fun (r5 : (Int × (Int × Unit))) =>
  .bind
    (ifB (neI r2.1 r4.1)
      (.ret 0 [(Value.bool Bool.true)]) <|
    ifB (neI r2.2.1 r4.2.1)
      (.ret 0 [(Value.bool Bool.true)]) <|
    ifB (neI r3.1 r5.1)
      (.ret 0 [(Value.bool Bool.true)]) <|
    ifB (neI r3.2.1 r5.2.1)
      (.ret 0 [(Value.bool Bool.true)]) <|
    .call (F_law1_kept S r1.1 b) [(Ty.one B.bool)] fun (r21 : (Bool × Unit)) =>
    .ret 0 [(Value.bool (notB r21.1))]) fun (k22 : Nat) =>
  fun (vs23 : (List Value)) =>
  ifB (eqN k22 0)
    (.cast [(Ty.one B.bool)] vs23 fun (r24 : (Bool × Unit)) =>
    ifB r24.1
      (.ret 0 [(Value.bool Bool.false)]) <|
    .call (F_law1_turned S r1.1 (natI b.len)) [(Ty.one B.sl)] fun (r25 : (Sl × Unit)) =>
    grd (leB (natI b.len) r1.1.cap) <|
    .call (F_codec_Next S enc (⟨(cutBase r1.1.base r1.1.cap 0 1), (subN (toN (natI b.len)) 0), (subN r1.1.cap 0)⟩) at_) [(Ty.one (B.int IntKind.i64)), (Ty.one (B.int IntKind.i64))] fun (r26 : (Int × (Int × Unit))) =>
    grd (leB (natI b.len) r1.1.cap) <|
    .call (F_codec_Prev S enc (⟨(cutBase r1.1.base r1.1.cap 0 1), (subN (toN (natI b.len)) 0), (subN r1.1.cap 0)⟩) at_) [(Ty.one (B.int IntKind.i64)), (Ty.one (B.int IntKind.i64))] fun (r27 : (Int × (Int × Unit))) =>
    .call (F_ref1_Next S enc r25.1 at_) [(Ty.one (B.int IntKind.i64)), (Ty.one (B.int IntKind.i64))] fun (r28 : (Int × (Int × Unit))) =>
    .call (F_ref1_Prev S enc r25.1 at_) [(Ty.one (B.int IntKind.i64)), (Ty.one (B.int IntKind.i64))] fun (r29 : (Int × (Int × Unit))) =>
    .bind
      (ifB (eqI r26.1 r28.1)
        (ifB (eqI r26.2.1 r28.2.1)
          (ifB (eqI r27.1 r29.1)
            (.ret 0 [(Value.bool (eqI r27.2.1 r29.2.1))]) <|
          .ret 0 [(Value.bool Bool.false)]) <|
        .ret 0 [(Value.bool Bool.false)]) <|
      .ret 0 [(Value.bool Bool.false)]) fun (k33 : Nat) =>
    fun (vs34 : (List Value)) =>
    ifB (eqN k33 0)
      (.cast [(Ty.one B.bool)] vs34 fun (r35 : (Bool × Unit)) =>
      .ret 0 [(Value.bool r35.1)]) <|
    .fail) <|
  .fail
def F_law1_CodecTokens (S : Ids) (enc : Int) (b : Sl) (at_ : Int) : Prog :=
  .bind
    (.alloc [(Value.int IntKind.u8 195), (Value.int IntKind.u8 169)] fun (a7 : Addr) =>
    .call (F_law1_tokens S (Int.ofNat 1) (⟨(Option.some a7), 2, 2⟩) (Int.ofNat 0)) [(Ty.one B.bool)] fun (r8 : (Bool × Unit)) =>
    ifB r8.1
      (.call (F_law1_tokens S enc b at_) [(Ty.one B.bool)] fun (r9 : (Bool × Unit)) =>
      .ret 0 [(Value.bool r9.1)]) <|
    .ret 0 [(Value.bool Bool.false)]) fun (k10 : Nat) =>
  fun (vs11 : (List Value)) =>
  ifB (eqN k10 0)
    (.cast [(Ty.one B.bool)] vs11 fun (r12 : (Bool × Unit)) =>
    .ret 0 [(Value.bool r12.1)]) <|
  .fail
def F_codec_NewStream (S : Ids) (enc : Int) : Prog :=
  .call (F_codec_of S enc) [(Ty.one B.any)] fun (r1 : (Value × Unit)) =>
  grd (isIface r1.1) <|
  ifB (isNilIface r1.1)
    (.ret 0 [(Value.pointer Option.none), (Value.int IntKind.i64 10)]) <|
  grd (flatB r1.1) <|
  .alloc [r1.1, (Value.slice Option.none 0 0)] fun (a2 : Addr) =>
  .ret 0 [(Value.pointer (Option.some a2)), (Value.int IntKind.i64 0)]
def F_ref1_NewStream (S : Ids) (enc : Int) : Prog :=
  .call (F_ref1_known S enc) [(Ty.one B.bool)] fun (r1 : (Bool × Unit)) =>
  ifB (notB r1.1)
    (.ret 0 [(Value.pointer Option.none), (Value.int IntKind.i64 10)]) <|
  .alloc [(Value.int IntKind.i64 enc), (Value.slice Option.none 0 0), (Value.int IntKind.i64 0)] fun (a2 : Addr) =>
  .ret 0 [(Value.pointer (Option.some a2)), (Value.int IntKind.i64 0)]
def F_Stream_Feed (S : Ids) (s : (Option Addr)) (b : Sl) : Prog :=
  grd (someB s) <|
  grd (someB s) <|
  .load (Ty.one B.sl) (shiftTo s 1) fun (l1 : Sl) =>
  .mk 1 [(Value.int IntKind.u8 0)] 0 (addI IntKind.i64 (natI l1.len) (natI b.len)) fun (l2 : Sl) =>
  grd (someB s) <|
  grd (someB s) <|
  .load (Ty.one B.sl) (shiftTo s 1) fun (l3 : Sl) =>
  .append 1 1 [(Value.int IntKind.u8 0)] l2 l3 fun (l4 : Sl) =>
  .append 1 1 [(Value.int IntKind.u8 0)] l4 b fun (l5 : Sl) =>
  grd (someB s) <|
  grd (someB s) <|
  .load (Ty.one B.any) (shiftTo s 0) fun (c6 : Value) =>
  .invoke c6 S.m_held [(Value.slice l5.base l5.len l5.cap)] [(Ty.one (B.int IntKind.i64))] fun (r7 : (Int × Unit)) =>
  grd (leB (subI IntKind.i64 (natI l5.len) r7.1) l5.len) <|
  .append 1 1 [(Value.int IntKind.u8 0)] (⟨Option.none, 0, 0⟩) (⟨(cutBase l5.base l5.cap (toN (subI IntKind.i64 (natI l5.len) r7.1)) 1), (subN l5.len (toN (subI IntKind.i64 (natI l5.len) r7.1))), (subN l5.cap (toN (subI IntKind.i64 (natI l5.len) r7.1)))⟩) fun (l8 : Sl) =>
  grd (someB s) <|
  grd (someB s) <|
  .store (shiftTo s 1) [(Value.slice l8.base l8.len l8.cap)] <|
  grd (someB s) <|
  grd (someB s) <|
  .load (Ty.one B.any) (shiftTo s 0) fun (c9 : Value) =>
  grd (leB (subI IntKind.i64 (natI l5.len) r7.1) l5.cap) <|
  .call (F_codec_all S c9 (⟨(cutBase l5.base l5.cap 0 1), (subN (toN (subI IntKind.i64 (natI l5.len) r7.1)) 0), (subN l5.cap 0)⟩)) [(Ty.one B.sl)] fun (r10 : (Sl × Unit)) =>
  .ret 0 [(Value.slice r10.1.base r10.1.len r10.1.cap)]
def F_ref1_beginning (S : Ids) (b : Sl) (at_ : Int) : Prog :=
  .bind
    (.loop [(Ty.one (B.int IntKind.i64))] ((addI IntKind.i64 (subI IntKind.i64 (natI b.len) at_) 1), ()) fun (r764 : (Int × Unit)) =>
      ifB (leI r764.1 4)
        (.bind
          (.loop [(Ty.one (B.int IntKind.i64))] ((0 : Int), ()) fun (r952 : (Int × Unit)) =>
            ifB (ltI r952.1 2)
              (.bind
                (.loop [(Ty.one B.sl), (Ty.one (B.int IntKind.i64))] ((⟨Option.none, 0, 0⟩ : Sl), ((0 : Int), ())) fun (r996 : (Sl × (Int × Unit))) =>
                  ifB (ltI r996.2.1 r764.1)
                    (.bind
                      (ifB (ltI r996.2.1 (subI IntKind.i64 (natI b.len) at_))
                        (grd (andB (someB b.base) (inB (addI IntKind.i64 at_ r996.2.1) b.len)) <|
                        .load (Ty.one (B.int IntKind.u8)) (shiftTo b.base (mulN (toN (addI IntKind.i64 at_ r996.2.1)) 1)) fun (n1003 : Int) =>
                        .ret 0 [(Value.int IntKind.u8 n1003)]) <|
                      .ret 0 [(Value.int IntKind.u8 (wrapI IntKind.u8 (addI IntKind.i64 128 (mulI IntKind.i64 63 r952.1))))]) fun (k1004 : Nat) =>
                    fun (vs1005 : (List Value)) =>
                    ifB (eqN k1004 0)
                      (.cast [(Ty.one (B.int IntKind.u8))] vs1005 fun (r1006 : (Int × Unit)) =>
                      .alloc [(Value.int IntKind.u8 r1006.1)] fun (a1007 : Addr) =>
                      .append 1 1 [(Value.int IntKind.u8 0)] r996.1 (⟨(Option.some a1007), 1, 1⟩) fun (l1008 : Sl) =>
                      .ret 0 [(Value.slice l1008.base l1008.len l1008.cap), (Value.int IntKind.i64 (addI IntKind.i64 r996.2.1 1))]) <|
                    .fail) <|
                  .ret 6 [(Value.slice r996.1.base r996.1.len r996.1.cap)]) fun (k1009 : Nat) =>
              fun (vs1010 : (List Value)) =>
              ifB (eqN k1009 6)
                (.cast [(Ty.one B.sl)] vs1010 fun (r1011 : (Sl × Unit)) =>
                .call (F_ref1_eightAt S r1011.1 (Int.ofNat 0)) [(Ty.one (B.int IntKind.i64)), (Ty.one (B.int IntKind.i64))] fun (r1012 : (Int × (Int × Unit))) =>
                ifB (eqI r1012.2.1 r764.1)
                  (.ret 1 [(Value.bool Bool.true)]) <|
                .ret 0 [(Value.int IntKind.i64 (addI IntKind.i64 r952.1 1))]) <|
              .fail) <|
            .ret 4 []) fun (k1013 : Nat) =>
        fun (vs1014 : (List Value)) =>
        ifB (eqN k1013 4)
          (.cast [] vs1014 fun (u1015 : Unit) =>
          .ret 0 [(Value.int IntKind.i64 (addI IntKind.i64 r764.1 1))]) <|
        ifB (eqN k1013 1)
          (.cast [(Ty.one B.bool)] vs1014 fun (r1016 : (Bool × Unit)) =>
          .ret 1 [(Value.bool r1016.1)]) <|
        .fail) <|
      .ret 2 []) fun (k1017 : Nat) =>
  fun (vs1018 : (List Value)) =>
  ifB (eqN k1017 2)
    (.cast [] vs1018 fun (u1019 : Unit) =>
    .ret 0 [(Value.bool Bool.false)]) <|
  ifB (eqN k1017 1)
    (.cast [(Ty.one B.bool)] vs1018 fun (r1020 : (Bool × Unit)) =>
    .ret 0 [(Value.bool r1020.1)]) <|
  .fail
def F_ref_Stream_Held (S : Ids) (s : (Option Addr)) : Prog :=
  grd (someB s) <|
  grd (someB s) <|
  .load (Ty.one B.sl) (shiftTo s 1) fun (l1 : Sl) =>
  .bind
    (grd (someB s) <|
    grd (someB s) <|
    .load (Ty.one (B.int IntKind.i64)) (shiftTo s 0) fun (n135 : Int) =>
    ifB (eqI n135 1)
      (.bind
        (.loop [(Ty.one (B.int IntKind.i64))] ((0 : Int), ()) fun (r191 : (Int × Unit)) =>
          ifB (ltI r191.1 (natI l1.len))
            (.bind
              (ifB (leI (subI IntKind.i64 (natI l1.len) r191.1) 3)
                (grd (someB s) <|
                grd (someB s) <|
                .load (Ty.one B.sl) (shiftTo s 1) fun (l200 : Sl) =>
                .call (F_ref1_beginning S l200 r191.1) [(Ty.one B.bool)] fun (r201 : (Bool × Unit)) =>
                ifB r201.1
                  (.ret 1 [(Value.int IntKind.i64 (subI IntKind.i64 (natI l1.len) r191.1))]) <|
                .ret 0 []) <|
              .ret 0 []) fun (k202 : Nat) =>
            fun (vs203 : (List Value)) =>
            ifB (eqN k202 1)
              (.cast [(Ty.one (B.int IntKind.i64))] vs203 fun (r204 : (Int × Unit)) =>
              .ret 1 [(Value.int IntKind.i64 r204.1)]) <|
            ifB (eqN k202 0)
              (.cast [] vs203 fun (u205 : Unit) =>
              grd (someB s) <|
              grd (someB s) <|
              .load (Ty.one B.sl) (shiftTo s 1) fun (l206 : Sl) =>
              .call (F_ref1_eightAt S l206 r191.1) [(Ty.one (B.int IntKind.i64)), (Ty.one (B.int IntKind.i64))] fun (r207 : (Int × (Int × Unit))) =>
              .ret 0 [(Value.int IntKind.i64 (addI IntKind.i64 r191.1 r207.2.1))]) <|
            .fail) <|
          .ret 3 []) fun (k208 : Nat) =>
      fun (vs209 : (List Value)) =>
      ifB (eqN k208 3)
        (.cast [] vs209 fun (u210 : Unit) =>
        .ret 1 [(Value.int IntKind.i64 0)]) <|
      ifB (eqN k208 1)
        (.cast [(Ty.one (B.int IntKind.i64))] vs209 fun (r211 : (Int × Unit)) =>
        .ret 1 [(Value.int IntKind.i64 r211.1)]) <|
      .fail) <|
    ifB (eqI n135 2)
      (ifB (eqI n135 2)
        (grd (notB Bool.false) <|
        .bind
          (ifB (geI (natI l1.len) 2)
            (grd (someB s) <|
            grd (someB s) <|
            .load (Ty.one (B.int IntKind.i64)) (shiftTo s 0) fun (n225 : Int) =>
            grd (someB s) <|
            grd (someB s) <|
            .load (Ty.one B.sl) (shiftTo s 1) fun (l226 : Sl) =>
            .call (F_ref1_unitAt S n225 l226 (subI IntKind.i64 (subI IntKind.i64 (natI l1.len) (remI IntKind.i64 (natI l1.len) 2)) 2)) [(Ty.one (B.int IntKind.i64))] fun (r227 : (Int × Unit)) =>
            .bind
              (ifB (geI r227.1 55296)
                (.ret 0 [(Value.bool (ltI r227.1 56320))]) <|
              .ret 0 [(Value.bool Bool.false)]) fun (k231 : Nat) =>
            fun (vs232 : (List Value)) =>
            ifB (eqN k231 0)
              (.cast [(Ty.one B.bool)] vs232 fun (r233 : (Bool × Unit)) =>
              ifB r233.1
                (.ret 1 [(Value.int IntKind.i64 (addI IntKind.i64 (remI IntKind.i64 (natI l1.len) 2) 2))]) <|
              .ret 0 []) <|
            .fail) <|
          .ret 0 []) fun (k234 : Nat) =>
        fun (vs235 : (List Value)) =>
        ifB (eqN k234 1)
          (.cast [(Ty.one (B.int IntKind.i64))] vs235 fun (r236 : (Int × Unit)) =>
          .ret 1 [(Value.int IntKind.i64 r236.1)]) <|
        ifB (eqN k234 0)
          (.cast [] vs235 fun (u237 : Unit) =>
          .ret 1 [(Value.int IntKind.i64 (remI IntKind.i64 (natI l1.len) 2))]) <|
        .fail) <|
      .ret 0 []) <|
    ifB (eqI n135 3)
      (grd (notB Bool.false) <|
      .bind
        (ifB (geI (natI l1.len) 2)
          (grd (someB s) <|
          grd (someB s) <|
          .load (Ty.one (B.int IntKind.i64)) (shiftTo s 0) fun (n251 : Int) =>
          grd (someB s) <|
          grd (someB s) <|
          .load (Ty.one B.sl) (shiftTo s 1) fun (l252 : Sl) =>
          .call (F_ref1_unitAt S n251 l252 (subI IntKind.i64 (subI IntKind.i64 (natI l1.len) (remI IntKind.i64 (natI l1.len) 2)) 2)) [(Ty.one (B.int IntKind.i64))] fun (r253 : (Int × Unit)) =>
          .bind
            (ifB (geI r253.1 55296)
              (.ret 0 [(Value.bool (ltI r253.1 56320))]) <|
            .ret 0 [(Value.bool Bool.false)]) fun (k257 : Nat) =>
          fun (vs258 : (List Value)) =>
          ifB (eqN k257 0)
            (.cast [(Ty.one B.bool)] vs258 fun (r259 : (Bool × Unit)) =>
            ifB r259.1
              (.ret 1 [(Value.int IntKind.i64 (addI IntKind.i64 (remI IntKind.i64 (natI l1.len) 2) 2))]) <|
            .ret 0 []) <|
          .fail) <|
        .ret 0 []) fun (k260 : Nat) =>
      fun (vs261 : (List Value)) =>
      ifB (eqN k260 1)
        (.cast [(Ty.one (B.int IntKind.i64))] vs261 fun (r262 : (Int × Unit)) =>
        .ret 1 [(Value.int IntKind.i64 r262.1)]) <|
      ifB (eqN k260 0)
        (.cast [] vs261 fun (u263 : Unit) =>
        .ret 1 [(Value.int IntKind.i64 (remI IntKind.i64 (natI l1.len) 2))]) <|
      .fail) <|
    .ret 0 []) fun (k264 : Nat) =>
  fun (vs265 : (List Value)) =>
  ifB (eqN k264 1)
    (.cast [(Ty.one (B.int IntKind.i64))] vs265 fun (r266 : (Int × Unit)) =>
    .ret 0 [(Value.int IntKind.i64 r266.1)]) <|
  ifB (eqN k264 0)
    (.cast [] vs265 fun (u267 : Unit) =>
    .ret 0 [(Value.int IntKind.i64 0)]) <|
  .fail
def F_ref_Stream_Feed (S : Ids) (s : (Option Addr)) (b : Sl) : Prog :=
  .bind
    (.loop [(Ty.one (B.int IntKind.i64))] ((0 : Int), ()) fun (r25 : (Int × Unit)) =>
      ifB (ltI r25.1 (natI b.len))
        (grd (someB s) <|
        grd (someB s) <|
        .load (Ty.one B.sl) (shiftTo s 1) fun (l26 : Sl) =>
        grd (andB (someB b.base) (inB r25.1 b.len)) <|
        .load (Ty.one (B.int IntKind.u8)) (shiftTo b.base (mulN (toN r25.1) 1)) fun (n27 : Int) =>
        .alloc [(Value.int IntKind.u8 n27)] fun (a28 : Addr) =>
        .check (shiftTo s 1) [(Value.slice l26.base l26.len l26.cap)] <|
        .append 1 1 [(Value.int IntKind.u8 0)] l26 (⟨(Option.some a28), 1, 1⟩) fun (l29 : Sl) =>
        grd (someB s) <|
        grd (someB s) <|
        .store (shiftTo s 1) [(Value.slice l29.base l29.len l29.cap)] <|
        .ret 0 [(Value.int IntKind.i64 (addI IntKind.i64 r25.1 1))]) <|
      .ret 2 []) fun (k30 : Nat) =>
  fun (vs31 : (List Value)) =>
  ifB (eqN k30 2)
    (.cast [] vs31 fun (u32 : Unit) =>
    .call (F_ref_Stream_Held S s) [(Ty.one (B.int IntKind.i64))] fun (r33 : (Int × Unit)) =>
    grd (someB s) <|
    grd (someB s) <|
    .load (Ty.one (B.int IntKind.i64)) (shiftTo s 0) fun (n34 : Int) =>
    grd (someB s) <|
    grd (someB s) <|
    .load (Ty.one B.sl) (shiftTo s 1) fun (l35 : Sl) =>
    grd (someB s) <|
    grd (someB s) <|
    .load (Ty.one B.sl) (shiftTo s 1) fun (l36 : Sl) =>
    grd (leB (subI IntKind.i64 (natI l36.len) r33.1) l35.cap) <|
    .call (F_ref1_Decode S n34 (⟨(cutBase l35.base l35.cap 0 1), (subN (toN (subI IntKind.i64 (natI l36.len) r33.1)) 0), (subN l35.cap 0)⟩)) [(Ty.one B.sl), (Ty.one (B.int IntKind.i64))] fun (r37 : (Sl × (Int × Unit))) =>
    grd (someB s) <|
    grd (someB s) <|
    .load (Ty.one (B.int IntKind.i64)) (shiftTo s 2) fun (n38 : Int) =>
    grd (leB n38 r37.1.len) <|
    grd (someB s) <|
    grd (someB s) <|
    .store (shiftTo s 2) [(Value.int IntKind.i64 (natI r37.1.len))] <|
    .ret 0 [(Value.slice (cutBase r37.1.base r37.1.cap (toN n38) 1) (subN r37.1.len (toN n38)) (subN r37.1.cap (toN n38)))]) <|
  .fail
def F_law1_crowded (S : Ids) (enc : Int) : Prog :=
  .alloc [(Value.slice Option.none 0 0), (Value.slice Option.none 0 0)] fun (a1 : Addr) =>
  .bind
    (.loop [(Ty.one (B.int IntKind.i64))] ((0 : Int), ()) fun (r861 : (Int × Unit)) =>
      ifB (ltI r861.1 5)
        (.bind
          (.bind
            (ifB (eqI r861.1 4)
              (.ret 0 [(Value.int IntKind.i64 enc)]) <|
            .ret 0 [(Value.int IntKind.i64 (addI IntKind.i64 1 r861.1))]) fun (k1073 : Nat) =>
          fun (vs1074 : (List Value)) =>
          ifB (eqN k1073 0)
            (.cast [(Ty.one (B.int IntKind.i64))] vs1074 fun (r1075 : (Int × Unit)) =>
            .call (F_codec_NewStream S r1075.1) [(Ty.one B.ptr), (Ty.one (B.int IntKind.i64))] fun (r1076 : ((Option Addr) × (Int × Unit))) =>
            .call (F_ref1_NewStream S r1075.1) [(Ty.one B.ptr), (Ty.one (B.int IntKind.i64))] fun (r1077 : ((Option Addr) × (Int × Unit))) =>
            .bind
              (.call (F_law1_num S r1076.2.1) [(Ty.one (B.int IntKind.i64))] fun (r1110 : (Int × Unit)) =>
              ifB (neI r1110.1 r1077.2.1)
                (.ret 0 [(Value.bool Bool.true)]) <|
              .ret 0 [(Value.bool (notB (eqB (noneB r1076.1) (noneB r1077.1))))]) fun (k1111 : Nat) =>
            fun (vs1112 : (List Value)) =>
            ifB (eqN k1111 0)
              (.cast [(Ty.one B.bool)] vs1112 fun (r1113 : (Bool × Unit)) =>
              ifB r1113.1
                (.ret 1 [(Value.pointer (Option.some a1)), (Value.bool Bool.false)]) <|
              .bind
                (ifB (noneB r1076.1)
                  (.ret 0 [(Value.bool Bool.true)]) <|
                .ret 0 [(Value.bool (noneB r1077.1))]) fun (k1128 : Nat) =>
              fun (vs1129 : (List Value)) =>
              ifB (eqN k1128 0)
                (.cast [(Ty.one B.bool)] vs1129 fun (r1130 : (Bool × Unit)) =>
                ifB r1130.1
                  (.ret 0 []) <|
                .alloc [(Value.int IntKind.u8 65), (Value.int IntKind.u8 (wrapI IntKind.u8 (subI IntKind.i64 226 r861.1))), (Value.int IntKind.u8 (wrapI IntKind.u8 (addI IntKind.i64 129 r861.1)))] fun (a1131 : Addr) =>
                .call (F_law1_copyBytes S (⟨(Option.some a1131), 3, 3⟩)) [(Ty.one B.sl)] fun (r1132 : (Sl × Unit)) =>
                .call (F_Stream_Feed S r1076.1 r1132.1) [(Ty.one B.sl)] fun (r1133 : (Sl × Unit)) =>
                .call (F_ref_Stream_Feed S r1077.1 (⟨(Option.some a1131), 3, 3⟩)) [(Ty.one B.sl)] fun (r1134 : (Sl × Unit)) =>
                .call (F_law1_sameInts S r1133.1 r1134.1) [(Ty.one B.bool)] fun (r1135 : (Bool × Unit)) =>
                ifB (notB r1135.1)
                  (.ret 1 [(Value.pointer (Option.some a1)), (Value.bool Bool.false)]) <|
                .load (Ty.one B.sl) (shiftTo (Option.some a1) 0) fun (l1136 : Sl) =>
                .alloc [(Value.pointer r1076.1)] fun (a1137 : Addr) =>
                .append 1 8 [(Value.pointer Option.none)] l1136 (⟨(Option.some a1137), 1, 1⟩) fun (l1138 : Sl) =>
                .store (shiftTo (Option.some a1) 0) [(Value.slice l1138.base l1138.len l1138.cap)] <|
                .load (Ty.one B.sl) (shiftTo (Option.some a1) 1) fun (l1139 : Sl) =>
                .alloc [(Value.pointer r1077.1)] fun (a1140 : Addr) =>
                .append 1 8 [(Value.pointer Option.none)] l1139 (⟨(Option.some a1140), 1, 1⟩) fun (l1141 : Sl) =>
                .store (shiftTo (Option.some a1) 1) [(Value.slice l1141.base l1141.len l1141.cap)] <|
                .ret 0 []) <|
              .fail) <|
            .fail) <|
          .fail) fun (k1142 : Nat) =>
        fun (vs1143 : (List Value)) =>
        ifB (eqN k1142 1)
          (.cast [(Ty.one B.ptr), (Ty.one B.bool)] vs1143 fun (r1144 : ((Option Addr) × (Bool × Unit))) =>
          .ret 1 [(Value.pointer r1144.1), (Value.bool r1144.2.1)]) <|
        ifB (eqN k1142 0)
          (.cast [] vs1143 fun (u1145 : Unit) =>
          .ret 0 [(Value.int IntKind.i64 (addI IntKind.i64 r861.1 1))]) <|
        .fail) <|
      .ret 2 []) fun (k1146 : Nat) =>
  fun (vs1147 : (List Value)) =>
  ifB (eqN k1146 2)
    (.cast [] vs1147 fun (u1148 : Unit) =>
    .ret 0 [(Value.pointer (Option.some a1)), (Value.bool Bool.true)]) <|
  ifB (eqN k1146 1)
    (.cast [(Ty.one B.ptr), (Ty.one B.bool)] vs1147 fun (r1149 : ((Option Addr) × (Bool × Unit))) =>
    .ret 0 [(Value.pointer r1149.1), (Value.bool r1149.2.1)]) <|
  .fail
def F_Stream_Held (S : Ids) (s : (Option Addr)) : Prog :=
  grd (someB s) <|
  grd (someB s) <|
  .load (Ty.one B.sl) (shiftTo s 1) fun (l1 : Sl) =>
  .ret 0 [(Value.int IntKind.i64 (natI l1.len))]
def F_Stream_Close (S : Ids) (s : (Option Addr)) : Prog :=
  grd (someB s) <|
  grd (someB s) <|
  .load (Ty.one B.any) (shiftTo s 0) fun (c1 : Value) =>
  grd (someB s) <|
  grd (someB s) <|
  .load (Ty.one B.sl) (shiftTo s 1) fun (l2 : Sl) =>
  .call (F_codec_all S c1 l2) [(Ty.one B.sl)] fun (r3 : (Sl × Unit)) =>
  grd (someB s) <|
  grd (someB s) <|
  .store (shiftTo s 1) [(Value.slice Option.none 0 0)] <|
  .ret 0 [(Value.slice r3.1.base r3.1.len r3.1.cap)]
def F_ref_Stream_Close (S : Ids) (s : (Option Addr)) : Prog :=
  grd (someB s) <|
  grd (someB s) <|
  .load (Ty.one (B.int IntKind.i64)) (shiftTo s 0) fun (n1 : Int) =>
  grd (someB s) <|
  grd (someB s) <|
  .load (Ty.one B.sl) (shiftTo s 1) fun (l2 : Sl) =>
  .call (F_ref1_Decode S n1 l2) [(Ty.one B.sl), (Ty.one (B.int IntKind.i64))] fun (r3 : (Sl × (Int × Unit))) =>
  grd (someB s) <|
  grd (someB s) <|
  .load (Ty.one (B.int IntKind.i64)) (shiftTo s 2) fun (n4 : Int) =>
  grd (leB n4 r3.1.len) <|
  grd (someB s) <|
  grd (someB s) <|
  .store (shiftTo s 1) [(Value.slice Option.none 0 0)] <|
  grd (someB s) <|
  grd (someB s) <|
  .store (shiftTo s 2) [(Value.int IntKind.i64 0)] <|
  .ret 0 [(Value.slice (cutBase r3.1.base r3.1.cap (toN n4) 1) (subN r3.1.len (toN n4)) (subN r3.1.cap (toN n4)))]
def F_law1_played (S : Ids) (s : (Option Addr)) (r : (Option Addr)) (o : (Int × Int × Sl × Unit)) : Prog :=
  .alloc [(Value.int IntKind.i64 o.1), (Value.int IntKind.i64 o.2.1), (Value.slice o.2.2.1.base o.2.2.1.len o.2.2.1.cap)] fun (a1 : Addr) =>
  .load (Ty.one (B.int IntKind.i64)) (shiftTo (Option.some a1) 0) fun (n2 : Int) =>
  ifB (eqI n2 1)
    (.load (Ty.one B.sl) (shiftTo (Option.some a1) 2) fun (l3 : Sl) =>
    .call (F_law1_lend S l3) [(Ty.one B.sl)] fun (r4 : (Sl × Unit)) =>
    .load (Ty.one B.sl) (shiftTo (Option.some a1) 2) fun (l5 : Sl) =>
    grd (leB (natI l5.len) r4.1.cap) <|
    .call (F_Stream_Feed S s (⟨(cutBase r4.1.base r4.1.cap 0 1), (subN (toN (natI l5.len)) 0), (subN r4.1.cap 0)⟩)) [(Ty.one B.sl)] fun (r6 : (Sl × Unit)) =>
    .load (Ty.one B.sl) (shiftTo (Option.some a1) 2) fun (l7 : Sl) =>
    .call (F_ref_Stream_Feed S r l7) [(Ty.one B.sl)] fun (r8 : (Sl × Unit)) =>
    .bind
      (.call (F_law1_sameInts S r6.1 r8.1) [(Ty.one B.bool)] fun (r57 : (Bool × Unit)) =>
      ifB (notB r57.1)
        (.ret 0 [(Value.bool Bool.true)]) <|
      .load (Ty.one B.sl) (shiftTo (Option.some a1) 2) fun (l58 : Sl) =>
      .call (F_law1_kept S r4.1 l58) [(Ty.one B.bool)] fun (r59 : (Bool × Unit)) =>
      .ret 0 [(Value.bool (notB r59.1))]) fun (k60 : Nat) =>
    fun (vs61 : (List Value)) =>
    ifB (eqN k60 0)
      (.cast [(Ty.one B.bool)] vs61 fun (r62 : (Bool × Unit)) =>
      ifB r62.1
        (.ret 0 [(Value.bool Bool.false)]) <|
      .bind
        (.load (Ty.one (B.int IntKind.i64)) (shiftTo (Option.some a1) 1) fun (n84 : Int) =>
        grd (notB Bool.false) <|
        ifB (eqI (andI IntKind.i64 (shrI IntKind.i64 n84 1) 1) 1)
          (.load (Ty.one B.sl) (shiftTo (Option.some a1) 2) fun (l85 : Sl) =>
          .call (F_law1_turned S r4.1 (natI l85.len)) [(Ty.one B.sl)] fun (r86 : (Sl × Unit)) =>
          .load (Ty.one B.sl) (shiftTo (Option.some a1) 2) fun (l87 : Sl) =>
          grd (leB (natI l87.len) r4.1.cap) <|
          .call (F_Stream_Feed S s (⟨(cutBase r4.1.base r4.1.cap 0 1), (subN (toN (natI l87.len)) 0), (subN r4.1.cap 0)⟩)) [(Ty.one B.sl)] fun (r88 : (Sl × Unit)) =>
          .call (F_ref_Stream_Feed S r r86.1) [(Ty.one B.sl)] fun (r89 : (Sl × Unit)) =>
          .ret 0 [(Value.slice r88.1.base r88.1.len r88.1.cap), (Value.slice r89.1.base r89.1.len r89.1.cap)]) <|
        .ret 0 [(Value.slice r6.1.base r6.1.len r6.1.cap), (Value.slice r8.1.base r8.1.len r8.1.cap)]) fun (k90 : Nat) =>
      fun (vs91 : (List Value)) =>
      ifB (eqN k90 0)
        (.cast [(Ty.one B.sl), (Ty.one B.sl)] vs91 fun (r92 : (Sl × (Sl × Unit))) =>
        .bind
          (.loop [(Ty.one (B.int IntKind.i64))] ((0 : Int), ()) fun (r100 : (Int × Unit)) =>
            ifB (ltI r100.1 (natI r4.1.len))
              (grd (andB (someB r4.1.base) (inB r100.1 r4.1.len)) <|
              .store (shiftTo r4.1.base (mulN (toN r100.1) 1)) [(Value.int IntKind.u8 (wrapI IntKind.u8 (mulI IntKind.i64 17 r100.1)))] <|
              .ret 0 [(Value.int IntKind.i64 (addI IntKind.i64 r100.1 1))]) <|
            .ret 3 []) fun (k101 : Nat) =>
        fun (vs102 : (List Value)) =>
        ifB (eqN k101 3)
          (.cast [] vs102 fun (u103 : Unit) =>
          .call (F_law1_sameInts S r92.1 r92.2.1) [(Ty.one B.bool)] fun (r104 : (Bool × Unit)) =>
          .ret 0 [(Value.bool r104.1)]) <|
        .fail) <|
      .fail) <|
    .fail) <|
  ifB (eqI n2 2)
    (.call (F_Stream_Held S s) [(Ty.one (B.int IntKind.i64))] fun (r105 : (Int × Unit)) =>
    .call (F_ref_Stream_Held S r) [(Ty.one (B.int IntKind.i64))] fun (r106 : (Int × Unit)) =>
    .ret 0 [(Value.bool (eqI r105.1 r106.1))]) <|
  ifB (eqI n2 3)
    (.call (F_Stream_Close S s) [(Ty.one B.sl)] fun (r107 : (Sl × Unit)) =>
    .call (F_ref_Stream_Close S r) [(Ty.one B.sl)] fun (r108 : (Sl × Unit)) =>
    .call (F_law1_sameInts S r107.1 r108.1) [(Ty.one B.bool)] fun (r109 : (Bool × Unit)) =>
    .ret 0 [(Value.bool r109.1)]) <|
  .ret 0 [(Value.bool Bool.true)]
def F_crowd_ends (S : Ids) (w : (Option Addr)) : Prog :=
  .bind
    (.loop [(Ty.one (B.int IntKind.i64))] ((0 : Int), ()) fun (r164 : (Int × Unit)) =>
      grd (someB w) <|
      grd (someB w) <|
      .load (Ty.one B.sl) (shiftTo w 0) fun (l165 : Sl) =>
      ifB (ltI r164.1 (natI l165.len))
        (grd (someB w) <|
        grd (someB w) <|
        .load (Ty.one B.sl) (shiftTo w 0) fun (l166 : Sl) =>
        grd (andB (someB l166.base) (inB r164.1 l166.len)) <|
        .load (Ty.one B.ptr) (shiftTo l166.base (mulN (toN r164.1) 1)) fun (p167 : (Option Addr)) =>
        grd (someB w) <|
        grd (someB w) <|
        .load (Ty.one B.sl) (shiftTo w 1) fun (l168 : Sl) =>
        grd (andB (someB l168.base) (inB r164.1 l168.len)) <|
        .load (Ty.one B.ptr) (shiftTo l168.base (mulN (toN r164.1) 1)) fun (p169 : (Option Addr)) =>
        .call (F_Stream_Held S p167) [(Ty.one (B.int IntKind.i64))] fun (r170 : (Int × Unit)) =>
        .check (shiftTo l168.base (mulN (toN r164.1) 1)) [(Value.pointer p169)] <|
        .check (shiftTo w 1) [(Value.slice l168.base l168.len l168.cap)] <|
        .call (F_ref_Stream_Held S p169) [(Ty.one (B.int IntKind.i64))] fun (r171 : (Int × Unit)) =>
        ifB (neI r170.1 r171.1)
          (.ret 1 [(Value.bool Bool.false)]) <|
        .alloc [(Value.int IntKind.u8 (wrapI IntKind.u8 (addI IntKind.i64 130 r164.1))), (Value.int IntKind.u8 195)] fun (a172 : Addr) =>
        grd (someB w) <|
        grd (someB w) <|
        .load (Ty.one B.sl) (shiftTo w 0) fun (l173 : Sl) =>
        grd (andB (someB l173.base) (inB r164.1 l173.len)) <|
        .load (Ty.one B.ptr) (shiftTo l173.base (mulN (toN r164.1) 1)) fun (p174 : (Option Addr)) =>
        .call (F_law1_copyBytes S (⟨(Option.some a172), 2, 2⟩)) [(Ty.one B.sl)] fun (r175 : (Sl × Unit)) =>
        .check (shiftTo l173.base (mulN (toN r164.1) 1)) [(Value.pointer p174)] <|
        .check (shiftTo w 0) [(Value.slice l173.base l173.len l173.cap)] <|
        .call (F_Stream_Feed S p174 r175.1) [(Ty.one B.sl)] fun (r176 : (Sl × Unit)) =>
        .bind
          (grd (someB w) <|
          grd (someB w) <|
          .load (Ty.one B.sl) (shiftTo w 1) fun (l197 : Sl) =>
          grd (andB (someB l197.base) (inB r164.1 l197.len)) <|
          .load (Ty.one B.ptr) (shiftTo l197.base (mulN (toN r164.1) 1)) fun (p198 : (Option Addr)) =>
          .call (F_ref_Stream_Feed S p198 (⟨(Option.some a172), 2, 2⟩)) [(Ty.one B.sl)] fun (r199 : (Sl × Unit)) =>
          .call (F_law1_sameInts S r176.1 r199.1) [(Ty.one B.bool)] fun (r200 : (Bool × Unit)) =>
          ifB (notB r200.1)
            (.ret 0 [(Value.bool Bool.true)]) <|
          grd (someB w) <|
          grd (someB w) <|
          .load (Ty.one B.sl) (shiftTo w 0) fun (l201 : Sl) =>
          grd (andB (someB l201.base) (inB r164.1 l201.len)) <|
          .load (Ty.one B.ptr) (shiftTo l201.base (mulN (toN r164.1) 1)) fun (p202 : (Option Addr)) =>
          grd (someB w) <|
          grd (someB w) <|
          .load (Ty.one B.sl) (shiftTo w 1) fun (l203 : Sl) =>
          grd (andB (someB l203.base) (inB r164.1 l203.len)) <|
          .load (Ty.one B.ptr) (shiftTo l203.base (mulN (toN r164.1) 1)) fun (p204 : (Option Addr)) =>
          .call (F_Stream_Held S p202) [(Ty.one (B.int IntKind.i64))] fun (r205 : (Int × Unit)) =>
          .check (shiftTo l203.base (mulN (toN r164.1) 1)) [(Value.pointer p204)] <|
          .check (shiftTo w 1) [(Value.slice l203.base l203.len l203.cap)] <|
          .call (F_ref_Stream_Held S p204) [(Ty.one (B.int IntKind.i64))] fun (r206 : (Int × Unit)) =>
          .ret 0 [(Value.bool (neI r205.1 r206.1))]) fun (k207 : Nat) =>
        fun (vs208 : (List Value)) =>
        ifB (eqN k207 0)
          (.cast [(Ty.one B.bool)] vs208 fun (r209 : (Bool × Unit)) =>
          ifB r209.1
            (.ret 1 [(Value.bool Bool.false)]) <|
          grd (someB w) <|
          grd (someB w) <|
          .load (Ty.one B.sl) (shiftTo w 0) fun (l210 : Sl) =>
          grd (andB (someB l210.base) (inB r164.1 l210.len)) <|
          .load (Ty.one B.ptr) (shiftTo l210.base (mulN (toN r164.1) 1)) fun (p211 : (Option Addr)) =>
          .call (F_Stream_Close S p211) [(Ty.one B.sl)] fun (r212 : (Sl × Unit)) =>
          grd (someB w) <|
          grd (someB w) <|
          .load (Ty.one B.sl) (shiftTo w 1) fun (l213 : Sl) =>
          grd (andB (someB l213.base) (inB r164.1 l213.len)) <|
          .load (Ty.one B.ptr) (shiftTo l213.base (mulN (toN r164.1) 1)) fun (p214 : (Option Addr)) =>
          .call (F_ref_Stream_Close S p214) [(Ty.one B.sl)] fun (r215 : (Sl × Unit)) =>
          .call (F_law1_sameInts S r212.1 r215.1) [(Ty.one B.bool)] fun (r216 : (Bool × Unit)) =>
          ifB (notB r216.1)
            (.ret 1 [(Value.bool Bool.false)]) <|
          .ret 0 [(Value.int IntKind.i64 (addI IntKind.i64 r164.1 1))]) <|
        .fail) <|
      .ret 2 []) fun (k217 : Nat) =>
  fun (vs218 : (List Value)) =>
  ifB (eqN k217 2)
    (.cast [] vs218 fun (u219 : Unit) =>
    .ret 0 [(Value.bool Bool.true)]) <|
  ifB (eqN k217 1)
    (.cast [(Ty.one B.bool)] vs218 fun (r220 : (Bool × Unit)) =>
    .ret 0 [(Value.bool r220.1)]) <|
  .fail
def F_law1_streams (S : Ids) (enc : Int) (other : Int) (script : Sl) : Prog :=
  .call (F_codec_NewStream S enc) [(Ty.one B.ptr), (Ty.one (B.int IntKind.i64))] fun (r1 : ((Option Addr) × (Int × Unit))) =>
  .call (F_codec_NewStream S other) [(Ty.one B.ptr), (Ty.one (B.int IntKind.i64))] fun (r2 : ((Option Addr) × (Int × Unit))) =>
  .call (F_ref1_NewStream S enc) [(Ty.one B.ptr), (Ty.one (B.int IntKind.i64))] fun (r3 : ((Option Addr) × (Int × Unit))) =>
  .call (F_ref1_NewStream S other) [(Ty.one B.ptr), (Ty.one (B.int IntKind.i64))] fun (r4 : ((Option Addr) × (Int × Unit))) =>
  .bind
    (.call (F_law1_num S r1.2.1) [(Ty.one (B.int IntKind.i64))] fun (r393 : (Int × Unit)) =>
    ifB (neI r393.1 r3.2.1)
      (.ret 0 [(Value.bool Bool.true)]) <|
    .call (F_law1_num S r2.2.1) [(Ty.one (B.int IntKind.i64))] fun (r394 : (Int × Unit)) =>
    ifB (neI r394.1 r4.2.1)
      (.ret 0 [(Value.bool Bool.true)]) <|
    ifB (notB (eqB (noneB r1.1) (noneB r3.1)))
      (.ret 0 [(Value.bool Bool.true)]) <|
    .ret 0 [(Value.bool (notB (eqB (noneB r2.1) (noneB r4.1))))]) fun (k395 : Nat) =>
  fun (vs396 : (List Value)) =>
  ifB (eqN k395 0)
    (.cast [(Ty.one B.bool)] vs396 fun (r397 : (Bool × Unit)) =>
    ifB r397.1
      (.ret 0 [(Value.bool Bool.false)]) <|
    .call (F_law1_crowded S enc) [(Ty.one B.ptr), (Ty.one B.bool)] fun (r398 : ((Option Addr) × (Bool × Unit))) =>
    ifB (notB r398.2.1)
      (.ret 0 [(Value.bool Bool.false)]) <|
    .bind
      (.loop [(Ty.one (B.int IntKind.i64))] ((0 : Int), ()) fun (r683 : (Int × Unit)) =>
        ifB (ltI r683.1 (natI script.len))
          (grd (andB (someB script.base) (inB r683.1 script.len)) <|
          .load (Ty.agg [(B.int IntKind.i64), (B.int IntKind.i64), B.sl]) (shiftTo script.base (mulN (toN r683.1) 3)) fun (r684 : (Int × (Int × (Sl × Unit)))) =>
          .alloc [(Value.int IntKind.i64 0), (Value.int IntKind.i64 0), (Value.slice Option.none 0 0)] fun (a685 : Addr) =>
          .store (Option.some a685) [(Value.int IntKind.i64 r684.1), (Value.int IntKind.i64 r684.2.1), (Value.slice r684.2.2.1.base r684.2.2.1.len r684.2.2.1.cap)] <|
          .bind
            (.bind
              (.load (Ty.one (B.int IntKind.i64)) (shiftTo (Option.some a685) 1) fun (n737 : Int) =>
              grd (notB Bool.false) <|
              ifB (eqI (remI IntKind.i64 n737 2) 0)
                (ifB (notB (noneB r1.1))
                  (.ret 0 [(Value.bool (notB (noneB r3.1)))]) <|
                .ret 0 [(Value.bool Bool.false)]) <|
              .ret 0 [(Value.bool Bool.false)]) fun (k738 : Nat) =>
            fun (vs739 : (List Value)) =>
            ifB (eqN k738 0)
              (.cast [(Ty.one B.bool)] vs739 fun (r740 : (Bool × Unit)) =>
              ifB r740.1
                (.load (Ty.agg [(B.int IntKind.i64), (B.int IntKind.i64), B.sl]) (Option.some a685) fun (r741 : (Int × (Int × (Sl × Unit)))) =>
                .call (F_law1_played S r1.1 r3.1 (r741.1, (r741.2.1, (r741.2.2.1, ())))) [(Ty.one B.bool)] fun (r742 : (Bool × Unit)) =>
                .ret 0 [(Value.bool r742.1)]) <|
              .ret 0 [(Value.bool Bool.true)]) <|
            .fail) fun (k743 : Nat) =>
          fun (vs744 : (List Value)) =>
          ifB (eqN k743 0)
            (.cast [(Ty.one B.bool)] vs744 fun (r745 : (Bool × Unit)) =>
            .bind
              (.bind
                (.load (Ty.one (B.int IntKind.i64)) (shiftTo (Option.some a685) 1) fun (n767 : Int) =>
                grd (notB Bool.false) <|
                ifB (neI (remI IntKind.i64 n767 2) 0)
                  (ifB (notB (noneB r2.1))
                    (.ret 0 [(Value.bool (notB (noneB r4.1)))]) <|
                  .ret 0 [(Value.bool Bool.false)]) <|
                .ret 0 [(Value.bool Bool.false)]) fun (k768 : Nat) =>
              fun (vs769 : (List Value)) =>
              ifB (eqN k768 0)
                (.cast [(Ty.one B.bool)] vs769 fun (r770 : (Bool × Unit)) =>
                ifB r770.1
                  (.load (Ty.agg [(B.int IntKind.i64), (B.int IntKind.i64), B.sl]) (Option.some a685) fun (r771 : (Int × (Int × (Sl × Unit)))) =>
                  .call (F_law1_played S r2.1 r4.1 (r771.1, (r771.2.1, (r771.2.2.1, ())))) [(Ty.one B.bool)] fun (r772 : (Bool × Unit)) =>
                  .ret 0 [(Value.bool r772.1)]) <|
                .ret 0 [(Value.bool r745.1)]) <|
              .fail) fun (k773 : Nat) =>
            fun (vs774 : (List Value)) =>
            ifB (eqN k773 0)
              (.cast [(Ty.one B.bool)] vs774 fun (r775 : (Bool × Unit)) =>
              ifB (notB r775.1)
                (.ret 1 [(Value.bool Bool.false)]) <|
              .ret 0 [(Value.int IntKind.i64 (addI IntKind.i64 r683.1 1))]) <|
            .fail) <|
          .fail) <|
        .ret 2 []) fun (k776 : Nat) =>
    fun (vs777 : (List Value)) =>
    ifB (eqN k776 2)
      (.cast [] vs777 fun (u778 : Unit) =>
      .call (F_crowd_ends S r398.1) [(Ty.one B.bool)] fun (r779 : (Bool × Unit)) =>
      .ret 0 [(Value.bool r779.1)]) <|
    ifB (eqN k776 1)
      (.cast [(Ty.one B.bool)] vs777 fun (r780 : (Bool × Unit)) =>
      .ret 0 [(Value.bool r780.1)]) <|
    .fail) <|
  .fail
def F_law1_short (S : Ids) (script : Sl) : Prog :=
  .bind
    (.loop [(Ty.one (B.int IntKind.i64)), (Ty.one (B.int IntKind.i64))] ((0 : Int), ((0 : Int), ())) fun (r37 : (Int × (Int × Unit))) =>
      .bind
        (ifB (ltI r37.2.1 (natI script.len))
          (.ret 0 [(Value.bool (leI r37.1 16777216))]) <|
        .ret 0 [(Value.bool Bool.false)]) fun (k42 : Nat) =>
      fun (vs43 : (List Value)) =>
      ifB (eqN k42 0)
        (.cast [(Ty.one B.bool)] vs43 fun (r44 : (Bool × Unit)) =>
        ifB r44.1
          (grd (andB (someB script.base) (inB r37.2.1 script.len)) <|
          grd (someB (shiftTo script.base (mulN (toN r37.2.1) 3))) <|
          .load (Ty.one B.sl) (shiftTo (shiftTo script.base (mulN (toN r37.2.1) 3)) 2) fun (l45 : Sl) =>
          .ret 0 [(Value.int IntKind.i64 (addI IntKind.i64 (addI IntKind.i64 r37.1 (mulI IntKind.i64 2 (natI l45.len))) 1)), (Value.int IntKind.i64 (addI IntKind.i64 r37.2.1 1))]) <|
        .ret 2 [(Value.int IntKind.i64 r37.1)]) <|
      .fail) fun (k46 : Nat) =>
  fun (vs47 : (List Value)) =>
  ifB (eqN k46 2)
    (.cast [(Ty.one (B.int IntKind.i64))] vs47 fun (r48 : (Int × Unit)) =>
    .bind
      (ifB (leI r48.1 16777216)
        (ifB (leI (natI script.len) 8192)
          (.ret 0 [(Value.bool (leI (mulI IntKind.i64 r48.1 (natI script.len)) 67108864))]) <|
        .ret 0 [(Value.bool Bool.false)]) <|
      .ret 0 [(Value.bool Bool.false)]) fun (k52 : Nat) =>
    fun (vs53 : (List Value)) =>
    ifB (eqN k52 0)
      (.cast [(Ty.one B.bool)] vs53 fun (r54 : (Bool × Unit)) =>
      .ret 0 [(Value.bool r54.1)]) <|
    .fail) <|
  .fail
def F_law1_CodecStream (S : Ids) (enc : Int) (other : Int) (script : Sl) : Prog :=
  .alloc [(Value.int IntKind.u8 195), (Value.int IntKind.u8 169), (Value.int IntKind.u8 226)] fun (a1 : Addr) =>
  .alloc [(Value.int IntKind.i64 1), (Value.int IntKind.i64 0), (Value.slice (Option.some a1) 3 3), (Value.int IntKind.i64 2), (Value.int IntKind.i64 0), (Value.slice Option.none 0 0), (Value.int IntKind.i64 2), (Value.int IntKind.i64 1), (Value.slice Option.none 0 0)] fun (a2 : Addr) =>
  .call (F_law1_streams S (Int.ofNat 1) (Int.ofNat 2) (⟨(Option.some a2), 3, 3⟩)) [(Ty.one B.bool)] fun (r3 : (Bool × Unit)) =>
  .bind
    (ifB r3.1
      (.call (F_law1_short S script) [(Ty.one B.bool)] fun (r9 : (Bool × Unit)) =>
      ifB (notB r9.1)
        (.ret 0 [(Value.bool Bool.true)]) <|
      .call (F_law1_streams S enc other script) [(Ty.one B.bool)] fun (r10 : (Bool × Unit)) =>
      .ret 0 [(Value.bool r10.1)]) <|
    .ret 0 [(Value.bool Bool.false)]) fun (k11 : Nat) =>
  fun (vs12 : (List Value)) =>
  ifB (eqN k11 0)
    (.cast [(Ty.one B.bool)] vs12 fun (r13 : (Bool × Unit)) =>
    .ret 0 [(Value.bool r13.1)]) <|
  .fail
def F_law1_whole (S : Ids) (enc : Int) : Prog :=
  .ret 0 [(Value.int IntKind.i64 (addI IntKind.i64 (andI IntKind.i64 enc 3) 1))]
def F_law1_CodecWalk (S : Ids) (enc : Int) (b : Sl) : Prog :=
  .call (F_law1_whole S enc) [(Ty.one (B.int IntKind.i64))] fun (r1 : (Int × Unit)) =>
  .call (F_law1_copyBytes S b) [(Ty.one B.sl)] fun (r2 : (Sl × Unit)) =>
  .call (F_codec_Decode S r1.1 r2.1) [(Ty.one B.sl), (Ty.one (B.int IntKind.i64))] fun (r3 : (Sl × (Int × Unit))) =>
  .bind
    (.call (F_law1_num S r3.2.1) [(Ty.one (B.int IntKind.i64))] fun (r256 : (Int × Unit)) =>
    ifB (neI r256.1 0)
      (.ret 0 [(Value.bool Bool.true)]) <|
    ifB (gtI (natI b.len) 0)
      (.ret 0 [(Value.bool (eqI (natI r3.1.len) 0))]) <|
    .ret 0 [(Value.bool Bool.false)]) fun (k257 : Nat) =>
  fun (vs258 : (List Value)) =>
  ifB (eqN k257 0)
    (.cast [(Ty.one B.bool)] vs258 fun (r259 : (Bool × Unit)) =>
    ifB r259.1
      (.ret 0 [(Value.bool Bool.false)]) <|
    .alloc [(Value.int IntKind.u8 0), (Value.int IntKind.u8 0)] fun (a260 : Addr) =>
    .call (F_codec_Next S r1.1 (⟨(Option.some a260), 2, 2⟩) (Int.ofNat 0)) [(Ty.one (B.int IntKind.i64)), (Ty.one (B.int IntKind.i64))] fun (r261 : (Int × (Int × Unit))) =>
    .bind
      (ifB (neI r261.1 0)
        (.ret 0 [(Value.bool Bool.true)]) <|
      .ret 0 [(Value.bool (ltI r261.2.1 1))]) fun (k385 : Nat) =>
    fun (vs386 : (List Value)) =>
    ifB (eqN k385 0)
      (.cast [(Ty.one B.bool)] vs386 fun (r387 : (Bool × Unit)) =>
      ifB r387.1
        (.ret 0 [(Value.bool Bool.false)]) <|
      .bind
        (.loop [(Ty.one (B.int IntKind.i64)), (Ty.one (B.int IntKind.i64))] ((0 : Int), ((0 : Int), ())) fun (r472 : (Int × (Int × Unit))) =>
          ifB (ltI r472.2.1 (natI r3.1.len))
            (.call (F_codec_Next S r1.1 b r472.1) [(Ty.one (B.int IntKind.i64)), (Ty.one (B.int IntKind.i64))] fun (r473 : (Int × (Int × Unit))) =>
            .bind
              (grd (andB (someB r3.1.base) (inB r472.2.1 r3.1.len)) <|
              .load (Ty.one (B.int IntKind.i64)) (shiftTo r3.1.base (mulN (toN r472.2.1) 1)) fun (n485 : Int) =>
              ifB (neI r473.1 n485)
                (.ret 0 [(Value.bool Bool.true)]) <|
              ifB (ltI r473.2.1 1)
                (.ret 0 [(Value.bool Bool.true)]) <|
              ifB (gtI r473.2.1 4)
                (.ret 0 [(Value.bool Bool.true)]) <|
              .ret 0 [(Value.bool (gtI (addI IntKind.i64 r472.1 r473.2.1) (natI b.len)))]) fun (k486 : Nat) =>
            fun (vs487 : (List Value)) =>
            ifB (eqN k486 0)
              (.cast [(Ty.one B.bool)] vs487 fun (r488 : (Bool × Unit)) =>
              ifB r488.1
                (.ret 1 [(Value.bool Bool.false)]) <|
              .call (F_codec_Prev S r1.1 b (addI IntKind.i64 r472.1 r473.2.1)) [(Ty.one (B.int IntKind.i64)), (Ty.one (B.int IntKind.i64))] fun (r489 : (Int × (Int × Unit))) =>
              .bind
                (ifB (neI r489.1 r473.1)
                  (.ret 0 [(Value.bool Bool.true)]) <|
                .ret 0 [(Value.bool (neI r489.2.1 r473.2.1))]) fun (k493 : Nat) =>
              fun (vs494 : (List Value)) =>
              ifB (eqN k493 0)
                (.cast [(Ty.one B.bool)] vs494 fun (r495 : (Bool × Unit)) =>
                ifB r495.1
                  (.ret 1 [(Value.bool Bool.false)]) <|
                .ret 0 [(Value.int IntKind.i64 (addI IntKind.i64 r472.1 r473.2.1)), (Value.int IntKind.i64 (addI IntKind.i64 r472.2.1 1))]) <|
              .fail) <|
            .fail) <|
          .ret 2 [(Value.int IntKind.i64 r472.1)]) fun (k496 : Nat) =>
      fun (vs497 : (List Value)) =>
      ifB (eqN k496 2)
        (.cast [(Ty.one (B.int IntKind.i64))] vs497 fun (r498 : (Int × Unit)) =>
        .call (F_codec_Next S r1.1 b r498.1) [(Ty.one (B.int IntKind.i64)), (Ty.one (B.int IntKind.i64))] fun (r499 : (Int × (Int × Unit))) =>
        .call (F_codec_Prev S r1.1 b (Int.ofNat 0)) [(Ty.one (B.int IntKind.i64)), (Ty.one (B.int IntKind.i64))] fun (r500 : (Int × (Int × Unit))) =>
        .bind
          (ifB (eqI r498.1 (natI b.len))
            (ifB (eqI r499.1 0)
              (ifB (eqI r499.2.1 0)
                (ifB (eqI r500.1 0)
                  (.ret 0 [(Value.bool (eqI r500.2.1 0))]) <|
                .ret 0 [(Value.bool Bool.false)]) <|
              .ret 0 [(Value.bool Bool.false)]) <|
            .ret 0 [(Value.bool Bool.false)]) <|
          .ret 0 [(Value.bool Bool.false)]) fun (k504 : Nat) =>
        fun (vs505 : (List Value)) =>
        ifB (eqN k504 0)
          (.cast [(Ty.one B.bool)] vs505 fun (r506 : (Bool × Unit)) =>
          .ret 0 [(Value.bool r506.1)]) <|
        .fail) <|
      ifB (eqN k496 1)
        (.cast [(Ty.one B.bool)] vs497 fun (r507 : (Bool × Unit)) =>
        .ret 0 [(Value.bool r507.1)]) <|
      .fail) <|
    .fail) <|
  .fail
def F_law1_CodecParts (S : Ids) (enc : Int) (b : Sl) (cuts : Sl) : Prog :=
  .call (F_law1_whole S enc) [(Ty.one (B.int IntKind.i64))] fun (r1 : (Int × Unit)) =>
  .call (F_law1_copyBytes S b) [(Ty.one B.sl)] fun (r2 : (Sl × Unit)) =>
  .call (F_codec_Decode S r1.1 r2.1) [(Ty.one B.sl), (Ty.one (B.int IntKind.i64))] fun (r3 : (Sl × (Int × Unit))) =>
  .call (F_codec_NewStream S r1.1) [(Ty.one B.ptr), (Ty.one (B.int IntKind.i64))] fun (r4 : ((Option Addr) × (Int × Unit))) =>
  .bind
    (.call (F_law1_num S r3.2.1) [(Ty.one (B.int IntKind.i64))] fun (r626 : (Int × Unit)) =>
    ifB (neI r626.1 0)
      (.ret 0 [(Value.bool Bool.true)]) <|
    .call (F_law1_num S r4.2.1) [(Ty.one (B.int IntKind.i64))] fun (r627 : (Int × Unit)) =>
    ifB (neI r627.1 0)
      (.ret 0 [(Value.bool Bool.true)]) <|
    ifB (noneB r4.1)
      (.ret 0 [(Value.bool Bool.true)]) <|
    ifB (gtI (natI b.len) 0)
      (.ret 0 [(Value.bool (eqI (natI r3.1.len) 0))]) <|
    .ret 0 [(Value.bool Bool.false)]) fun (k628 : Nat) =>
  fun (vs629 : (List Value)) =>
  ifB (eqN k628 0)
    (.cast [(Ty.one B.bool)] vs629 fun (r630 : (Bool × Unit)) =>
    ifB r630.1
      (.ret 0 [(Value.bool Bool.false)]) <|
    .bind
      (.loop [(Ty.one (B.int IntKind.i64))] ((0 : Int), ()) fun (r1086 : (Int × Unit)) =>
        ifB (ltI r1086.1 2)
          (.bind
            (.loop [(Ty.one B.sl), (Ty.one (B.int IntKind.i64)), (Ty.one (B.int IntKind.i64))] ((⟨Option.none, 0, 0⟩ : Sl), ((0 : Int), ((0 : Int), ()))) fun (r1189 : (Sl × (Int × (Int × Unit)))) =>
              ifB (leI r1189.2.2.1 (natI cuts.len))
                (.bind
                  (ifB (ltI r1189.2.2.1 (natI cuts.len))
                    (grd (andB (someB cuts.base) (inB r1189.2.2.1 cuts.len)) <|
                    .load (Ty.one (B.int IntKind.i64)) (shiftTo cuts.base (mulN (toN r1189.2.2.1) 1)) fun (n1204 : Int) =>
                    .ret 0 [(Value.int IntKind.i64 (minI (natI b.len) (addI IntKind.i64 r1189.2.1 (andI IntKind.i64 n1204 7))))]) <|
                  .ret 0 [(Value.int IntKind.i64 (natI b.len))]) fun (k1205 : Nat) =>
                fun (vs1206 : (List Value)) =>
                ifB (eqN k1205 0)
                  (.cast [(Ty.one (B.int IntKind.i64))] vs1206 fun (r1207 : (Int × Unit)) =>
                  grd (andB (leB r1207.1 b.cap) (leB r1189.2.1 (toN r1207.1))) <|
                  .call (F_law1_copyBytes S (⟨(cutBase b.base b.cap (toN r1189.2.1) 1), (subN (toN r1207.1) (toN r1189.2.1)), (subN b.cap (toN r1189.2.1))⟩)) [(Ty.one B.sl)] fun (r1208 : (Sl × Unit)) =>
                  .call (F_Stream_Feed S r4.1 r1208.1) [(Ty.one B.sl)] fun (r1209 : (Sl × Unit)) =>
                  .append 1 8 [(Value.int IntKind.i64 0)] r1189.1 r1209.1 fun (l1210 : Sl) =>
                  .call (F_Stream_Held S r4.1) [(Ty.one (B.int IntKind.i64))] fun (r1211 : (Int × Unit)) =>
                  .bind
                    (ifB (ltI r1211.1 0)
                      (.ret 0 [(Value.bool Bool.true)]) <|
                    ifB (gtI r1211.1 3)
                      (.ret 0 [(Value.bool Bool.true)]) <|
                    .ret 0 [(Value.bool (gtI r1211.1 r1207.1))]) fun (k1215 : Nat) =>
                  fun (vs1216 : (List Value)) =>
                  ifB (eqN k1215 0)
                    (.cast [(Ty.one B.bool)] vs1216 fun (r1217 : (Bool × Unit)) =>
                    ifB r1217.1
                      (.ret 1 [(Value.bool Bool.false)]) <|
                    .ret 0 [(Value.slice l1210.base l1210.len l1210.cap), (Value.int IntKind.i64 r1207.1), (Value.int IntKind.i64 (addI IntKind.i64 r1189.2.2.1 1))]) <|
                  .fail) <|
                .fail) <|
              .ret 4 [(Value.slice r1189.1.base r1189.1.len r1189.1.cap)]) fun (k1218 : Nat) =>
          fun (vs1219 : (List Value)) =>
          ifB (eqN k1218 4)
            (.cast [(Ty.one B.sl)] vs1219 fun (r1220 : (Sl × Unit)) =>
            .call (F_Stream_Close S r4.1) [(Ty.one B.sl)] fun (r1221 : (Sl × Unit)) =>
            .append 1 8 [(Value.int IntKind.i64 0)] r1220.1 r1221.1 fun (l1222 : Sl) =>
            .call (F_Stream_Held S r4.1) [(Ty.one (B.int IntKind.i64))] fun (r1223 : (Int × Unit)) =>
            .bind
              (ifB (neI r1223.1 0)
                (.ret 0 [(Value.bool Bool.true)]) <|
              .call (F_law1_sameInts S l1222 r3.1) [(Ty.one B.bool)] fun (r1228 : (Bool × Unit)) =>
              .ret 0 [(Value.bool (notB r1228.1))]) fun (k1229 : Nat) =>
            fun (vs1230 : (List Value)) =>
            ifB (eqN k1229 0)
              (.cast [(Ty.one B.bool)] vs1230 fun (r1231 : (Bool × Unit)) =>
              ifB r1231.1
                (.ret 1 [(Value.bool Bool.false)]) <|
              .ret 0 [(Value.int IntKind.i64 (addI IntKind.i64 r1086.1 1))]) <|
            .fail) <|
          ifB (eqN k1218 1)
            (.cast [(Ty.one B.bool)] vs1219 fun (r1232 : (Bool × Unit)) =>
            .ret 1 [(Value.bool r1232.1)]) <|
          .fail) <|
        .ret 2 []) fun (k1233 : Nat) =>
    fun (vs1234 : (List Value)) =>
    ifB (eqN k1233 2)
      (.cast [] vs1234 fun (u1235 : Unit) =>
      .alloc [(Value.int IntKind.u8 65), (Value.int IntKind.u8 65)] fun (a1236 : Addr) =>
      .call (F_codec_Decode S r1.1 (⟨(Option.some a1236), 2, 2⟩)) [(Ty.one B.sl), (Ty.one (B.int IntKind.i64))] fun (r1237 : (Sl × (Int × Unit))) =>
      .bind
        (.call (F_law1_num S r1237.2.1) [(Ty.one (B.int IntKind.i64))] fun (r1242 : (Int × Unit)) =>
        ifB (eqI r1242.1 0)
          (.ret 0 [(Value.bool (gtI (natI r1237.1.len) 0))]) <|
        .ret 0 [(Value.bool Bool.false)]) fun (k1243 : Nat) =>
      fun (vs1244 : (List Value)) =>
      ifB (eqN k1243 0)
        (.cast [(Ty.one B.bool)] vs1244 fun (r1245 : (Bool × Unit)) =>
        .ret 0 [(Value.bool r1245.1)]) <|
      .fail) <|
    ifB (eqN k1233 1)
      (.cast [(Ty.one B.bool)] vs1234 fun (r1246 : (Bool × Unit)) =>
      .ret 0 [(Value.bool r1246.1)]) <|
    .fail) <|
  .fail
def F_law1_scalar (S : Ids) (enc : Int) (n : Int) : Prog :=
  ifB (eqI enc 4)
    (.ret 0 [(Value.int IntKind.i64 (andI IntKind.i64 n 255))]) <|
  .bind
    (ifB (gtI (andI IntKind.i64 n 2097151) 1114111)
      (.ret 0 [(Value.bool Bool.true)]) <|
    ifB (geI (andI IntKind.i64 n 2097151) 55296)
      (.ret 0 [(Value.bool (ltI (andI IntKind.i64 n 2097151) 57344))]) <|
    .ret 0 [(Value.bool Bool.false)]) fun (k4 : Nat) =>
  fun (vs5 : (List Value)) =>
  ifB (eqN k4 0)
    (.cast [(Ty.one B.bool)] vs5 fun (r6 : (Bool × Unit)) =>
    ifB r6.1
      (.ret 0 [(Value.int IntKind.i64 (andI IntKind.i64 (andI IntKind.i64 n 2097151) 2047))]) <|
    .ret 0 [(Value.int IntKind.i64 (andI IntKind.i64 n 2097151))]) <|
  .fail
def F_law1_CodecScalars (S : Ids) (enc : Int) (list : Sl) : Prog :=
  .call (F_law1_whole S enc) [(Ty.one (B.int IntKind.i64))] fun (r1 : (Int × Unit)) =>
  .alloc [(Value.int IntKind.i64 65)] fun (a2 : Addr) =>
  .bind
    (.loop [(Ty.one B.sl), (Ty.one (B.int IntKind.i64))] ((⟨(Option.some a2), 1, 1⟩ : Sl), ((0 : Int), ())) fun (r53 : (Sl × (Int × Unit))) =>
      ifB (ltI r53.2.1 (natI list.len))
        (grd (andB (someB list.base) (inB r53.2.1 list.len)) <|
        .load (Ty.one (B.int IntKind.i64)) (shiftTo list.base (mulN (toN r53.2.1) 1)) fun (n54 : Int) =>
        .call (F_law1_scalar S r1.1 n54) [(Ty.one (B.int IntKind.i64))] fun (r55 : (Int × Unit)) =>
        .alloc [(Value.int IntKind.i64 r55.1)] fun (a56 : Addr) =>
        .append 1 8 [(Value.int IntKind.i64 0)] r53.1 (⟨(Option.some a56), 1, 1⟩) fun (l57 : Sl) =>
        .ret 0 [(Value.slice l57.base l57.len l57.cap), (Value.int IntKind.i64 (addI IntKind.i64 r53.2.1 1))]) <|
      .ret 2 [(Value.slice r53.1.base r53.1.len r53.1.cap)]) fun (k58 : Nat) =>
  fun (vs59 : (List Value)) =>
  ifB (eqN k58 2)
    (.cast [(Ty.one B.sl)] vs59 fun (r60 : (Sl × Unit)) =>
    .call (F_law1_copyInts S r60.1) [(Ty.one B.sl)] fun (r61 : (Sl × Unit)) =>
    .call (F_codec_Encode S r1.1 r61.1) [(Ty.one B.sl), (Ty.one (B.int IntKind.i64)), (Ty.one (B.int IntKind.i64))] fun (r62 : (Sl × (Int × (Int × Unit)))) =>
    .bind
      (.call (F_law1_num S r62.2.2.1) [(Ty.one (B.int IntKind.i64))] fun (r78 : (Int × Unit)) =>
      ifB (neI r78.1 0)
        (.ret 0 [(Value.bool Bool.true)]) <|
      ifB (neI r62.2.1 0)
        (.ret 0 [(Value.bool Bool.true)]) <|
      .ret 0 [(Value.bool (ltI (natI r62.1.len) (natI r60.1.len)))]) fun (k79 : Nat) =>
    fun (vs80 : (List Value)) =>
    ifB (eqN k79 0)
      (.cast [(Ty.one B.bool)] vs80 fun (r81 : (Bool × Unit)) =>
      ifB r81.1
        (.ret 0 [(Value.bool Bool.false)]) <|
      .call (F_codec_Decode S r1.1 r62.1) [(Ty.one B.sl), (Ty.one (B.int IntKind.i64))] fun (r82 : (Sl × (Int × Unit))) =>
      .bind
        (.call (F_law1_num S r82.2.1) [(Ty.one (B.int IntKind.i64))] fun (r88 : (Int × Unit)) =>
        ifB (eqI r88.1 0)
          (.call (F_law1_sameInts S r60.1 r82.1) [(Ty.one B.bool)] fun (r89 : (Bool × Unit)) =>
          .ret 0 [(Value.bool r89.1)]) <|
        .ret 0 [(Value.bool Bool.false)]) fun (k90 : Nat) =>
      fun (vs91 : (List Value)) =>
      ifB (eqN k90 0)
        (.cast [(Ty.one B.bool)] vs91 fun (r92 : (Bool × Unit)) =>
        .ret 0 [(Value.bool r92.1)]) <|
      .fail) <|
    .fail) <|
  .fail
def F_law1_CodecBack (S : Ids) (enc : Int) (b : Sl) : Prog :=
  .call (F_law1_whole S enc) [(Ty.one (B.int IntKind.i64))] fun (r1 : (Int × Unit)) =>
  .call (F_law1_copyBytes S b) [(Ty.one B.sl)] fun (r2 : (Sl × Unit)) =>
  .call (F_codec_Decode S r1.1 r2.1) [(Ty.one B.sl), (Ty.one (B.int IntKind.i64))] fun (r3 : (Sl × (Int × Unit))) =>
  .bind
    (.call (F_law1_num S r3.2.1) [(Ty.one (B.int IntKind.i64))] fun (r66 : (Int × Unit)) =>
    ifB (neI r66.1 0)
      (.ret 0 [(Value.bool Bool.true)]) <|
    ifB (gtI (natI b.len) 0)
      (ifB (eqI (natI r3.1.len) 0)
        (.ret 0 [(Value.bool Bool.true)]) <|
      .ret 0 [(Value.bool (gtI (natI r3.1.len) (natI b.len)))]) <|
    .ret 0 [(Value.bool (gtI (natI r3.1.len) (natI b.len)))]) fun (k67 : Nat) =>
  fun (vs68 : (List Value)) =>
  ifB (eqN k67 0)
    (.cast [(Ty.one B.bool)] vs68 fun (r69 : (Bool × Unit)) =>
    ifB r69.1
      (.ret 0 [(Value.bool Bool.false)]) <|
    .bind
      (.loop [(Ty.one (B.int IntKind.i64)), (Ty.one (B.int IntKind.i64))] ((0 : Int), ((0 : Int), ())) fun (r104 : (Int × (Int × Unit))) =>
        ifB (ltI r104.2.1 (natI r3.1.len))
          (grd (andB (someB r3.1.base) (inB r104.2.1 r3.1.len)) <|
          .load (Ty.one (B.int IntKind.i64)) (shiftTo r3.1.base (mulN (toN r104.2.1) 1)) fun (n105 : Int) =>
          .call (F_codec_Fits S r1.1 n105) [(Ty.one B.bool)] fun (r106 : (Bool × Unit)) =>
          ifB (notB r106.1)
            (.ret 1 [(Value.bool Bool.false)]) <|
          grd (andB (someB r3.1.base) (inB r104.2.1 r3.1.len)) <|
          .load (Ty.one (B.int IntKind.i64)) (shiftTo r3.1.base (mulN (toN r104.2.1) 1)) fun (n107 : Int) =>
          .call (F_codec_Size S r1.1 n107) [(Ty.one (B.int IntKind.i64))] fun (r108 : (Int × Unit)) =>
          .ret 0 [(Value.int IntKind.i64 (addI IntKind.i64 r104.1 r108.1)), (Value.int IntKind.i64 (addI IntKind.i64 r104.2.1 1))]) <|
        .ret 2 [(Value.int IntKind.i64 r104.1)]) fun (k109 : Nat) =>
    fun (vs110 : (List Value)) =>
    ifB (eqN k109 2)
      (.cast [(Ty.one (B.int IntKind.i64))] vs110 fun (r111 : (Int × Unit)) =>
      .call (F_codec_Encode S r1.1 r3.1) [(Ty.one B.sl), (Ty.one (B.int IntKind.i64)), (Ty.one (B.int IntKind.i64))] fun (r112 : (Sl × (Int × (Int × Unit)))) =>
      .alloc [(Value.int IntKind.i64 65)] fun (a113 : Addr) =>
      .call (F_codec_Encode S r1.1 (⟨(Option.some a113), 1, 1⟩)) [(Ty.one B.sl), (Ty.one (B.int IntKind.i64)), (Ty.one (B.int IntKind.i64))] fun (r114 : (Sl × (Int × (Int × Unit)))) =>
      .bind
        (.call (F_law1_num S r112.2.2.1) [(Ty.one (B.int IntKind.i64))] fun (r121 : (Int × Unit)) =>
        ifB (eqI r121.1 0)
          (.call (F_law1_num S r114.2.2.1) [(Ty.one (B.int IntKind.i64))] fun (r122 : (Int × Unit)) =>
          ifB (eqI r122.1 0)
            (ifB (gtI (natI r114.1.len) 0)
              (ifB (eqI r112.2.1 0)
                (ifB (eqI r111.1 (natI b.len))
                  (.call (F_law1_sameBytes S b r112.1) [(Ty.one B.bool)] fun (r123 : (Bool × Unit)) =>
                  .ret 0 [(Value.bool r123.1)]) <|
                .ret 0 [(Value.bool Bool.false)]) <|
              .ret 0 [(Value.bool Bool.false)]) <|
            .ret 0 [(Value.bool Bool.false)]) <|
          .ret 0 [(Value.bool Bool.false)]) <|
        .ret 0 [(Value.bool Bool.false)]) fun (k124 : Nat) =>
      fun (vs125 : (List Value)) =>
      ifB (eqN k124 0)
        (.cast [(Ty.one B.bool)] vs125 fun (r126 : (Bool × Unit)) =>
        .ret 0 [(Value.bool r126.1)]) <|
      .fail) <|
    ifB (eqN k109 1)
      (.cast [(Ty.one B.bool)] vs110 fun (r127 : (Bool × Unit)) =>
      .ret 0 [(Value.bool r127.1)]) <|
    .fail) <|
  .fail
def F_law1_fits (S : Ids) (script : Sl) : Prog :=
  .bind
    (.loop [(Ty.one (B.int IntKind.i64)), (Ty.one (B.int IntKind.i64))] ((0 : Int), ((0 : Int), ())) fun (r43 : (Int × (Int × Unit))) =>
      .bind
        (ifB (ltI r43.2.1 (natI script.len))
          (.ret 0 [(Value.bool (leI r43.1 67108864))]) <|
        .ret 0 [(Value.bool Bool.false)]) fun (k49 : Nat) =>
      fun (vs50 : (List Value)) =>
      ifB (eqN k49 0)
        (.cast [(Ty.one B.bool)] vs50 fun (r51 : (Bool × Unit)) =>
        ifB r51.1
          (grd (andB (someB script.base) (inB r43.2.1 script.len)) <|
          grd (someB (shiftTo script.base (mulN (toN r43.2.1) 6))) <|
          .load (Ty.one B.sl) (shiftTo (shiftTo script.base (mulN (toN r43.2.1) 6)) 4) fun (l52 : Sl) =>
          grd (andB (someB script.base) (inB r43.2.1 script.len)) <|
          grd (someB (shiftTo script.base (mulN (toN r43.2.1) 6))) <|
          .load (Ty.one B.sl) (shiftTo (shiftTo script.base (mulN (toN r43.2.1) 6)) 5) fun (l53 : Sl) =>
          .ret 0 [(Value.int IntKind.i64 (addI IntKind.i64 (addI IntKind.i64 (addI IntKind.i64 r43.1 (natI l52.len)) (natI l53.len)) 200)), (Value.int IntKind.i64 (addI IntKind.i64 r43.2.1 1))]) <|
        .ret 2 [(Value.int IntKind.i64 r43.1)]) <|
      .fail) fun (k54 : Nat) =>
  fun (vs55 : (List Value)) =>
  ifB (eqN k54 2)
    (.cast [(Ty.one (B.int IntKind.i64))] vs55 fun (r56 : (Int × Unit)) =>
    .bind
      (ifB (leI r56.1 67108864)
        (ifB (leI (natI script.len) 8192)
          (.ret 0 [(Value.bool (leI (mulI IntKind.i64 r56.1 (natI script.len)) 67108864))]) <|
        .ret 0 [(Value.bool Bool.false)]) <|
      .ret 0 [(Value.bool Bool.false)]) fun (k60 : Nat) =>
    fun (vs61 : (List Value)) =>
    ifB (eqN k60 0)
      (.cast [(Ty.one B.bool)] vs61 fun (r62 : (Bool × Unit)) =>
      .ret 0 [(Value.bool r62.1)]) <|
    .fail) <|
  .fail
def F_book_leaveInts (S : Ids) (b : (Option Addr)) (l : Sl) : Prog :=
  grd (someB b) <|
  grd (someB b) <|
  .load (Ty.one B.sl) (shiftTo b 6) fun (l1 : Sl) =>
  .alloc [(Value.slice l.base l.len l.cap)] fun (a2 : Addr) =>
  .append 1 24 [(Value.slice Option.none 0 0)] l1 (⟨(Option.some a2), 1, 1⟩) fun (l3 : Sl) =>
  grd (someB b) <|
  grd (someB b) <|
  .store (shiftTo b 6) [(Value.slice l3.base l3.len l3.cap)] <|
  grd (someB b) <|
  grd (someB b) <|
  .load (Ty.one B.sl) (shiftTo b 7) fun (l4 : Sl) =>
  .call (F_law1_copyInts S l) [(Ty.one B.sl)] fun (r5 : (Sl × Unit)) =>
  .check (shiftTo b 7) [(Value.slice l4.base l4.len l4.cap)] <|
  .alloc [(Value.slice r5.1.base r5.1.len r5.1.cap)] fun (a6 : Addr) =>
  .check (shiftTo b 7) [(Value.slice l4.base l4.len l4.cap)] <|
  .append 1 24 [(Value.slice Option.none 0 0)] l4 (⟨(Option.some a6), 1, 1⟩) fun (l7 : Sl) =>
  grd (someB b) <|
  grd (someB b) <|
  .store (shiftTo b 7) [(Value.slice l7.base l7.len l7.cap)] <|
  .ret 0 []
def F_book_keepInts (S : Ids) (b : (Option Addr)) (l : Sl) : Prog :=
  .bind
    (.loop [(Ty.one (B.int IntKind.i64))] ((0 : Int), ()) fun (r120 : (Int × Unit)) =>
      ifB (ltI r120.1 (natI l.len))
        (grd (someB b) <|
        grd (someB b) <|
        .load (Ty.one (B.int IntKind.i64)) (shiftTo b 4) fun (n121 : Int) =>
        grd (someB b) <|
        grd (someB b) <|
        .store (shiftTo b 4) [(Value.int IntKind.i64 (addI IntKind.i64 n121 1))] <|
        grd (someB b) <|
        grd (someB b) <|
        .load (Ty.one (B.int IntKind.i64)) (shiftTo b 4) fun (n122 : Int) =>
        grd (andB (someB l.base) (inB r120.1 l.len)) <|
        .store (shiftTo l.base (mulN (toN r120.1) 1)) [(Value.int IntKind.i64 n122)] <|
        .ret 0 [(Value.int IntKind.i64 (addI IntKind.i64 r120.1 1))]) <|
      .ret 2 []) fun (k123 : Nat) =>
  fun (vs124 : (List Value)) =>
  ifB (eqN k123 2)
    (.cast [] vs124 fun (u125 : Unit) =>
    grd (someB b) <|
    grd (someB b) <|
    .load (Ty.one (B.int IntKind.i64)) (shiftTo b 4) fun (n126 : Int) =>
    grd (someB b) <|
    grd (someB b) <|
    .store (shiftTo b 4) [(Value.int IntKind.i64 (addI IntKind.i64 n126 3))] <|
    grd (someB b) <|
    grd (someB b) <|
    .load (Ty.one (B.int IntKind.i64)) (shiftTo b 4) fun (n127 : Int) =>
    .alloc [(Value.int IntKind.i64 n127)] fun (a128 : Addr) =>
    .append 1 8 [(Value.int IntKind.i64 0)] l (⟨(Option.some a128), 1, 1⟩) fun (l129 : Sl) =>
    grd (someB b) <|
    grd (someB b) <|
    .load (Ty.one (B.int IntKind.i64)) (shiftTo b 4) fun (n130 : Int) =>
    grd (someB b) <|
    grd (someB b) <|
    .load (Ty.one (B.int IntKind.i64)) (shiftTo b 4) fun (n131 : Int) =>
    .alloc [(Value.int IntKind.i64 (addI IntKind.i64 n130 1)), (Value.int IntKind.i64 (addI IntKind.i64 n131 1))] fun (a132 : Addr) =>
    .append 1 8 [(Value.int IntKind.i64 0)] l (⟨(Option.some a132), 2, 2⟩) fun (l133 : Sl) =>
    grd (someB b) <|
    grd (someB b) <|
    .load (Ty.one (B.int IntKind.i64)) (shiftTo b 4) fun (n134 : Int) =>
    grd (someB b) <|
    grd (someB b) <|
    .load (Ty.one (B.int IntKind.i64)) (shiftTo b 4) fun (n135 : Int) =>
    grd (someB b) <|
    grd (someB b) <|
    .load (Ty.one (B.int IntKind.i64)) (shiftTo b 4) fun (n136 : Int) =>
    .alloc [(Value.int IntKind.i64 (addI IntKind.i64 n134 2)), (Value.int IntKind.i64 (addI IntKind.i64 n135 2)), (Value.int IntKind.i64 (addI IntKind.i64 n136 2))] fun (a137 : Addr) =>
    .append 1 8 [(Value.int IntKind.i64 0)] l (⟨(Option.some a137), 3, 3⟩) fun (l138 : Sl) =>
    .bind
      (.loop [(Ty.one B.sl), (Ty.one (B.int IntKind.i64))] (l138, ((0 : Int), ())) fun (r190 : (Sl × (Int × Unit))) =>
        ifB (ltI r190.2.1 100)
          (grd (someB b) <|
          grd (someB b) <|
          .load (Ty.one (B.int IntKind.i64)) (shiftTo b 4) fun (n191 : Int) =>
          .alloc [(Value.int IntKind.i64 (addI IntKind.i64 n191 2))] fun (a192 : Addr) =>
          .append 1 8 [(Value.int IntKind.i64 0)] r190.1 (⟨(Option.some a192), 1, 1⟩) fun (l193 : Sl) =>
          .ret 0 [(Value.slice l193.base l193.len l193.cap), (Value.int IntKind.i64 (addI IntKind.i64 r190.2.1 1))]) <|
        .ret 4 [(Value.slice r190.1.base r190.1.len r190.1.cap)]) fun (k194 : Nat) =>
    fun (vs195 : (List Value)) =>
    ifB (eqN k194 4)
      (.cast [(Ty.one B.sl)] vs195 fun (r196 : (Sl × Unit)) =>
      grd (leB (natI l.cap) l.cap) <|
      .bind
        (.loop [(Ty.one (B.int IntKind.i64))] ((addI IntKind.i64 (natI l.len) 103), ()) fun (r217 : (Int × Unit)) =>
          ifB (ltI r217.1 (natI (subN (toN (natI l.cap)) 0)))
            (grd (someB b) <|
            grd (someB b) <|
            .load (Ty.one (B.int IntKind.i64)) (shiftTo b 4) fun (n218 : Int) =>
            grd (andB (someB (cutBase l.base l.cap 0 1)) (inB r217.1 (subN (toN (natI l.cap)) 0))) <|
            .store (shiftTo (cutBase l.base l.cap 0 1) (mulN (toN r217.1) 1)) [(Value.int IntKind.i64 (addI IntKind.i64 n218 2))] <|
            .ret 0 [(Value.int IntKind.i64 (addI IntKind.i64 r217.1 1))]) <|
          .ret 6 []) fun (k219 : Nat) =>
      fun (vs220 : (List Value)) =>
      ifB (eqN k219 6)
        (.cast [] vs220 fun (u221 : Unit) =>
        grd (someB b) <|
        grd (someB b) <|
        .load (Ty.one B.sl) (shiftTo b 0) fun (l222 : Sl) =>
        .alloc [(Value.slice l.base l.len l.cap), (Value.slice l129.base l129.len l129.cap), (Value.slice l133.base l133.len l133.cap), (Value.slice r196.1.base r196.1.len r196.1.cap), (Value.slice (cutBase l.base l.cap 0 1) (subN (toN (natI l.cap)) 0) (subN l.cap 0))] fun (a223 : Addr) =>
        .append 1 24 [(Value.slice Option.none 0 0)] l222 (⟨(Option.some a223), 5, 5⟩) fun (l224 : Sl) =>
        grd (someB b) <|
        grd (someB b) <|
        .store (shiftTo b 0) [(Value.slice l224.base l224.len l224.cap)] <|
        grd (someB b) <|
        grd (someB b) <|
        .load (Ty.one B.sl) (shiftTo b 1) fun (l225 : Sl) =>
        .call (F_law1_copyInts S l) [(Ty.one B.sl)] fun (r226 : (Sl × Unit)) =>
        .check (shiftTo b 1) [(Value.slice l225.base l225.len l225.cap)] <|
        .call (F_law1_copyInts S l129) [(Ty.one B.sl)] fun (r227 : (Sl × Unit)) =>
        .check (shiftTo b 1) [(Value.slice l225.base l225.len l225.cap)] <|
        .call (F_law1_copyInts S l133) [(Ty.one B.sl)] fun (r228 : (Sl × Unit)) =>
        .check (shiftTo b 1) [(Value.slice l225.base l225.len l225.cap)] <|
        .call (F_law1_copyInts S r196.1) [(Ty.one B.sl)] fun (r229 : (Sl × Unit)) =>
        .check (shiftTo b 1) [(Value.slice l225.base l225.len l225.cap)] <|
        .call (F_law1_copyInts S (⟨(cutBase l.base l.cap 0 1), (subN (toN (natI l.cap)) 0), (subN l.cap 0)⟩)) [(Ty.one B.sl)] fun (r230 : (Sl × Unit)) =>
        .check (shiftTo b 1) [(Value.slice l225.base l225.len l225.cap)] <|
        .alloc [(Value.slice r226.1.base r226.1.len r226.1.cap), (Value.slice r227.1.base r227.1.len r227.1.cap), (Value.slice r228.1.base r228.1.len r228.1.cap), (Value.slice r229.1.base r229.1.len r229.1.cap), (Value.slice r230.1.base r230.1.len r230.1.cap)] fun (a231 : Addr) =>
        .check (shiftTo b 1) [(Value.slice l225.base l225.len l225.cap)] <|
        .append 1 24 [(Value.slice Option.none 0 0)] l225 (⟨(Option.some a231), 5, 5⟩) fun (l232 : Sl) =>
        grd (someB b) <|
        grd (someB b) <|
        .store (shiftTo b 1) [(Value.slice l232.base l232.len l232.cap)] <|
        .ret 0 []) <|
      .fail) <|
    .fail) <|
  .fail
def F_book_keepBytes (S : Ids) (b : (Option Addr)) (l : Sl) : Prog :=
  .bind
    (.loop [(Ty.one (B.int IntKind.i64))] ((0 : Int), ()) fun (r120 : (Int × Unit)) =>
      ifB (ltI r120.1 (natI l.len))
        (grd (someB b) <|
        grd (someB b) <|
        .load (Ty.one (B.int IntKind.i64)) (shiftTo b 4) fun (n121 : Int) =>
        grd (someB b) <|
        grd (someB b) <|
        .store (shiftTo b 4) [(Value.int IntKind.i64 (addI IntKind.i64 n121 1))] <|
        grd (someB b) <|
        grd (someB b) <|
        .load (Ty.one (B.int IntKind.i64)) (shiftTo b 4) fun (n122 : Int) =>
        grd (andB (someB l.base) (inB r120.1 l.len)) <|
        .store (shiftTo l.base (mulN (toN r120.1) 1)) [(Value.int IntKind.u8 (wrapI IntKind.u8 n122))] <|
        .ret 0 [(Value.int IntKind.i64 (addI IntKind.i64 r120.1 1))]) <|
      .ret 2 []) fun (k123 : Nat) =>
  fun (vs124 : (List Value)) =>
  ifB (eqN k123 2)
    (.cast [] vs124 fun (u125 : Unit) =>
    grd (someB b) <|
    grd (someB b) <|
    .load (Ty.one (B.int IntKind.i64)) (shiftTo b 4) fun (n126 : Int) =>
    grd (someB b) <|
    grd (someB b) <|
    .store (shiftTo b 4) [(Value.int IntKind.i64 (addI IntKind.i64 n126 3))] <|
    grd (someB b) <|
    grd (someB b) <|
    .load (Ty.one (B.int IntKind.i64)) (shiftTo b 4) fun (n127 : Int) =>
    .alloc [(Value.int IntKind.u8 (wrapI IntKind.u8 n127))] fun (a128 : Addr) =>
    .append 1 1 [(Value.int IntKind.u8 0)] l (⟨(Option.some a128), 1, 1⟩) fun (l129 : Sl) =>
    grd (someB b) <|
    grd (someB b) <|
    .load (Ty.one (B.int IntKind.i64)) (shiftTo b 4) fun (n130 : Int) =>
    grd (someB b) <|
    grd (someB b) <|
    .load (Ty.one (B.int IntKind.i64)) (shiftTo b 4) fun (n131 : Int) =>
    .alloc [(Value.int IntKind.u8 (wrapI IntKind.u8 (addI IntKind.i64 n130 1))), (Value.int IntKind.u8 (wrapI IntKind.u8 (addI IntKind.i64 n131 1)))] fun (a132 : Addr) =>
    .append 1 1 [(Value.int IntKind.u8 0)] l (⟨(Option.some a132), 2, 2⟩) fun (l133 : Sl) =>
    grd (someB b) <|
    grd (someB b) <|
    .load (Ty.one (B.int IntKind.i64)) (shiftTo b 4) fun (n134 : Int) =>
    grd (someB b) <|
    grd (someB b) <|
    .load (Ty.one (B.int IntKind.i64)) (shiftTo b 4) fun (n135 : Int) =>
    grd (someB b) <|
    grd (someB b) <|
    .load (Ty.one (B.int IntKind.i64)) (shiftTo b 4) fun (n136 : Int) =>
    .alloc [(Value.int IntKind.u8 (wrapI IntKind.u8 (addI IntKind.i64 n134 2))), (Value.int IntKind.u8 (wrapI IntKind.u8 (addI IntKind.i64 n135 2))), (Value.int IntKind.u8 (wrapI IntKind.u8 (addI IntKind.i64 n136 2)))] fun (a137 : Addr) =>
    .append 1 1 [(Value.int IntKind.u8 0)] l (⟨(Option.some a137), 3, 3⟩) fun (l138 : Sl) =>
    .bind
      (.loop [(Ty.one B.sl), (Ty.one (B.int IntKind.i64))] (l138, ((0 : Int), ())) fun (r190 : (Sl × (Int × Unit))) =>
        ifB (ltI r190.2.1 100)
          (grd (someB b) <|
          grd (someB b) <|
          .load (Ty.one (B.int IntKind.i64)) (shiftTo b 4) fun (n191 : Int) =>
          .alloc [(Value.int IntKind.u8 (wrapI IntKind.u8 (addI IntKind.i64 n191 2)))] fun (a192 : Addr) =>
          .append 1 1 [(Value.int IntKind.u8 0)] r190.1 (⟨(Option.some a192), 1, 1⟩) fun (l193 : Sl) =>
          .ret 0 [(Value.slice l193.base l193.len l193.cap), (Value.int IntKind.i64 (addI IntKind.i64 r190.2.1 1))]) <|
        .ret 4 [(Value.slice r190.1.base r190.1.len r190.1.cap)]) fun (k194 : Nat) =>
    fun (vs195 : (List Value)) =>
    ifB (eqN k194 4)
      (.cast [(Ty.one B.sl)] vs195 fun (r196 : (Sl × Unit)) =>
      grd (leB (natI l.cap) l.cap) <|
      .bind
        (.loop [(Ty.one (B.int IntKind.i64))] ((addI IntKind.i64 (natI l.len) 103), ()) fun (r217 : (Int × Unit)) =>
          ifB (ltI r217.1 (natI (subN (toN (natI l.cap)) 0)))
            (grd (someB b) <|
            grd (someB b) <|
            .load (Ty.one (B.int IntKind.i64)) (shiftTo b 4) fun (n218 : Int) =>
            grd (andB (someB (cutBase l.base l.cap 0 1)) (inB r217.1 (subN (toN (natI l.cap)) 0))) <|
            .store (shiftTo (cutBase l.base l.cap 0 1) (mulN (toN r217.1) 1)) [(Value.int IntKind.u8 (wrapI IntKind.u8 (addI IntKind.i64 n218 2)))] <|
            .ret 0 [(Value.int IntKind.i64 (addI IntKind.i64 r217.1 1))]) <|
          .ret 6 []) fun (k219 : Nat) =>
      fun (vs220 : (List Value)) =>
      ifB (eqN k219 6)
        (.cast [] vs220 fun (u221 : Unit) =>
        grd (someB b) <|
        grd (someB b) <|
        .load (Ty.one B.sl) (shiftTo b 2) fun (l222 : Sl) =>
        .alloc [(Value.slice l.base l.len l.cap), (Value.slice l129.base l129.len l129.cap), (Value.slice l133.base l133.len l133.cap), (Value.slice r196.1.base r196.1.len r196.1.cap), (Value.slice (cutBase l.base l.cap 0 1) (subN (toN (natI l.cap)) 0) (subN l.cap 0))] fun (a223 : Addr) =>
        .append 1 24 [(Value.slice Option.none 0 0)] l222 (⟨(Option.some a223), 5, 5⟩) fun (l224 : Sl) =>
        grd (someB b) <|
        grd (someB b) <|
        .store (shiftTo b 2) [(Value.slice l224.base l224.len l224.cap)] <|
        grd (someB b) <|
        grd (someB b) <|
        .load (Ty.one B.sl) (shiftTo b 3) fun (l225 : Sl) =>
        .call (F_law1_copyBytes S l) [(Ty.one B.sl)] fun (r226 : (Sl × Unit)) =>
        .check (shiftTo b 3) [(Value.slice l225.base l225.len l225.cap)] <|
        .call (F_law1_copyBytes S l129) [(Ty.one B.sl)] fun (r227 : (Sl × Unit)) =>
        .check (shiftTo b 3) [(Value.slice l225.base l225.len l225.cap)] <|
        .call (F_law1_copyBytes S l133) [(Ty.one B.sl)] fun (r228 : (Sl × Unit)) =>
        .check (shiftTo b 3) [(Value.slice l225.base l225.len l225.cap)] <|
        .call (F_law1_copyBytes S r196.1) [(Ty.one B.sl)] fun (r229 : (Sl × Unit)) =>
        .check (shiftTo b 3) [(Value.slice l225.base l225.len l225.cap)] <|
        .call (F_law1_copyBytes S (⟨(cutBase l.base l.cap 0 1), (subN (toN (natI l.cap)) 0), (subN l.cap 0)⟩)) [(Ty.one B.sl)] fun (r230 : (Sl × Unit)) =>
        .check (shiftTo b 3) [(Value.slice l225.base l225.len l225.cap)] <|
        .alloc [(Value.slice r226.1.base r226.1.len r226.1.cap), (Value.slice r227.1.base r227.1.len r227.1.cap), (Value.slice r228.1.base r228.1.len r228.1.cap), (Value.slice r229.1.base r229.1.len r229.1.cap), (Value.slice r230.1.base r230.1.len r230.1.cap)] fun (a231 : Addr) =>
        .check (shiftTo b 3) [(Value.slice l225.base l225.len l225.cap)] <|
        .append 1 24 [(Value.slice Option.none 0 0)] l225 (⟨(Option.some a231), 5, 5⟩) fun (l232 : Sl) =>
        grd (someB b) <|
        grd (someB b) <|
        .store (shiftTo b 3) [(Value.slice l232.base l232.len l232.cap)] <|
        .ret 0 []) <|
      .fail) <|
    .fail) <|
  .fail
def F_book_leaveBytes (S : Ids) (b : (Option Addr)) (l : Sl) : Prog :=
  grd (someB b) <|
  grd (someB b) <|
  .load (Ty.one B.sl) (shiftTo b 8) fun (l1 : Sl) =>
  .alloc [(Value.slice l.base l.len l.cap)] fun (a2 : Addr) =>
  .append 1 24 [(Value.slice Option.none 0 0)] l1 (⟨(Option.some a2), 1, 1⟩) fun (l3 : Sl) =>
  grd (someB b) <|
  grd (someB b) <|
  .store (shiftTo b 8) [(Value.slice l3.base l3.len l3.cap)] <|
  grd (someB b) <|
  grd (someB b) <|
  .load (Ty.one B.sl) (shiftTo b 9) fun (l4 : Sl) =>
  .call (F_law1_copyBytes S l) [(Ty.one B.sl)] fun (r5 : (Sl × Unit)) =>
  .check (shiftTo b 9) [(Value.slice l4.base l4.len l4.cap)] <|
  .alloc [(Value.slice r5.1.base r5.1.len r5.1.cap)] fun (a6 : Addr) =>
  .check (shiftTo b 9) [(Value.slice l4.base l4.len l4.cap)] <|
  .append 1 24 [(Value.slice Option.none 0 0)] l4 (⟨(Option.some a6), 1, 1⟩) fun (l7 : Sl) =>
  grd (someB b) <|
  grd (someB b) <|
  .store (shiftTo b 9) [(Value.slice l7.base l7.len l7.cap)] <|
  .ret 0 []
def F_book_answer (S : Ids) (b : (Option Addr)) (s : (Option Addr)) (c : (Int × Int × Int × Int × Sl × Sl × Unit)) : Prog :=
  .alloc [(Value.int IntKind.i64 c.1), (Value.int IntKind.i64 c.2.1), (Value.int IntKind.i64 c.2.2.1), (Value.int IntKind.i64 c.2.2.2.1), (Value.slice c.2.2.2.2.1.base c.2.2.2.2.1.len c.2.2.2.2.1.cap), (Value.slice c.2.2.2.2.2.1.base c.2.2.2.2.2.1.len c.2.2.2.2.2.1.cap)] fun (a1 : Addr) =>
  .load (Ty.one (B.int IntKind.i64)) (shiftTo (Option.some a1) 2) fun (n2 : Int) =>
  .call (F_law1_whole S n2) [(Ty.one (B.int IntKind.i64))] fun (r3 : (Int × Unit)) =>
  .load (Ty.one (B.int IntKind.i64)) (shiftTo (Option.some a1) 0) fun (n4 : Int) =>
  ifB (eqI n4 1)
    (.load (Ty.one B.sl) (shiftTo (Option.some a1) 4) fun (l5 : Sl) =>
    .call (F_law1_copyBytes S l5) [(Ty.one B.sl)] fun (r6 : (Sl × Unit)) =>
    .call (F_Stream_Feed S s r6.1) [(Ty.one B.sl)] fun (r7 : (Sl × Unit)) =>
    .load (Ty.one (B.int IntKind.i64)) (shiftTo (Option.some a1) 3) fun (n8 : Int) =>
    grd (notB Bool.false) <|
    ifB (eqI (remI IntKind.i64 n8 2) 0)
      (.call (F_book_leaveInts S b r7.1) [] fun (u9 : Unit) =>
      .ret 0 []) <|
    .call (F_book_keepInts S b r7.1) [] fun (u10 : Unit) =>
    .ret 0 []) <|
  ifB (eqI n4 3)
    (.call (F_Stream_Close S s) [(Ty.one B.sl)] fun (r11 : (Sl × Unit)) =>
    .call (F_book_keepInts S b r11.1) [] fun (u12 : Unit) =>
    .ret 0 []) <|
  ifB (eqI n4 4)
    (.load (Ty.one B.sl) (shiftTo (Option.some a1) 4) fun (l13 : Sl) =>
    .call (F_codec_Decode S r3.1 l13) [(Ty.one B.sl), (Ty.one (B.int IntKind.i64))] fun (r14 : (Sl × (Int × Unit))) =>
    .load (Ty.one B.sl) (shiftTo (Option.some a1) 4) fun (l15 : Sl) =>
    .call (F_codec_Decode S r3.1 l15) [(Ty.one B.sl), (Ty.one (B.int IntKind.i64))] fun (r16 : (Sl × (Int × Unit))) =>
    .load (Ty.one B.sl) (shiftTo (Option.some a1) 4) fun (l17 : Sl) =>
    .call (F_codec_Decode S r3.1 l17) [(Ty.one B.sl), (Ty.one (B.int IntKind.i64))] fun (r18 : (Sl × (Int × Unit))) =>
    .call (F_law1_copyInts S r18.1) [(Ty.one B.sl)] fun (r19 : (Sl × Unit)) =>
    .bind
      (grd (someB b) <|
      grd (someB b) <|
      .load (Ty.one B.bool) (shiftTo b 5) fun (b45 : Bool) =>
      ifB b45
        (grd (someB b) <|
        grd (someB b) <|
        .store (shiftTo b 5) [(Value.bool Bool.true)] <|
        .ret 0 []) <|
      .call (F_law1_sameInts S r14.1 r19.1) [(Ty.one B.bool)] fun (r46 : (Bool × Unit)) =>
      ifB (notB r46.1)
        (grd (someB b) <|
        grd (someB b) <|
        .store (shiftTo b 5) [(Value.bool Bool.true)] <|
        .ret 0 []) <|
      .call (F_law1_sameInts S r16.1 r19.1) [(Ty.one B.bool)] fun (r47 : (Bool × Unit)) =>
      grd (someB b) <|
      grd (someB b) <|
      .store (shiftTo b 5) [(Value.bool (notB r47.1))] <|
      .ret 0 []) fun (k48 : Nat) =>
    fun (vs49 : (List Value)) =>
    ifB (eqN k48 0)
      (.cast [] vs49 fun (u50 : Unit) =>
      .call (F_book_keepInts S b r18.1) [] fun (u51 : Unit) =>
      .load (Ty.one B.sl) (shiftTo (Option.some a1) 4) fun (l52 : Sl) =>
      .call (F_codec_Decode S r3.1 l52) [(Ty.one B.sl), (Ty.one (B.int IntKind.i64))] fun (r53 : (Sl × (Int × Unit))) =>
      .bind
        (grd (someB b) <|
        grd (someB b) <|
        .load (Ty.one B.bool) (shiftTo b 5) fun (b62 : Bool) =>
        ifB b62
          (grd (someB b) <|
          grd (someB b) <|
          .store (shiftTo b 5) [(Value.bool Bool.true)] <|
          .ret 0 []) <|
        .call (F_law1_sameInts S r53.1 r19.1) [(Ty.one B.bool)] fun (r63 : (Bool × Unit)) =>
        grd (someB b) <|
        grd (someB b) <|
        .store (shiftTo b 5) [(Value.bool (notB r63.1))] <|
        .ret 0 []) fun (k64 : Nat) =>
      fun (vs65 : (List Value)) =>
      ifB (eqN k64 0)
        (.cast [] vs65 fun (u66 : Unit) =>
        .call (F_book_keepInts S b r53.1) [] fun (u67 : Unit) =>
        .call (F_book_leaveInts S b r14.1) [] fun (u68 : Unit) =>
        .call (F_book_leaveInts S b r16.1) [] fun (u69 : Unit) =>
        .ret 0 []) <|
      .fail) <|
    .fail) <|
  ifB (eqI n4 5)
    (.load (Ty.one B.sl) (shiftTo (Option.some a1) 5) fun (l70 : Sl) =>
    .call (F_codec_Encode S r3.1 l70) [(Ty.one B.sl), (Ty.one (B.int IntKind.i64)), (Ty.one (B.int IntKind.i64))] fun (r71 : (Sl × (Int × (Int × Unit)))) =>
    .load (Ty.one B.sl) (shiftTo (Option.some a1) 5) fun (l72 : Sl) =>
    .call (F_codec_Encode S r3.1 l72) [(Ty.one B.sl), (Ty.one (B.int IntKind.i64)), (Ty.one (B.int IntKind.i64))] fun (r73 : (Sl × (Int × (Int × Unit)))) =>
    .load (Ty.one B.sl) (shiftTo (Option.some a1) 5) fun (l74 : Sl) =>
    .call (F_codec_Encode S r3.1 l74) [(Ty.one B.sl), (Ty.one (B.int IntKind.i64)), (Ty.one (B.int IntKind.i64))] fun (r75 : (Sl × (Int × (Int × Unit)))) =>
    .call (F_law1_copyBytes S r75.1) [(Ty.one B.sl)] fun (r76 : (Sl × Unit)) =>
    .bind
      (grd (someB b) <|
      grd (someB b) <|
      .load (Ty.one B.bool) (shiftTo b 5) fun (b102 : Bool) =>
      ifB b102
        (grd (someB b) <|
        grd (someB b) <|
        .store (shiftTo b 5) [(Value.bool Bool.true)] <|
        .ret 0 []) <|
      .call (F_law1_sameBytes S r71.1 r76.1) [(Ty.one B.bool)] fun (r103 : (Bool × Unit)) =>
      ifB (notB r103.1)
        (grd (someB b) <|
        grd (someB b) <|
        .store (shiftTo b 5) [(Value.bool Bool.true)] <|
        .ret 0 []) <|
      .call (F_law1_sameBytes S r73.1 r76.1) [(Ty.one B.bool)] fun (r104 : (Bool × Unit)) =>
      grd (someB b) <|
      grd (someB b) <|
      .store (shiftTo b 5) [(Value.bool (notB r104.1))] <|
      .ret 0 []) fun (k105 : Nat) =>
    fun (vs106 : (List Value)) =>
    ifB (eqN k105 0)
      (.cast [] vs106 fun (u107 : Unit) =>
      .call (F_book_keepBytes S b r75.1) [] fun (u108 : Unit) =>
      .load (Ty.one B.sl) (shiftTo (Option.some a1) 5) fun (l109 : Sl) =>
      .call (F_codec_Encode S r3.1 l109) [(Ty.one B.sl), (Ty.one (B.int IntKind.i64)), (Ty.one (B.int IntKind.i64))] fun (r110 : (Sl × (Int × (Int × Unit)))) =>
      .bind
        (grd (someB b) <|
        grd (someB b) <|
        .load (Ty.one B.bool) (shiftTo b 5) fun (b119 : Bool) =>
        ifB b119
          (grd (someB b) <|
          grd (someB b) <|
          .store (shiftTo b 5) [(Value.bool Bool.true)] <|
          .ret 0 []) <|
        .call (F_law1_sameBytes S r110.1 r76.1) [(Ty.one B.bool)] fun (r120 : (Bool × Unit)) =>
        grd (someB b) <|
        grd (someB b) <|
        .store (shiftTo b 5) [(Value.bool (notB r120.1))] <|
        .ret 0 []) fun (k121 : Nat) =>
      fun (vs122 : (List Value)) =>
      ifB (eqN k121 0)
        (.cast [] vs122 fun (u123 : Unit) =>
        .call (F_book_keepBytes S b r110.1) [] fun (u124 : Unit) =>
        .call (F_book_leaveBytes S b r71.1) [] fun (u125 : Unit) =>
        .call (F_book_leaveBytes S b r73.1) [] fun (u126 : Unit) =>
        .ret 0 []) <|
      .fail) <|
    .fail) <|
  ifB (eqI n4 8)
    (.call (F_codec_Mark S r3.1) [(Ty.one B.sl)] fun (r127 : (Sl × Unit)) =>
    .call (F_codec_Mark S r3.1) [(Ty.one B.sl)] fun (r128 : (Sl × Unit)) =>
    .call (F_codec_Mark S r3.1) [(Ty.one B.sl)] fun (r129 : (Sl × Unit)) =>
    .call (F_law1_copyBytes S r129.1) [(Ty.one B.sl)] fun (r130 : (Sl × Unit)) =>
    .bind
      (grd (someB b) <|
      grd (someB b) <|
      .load (Ty.one B.bool) (shiftTo b 5) fun (b155 : Bool) =>
      ifB b155
        (grd (someB b) <|
        grd (someB b) <|
        .store (shiftTo b 5) [(Value.bool Bool.true)] <|
        .ret 0 []) <|
      .call (F_law1_sameBytes S r127.1 r130.1) [(Ty.one B.bool)] fun (r156 : (Bool × Unit)) =>
      ifB (notB r156.1)
        (grd (someB b) <|
        grd (someB b) <|
        .store (shiftTo b 5) [(Value.bool Bool.true)] <|
        .ret 0 []) <|
      .call (F_law1_sameBytes S r128.1 r130.1) [(Ty.one B.bool)] fun (r157 : (Bool × Unit)) =>
      grd (someB b) <|
      grd (someB b) <|
      .store (shiftTo b 5) [(Value.bool (notB r157.1))] <|
      .ret 0 []) fun (k158 : Nat) =>
    fun (vs159 : (List Value)) =>
    ifB (eqN k158 0)
      (.cast [] vs159 fun (u160 : Unit) =>
      .call (F_book_keepBytes S b r129.1) [] fun (u161 : Unit) =>
      .call (F_codec_Mark S r3.1) [(Ty.one B.sl)] fun (r162 : (Sl × Unit)) =>
      .bind
        (grd (someB b) <|
        grd (someB b) <|
        .load (Ty.one B.bool) (shiftTo b 5) fun (b171 : Bool) =>
        ifB b171
          (grd (someB b) <|
          grd (someB b) <|
          .store (shiftTo b 5) [(Value.bool Bool.true)] <|
          .ret 0 []) <|
        .call (F_law1_sameBytes S r162.1 r130.1) [(Ty.one B.bool)] fun (r172 : (Bool × Unit)) =>
        grd (someB b) <|
        grd (someB b) <|
        .store (shiftTo b 5) [(Value.bool (notB r172.1))] <|
        .ret 0 []) fun (k173 : Nat) =>
      fun (vs174 : (List Value)) =>
      ifB (eqN k173 0)
        (.cast [] vs174 fun (u175 : Unit) =>
        .call (F_book_keepBytes S b r162.1) [] fun (u176 : Unit) =>
        .call (F_book_leaveBytes S b r127.1) [] fun (u177 : Unit) =>
        .call (F_book_leaveBytes S b r128.1) [] fun (u178 : Unit) =>
        .ret 0 []) <|
      .fail) <|
    .fail) <|
  .ret 0 []
def F_book_stands (S : Ids) (b : (Option Addr)) : Prog :=
  grd (someB b) <|
  grd (someB b) <|
  .load (Ty.one B.bool) (shiftTo b 5) fun (b1 : Bool) =>
  ifB b1
    (.ret 0 [(Value.bool Bool.false)]) <|
  .bind
    (.loop [(Ty.one (B.int IntKind.i64))] ((0 : Int), ()) fun (r63 : (Int × Unit)) =>
      grd (someB b) <|
      grd (someB b) <|
      .load (Ty.one B.sl) (shiftTo b 0) fun (l64 : Sl) =>
      ifB (ltI r63.1 (natI l64.len))
        (grd (someB b) <|
        grd (someB b) <|
        .load (Ty.one B.sl) (shiftTo b 0) fun (l65 : Sl) =>
        grd (andB (someB l65.base) (inB r63.1 l65.len)) <|
        .load (Ty.one B.sl) (shiftTo l65.base (mulN (toN r63.1) 1)) fun (l66 : Sl) =>
        grd (someB b) <|
        grd (someB b) <|
        .load (Ty.one B.sl) (shiftTo b 1) fun (l67 : Sl) =>
        grd (andB (someB l67.base) (inB r63.1 l67.len)) <|
        .load (Ty.one B.sl) (shiftTo l67.base (mulN (toN r63.1) 1)) fun (l68 : Sl) =>
        .call (F_law1_sameInts S l66 l68) [(Ty.one B.bool)] fun (r69 : (Bool × Unit)) =>
        ifB (notB r69.1)
          (.ret 1 [(Value.bool Bool.false)]) <|
        .ret 0 [(Value.int IntKind.i64 (addI IntKind.i64 r63.1 1))]) <|
      .ret 2 []) fun (k70 : Nat) =>
  fun (vs71 : (List Value)) =>
  ifB (eqN k70 2)
    (.cast [] vs71 fun (u72 : Unit) =>
    .bind
      (.loop [(Ty.one (B.int IntKind.i64))] ((0 : Int), ()) fun (r98 : (Int × Unit)) =>
        grd (someB b) <|
        grd (someB b) <|
        .load (Ty.one B.sl) (shiftTo b 2) fun (l99 : Sl) =>
        ifB (ltI r98.1 (natI l99.len))
          (grd (someB b) <|
          grd (someB b) <|
          .load (Ty.one B.sl) (shiftTo b 2) fun (l100 : Sl) =>
          grd (andB (someB l100.base) (inB r98.1 l100.len)) <|
          .load (Ty.one B.sl) (shiftTo l100.base (mulN (toN r98.1) 1)) fun (l101 : Sl) =>
          grd (someB b) <|
          grd (someB b) <|
          .load (Ty.one B.sl) (shiftTo b 3) fun (l102 : Sl) =>
          grd (andB (someB l102.base) (inB r98.1 l102.len)) <|
          .load (Ty.one B.sl) (shiftTo l102.base (mulN (toN r98.1) 1)) fun (l103 : Sl) =>
          .call (F_law1_sameBytes S l101 l103) [(Ty.one B.bool)] fun (r104 : (Bool × Unit)) =>
          ifB (notB r104.1)
            (.ret 1 [(Value.bool Bool.false)]) <|
          .ret 0 [(Value.int IntKind.i64 (addI IntKind.i64 r98.1 1))]) <|
        .ret 4 []) fun (k105 : Nat) =>
    fun (vs106 : (List Value)) =>
    ifB (eqN k105 4)
      (.cast [] vs106 fun (u107 : Unit) =>
      .ret 0 [(Value.bool Bool.true)]) <|
    ifB (eqN k105 1)
      (.cast [(Ty.one B.bool)] vs106 fun (r108 : (Bool × Unit)) =>
      .ret 0 [(Value.bool r108.1)]) <|
    .fail) <|
  ifB (eqN k70 1)
    (.cast [(Ty.one B.bool)] vs71 fun (r109 : (Bool × Unit)) =>
    .ret 0 [(Value.bool r109.1)]) <|
  .fail
def F_book_apart (S : Ids) (b : (Option Addr)) : Prog :=
  .bind
    (.loop [(Ty.one (B.int IntKind.i64))] ((0 : Int), ()) fun (r48466 : (Int × Unit)) =>
      grd (someB b) <|
      grd (someB b) <|
      .load (Ty.one B.sl) (shiftTo b 6) fun (l48467 : Sl) =>
      ifB (ltI r48466.1 (natI l48467.len))
        (grd (someB b) <|
        grd (someB b) <|
        .load (Ty.one B.sl) (shiftTo b 6) fun (l48468 : Sl) =>
        grd (andB (someB l48468.base) (inB r48466.1 l48468.len)) <|
        .load (Ty.one B.sl) (shiftTo l48468.base (mulN (toN r48466.1) 1)) fun (l48469 : Sl) =>
        grd (someB b) <|
        grd (someB b) <|
        .load (Ty.one B.sl) (shiftTo b 7) fun (l48470 : Sl) =>
        grd (andB (someB l48470.base) (inB r48466.1 l48470.len)) <|
        .load (Ty.one B.sl) (shiftTo l48470.base (mulN (toN r48466.1) 1)) fun (l48471 : Sl) =>
        .call (F_law1_sameInts S l48469 l48471) [(Ty.one B.bool)] fun (r48472 : (Bool × Unit)) =>
        ifB (notB r48472.1)
          (.ret 1 [(Value.bool Bool.false)]) <|
        .ret 0 [(Value.int IntKind.i64 (addI IntKind.i64 r48466.1 1))]) <|
      .ret 2 []) fun (k48473 : Nat) =>
  fun (vs48474 : (List Value)) =>
  ifB (eqN k48473 2)
    (.cast [] vs48474 fun (u48475 : Unit) =>
    .bind
      (.loop [(Ty.one (B.int IntKind.i64))] ((0 : Int), ()) fun (r72703 : (Int × Unit)) =>
        grd (someB b) <|
        grd (someB b) <|
        .load (Ty.one B.sl) (shiftTo b 8) fun (l72704 : Sl) =>
        ifB (ltI r72703.1 (natI l72704.len))
          (grd (someB b) <|
          grd (someB b) <|
          .load (Ty.one B.sl) (shiftTo b 8) fun (l72705 : Sl) =>
          grd (andB (someB l72705.base) (inB r72703.1 l72705.len)) <|
          .load (Ty.one B.sl) (shiftTo l72705.base (mulN (toN r72703.1) 1)) fun (l72706 : Sl) =>
          grd (someB b) <|
          grd (someB b) <|
          .load (Ty.one B.sl) (shiftTo b 9) fun (l72707 : Sl) =>
          grd (andB (someB l72707.base) (inB r72703.1 l72707.len)) <|
          .load (Ty.one B.sl) (shiftTo l72707.base (mulN (toN r72703.1) 1)) fun (l72708 : Sl) =>
          .call (F_law1_sameBytes S l72706 l72708) [(Ty.one B.bool)] fun (r72709 : (Bool × Unit)) =>
          ifB (notB r72709.1)
            (.ret 1 [(Value.bool Bool.false)]) <|
          .ret 0 [(Value.int IntKind.i64 (addI IntKind.i64 r72703.1 1))]) <|
        .ret 4 []) fun (k72710 : Nat) =>
    fun (vs72711 : (List Value)) =>
    ifB (eqN k72710 4)
      (.cast [] vs72711 fun (u72712 : Unit) =>
      .bind
        (.loop [(Ty.one (B.int IntKind.i64))] ((0 : Int), ()) fun (r84842 : (Int × Unit)) =>
          grd (someB b) <|
          grd (someB b) <|
          .load (Ty.one B.sl) (shiftTo b 6) fun (l84843 : Sl) =>
          ifB (ltI r84842.1 (natI l84843.len))
            (.bind
              (.loop [(Ty.one (B.int IntKind.i64))] ((0 : Int), ()) fun (r84862 : (Int × Unit)) =>
                grd (someB b) <|
                grd (someB b) <|
                .load (Ty.one B.sl) (shiftTo b 6) fun (l84863 : Sl) =>
                grd (andB (someB l84863.base) (inB r84842.1 l84863.len)) <|
                .load (Ty.one B.sl) (shiftTo l84863.base (mulN (toN r84842.1) 1)) fun (l84864 : Sl) =>
                ifB (ltI r84862.1 (natI l84864.len))
                  (grd (someB b) <|
                  grd (someB b) <|
                  .load (Ty.one B.sl) (shiftTo b 6) fun (l84865 : Sl) =>
                  grd (andB (someB l84865.base) (inB r84842.1 l84865.len)) <|
                  .load (Ty.one B.sl) (shiftTo l84865.base (mulN (toN r84842.1) 1)) fun (l84866 : Sl) =>
                  grd (andB (someB l84866.base) (inB r84862.1 l84866.len)) <|
                  .store (shiftTo l84866.base (mulN (toN r84862.1) 1)) [(Value.int IntKind.i64 (subI IntKind.i64 (-1) r84842.1))] <|
                  .ret 0 [(Value.int IntKind.i64 (addI IntKind.i64 r84862.1 1))]) <|
                .ret 8 []) fun (k84867 : Nat) =>
            fun (vs84868 : (List Value)) =>
            ifB (eqN k84867 8)
              (.cast [] vs84868 fun (u84869 : Unit) =>
              .ret 0 [(Value.int IntKind.i64 (addI IntKind.i64 r84842.1 1))]) <|
            .fail) <|
          .ret 6 []) fun (k84870 : Nat) =>
      fun (vs84871 : (List Value)) =>
      ifB (eqN k84870 6)
        (.cast [] vs84871 fun (u84872 : Unit) =>
        .bind
          (.loop [(Ty.one (B.int IntKind.i64))] ((0 : Int), ()) fun (r90922 : (Int × Unit)) =>
            grd (someB b) <|
            grd (someB b) <|
            .load (Ty.one B.sl) (shiftTo b 8) fun (l90923 : Sl) =>
            ifB (ltI r90922.1 (natI l90923.len))
              (.bind
                (.loop [(Ty.one (B.int IntKind.i64))] ((0 : Int), ()) fun (r90942 : (Int × Unit)) =>
                  grd (someB b) <|
                  grd (someB b) <|
                  .load (Ty.one B.sl) (shiftTo b 8) fun (l90943 : Sl) =>
                  grd (andB (someB l90943.base) (inB r90922.1 l90943.len)) <|
                  .load (Ty.one B.sl) (shiftTo l90943.base (mulN (toN r90922.1) 1)) fun (l90944 : Sl) =>
                  ifB (ltI r90942.1 (natI l90944.len))
                    (grd (someB b) <|
                    grd (someB b) <|
                    .load (Ty.one B.sl) (shiftTo b 8) fun (l90945 : Sl) =>
                    grd (andB (someB l90945.base) (inB r90922.1 l90945.len)) <|
                    .load (Ty.one B.sl) (shiftTo l90945.base (mulN (toN r90922.1) 1)) fun (l90946 : Sl) =>
                    grd (notB Bool.false) <|
                    grd (andB (someB l90946.base) (inB r90942.1 l90946.len)) <|
                    .store (shiftTo l90946.base (mulN (toN r90942.1) 1)) [(Value.int IntKind.u8 (wrapI IntKind.u8 (addI IntKind.i64 (addI IntKind.i64 r90922.1 (quoI IntKind.i64 r90922.1 128)) 1)))] <|
                    .ret 0 [(Value.int IntKind.i64 (addI IntKind.i64 r90942.1 1))]) <|
                  .ret 12 []) fun (k90947 : Nat) =>
              fun (vs90948 : (List Value)) =>
              ifB (eqN k90947 12)
                (.cast [] vs90948 fun (u90949 : Unit) =>
                .ret 0 [(Value.int IntKind.i64 (addI IntKind.i64 r90922.1 1))]) <|
              .fail) <|
            .ret 10 []) fun (k90950 : Nat) =>
        fun (vs90951 : (List Value)) =>
        ifB (eqN k90950 10)
          (.cast [] vs90951 fun (u90952 : Unit) =>
          .bind
            (.loop [(Ty.one B.sl), (Ty.one (B.int IntKind.i64))] ((⟨Option.none, 0, 0⟩ : Sl), ((0 : Int), ())) fun (r93960 : (Sl × (Int × Unit))) =>
              grd (someB b) <|
              grd (someB b) <|
              .load (Ty.one B.sl) (shiftTo b 6) fun (l93961 : Sl) =>
              ifB (ltI r93960.2.1 (natI l93961.len))
                (grd (someB b) <|
                grd (someB b) <|
                .load (Ty.one B.sl) (shiftTo b 6) fun (l93962 : Sl) =>
                grd (andB (someB l93962.base) (inB r93960.2.1 l93962.len)) <|
                .load (Ty.one B.sl) (shiftTo l93962.base (mulN (toN r93960.2.1) 1)) fun (l93963 : Sl) =>
                .bind
                  (.loop [(Ty.one B.sl), (Ty.one (B.int IntKind.i64))] (l93963, ((0 : Int), ())) fun (r93978 : (Sl × (Int × Unit))) =>
                    ifB (ltI r93978.2.1 100)
                      (.alloc [(Value.int IntKind.i64 (subI IntKind.i64 (-1000000) r93960.2.1))] fun (a93979 : Addr) =>
                      .append 1 8 [(Value.int IntKind.i64 0)] r93978.1 (⟨(Option.some a93979), 1, 1⟩) fun (l93980 : Sl) =>
                      .ret 0 [(Value.slice l93980.base l93980.len l93980.cap), (Value.int IntKind.i64 (addI IntKind.i64 r93978.2.1 1))]) <|
                    .ret 16 [(Value.slice r93978.1.base r93978.1.len r93978.1.cap)]) fun (k93981 : Nat) =>
                fun (vs93982 : (List Value)) =>
                ifB (eqN k93981 16)
                  (.cast [(Ty.one B.sl)] vs93982 fun (r93983 : (Sl × Unit)) =>
                  .alloc [(Value.slice r93983.1.base r93983.1.len r93983.1.cap)] fun (a93984 : Addr) =>
                  .append 1 24 [(Value.slice Option.none 0 0)] r93960.1 (⟨(Option.some a93984), 1, 1⟩) fun (l93985 : Sl) =>
                  .ret 0 [(Value.slice l93985.base l93985.len l93985.cap), (Value.int IntKind.i64 (addI IntKind.i64 r93960.2.1 1))]) <|
                .fail) <|
              .ret 14 [(Value.slice r93960.1.base r93960.1.len r93960.1.cap)]) fun (k93986 : Nat) =>
          fun (vs93987 : (List Value)) =>
          ifB (eqN k93986 14)
            (.cast [(Ty.one B.sl)] vs93987 fun (r93988 : (Sl × Unit)) =>
            .bind
              (.loop [(Ty.one B.sl), (Ty.one (B.int IntKind.i64))] ((⟨Option.none, 0, 0⟩ : Sl), ((0 : Int), ())) fun (r95478 : (Sl × (Int × Unit))) =>
                grd (someB b) <|
                grd (someB b) <|
                .load (Ty.one B.sl) (shiftTo b 8) fun (l95479 : Sl) =>
                ifB (ltI r95478.2.1 (natI l95479.len))
                  (grd (someB b) <|
                  grd (someB b) <|
                  .load (Ty.one B.sl) (shiftTo b 8) fun (l95480 : Sl) =>
                  grd (andB (someB l95480.base) (inB r95478.2.1 l95480.len)) <|
                  .load (Ty.one B.sl) (shiftTo l95480.base (mulN (toN r95478.2.1) 1)) fun (l95481 : Sl) =>
                  .bind
                    (.loop [(Ty.one B.sl), (Ty.one (B.int IntKind.i64))] (l95481, ((0 : Int), ())) fun (r95496 : (Sl × (Int × Unit))) =>
                      ifB (ltI r95496.2.1 100)
                        (grd (notB Bool.false) <|
                        .alloc [(Value.int IntKind.u8 (wrapI IntKind.u8 (addI IntKind.i64 (addI IntKind.i64 r95478.2.1 (quoI IntKind.i64 r95478.2.1 128)) 101)))] fun (a95497 : Addr) =>
                        .append 1 1 [(Value.int IntKind.u8 0)] r95496.1 (⟨(Option.some a95497), 1, 1⟩) fun (l95498 : Sl) =>
                        .ret 0 [(Value.slice l95498.base l95498.len l95498.cap), (Value.int IntKind.i64 (addI IntKind.i64 r95496.2.1 1))]) <|
                      .ret 20 [(Value.slice r95496.1.base r95496.1.len r95496.1.cap)]) fun (k95499 : Nat) =>
                  fun (vs95500 : (List Value)) =>
                  ifB (eqN k95499 20)
                    (.cast [(Ty.one B.sl)] vs95500 fun (r95501 : (Sl × Unit)) =>
                    .alloc [(Value.slice r95501.1.base r95501.1.len r95501.1.cap)] fun (a95502 : Addr) =>
                    .append 1 24 [(Value.slice Option.none 0 0)] r95478.1 (⟨(Option.some a95502), 1, 1⟩) fun (l95503 : Sl) =>
                    .ret 0 [(Value.slice l95503.base l95503.len l95503.cap), (Value.int IntKind.i64 (addI IntKind.i64 r95478.2.1 1))]) <|
                  .fail) <|
                .ret 18 [(Value.slice r95478.1.base r95478.1.len r95478.1.cap)]) fun (k95504 : Nat) =>
            fun (vs95505 : (List Value)) =>
            ifB (eqN k95504 18)
              (.cast [(Ty.one B.sl)] vs95505 fun (r95506 : (Sl × Unit)) =>
              .bind
                (.loop [(Ty.one (B.int IntKind.i64))] ((0 : Int), ()) fun (r96326 : (Int × Unit)) =>
                  ifB (ltI r96326.1 (natI r93988.1.len))
                    (grd (someB b) <|
                    grd (someB b) <|
                    .load (Ty.one B.sl) (shiftTo b 6) fun (l96327 : Sl) =>
                    grd (andB (someB l96327.base) (inB r96326.1 l96327.len)) <|
                    .load (Ty.one B.sl) (shiftTo l96327.base (mulN (toN r96326.1) 1)) fun (l96328 : Sl) =>
                    .bind
                      (.loop [(Ty.one (B.int IntKind.i64))] ((0 : Int), ()) fun (r96411 : (Int × Unit)) =>
                        grd (andB (someB r93988.1.base) (inB r96326.1 r93988.1.len)) <|
                        .load (Ty.one B.sl) (shiftTo r93988.1.base (mulN (toN r96326.1) 1)) fun (l96412 : Sl) =>
                        ifB (ltI r96411.1 (natI l96412.len))
                          (.bind
                            (ifB (ltI r96411.1 (natI l96328.len))
                              (grd (someB b) <|
                              grd (someB b) <|
                              .load (Ty.one B.sl) (shiftTo b 6) fun (l96425 : Sl) =>
                              grd (andB (someB l96425.base) (inB r96326.1 l96425.len)) <|
                              .load (Ty.one B.sl) (shiftTo l96425.base (mulN (toN r96326.1) 1)) fun (l96426 : Sl) =>
                              grd (andB (someB l96426.base) (inB r96411.1 l96426.len)) <|
                              .load (Ty.one (B.int IntKind.i64)) (shiftTo l96426.base (mulN (toN r96411.1) 1)) fun (n96427 : Int) =>
                              ifB (neI n96427 (subI IntKind.i64 (-1) r96326.1))
                                (.ret 0 [(Value.bool Bool.true)]) <|
                              grd (andB (someB r93988.1.base) (inB r96326.1 r93988.1.len)) <|
                              .load (Ty.one B.sl) (shiftTo r93988.1.base (mulN (toN r96326.1) 1)) fun (l96428 : Sl) =>
                              grd (andB (someB l96428.base) (inB r96411.1 l96428.len)) <|
                              .load (Ty.one (B.int IntKind.i64)) (shiftTo l96428.base (mulN (toN r96411.1) 1)) fun (n96429 : Int) =>
                              ifB (neI n96429 (subI IntKind.i64 (-1) r96326.1))
                                (.ret 0 [(Value.bool Bool.true)]) <|
                              ifB (geI r96411.1 (natI l96328.len))
                                (grd (andB (someB r93988.1.base) (inB r96326.1 r93988.1.len)) <|
                                .load (Ty.one B.sl) (shiftTo r93988.1.base (mulN (toN r96326.1) 1)) fun (l96430 : Sl) =>
                                grd (andB (someB l96430.base) (inB r96411.1 l96430.len)) <|
                                .load (Ty.one (B.int IntKind.i64)) (shiftTo l96430.base (mulN (toN r96411.1) 1)) fun (n96431 : Int) =>
                                .ret 0 [(Value.bool (neI n96431 (subI IntKind.i64 (-1000000) r96326.1)))]) <|
                              .ret 0 [(Value.bool Bool.false)]) <|
                            ifB (geI r96411.1 (natI l96328.len))
                              (grd (andB (someB r93988.1.base) (inB r96326.1 r93988.1.len)) <|
                              .load (Ty.one B.sl) (shiftTo r93988.1.base (mulN (toN r96326.1) 1)) fun (l96432 : Sl) =>
                              grd (andB (someB l96432.base) (inB r96411.1 l96432.len)) <|
                              .load (Ty.one (B.int IntKind.i64)) (shiftTo l96432.base (mulN (toN r96411.1) 1)) fun (n96433 : Int) =>
                              .ret 0 [(Value.bool (neI n96433 (subI IntKind.i64 (-1000000) r96326.1)))]) <|
                            .ret 0 [(Value.bool Bool.false)]) fun (k96434 : Nat) =>
                          fun (vs96435 : (List Value)) =>
                          ifB (eqN k96434 0)
                            (.cast [(Ty.one B.bool)] vs96435 fun (r96436 : (Bool × Unit)) =>
                            ifB r96436.1
                              (.ret 1 [(Value.bool Bool.false)]) <|
                            .ret 0 [(Value.int IntKind.i64 (addI IntKind.i64 r96411.1 1))]) <|
                          .fail) <|
                        .ret 24 []) fun (k96437 : Nat) =>
                    fun (vs96438 : (List Value)) =>
                    ifB (eqN k96437 24)
                      (.cast [] vs96438 fun (u96439 : Unit) =>
                      .ret 0 [(Value.int IntKind.i64 (addI IntKind.i64 r96326.1 1))]) <|
                    ifB (eqN k96437 1)
                      (.cast [(Ty.one B.bool)] vs96438 fun (r96440 : (Bool × Unit)) =>
                      .ret 1 [(Value.bool r96440.1)]) <|
                    .fail) <|
                  .ret 22 []) fun (k96441 : Nat) =>
              fun (vs96442 : (List Value)) =>
              ifB (eqN k96441 22)
                (.cast [] vs96442 fun (u96443 : Unit) =>
                .bind
                  (.loop [(Ty.one (B.int IntKind.i64))] ((0 : Int), ()) fun (r96794 : (Int × Unit)) =>
                    ifB (ltI r96794.1 (natI r95506.1.len))
                      (grd (someB b) <|
                      grd (someB b) <|
                      .load (Ty.one B.sl) (shiftTo b 8) fun (l96795 : Sl) =>
                      grd (andB (someB l96795.base) (inB r96794.1 l96795.len)) <|
                      .load (Ty.one B.sl) (shiftTo l96795.base (mulN (toN r96794.1) 1)) fun (l96796 : Sl) =>
                      grd (notB Bool.false) <|
                      .bind
                        (.loop [(Ty.one (B.int IntKind.i64))] ((0 : Int), ()) fun (r96879 : (Int × Unit)) =>
                          grd (andB (someB r95506.1.base) (inB r96794.1 r95506.1.len)) <|
                          .load (Ty.one B.sl) (shiftTo r95506.1.base (mulN (toN r96794.1) 1)) fun (l96880 : Sl) =>
                          ifB (ltI r96879.1 (natI l96880.len))
                            (.bind
                              (ifB (ltI r96879.1 (natI l96796.len))
                                (grd (someB b) <|
                                grd (someB b) <|
                                .load (Ty.one B.sl) (shiftTo b 8) fun (l96893 : Sl) =>
                                grd (andB (someB l96893.base) (inB r96794.1 l96893.len)) <|
                                .load (Ty.one B.sl) (shiftTo l96893.base (mulN (toN r96794.1) 1)) fun (l96894 : Sl) =>
                                grd (andB (someB l96894.base) (inB r96879.1 l96894.len)) <|
                                .load (Ty.one (B.int IntKind.u8)) (shiftTo l96894.base (mulN (toN r96879.1) 1)) fun (n96895 : Int) =>
                                ifB (neI n96895 (wrapI IntKind.u8 (addI IntKind.i64 (addI IntKind.i64 r96794.1 (quoI IntKind.i64 r96794.1 128)) 1)))
                                  (.ret 0 [(Value.bool Bool.true)]) <|
                                grd (andB (someB r95506.1.base) (inB r96794.1 r95506.1.len)) <|
                                .load (Ty.one B.sl) (shiftTo r95506.1.base (mulN (toN r96794.1) 1)) fun (l96896 : Sl) =>
                                grd (andB (someB l96896.base) (inB r96879.1 l96896.len)) <|
                                .load (Ty.one (B.int IntKind.u8)) (shiftTo l96896.base (mulN (toN r96879.1) 1)) fun (n96897 : Int) =>
                                ifB (neI n96897 (wrapI IntKind.u8 (addI IntKind.i64 (addI IntKind.i64 r96794.1 (quoI IntKind.i64 r96794.1 128)) 1)))
                                  (.ret 0 [(Value.bool Bool.true)]) <|
                                ifB (geI r96879.1 (natI l96796.len))
                                  (grd (andB (someB r95506.1.base) (inB r96794.1 r95506.1.len)) <|
                                  .load (Ty.one B.sl) (shiftTo r95506.1.base (mulN (toN r96794.1) 1)) fun (l96898 : Sl) =>
                                  grd (andB (someB l96898.base) (inB r96879.1 l96898.len)) <|
                                  .load (Ty.one (B.int IntKind.u8)) (shiftTo l96898.base (mulN (toN r96879.1) 1)) fun (n96899 : Int) =>
                                  .ret 0 [(Value.bool (neI n96899 (addI IntKind.u8 (wrapI IntKind.u8 (addI IntKind.i64 (addI IntKind.i64 r96794.1 (quoI IntKind.i64 r96794.1 128)) 1)) 100)))]) <|
                                .ret 0 [(Value.bool Bool.false)]) <|
                              ifB (geI r96879.1 (natI l96796.len))
                                (grd (andB (someB r95506.1.base) (inB r96794.1 r95506.1.len)) <|
                                .load (Ty.one B.sl) (shiftTo r95506.1.base (mulN (toN r96794.1) 1)) fun (l96900 : Sl) =>
                                grd (andB (someB l96900.base) (inB r96879.1 l96900.len)) <|
                                .load (Ty.one (B.int IntKind.u8)) (shiftTo l96900.base (mulN (toN r96879.1) 1)) fun (n96901 : Int) =>
                                .ret 0 [(Value.bool (neI n96901 (addI IntKind.u8 (wrapI IntKind.u8 (addI IntKind.i64 (addI IntKind.i64 r96794.1 (quoI IntKind.i64 r96794.1 128)) 1)) 100)))]) <|
                              .ret 0 [(Value.bool Bool.false)]) fun (k96902 : Nat) =>
                            fun (vs96903 : (List Value)) =>
                            ifB (eqN k96902 0)
                              (.cast [(Ty.one B.bool)] vs96903 fun (r96904 : (Bool × Unit)) =>
                              ifB r96904.1
                                (.ret 1 [(Value.bool Bool.false)]) <|
                              .ret 0 [(Value.int IntKind.i64 (addI IntKind.i64 r96879.1 1))]) <|
                            .fail) <|
                          .ret 28 []) fun (k96905 : Nat) =>
                      fun (vs96906 : (List Value)) =>
                      ifB (eqN k96905 28)
                        (.cast [] vs96906 fun (u96907 : Unit) =>
                        .ret 0 [(Value.int IntKind.i64 (addI IntKind.i64 r96794.1 1))]) <|
                      ifB (eqN k96905 1)
                        (.cast [(Ty.one B.bool)] vs96906 fun (r96908 : (Bool × Unit)) =>
                        .ret 1 [(Value.bool r96908.1)]) <|
                      .fail) <|
                    .ret 26 []) fun (k96909 : Nat) =>
                fun (vs96910 : (List Value)) =>
                ifB (eqN k96909 26)
                  (.cast [] vs96910 fun (u96911 : Unit) =>
                  .call (F_book_stands S b) [(Ty.one B.bool)] fun (r96912 : (Bool × Unit)) =>
                  .ret 0 [(Value.bool r96912.1)]) <|
                ifB (eqN k96909 1)
                  (.cast [(Ty.one B.bool)] vs96910 fun (r96913 : (Bool × Unit)) =>
                  .ret 0 [(Value.bool r96913.1)]) <|
                .fail) <|
              ifB (eqN k96441 1)
                (.cast [(Ty.one B.bool)] vs96442 fun (r96914 : (Bool × Unit)) =>
                .ret 0 [(Value.bool r96914.1)]) <|
              .fail) <|
            .fail) <|
          .fail) <|
        .fail) <|
      .fail) <|
    ifB (eqN k72710 1)
      (.cast [(Ty.one B.bool)] vs72711 fun (r96915 : (Bool × Unit)) =>
      .ret 0 [(Value.bool r96915.1)]) <|
    .fail) <|
  ifB (eqN k48473 1)
    (.cast [(Ty.one B.bool)] vs48474 fun (r96916 : (Bool × Unit)) =>
    .ret 0 [(Value.bool r96916.1)]) <|
  .fail
def F_law1_CodecFresh (S : Ids) (enc : Int) (other : Int) (script : Sl) : Prog :=
  .call (F_law1_fits S script) [(Ty.one B.bool)] fun (r1 : (Bool × Unit)) =>
  ifB (notB r1.1)
    (.ret 0 [(Value.bool Bool.true)]) <|
  .call (F_law1_whole S enc) [(Ty.one (B.int IntKind.i64))] fun (r2 : (Int × Unit)) =>
  .call (F_codec_NewStream S r2.1) [(Ty.one B.ptr), (Ty.one (B.int IntKind.i64))] fun (r3 : ((Option Addr) × (Int × Unit))) =>
  .call (F_law1_whole S other) [(Ty.one (B.int IntKind.i64))] fun (r4 : (Int × Unit)) =>
  .call (F_codec_NewStream S r4.1) [(Ty.one B.ptr), (Ty.one (B.int IntKind.i64))] fun (r5 : ((Option Addr) × (Int × Unit))) =>
  .bind
    (.call (F_law1_num S r3.2.1) [(Ty.one (B.int IntKind.i64))] fun (r316 : (Int × Unit)) =>
    ifB (neI r316.1 0)
      (.ret 0 [(Value.bool Bool.true)]) <|
    .call (F_law1_num S r5.2.1) [(Ty.one (B.int IntKind.i64))] fun (r317 : (Int × Unit)) =>
    ifB (neI r317.1 0)
      (.ret 0 [(Value.bool Bool.true)]) <|
    ifB (noneB r3.1)
      (.ret 0 [(Value.bool Bool.true)]) <|
    .ret 0 [(Value.bool (noneB r5.1))]) fun (k318 : Nat) =>
  fun (vs319 : (List Value)) =>
  ifB (eqN k318 0)
    (.cast [(Ty.one B.bool)] vs319 fun (r320 : (Bool × Unit)) =>
    ifB r320.1
      (.ret 0 [(Value.bool Bool.false)]) <|
    .alloc [(Value.slice Option.none 0 0), (Value.slice Option.none 0 0), (Value.slice Option.none 0 0), (Value.slice Option.none 0 0), (Value.int IntKind.i64 0), (Value.bool Bool.false), (Value.slice Option.none 0 0), (Value.slice Option.none 0 0), (Value.slice Option.none 0 0), (Value.slice Option.none 0 0)] fun (a321 : Addr) =>
    .bind
      (.loop [(Ty.one (B.int IntKind.i64))] ((0 : Int), ()) fun (r541 : (Int × Unit)) =>
        ifB (ltI r541.1 (natI script.len))
          (grd (andB (someB script.base) (inB r541.1 script.len)) <|
          .load (Ty.agg [(B.int IntKind.i64), (B.int IntKind.i64), (B.int IntKind.i64), (B.int IntKind.i64), B.sl, B.sl]) (shiftTo script.base (mulN (toN r541.1) 6)) fun (r542 : (Int × (Int × (Int × (Int × (Sl × (Sl × Unit))))))) =>
          .alloc [(Value.int IntKind.i64 0), (Value.int IntKind.i64 0), (Value.int IntKind.i64 0), (Value.int IntKind.i64 0), (Value.slice Option.none 0 0), (Value.slice Option.none 0 0)] fun (a543 : Addr) =>
          .store (Option.some a543) [(Value.int IntKind.i64 r542.1), (Value.int IntKind.i64 r542.2.1), (Value.int IntKind.i64 r542.2.2.1), (Value.int IntKind.i64 r542.2.2.2.1), (Value.slice r542.2.2.2.2.1.base r542.2.2.2.2.1.len r542.2.2.2.2.1.cap), (Value.slice r542.2.2.2.2.2.1.base r542.2.2.2.2.2.1.len r542.2.2.2.2.2.1.cap)] <|
          .bind
            (.load (Ty.one (B.int IntKind.i64)) (shiftTo (Option.some a543) 1) fun (n576 : Int) =>
            grd (notB Bool.false) <|
            ifB (eqI (remI IntKind.i64 n576 2) 0)
              (.load (Ty.agg [(B.int IntKind.i64), (B.int IntKind.i64), (B.int IntKind.i64), (B.int IntKind.i64), B.sl, B.sl]) (Option.some a543) fun (r577 : (Int × (Int × (Int × (Int × (Sl × (Sl × Unit))))))) =>
              .call (F_book_answer S (Option.some a321) r3.1 (r577.1, (r577.2.1, (r577.2.2.1, (r577.2.2.2.1, (r577.2.2.2.2.1, (r577.2.2.2.2.2.1, ()))))))) [] fun (u578 : Unit) =>
              .ret 0 []) <|
            .load (Ty.agg [(B.int IntKind.i64), (B.int IntKind.i64), (B.int IntKind.i64), (B.int IntKind.i64), B.sl, B.sl]) (Option.some a543) fun (r579 : (Int × (Int × (Int × (Int × (Sl × (Sl × Unit))))))) =>
            .call (F_book_answer S (Option.some a321) r5.1 (r579.1, (r579.2.1, (r579.2.2.1, (r579.2.2.2.1, (r579.2.2.2.2.1, (r579.2.2.2.2.2.1, ()))))))) [] fun (u580 : Unit) =>
            .ret 0 []) fun (k581 : Nat) =>
          fun (vs582 : (List Value)) =>
          ifB (eqN k581 0)
            (.cast [] vs582 fun (u583 : Unit) =>
            .call (F_book_stands S (Option.some a321)) [(Ty.one B.bool)] fun (r584 : (Bool × Unit)) =>
            ifB (notB r584.1)
              (.ret 1 [(Value.bool Bool.false)]) <|
            .alloc [(Value.int IntKind.u8 65), (Value.int IntKind.u8 195), (Value.int IntKind.u8 169)] fun (a585 : Addr) =>
            .call (F_codec_Decode S (Int.ofNat 1) (⟨(Option.some a585), 3, 3⟩)) [(Ty.one B.sl), (Ty.one (B.int IntKind.i64))] fun (r586 : (Sl × (Int × Unit))) =>
            .call (F_codec_Mark S 3) [(Ty.one B.sl)] fun (r587 : (Sl × Unit)) =>
            .bind
              (.call (F_law1_num S r586.2.1) [(Ty.one (B.int IntKind.i64))] fun (r598 : (Int × Unit)) =>
              ifB (neI r598.1 0)
                (.ret 0 [(Value.bool Bool.true)]) <|
              .alloc [(Value.int IntKind.i64 65), (Value.int IntKind.i64 233)] fun (a599 : Addr) =>
              .call (F_law1_sameInts S r586.1 (⟨(Option.some a599), 2, 2⟩)) [(Ty.one B.bool)] fun (r600 : (Bool × Unit)) =>
              ifB (notB r600.1)
                (.ret 0 [(Value.bool Bool.true)]) <|
              .alloc [(Value.int IntKind.u8 254), (Value.int IntKind.u8 255)] fun (a601 : Addr) =>
              .call (F_law1_sameBytes S r587.1 (⟨(Option.some a601), 2, 2⟩)) [(Ty.one B.bool)] fun (r602 : (Bool × Unit)) =>
              .ret 0 [(Value.bool (notB r602.1))]) fun (k603 : Nat) =>
            fun (vs604 : (List Value)) =>
            ifB (eqN k603 0)
              (.cast [(Ty.one B.bool)] vs604 fun (r605 : (Bool × Unit)) =>
              ifB r605.1
                (.ret 1 [(Value.bool Bool.false)]) <|
              .call (F_book_keepInts S (Option.some a321) r586.1) [] fun (u606 : Unit) =>
              .call (F_book_keepBytes S (Option.some a321) r587.1) [] fun (u607 : Unit) =>
              .ret 0 [(Value.int IntKind.i64 (addI IntKind.i64 r541.1 1))]) <|
            .fail) <|
          .fail) <|
        .ret 2 []) fun (k608 : Nat) =>
    fun (vs609 : (List Value)) =>
    ifB (eqN k608 2)
      (.cast [] vs609 fun (u610 : Unit) =>
      .alloc [(Value.int IntKind.u8 65)] fun (a611 : Addr) =>
      .call (F_codec_Decode S (Int.ofNat 4) (⟨(Option.some a611), 1, 1⟩)) [(Ty.one B.sl), (Ty.one (B.int IntKind.i64))] fun (r612 : (Sl × (Int × Unit))) =>
      .bind
        (.call (F_law1_num S r612.2.1) [(Ty.one (B.int IntKind.i64))] fun (r619 : (Int × Unit)) =>
        ifB (eqI r619.1 0)
          (ifB (eqI (natI r612.1.len) 1)
            (.call (F_book_stands S (Option.some a321)) [(Ty.one B.bool)] fun (r620 : (Bool × Unit)) =>
            ifB r620.1
              (.call (F_book_apart S (Option.some a321)) [(Ty.one B.bool)] fun (r621 : (Bool × Unit)) =>
              .ret 0 [(Value.bool r621.1)]) <|
            .ret 0 [(Value.bool Bool.false)]) <|
          .ret 0 [(Value.bool Bool.false)]) <|
        .ret 0 [(Value.bool Bool.false)]) fun (k622 : Nat) =>
      fun (vs623 : (List Value)) =>
      ifB (eqN k622 0)
        (.cast [(Ty.one B.bool)] vs623 fun (r624 : (Bool × Unit)) =>
        .ret 0 [(Value.bool r624.1)]) <|
      .fail) <|
    ifB (eqN k608 1)
      (.cast [(Ty.one B.bool)] vs609 fun (r625 : (Bool × Unit)) =>
      .ret 0 [(Value.bool r625.1)]) <|
    .fail) <|
  .fail
def F_law1_plays (S : Ids) (c : (Int × Int × Int × Int × Sl × Sl × Unit)) : Prog :=
  .alloc [(Value.int IntKind.i64 c.1), (Value.int IntKind.i64 c.2.1), (Value.int IntKind.i64 c.2.2.1), (Value.int IntKind.i64 c.2.2.2.1), (Value.slice c.2.2.2.2.1.base c.2.2.2.2.1.len c.2.2.2.2.1.cap), (Value.slice c.2.2.2.2.2.1.base c.2.2.2.2.2.1.len c.2.2.2.2.2.1.cap)] fun (a1 : Addr) =>
  .load (Ty.one (B.int IntKind.i64)) (shiftTo (Option.some a1) 0) fun (n2 : Int) =>
  ifB (eqI n2 4)
    (.load (Ty.one (B.int IntKind.i64)) (shiftTo (Option.some a1) 2) fun (n3 : Int) =>
    .load (Ty.one B.sl) (shiftTo (Option.some a1) 4) fun (l4 : Sl) =>
    .call (F_law1_decoded S n3 l4) [(Ty.one B.bool)] fun (r5 : (Bool × Unit)) =>
    .ret 0 [(Value.bool r5.1)]) <|
  ifB (eqI n2 5)
    (.load (Ty.one (B.int IntKind.i64)) (shiftTo (Option.some a1) 2) fun (n6 : Int) =>
    .load (Ty.one B.sl) (shiftTo (Option.some a1) 5) fun (l7 : Sl) =>
    .call (F_law1_encoded S n6 l7) [(Ty.one B.bool)] fun (r8 : (Bool × Unit)) =>
    .ret 0 [(Value.bool r8.1)]) <|
  ifB (eqI n2 6)
    (.load (Ty.one (B.int IntKind.i64)) (shiftTo (Option.some a1) 2) fun (n9 : Int) =>
    .load (Ty.one (B.int IntKind.i64)) (shiftTo (Option.some a1) 3) fun (n10 : Int) =>
    .call (F_law1_sized S n9 n10) [(Ty.one B.bool)] fun (r11 : (Bool × Unit)) =>
    .ret 0 [(Value.bool r11.1)]) <|
  ifB (eqI n2 7)
    (.load (Ty.one (B.int IntKind.i64)) (shiftTo (Option.some a1) 2) fun (n12 : Int) =>
    .load (Ty.one B.sl) (shiftTo (Option.some a1) 4) fun (l13 : Sl) =>
    .load (Ty.one (B.int IntKind.i64)) (shiftTo (Option.some a1) 3) fun (n14 : Int) =>
    .call (F_law1_tokens S n12 l13 n14) [(Ty.one B.bool)] fun (r15 : (Bool × Unit)) =>
    .ret 0 [(Value.bool r15.1)]) <|
  ifB (eqI n2 8)
    (.load (Ty.one (B.int IntKind.i64)) (shiftTo (Option.some a1) 2) fun (n16 : Int) =>
    .load (Ty.one B.sl) (shiftTo (Option.some a1) 4) fun (l17 : Sl) =>
    .call (F_law1_marked S n16 l17) [(Ty.one B.bool)] fun (r18 : (Bool × Unit)) =>
    .ret 0 [(Value.bool r18.1)]) <|
  ifB (eqI n2 9)
    (.load (Ty.one B.sl) (shiftTo (Option.some a1) 4) fun (l19 : Sl) =>
    .call (F_law1_guessed S l19) [(Ty.one B.bool)] fun (r20 : (Bool × Unit)) =>
    .ret 0 [(Value.bool r20.1)]) <|
  .ret 0 [(Value.bool Bool.true)]
def F_law1_CodecAll (S : Ids) (enc : Int) (other : Int) (script : Sl) : Prog :=
  .call (F_law1_fits S script) [(Ty.one B.bool)] fun (r1 : (Bool × Unit)) =>
  ifB (notB r1.1)
    (.ret 0 [(Value.bool Bool.true)]) <|
  .call (F_codec_NewStream S enc) [(Ty.one B.ptr), (Ty.one (B.int IntKind.i64))] fun (r2 : ((Option Addr) × (Int × Unit))) =>
  .call (F_codec_NewStream S other) [(Ty.one B.ptr), (Ty.one (B.int IntKind.i64))] fun (r3 : ((Option Addr) × (Int × Unit))) =>
  .call (F_ref1_NewStream S enc) [(Ty.one B.ptr), (Ty.one (B.int IntKind.i64))] fun (r4 : ((Option Addr) × (Int × Unit))) =>
  .call (F_ref1_NewStream S other) [(Ty.one B.ptr), (Ty.one (B.int IntKind.i64))] fun (r5 : ((Option Addr) × (Int × Unit))) =>
  .bind
    (.call (F_law1_num S r2.2.1) [(Ty.one (B.int IntKind.i64))] fun (r1914 : (Int × Unit)) =>
    ifB (neI r1914.1 r4.2.1)
      (.ret 0 [(Value.bool Bool.true)]) <|
    .call (F_law1_num S r3.2.1) [(Ty.one (B.int IntKind.i64))] fun (r1915 : (Int × Unit)) =>
    ifB (neI r1915.1 r5.2.1)
      (.ret 0 [(Value.bool Bool.true)]) <|
    ifB (notB (eqB (noneB r2.1) (noneB r4.1)))
      (.ret 0 [(Value.bool Bool.true)]) <|
    .ret 0 [(Value.bool (notB (eqB (noneB r3.1) (noneB r5.1))))]) fun (k1916 : Nat) =>
  fun (vs1917 : (List Value)) =>
  ifB (eqN k1916 0)
    (.cast [(Ty.one B.bool)] vs1917 fun (r1918 : (Bool × Unit)) =>
    ifB r1918.1
      (.ret 0 [(Value.bool Bool.false)]) <|
    .call (F_law1_crowded S other) [(Ty.one B.ptr), (Ty.one B.bool)] fun (r1919 : ((Option Addr) × (Bool × Unit))) =>
    .bind
      (ifB r1919.2.1
        (.alloc [(Value.int IntKind.u8 195), (Value.int IntKind.u8 169)] fun (a2871 : Addr) =>
        .call (F_law1_decoded S (Int.ofNat 1) (⟨(Option.some a2871), 2, 2⟩)) [(Ty.one B.bool)] fun (r2872 : (Bool × Unit)) =>
        .ret 0 [(Value.bool r2872.1)]) <|
      .ret 0 [(Value.bool Bool.false)]) fun (k2873 : Nat) =>
    fun (vs2874 : (List Value)) =>
    ifB (eqN k2873 0)
      (.cast [(Ty.one B.bool)] vs2874 fun (r2875 : (Bool × Unit)) =>
      .bind
        (.loop [(Ty.one B.bool), (Ty.one (B.int IntKind.i64))] (r2875.1, ((0 : Int), ())) fun (r3580 : (Bool × (Int × Unit))) =>
          .bind
            (ifB (ltI r3580.2.1 (natI script.len))
              (.ret 0 [(Value.bool r3580.1)]) <|
            .ret 0 [(Value.bool Bool.false)]) fun (k3696 : Nat) =>
          fun (vs3697 : (List Value)) =>
          ifB (eqN k3696 0)
            (.cast [(Ty.one B.bool)] vs3697 fun (r3698 : (Bool × Unit)) =>
            ifB r3698.1
              (.bind
                (grd (andB (someB script.base) (inB r3580.2.1 script.len)) <|
                .load (Ty.agg [(B.int IntKind.i64), (B.int IntKind.i64), (B.int IntKind.i64), (B.int IntKind.i64), B.sl, B.sl]) (shiftTo script.base (mulN (toN r3580.2.1) 6)) fun (r3755 : (Int × (Int × (Int × (Int × (Sl × (Sl × Unit))))))) =>
                .alloc [(Value.int IntKind.i64 0), (Value.int IntKind.i64 0), (Value.int IntKind.i64 0), (Value.int IntKind.i64 0), (Value.slice Option.none 0 0), (Value.slice Option.none 0 0)] fun (a3756 : Addr) =>
                .store (Option.some a3756) [(Value.int IntKind.i64 r3755.1), (Value.int IntKind.i64 r3755.2.1), (Value.int IntKind.i64 r3755.2.2.1), (Value.int IntKind.i64 r3755.2.2.2.1), (Value.slice r3755.2.2.2.2.1.base r3755.2.2.2.2.1.len r3755.2.2.2.2.1.cap), (Value.slice r3755.2.2.2.2.2.1.base r3755.2.2.2.2.2.1.len r3755.2.2.2.2.2.1.cap)] <|
                .load (Ty.one (B.int IntKind.i64)) (shiftTo (Option.some a3756) 0) fun (n3757 : Int) =>
                ifB (gtI n3757 3)
                  (.load (Ty.agg [(B.int IntKind.i64), (B.int IntKind.i64), (B.int IntKind.i64), (B.int IntKind.i64), B.sl, B.sl]) (Option.some a3756) fun (r3758 : (Int × (Int × (Int × (Int × (Sl × (Sl × Unit))))))) =>
                  .call (F_law1_plays S (r3758.1, (r3758.2.1, (r3758.2.2.1, (r3758.2.2.2.1, (r3758.2.2.2.2.1, (r3758.2.2.2.2.2.1, ()))))))) [(Ty.one B.bool)] fun (r3759 : (Bool × Unit)) =>
                  .ret 0 [(Value.bool r3759.1)]) <|
                .bind
                  (.load (Ty.one (B.int IntKind.i64)) (shiftTo (Option.some a3756) 1) fun (n3784 : Int) =>
                  grd (notB Bool.false) <|
                  ifB (eqI (remI IntKind.i64 n3784 2) 0)
                    (ifB (notB (noneB r2.1))
                      (.ret 0 [(Value.bool (notB (noneB r4.1)))]) <|
                    .ret 0 [(Value.bool Bool.false)]) <|
                  .ret 0 [(Value.bool Bool.false)]) fun (k3785 : Nat) =>
                fun (vs3786 : (List Value)) =>
                ifB (eqN k3785 0)
                  (.cast [(Ty.one B.bool)] vs3786 fun (r3787 : (Bool × Unit)) =>
                  ifB r3787.1
                    (.load (Ty.one (B.int IntKind.i64)) (shiftTo (Option.some a3756) 0) fun (n3788 : Int) =>
                    .load (Ty.one (B.int IntKind.i64)) (shiftTo (Option.some a3756) 1) fun (n3789 : Int) =>
                    .load (Ty.one B.sl) (shiftTo (Option.some a3756) 4) fun (l3790 : Sl) =>
                    .call (F_law1_played S r2.1 r4.1 (n3788, (n3789, (l3790, ())))) [(Ty.one B.bool)] fun (r3791 : (Bool × Unit)) =>
                    .ret 0 [(Value.bool r3791.1)]) <|
                  .bind
                    (.load (Ty.one (B.int IntKind.i64)) (shiftTo (Option.some a3756) 1) fun (n3800 : Int) =>
                    grd (notB Bool.false) <|
                    ifB (neI (remI IntKind.i64 n3800 2) 0)
                      (ifB (notB (noneB r3.1))
                        (.ret 0 [(Value.bool (notB (noneB r5.1)))]) <|
                      .ret 0 [(Value.bool Bool.false)]) <|
                    .ret 0 [(Value.bool Bool.false)]) fun (k3801 : Nat) =>
                  fun (vs3802 : (List Value)) =>
                  ifB (eqN k3801 0)
                    (.cast [(Ty.one B.bool)] vs3802 fun (r3803 : (Bool × Unit)) =>
                    ifB r3803.1
                      (.load (Ty.one (B.int IntKind.i64)) (shiftTo (Option.some a3756) 0) fun (n3804 : Int) =>
                      .load (Ty.one (B.int IntKind.i64)) (shiftTo (Option.some a3756) 1) fun (n3805 : Int) =>
                      .load (Ty.one B.sl) (shiftTo (Option.some a3756) 4) fun (l3806 : Sl) =>
                      .call (F_law1_played S r3.1 r5.1 (n3804, (n3805, (l3806, ())))) [(Ty.one B.bool)] fun (r3807 : (Bool × Unit)) =>
                      .ret 0 [(Value.bool r3807.1)]) <|
                    .ret 0 [(Value.bool r3580.1)]) <|
                  .fail) <|
                .fail) fun (k3808 : Nat) =>
              fun (vs3809 : (List Value)) =>
              ifB (eqN k3808 0)
                (.cast [(Ty.one B.bool)] vs3809 fun (r3810 : (Bool × Unit)) =>
                .ret 0 [(Value.bool r3810.1), (Value.int IntKind.i64 (addI IntKind.i64 r3580.2.1 1))]) <|
              .fail) <|
            .ret 2 [(Value.bool r3580.1)]) <|
          .fail) fun (k3811 : Nat) =>
      fun (vs3812 : (List Value)) =>
      ifB (eqN k3811 2)
        (.cast [(Ty.one B.bool)] vs3812 fun (r3813 : (Bool × Unit)) =>
        .bind
          (ifB r3813.1
            (.call (F_crowd_ends S r1919.1) [(Ty.one B.bool)] fun (r3818 : (Bool × Unit)) =>
            .ret 0 [(Value.bool r3818.1)]) <|
          .ret 0 [(Value.bool Bool.false)]) fun (k3819 : Nat) =>
        fun (vs3820 : (List Value)) =>
        ifB (eqN k3819 0)
          (.cast [(Ty.one B.bool)] vs3820 fun (r3821 : (Bool × Unit)) =>
          .ret 0 [(Value.bool r3821.1)]) <|
        .fail) <|
      .fail) <|
    .fail) <|
  .fail
def F_eight_held (S : Ids) (e : (Unit)) (b : Sl) : Prog :=
  .alloc [] fun (a1 : Addr) =>
  .bind
    (.loop [(Ty.one (B.int IntKind.i64))] ((0 : Int), ()) fun (r42 : (Int × Unit)) =>
      ifB (ltI r42.1 (natI b.len))
        (grd (leB r42.1 b.len) <|
        .call (F_codec_row S (⟨(cutBase b.base b.cap (toN r42.1) 1), (subN b.len (toN r42.1)), (subN b.cap (toN r42.1))⟩)) [(Ty.one (B.int IntKind.i64)), (Ty.one (B.int IntKind.i64))] fun (r43 : (Int × (Int × Unit))) =>
        .bind
          (ifB (gtI r43.2.1 1)
            (ifB (eqI r43.1 (natI (subN b.len (toN r42.1))))
              (.ret 0 [(Value.bool (ltI r43.1 r43.2.1))]) <|
            .ret 0 [(Value.bool Bool.false)]) <|
          .ret 0 [(Value.bool Bool.false)]) fun (k49 : Nat) =>
        fun (vs50 : (List Value)) =>
        ifB (eqN k49 0)
          (.cast [(Ty.one B.bool)] vs50 fun (r51 : (Bool × Unit)) =>
          ifB r51.1
            (.ret 1 [(Value.int IntKind.i64 r43.1)]) <|
          .load (Ty.agg []) (Option.some a1) fun (u52 : Unit) =>
          .call (F_eight_first S () (⟨(cutBase b.base b.cap (toN r42.1) 1), (subN b.len (toN r42.1)), (subN b.cap (toN r42.1))⟩)) [(Ty.one (B.int IntKind.i64)), (Ty.one (B.int IntKind.i64))] fun (r53 : (Int × (Int × Unit))) =>
          .ret 0 [(Value.int IntKind.i64 (addI IntKind.i64 r42.1 r53.2.1))]) <|
        .fail) <|
      .ret 2 []) fun (k54 : Nat) =>
  fun (vs55 : (List Value)) =>
  ifB (eqN k54 2)
    (.cast [] vs55 fun (u56 : Unit) =>
    .ret 0 [(Value.int IntKind.i64 0)]) <|
  ifB (eqN k54 1)
    (.cast [(Ty.one (B.int IntKind.i64))] vs55 fun (r57 : (Int × Unit)) =>
    .ret 0 [(Value.int IntKind.i64 r57.1)]) <|
  .fail
def F_eight_last (S : Ids) (e : (Unit)) (b : Sl) : Prog :=
  .alloc [] fun (a1 : Addr) =>
  .bind
    (.loop [(Ty.one (B.int IntKind.i64))] ((1 : Int), ()) fun (r76 : (Int × Unit)) =>
      .bind
        (ifB (leI r76.1 4)
          (.ret 0 [(Value.bool (leI r76.1 (natI b.len)))]) <|
        .ret 0 [(Value.bool Bool.false)]) fun (k88 : Nat) =>
      fun (vs89 : (List Value)) =>
      ifB (eqN k88 0)
        (.cast [(Ty.one B.bool)] vs89 fun (r90 : (Bool × Unit)) =>
        ifB r90.1
          (.load (Ty.agg []) (Option.some a1) fun (u91 : Unit) =>
          grd (leB (subI IntKind.i64 (natI b.len) r76.1) b.len) <|
          .call (F_eight_first S () (⟨(cutBase b.base b.cap (toN (subI IntKind.i64 (natI b.len) r76.1)) 1), (subN b.len (toN (subI IntKind.i64 (natI b.len) r76.1))), (subN b.cap (toN (subI IntKind.i64 (natI b.len) r76.1)))⟩)) [(Ty.one (B.int IntKind.i64)), (Ty.one (B.int IntKind.i64))] fun (r92 : (Int × (Int × Unit))) =>
          .bind
            (ifB (eqI r92.2.1 r76.1)
              (.ret 0 [(Value.bool (geI r92.1 0))]) <|
            .ret 0 [(Value.bool Bool.false)]) fun (k96 : Nat) =>
          fun (vs97 : (List Value)) =>
          ifB (eqN k96 0)
            (.cast [(Ty.one B.bool)] vs97 fun (r98 : (Bool × Unit)) =>
            ifB r98.1
              (.ret 1 [(Value.int IntKind.i64 r92.1), (Value.int IntKind.i64 r92.2.1)]) <|
            .ret 0 [(Value.int IntKind.i64 (addI IntKind.i64 r76.1 1))]) <|
          .fail) <|
        .ret 2 []) <|
      .fail) fun (k99 : Nat) =>
  fun (vs100 : (List Value)) =>
  ifB (eqN k99 2)
    (.cast [] vs100 fun (u101 : Unit) =>
    grd (andB (someB b.base) (inB (subI IntKind.i64 (natI b.len) 1) b.len)) <|
    .load (Ty.one (B.int IntKind.u8)) (shiftTo b.base (mulN (toN (subI IntKind.i64 (natI b.len) 1)) 1)) fun (n102 : Int) =>
    .ret 0 [(Value.int IntKind.i64 (subI IntKind.i64 (-1) (wrapI IntKind.i64 n102))), (Value.int IntKind.i64 1)]) <|
  ifB (eqN k99 1)
    (.cast [(Ty.one (B.int IntKind.i64)), (Ty.one (B.int IntKind.i64))] vs100 fun (r103 : (Int × (Int × Unit))) =>
    .ret 0 [(Value.int IntKind.i64 r103.1), (Value.int IntKind.i64 r103.2.1)]) <|
  .fail
def F_eight_size (S : Ids) (x0 : (Unit)) (a : Int) : Prog :=
  .alloc [] fun (a1 : Addr) =>
  .bind
    (ifB (ltI a (-256))
      (.ret 0 [(Value.bool Bool.true)]) <|
    ifB (gtI a (-129))
      (ifB (ltI a 0)
        (.ret 0 [(Value.bool Bool.true)]) <|
      ifB (gtI a 1114111)
        (.ret 0 [(Value.bool Bool.true)]) <|
      ifB (geI a 55296)
        (.ret 0 [(Value.bool (leI a 57343))]) <|
      .ret 0 [(Value.bool Bool.false)]) <|
    ifB (gtI a 1114111)
      (.ret 0 [(Value.bool Bool.true)]) <|
    ifB (geI a 55296)
      (.ret 0 [(Value.bool (leI a 57343))]) <|
    .ret 0 [(Value.bool Bool.false)]) fun (k5 : Nat) =>
  fun (vs6 : (List Value)) =>
  ifB (eqN k5 0)
    (.cast [(Ty.one B.bool)] vs6 fun (r7 : (Bool × Unit)) =>
    ifB r7.1
      (.ret 0 [(Value.int IntKind.i64 0)]) <|
    ifB (ltI a 128)
      (.ret 0 [(Value.int IntKind.i64 1)]) <|
    ifB (ltI a 2048)
      (.ret 0 [(Value.int IntKind.i64 2)]) <|
    ifB (ltI a 65536)
      (.ret 0 [(Value.int IntKind.i64 3)]) <|
    .ret 0 [(Value.int IntKind.i64 4)]) <|
  .fail
def F_eight_put (S : Ids) (e : (Unit)) (out : Sl) (a : Int) : Prog :=
  .alloc [] fun (a1 : Addr) =>
  .load (Ty.agg []) (Option.some a1) fun (u2 : Unit) =>
  .call (F_eight_size S () a) [(Ty.one (B.int IntKind.i64))] fun (r3 : (Int × Unit)) =>
  ifB (ltI a 0)
    (.alloc [(Value.int IntKind.u8 (wrapI IntKind.u8 (subI IntKind.i64 (-1) a)))] fun (a4 : Addr) =>
    .append 1 1 [(Value.int IntKind.u8 0)] out (⟨(Option.some a4), 1, 1⟩) fun (l5 : Sl) =>
    .ret 0 [(Value.slice l5.base l5.len l5.cap)]) <|
  ifB (eqI r3.1 1)
    (.alloc [(Value.int IntKind.u8 (wrapI IntKind.u8 a))] fun (a6 : Addr) =>
    .append 1 1 [(Value.int IntKind.u8 0)] out (⟨(Option.some a6), 1, 1⟩) fun (l7 : Sl) =>
    .ret 0 [(Value.slice l7.base l7.len l7.cap)]) <|
  .alloc [(Value.int IntKind.u8 0), (Value.int IntKind.u8 0), (Value.int IntKind.u8 0), (Value.int IntKind.u8 0), (Value.int IntKind.u8 0)] fun (a8 : Addr) =>
  .store (Option.some a8) [(Value.int IntKind.u8 0), (Value.int IntKind.u8 0), (Value.int IntKind.u8 192), (Value.int IntKind.u8 224), (Value.int IntKind.u8 240)] <|
  grd (inB r3.1 5) <|
  .load (Ty.one (B.int IntKind.u8)) (shiftTo (Option.some a8) (mulN (toN r3.1) 1)) fun (n9 : Int) =>
  grd (notB (ltI (mulI IntKind.i64 6 (subI IntKind.i64 r3.1 1)) 0)) <|
  .alloc [(Value.int IntKind.u8 (orI IntKind.u8 n9 (wrapI IntKind.u8 (shrI IntKind.i64 a (mulI IntKind.i64 6 (subI IntKind.i64 r3.1 1))))))] fun (a10 : Addr) =>
  .append 1 1 [(Value.int IntKind.u8 0)] out (⟨(Option.some a10), 1, 1⟩) fun (l11 : Sl) =>
  .bind
    (.loop [(Ty.one B.sl), (Ty.one (B.int IntKind.i64))] (l11, ((subI IntKind.i64 r3.1 2), ())) fun (r24 : (Sl × (Int × Unit))) =>
      ifB (geI r24.2.1 0)
        (grd (notB (ltI (mulI IntKind.i64 6 r24.2.1) 0)) <|
        .alloc [(Value.int IntKind.u8 (orI IntKind.u8 128 (andI IntKind.u8 (wrapI IntKind.u8 (shrI IntKind.i64 a (mulI IntKind.i64 6 r24.2.1))) 63)))] fun (a25 : Addr) =>
        .append 1 1 [(Value.int IntKind.u8 0)] r24.1 (⟨(Option.some a25), 1, 1⟩) fun (l26 : Sl) =>
        .ret 0 [(Value.slice l26.base l26.len l26.cap), (Value.int IntKind.i64 (subI IntKind.i64 r24.2.1 1))]) <|
      .ret 2 [(Value.slice r24.1.base r24.1.len r24.1.cap)]) fun (k27 : Nat) =>
  fun (vs28 : (List Value)) =>
  ifB (eqN k27 2)
    (.cast [(Ty.one B.sl)] vs28 fun (r29 : (Sl × Unit)) =>
    .ret 0 [(Value.slice r29.1.base r29.1.len r29.1.cap)]) <|
  .fail
def F_sixteen_unit (S : Ids) (c : (Int × Unit)) (b : Sl) : Prog :=
  .alloc [(Value.int IntKind.i64 c.1)] fun (a1 : Addr) =>
  .load (Ty.one (B.int IntKind.i64)) (shiftTo (Option.some a1) 0) fun (n2 : Int) =>
  grd (andB (someB b.base) (inB n2 b.len)) <|
  .load (Ty.one (B.int IntKind.u8)) (shiftTo b.base (mulN (toN n2) 1)) fun (n3 : Int) =>
  .load (Ty.one (B.int IntKind.i64)) (shiftTo (Option.some a1) 0) fun (n4 : Int) =>
  grd (andB (someB b.base) (inB (subI IntKind.i64 1 n4) b.len)) <|
  .load (Ty.one (B.int IntKind.u8)) (shiftTo b.base (mulN (toN (subI IntKind.i64 1 n4)) 1)) fun (n5 : Int) =>
  grd (notB Bool.false) <|
  .ret 0 [(Value.int IntKind.i64 (orI IntKind.i64 (wrapI IntKind.i64 n3) (shlI IntKind.i64 (wrapI IntKind.i64 n5) 8)))]
def F_codec_high (S : Ids) (u : Int) : Prog :=
  .ret 0 [(Value.bool (eqI (andNotI IntKind.i64 u 1023) 55296))]
def F_codec_low (S : Ids) (u : Int) : Prog :=
  .ret 0 [(Value.bool (eqI (andNotI IntKind.i64 u 1023) 56320))]
def F_sixteen_first (S : Ids) (c : (Int × Unit)) (b : Sl) : Prog :=
  .alloc [(Value.int IntKind.i64 c.1)] fun (a1 : Addr) =>
  ifB (eqI (natI b.len) 1)
    (grd (andB (someB b.base) (inB 0 b.len)) <|
    .load (Ty.one (B.int IntKind.u8)) (shiftTo b.base 0) fun (n2 : Int) =>
    .ret 0 [(Value.int IntKind.i64 (subI IntKind.i64 (-1) (wrapI IntKind.i64 n2))), (Value.int IntKind.i64 1)]) <|
  .load (Ty.agg [(B.int IntKind.i64)]) (Option.some a1) fun (r3 : (Int × Unit)) =>
  .call (F_sixteen_unit S (r3.1, ()) b) [(Ty.one (B.int IntKind.i64))] fun (r4 : (Int × Unit)) =>
  .bind
    (.bind
      (.call (F_codec_high S r4.1) [(Ty.one B.bool)] fun (r30 : (Bool × Unit)) =>
      ifB r30.1
        (.ret 0 [(Value.bool (geI (natI b.len) 4))]) <|
      .ret 0 [(Value.bool Bool.false)]) fun (k31 : Nat) =>
    fun (vs32 : (List Value)) =>
    ifB (eqN k31 0)
      (.cast [(Ty.one B.bool)] vs32 fun (r33 : (Bool × Unit)) =>
      ifB r33.1
        (.load (Ty.agg [(B.int IntKind.i64)]) (Option.some a1) fun (r34 : (Int × Unit)) =>
        grd (leB 2 b.len) <|
        .call (F_sixteen_unit S (r34.1, ()) (⟨(cutBase b.base b.cap 2 1), (subN b.len 2), (subN b.cap 2)⟩)) [(Ty.one (B.int IntKind.i64))] fun (r35 : (Int × Unit)) =>
        .call (F_codec_low S r35.1) [(Ty.one B.bool)] fun (r36 : (Bool × Unit)) =>
        ifB r36.1
          (grd (notB Bool.false) <|
          .ret 1 [(Value.int IntKind.i64 (addI IntKind.i64 (addI IntKind.i64 65536 (shlI IntKind.i64 (andI IntKind.i64 r4.1 1023) 10)) (andI IntKind.i64 r35.1 1023))), (Value.int IntKind.i64 4)]) <|
        .ret 0 []) <|
      .ret 0 []) <|
    .fail) fun (k37 : Nat) =>
  fun (vs38 : (List Value)) =>
  ifB (eqN k37 1)
    (.cast [(Ty.one (B.int IntKind.i64)), (Ty.one (B.int IntKind.i64))] vs38 fun (r39 : (Int × (Int × Unit))) =>
    .ret 0 [(Value.int IntKind.i64 r39.1), (Value.int IntKind.i64 r39.2.1)]) <|
  ifB (eqN k37 0)
    (.cast [] vs38 fun (u40 : Unit) =>
    .ret 0 [(Value.int IntKind.i64 r4.1), (Value.int IntKind.i64 2)]) <|
  .fail
def F_sixteen_held (S : Ids) (c : (Int × Unit)) (b : Sl) : Prog :=
  .alloc [(Value.int IntKind.i64 c.1)] fun (a1 : Addr) =>
  grd (notB Bool.false) <|
  .bind
    (ifB (geI (subI IntKind.i64 (natI b.len) (remI IntKind.i64 (natI b.len) 2)) 2)
      (.load (Ty.agg [(B.int IntKind.i64)]) (Option.some a1) fun (r8 : (Int × Unit)) =>
      grd (leB (subI IntKind.i64 (subI IntKind.i64 (natI b.len) (remI IntKind.i64 (natI b.len) 2)) 2) b.len) <|
      .call (F_sixteen_unit S (r8.1, ()) (⟨(cutBase b.base b.cap (toN (subI IntKind.i64 (subI IntKind.i64 (natI b.len) (remI IntKind.i64 (natI b.len) 2)) 2)) 1), (subN b.len (toN (subI IntKind.i64 (subI IntKind.i64 (natI b.len) (remI IntKind.i64 (natI b.len) 2)) 2))), (subN b.cap (toN (subI IntKind.i64 (subI IntKind.i64 (natI b.len) (remI IntKind.i64 (natI b.len) 2)) 2)))⟩)) [(Ty.one (B.int IntKind.i64))] fun (r9 : (Int × Unit)) =>
      .call (F_codec_high S r9.1) [(Ty.one B.bool)] fun (r10 : (Bool × Unit)) =>
      .ret 0 [(Value.bool r10.1)]) <|
    .ret 0 [(Value.bool Bool.false)]) fun (k11 : Nat) =>
  fun (vs12 : (List Value)) =>
  ifB (eqN k11 0)
    (.cast [(Ty.one B.bool)] vs12 fun (r13 : (Bool × Unit)) =>
    ifB r13.1
      (.ret 0 [(Value.int IntKind.i64 (addI IntKind.i64 (remI IntKind.i64 (natI b.len) 2) 2))]) <|
    .ret 0 [(Value.int IntKind.i64 (remI IntKind.i64 (natI b.len) 2))]) <|
  .fail
def F_sixteen_last (S : Ids) (c : (Int × Unit)) (b : Sl) : Prog :=
  .alloc [(Value.int IntKind.i64 c.1)] fun (a1 : Addr) =>
  grd (notB Bool.false) <|
  ifB (eqI (remI IntKind.i64 (natI b.len) 2) 1)
    (grd (andB (someB b.base) (inB (subI IntKind.i64 (natI b.len) 1) b.len)) <|
    .load (Ty.one (B.int IntKind.u8)) (shiftTo b.base (mulN (toN (subI IntKind.i64 (natI b.len) 1)) 1)) fun (n2 : Int) =>
    .ret 0 [(Value.int IntKind.i64 (subI IntKind.i64 (-1) (wrapI IntKind.i64 n2))), (Value.int IntKind.i64 1)]) <|
  .load (Ty.agg [(B.int IntKind.i64)]) (Option.some a1) fun (r3 : (Int × Unit)) =>
  grd (leB (subI IntKind.i64 (natI b.len) 2) b.len) <|
  .call (F_sixteen_unit S (r3.1, ()) (⟨(cutBase b.base b.cap (toN (subI IntKind.i64 (natI b.len) 2)) 1), (subN b.len (toN (subI IntKind.i64 (natI b.len) 2))), (subN b.cap (toN (subI IntKind.i64 (natI b.len) 2)))⟩)) [(Ty.one (B.int IntKind.i64))] fun (r4 : (Int × Unit)) =>
  .bind
    (.call (F_codec_low S r4.1) [(Ty.one B.bool)] fun (r16 : (Bool × Unit)) =>
    ifB r16.1
      (ifB (geI (natI b.len) 4)
        (.load (Ty.agg [(B.int IntKind.i64)]) (Option.some a1) fun (r17 : (Int × Unit)) =>
        grd (leB (subI IntKind.i64 (natI b.len) 4) b.len) <|
        .call (F_sixteen_unit S (r17.1, ()) (⟨(cutBase b.base b.cap (toN (subI IntKind.i64 (natI b.len) 4)) 1), (subN b.len (toN (subI IntKind.i64 (natI b.len) 4))), (subN b.cap (toN (subI IntKind.i64 (natI b.len) 4)))⟩)) [(Ty.one (B.int IntKind.i64))] fun (r18 : (Int × Unit)) =>
        .call (F_codec_high S r18.1) [(Ty.one B.bool)] fun (r19 : (Bool × Unit)) =>
        .ret 0 [(Value.bool r19.1)]) <|
      .ret 0 [(Value.bool Bool.false)]) <|
    .ret 0 [(Value.bool Bool.false)]) fun (k20 : Nat) =>
  fun (vs21 : (List Value)) =>
  ifB (eqN k20 0)
    (.cast [(Ty.one B.bool)] vs21 fun (r22 : (Bool × Unit)) =>
    ifB r22.1
      (.load (Ty.agg [(B.int IntKind.i64)]) (Option.some a1) fun (r23 : (Int × Unit)) =>
      grd (leB (subI IntKind.i64 (natI b.len) 4) b.len) <|
      .call (F_sixteen_first S (r23.1, ()) (⟨(cutBase b.base b.cap (toN (subI IntKind.i64 (natI b.len) 4)) 1), (subN b.len (toN (subI IntKind.i64 (natI b.len) 4))), (subN b.cap (toN (subI IntKind.i64 (natI b.len) 4)))⟩)) [(Ty.one (B.int IntKind.i64)), (Ty.one (B.int IntKind.i64))] fun (r24 : (Int × (Int × Unit))) =>
      .ret 0 [(Value.int IntKind.i64 r24.1), (Value.int IntKind.i64 r24.2.1)]) <|
    .load (Ty.agg [(B.int IntKind.i64)]) (Option.some a1) fun (r25 : (Int × Unit)) =>
    grd (leB (subI IntKind.i64 (natI b.len) 2) b.len) <|
    .call (F_sixteen_unit S (r25.1, ()) (⟨(cutBase b.base b.cap (toN (subI IntKind.i64 (natI b.len) 2)) 1), (subN b.len (toN (subI IntKind.i64 (natI b.len) 2))), (subN b.cap (toN (subI IntKind.i64 (natI b.len) 2)))⟩)) [(Ty.one (B.int IntKind.i64))] fun (r26 : (Int × Unit)) =>
    .ret 0 [(Value.int IntKind.i64 r26.1), (Value.int IntKind.i64 2)]) <|
  .fail
def F_sixteen_half (S : Ids) (c : (Int × Unit)) (out : Sl) (u : Int) : Prog :=
  .alloc [(Value.int IntKind.i64 c.1)] fun (a1 : Addr) =>
  .alloc [(Value.int IntKind.u8 0), (Value.int IntKind.u8 0)] fun (a2 : Addr) =>
  .load (Ty.one (B.int IntKind.i64)) (shiftTo (Option.some a1) 0) fun (n3 : Int) =>
  .load (Ty.one (B.int IntKind.i64)) (shiftTo (Option.some a1) 0) fun (n4 : Int) =>
  grd (notB Bool.false) <|
  grd (inB n3 2) <|
  .store (shiftTo (Option.some a2) (mulN (toN n3) 1)) [(Value.int IntKind.u8 (wrapI IntKind.u8 u))] <|
  .check (shiftTo (Option.some a1) 0) [(Value.int IntKind.i64 n4)] <|
  grd (inB (subI IntKind.i64 1 n4) 2) <|
  .store (shiftTo (Option.some a2) (mulN (toN (subI IntKind.i64 1 n4)) 1)) [(Value.int IntKind.u8 (wrapI IntKind.u8 (shrI IntKind.i64 u 8)))] <|
  .append 1 1 [(Value.int IntKind.u8 0)] out (⟨(cutBase (Option.some a2) 2 0 1), 2, 2⟩) fun (l5 : Sl) =>
  .ret 0 [(Value.slice l5.base l5.len l5.cap)]
def F_sixteen_put (S : Ids) (c : (Int × Unit)) (out : Sl) (a : Int) : Prog :=
  .alloc [(Value.int IntKind.i64 c.1)] fun (a1 : Addr) =>
  ifB (ltI a 0)
    (.alloc [(Value.int IntKind.u8 (wrapI IntKind.u8 (subI IntKind.i64 (-1) a)))] fun (a2 : Addr) =>
    .append 1 1 [(Value.int IntKind.u8 0)] out (⟨(Option.some a2), 1, 1⟩) fun (l3 : Sl) =>
    .ret 0 [(Value.slice l3.base l3.len l3.cap)]) <|
  ifB (ltI a 65536)
    (.load (Ty.agg [(B.int IntKind.i64)]) (Option.some a1) fun (r4 : (Int × Unit)) =>
    .call (F_sixteen_half S (r4.1, ()) out a) [(Ty.one B.sl)] fun (r5 : (Sl × Unit)) =>
    .ret 0 [(Value.slice r5.1.base r5.1.len r5.1.cap)]) <|
  .load (Ty.agg [(B.int IntKind.i64)]) (Option.some a1) fun (r6 : (Int × Unit)) =>
  .load (Ty.agg [(B.int IntKind.i64)]) (Option.some a1) fun (r7 : (Int × Unit)) =>
  grd (notB Bool.false) <|
  .call (F_sixteen_half S (r7.1, ()) out (orI IntKind.i64 55296 (shrI IntKind.i64 (subI IntKind.i64 a 65536) 10))) [(Ty.one B.sl)] fun (r8 : (Sl × Unit)) =>
  .check (Option.some a1) [(Value.int IntKind.i64 r6.1)] <|
  .call (F_sixteen_half S (r6.1, ()) r8.1 (orI IntKind.i64 56320 (andI IntKind.i64 a 1023))) [(Ty.one B.sl)] fun (r9 : (Sl × Unit)) =>
  .ret 0 [(Value.slice r9.1.base r9.1.len r9.1.cap)]
def F_sixteen_size (S : Ids) (x0 : (Int × Unit)) (a : Int) : Prog :=
  .alloc [(Value.int IntKind.i64 x0.1)] fun (a1 : Addr) =>
  .bind
    (ifB (ltI a (-256))
      (.ret 0 [(Value.bool Bool.true)]) <|
    .ret 0 [(Value.bool (gtI a 1114111))]) fun (k5 : Nat) =>
  fun (vs6 : (List Value)) =>
  ifB (eqN k5 0)
    (.cast [(Ty.one B.bool)] vs6 fun (r7 : (Bool × Unit)) =>
    ifB r7.1
      (.ret 0 [(Value.int IntKind.i64 0)]) <|
    ifB (ltI a 0)
      (.ret 0 [(Value.int IntKind.i64 1)]) <|
    ifB (ltI a 65536)
      (.ret 0 [(Value.int IntKind.i64 2)]) <|
    .ret 0 [(Value.int IntKind.i64 4)]) <|
  .fail
def F_latin_first (S : Ids) (x0 : (Unit)) (b : Sl) : Prog :=
  .alloc [] fun (a1 : Addr) =>
  grd (andB (someB b.base) (inB 0 b.len)) <|
  .load (Ty.one (B.int IntKind.u8)) (shiftTo b.base 0) fun (n2 : Int) =>
  .ret 0 [(Value.int IntKind.i64 (wrapI IntKind.i64 n2)), (Value.int IntKind.i64 1)]
def F_latin_held (S : Ids) (x0 : (Unit)) (b : Sl) : Prog :=
  .alloc [] fun (a1 : Addr) =>
  .ret 0 [(Value.int IntKind.i64 0)]
def F_latin_last (S : Ids) (x0 : (Unit)) (b : Sl) : Prog :=
  .alloc [] fun (a1 : Addr) =>
  grd (andB (someB b.base) (inB (subI IntKind.i64 (natI b.len) 1) b.len)) <|
  .load (Ty.one (B.int IntKind.u8)) (shiftTo b.base (mulN (toN (subI IntKind.i64 (natI b.len) 1)) 1)) fun (n2 : Int) =>
  .ret 0 [(Value.int IntKind.i64 (wrapI IntKind.i64 n2)), (Value.int IntKind.i64 1)]
def F_latin_put (S : Ids) (x0 : (Unit)) (out : Sl) (a : Int) : Prog :=
  .alloc [] fun (a1 : Addr) =>
  .alloc [(Value.int IntKind.u8 (wrapI IntKind.u8 a))] fun (a2 : Addr) =>
  .append 1 1 [(Value.int IntKind.u8 0)] out (⟨(Option.some a2), 1, 1⟩) fun (l3 : Sl) =>
  .ret 0 [(Value.slice l3.base l3.len l3.cap)]
def F_latin_size (S : Ids) (x0 : (Unit)) (a : Int) : Prog :=
  .alloc [] fun (a1 : Addr) =>
  .bind
    (ifB (ltI a 0)
      (.ret 0 [(Value.bool Bool.true)]) <|
    .ret 0 [(Value.bool (gtI a 255))]) fun (k5 : Nat) =>
  fun (vs6 : (List Value)) =>
  ifB (eqN k5 0)
    (.cast [(Ty.one B.bool)] vs6 fun (r7 : (Bool × Unit)) =>
    ifB r7.1
      (.ret 0 [(Value.int IntKind.i64 0)]) <|
    .ret 0 [(Value.int IntKind.i64 1)]) <|
  .fail
end
end Go.Sw
