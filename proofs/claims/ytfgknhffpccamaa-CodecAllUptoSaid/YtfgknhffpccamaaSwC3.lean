/-
  Codec: the laws' own lists: copies, lists that are lent, and looked at again.
-/
import Derived.Test.YtfgknhffpccamaaSwC2
import Derived.Test.YtfgknhffpccamaaSwU3
set_option linter.unusedVariables false
set_option linter.unusedSimpArgs false
set_option maxRecDepth 100000
namespace Go.Sw.Codec
variable {P : Program} {S : Ids} {h : Heap} {Q : Nat → List Value → Heap → Prop}

def copyP (k : IntKind) (bytes : Nat) (b : Sl) : Prog :=
  .bind
    (.loop [(Ty.one B.sl), (Ty.one (B.int IntKind.i64))] ((⟨Option.none, 0, 0⟩ : Sl), ((0 : Int), ())) fun (r16 : (Sl × (Int × Unit))) =>
      ifB (ltI r16.2.1 (natI b.len))
        (grd (andB (someB b.base) (inB r16.2.1 b.len)) <|
        .load (Ty.one (B.int k)) (shiftTo b.base (mulN (toN r16.2.1) 1)) fun (n17 : Int) =>
        .alloc [(Value.int k n17)] fun (a18 : Addr) =>
        .append 1 bytes [(Value.int k 0)] r16.1 (⟨(Option.some a18), 1, 1⟩) fun (l19 : Sl) =>
        .ret 0 [(Value.slice l19.base l19.len l19.cap), (Value.int IntKind.i64 (addI IntKind.i64 r16.2.1 1))]) <|
      .ret 2 [(Value.slice r16.1.base r16.1.len r16.1.cap)]) fun (k20 : Nat) =>
  fun (vs21 : (List Value)) =>
  ifB (eqN k20 2)
    (.cast [(Ty.one B.sl)] vs21 fun (r22 : (Sl × Unit)) =>
    .ret 0 [(Value.slice r22.1.base r22.1.len r22.1.cap)]) <|
  .fail

theorem c_copyP {k : IntKind} {bytes : Nat} {b : Sl} {l : List Int} (hb : Lst k h b l) (hroom : l.length * bytes ≤ 140737488355328) :
    Gives P (copyP k bytes b) [.one .sl] h fun (x : Sl × Unit) h' => OwnL h.size k h' x.1 l := by
  have hlen := hb.len
  have hbd := hb.bound
  unfold copyP Gives
  refine wp_while (fun (s : Sl × Int × Unit) h' => Ext h h' ∧ 0 ≤ s.2.1 ∧ s.2.1 ≤ l.length ∧ OwnL h.size k h' s.1 (l.take s.2.1.toNat)) (fun s _ => l.length - s.2.1.toNat)
    (fun t vs h' => t = 2 ∧ ∃ x : Sl × Unit, vs = Ts.inj [.one .sl] x ∧ Ext h h' ∧ OwnL h.size k h' x.1 l) ⟨Ext.refl h, by simp, by simp, OwnL.nil ..⟩ ?_ ?_
  · rintro ⟨s, (i : Int), u⟩ h' ⟨e, h0, h1, ho⟩
    dsimp only at h0 h1 ho ⊢
    refine wp_ifB (fun hc => ?_) fun hc => ?_
    · rw [ltI_iff, natI_def, hlen] at hc
      refine s_at (hb.ext e) h0 hc fun hf => s_push ho e.size hf ?_ ?_ fun r h2 k2 o2 _ _ => ?_
      · refine Nat.le_trans (Nat.mul_le_mul_right _ ?_) hroom
        rw [List.length_take]; omega
      · rw [List.length_take]; omega
      · rw [add_ok (by omega) (by omega)]
        refine s_ret ⟨fun _ => ⟨(r, i + 1, ()), rfl, ⟨Keep.trans e k2, by dsimp only; omega, by dsimp only; omega, ?_⟩, by dsimp only; omega⟩, fun h => absurd rfl h⟩
        have : l.take (i + 1).toNat = l.take i.toNat ++ [l.getD i.toNat 0] := by
          rw [show (i + 1).toNat = i.toNat + 1 by omega, List.take_add_one, List.getD_eq_getElem?_getD, List.getElem?_eq_getElem (by omega)]; rfl
        dsimp only
        rw [this]; exact o2
    · rw [ltI_not, natI_def, hlen] at hc
      refine s_ret ⟨fun h => absurd h (by decide), fun _ => ⟨rfl, (s, ()), rfl, e, ?_⟩⟩
      rw [List.take_of_length_le (by omega)] at ho; exact ho
  · rintro t vs h' ⟨ht, x, hv, e, ho⟩
    exact s_exit ht x hv ⟨rfl, e, x, rfl, ho⟩

theorem c_copyBytes {b : Sl} {l : List Int} (hb : Lst .u8 h b l) (hroom : l.length ≤ 140737488355328) :
    Gives P (F_law1_copyBytes S b) [.one .sl] h fun (x : Sl × Unit) h' => OwnL h.size .u8 h' x.1 l := c_copyP (bytes := 1) hb (by omega)
theorem c_copyInts {b : Sl} {l : List Int} (hb : Lst .i64 h b l) (hroom : l.length * 8 ≤ 140737488355328) :
    Gives P (F_law1_copyInts S b) [.one .sl] h fun (x : Sl × Unit) h' => OwnL h.size .i64 h' x.1 l := c_copyP (bytes := 8) hb hroom

/-! ### Lists that are lent -/

/-- The marks from place i on. -/
def marks (M : Int → Int) (i n : Nat) : List Int := (List.range' i n).map fun (j : Nat) => M (j : Int)
theorem marks_len (M : Int → Int) (i n : Nat) : (marks M i n).length = n := by simp [marks]
theorem marks_succ (M : Int → Int) (i n : Nat) : marks M i (n + 1) = marks M i n ++ [M ((i + n : Nat) : Int)] := by simp [marks, List.range'_concat]
theorem marks_at (M : Int → Int) (l : List Int) (n j : Nat) (h1 : l.length ≤ j) (h2 : j < l.length + n) : (l ++ marks M l.length n).getD j 0 = M (j : Int) := by
  rw [List.getD_eq_getElem?_getD, List.getElem?_append_right h1, marks, List.getElem?_map, List.getElem?_range' (by omega)]
  simp; congr 1; omega

def lendP (k : IntKind) (bytes : Nat) (v0 : Int) (M : Int → Int) (b : Sl) : Prog :=
  .call (copyP k bytes b) [(Ty.one B.sl)] fun (r1 : (Sl × Unit)) =>
  .bind
    (.loop [(Ty.one B.sl), (Ty.one (B.int IntKind.i64))] (r1.1, ((0 : Int), ())) fun (r24 : (Sl × (Int × Unit))) =>
      ifB (ltI r24.2.1 40)
        (.alloc [(Value.int k v0)] fun (a25 : Addr) =>
        .append 1 bytes [(Value.int k 0)] r24.1 (⟨(Option.some a25), 1, 1⟩) fun (l26 : Sl) =>
        .ret 0 [(Value.slice l26.base l26.len l26.cap), (Value.int IntKind.i64 (addI IntKind.i64 r24.2.1 1))]) <|
      .ret 2 [(Value.slice r24.1.base r24.1.len r24.1.cap)]) fun (k27 : Nat) =>
  fun (vs28 : (List Value)) =>
  ifB (eqN k27 2)
    (.cast [(Ty.one B.sl)] vs28 fun (r29 : (Sl × Unit)) =>
    grd (leB (natI r29.1.cap) r29.1.cap) <|
    .bind
      (.loop [(Ty.one (B.int IntKind.i64))] ((natI b.len), ()) fun (r36 : (Int × Unit)) =>
        ifB (ltI r36.1 (natI (subN (toN (natI r29.1.cap)) 0)))
          (grd (andB (someB (cutBase r29.1.base r29.1.cap 0 1)) (inB r36.1 (subN (toN (natI r29.1.cap)) 0))) <|
          .store (shiftTo (cutBase r29.1.base r29.1.cap 0 1) (mulN (toN r36.1) 1)) [(Value.int k (M r36.1))] <|
          .ret 0 [(Value.int IntKind.i64 (addI IntKind.i64 r36.1 1))]) <|
        .ret 4 []) fun (k37 : Nat) =>
    fun (vs38 : (List Value)) =>
    ifB (eqN k37 4)
      (.cast [] vs38 fun (u39 : Unit) =>
      .ret 0 [(Value.slice (cutBase r29.1.base r29.1.cap 0 1) (subN (toN (natI r29.1.cap)) 0) (subN r29.1.cap 0))]) <|
    .fail) <|
  .fail

/-- A list with marks behind it, in memory of one's own. -/
def Lent (n : Nat) (k : IntKind) (M : Int → Int) (l : List Int) (x : Sl × Unit) (h' : Heap) : Prop :=
  l.length + 40 ≤ x.1.cap ∧ x.1.len = x.1.cap ∧ OwnL n k h' x.1 (l ++ marks M l.length (x.1.cap - l.length))

theorem natTo (c : Nat) : toN (natI c) = c := by simp [toN, natI]
theorem subZero (c : Nat) : subN c 0 = c := rfl

theorem c_lendP {k : IntKind} {bytes : Nat} {v0 : Int} {M : Int → Int} {b : Sl} {l : List Int} (hb : Lst k h b l) (hroom : (l.length + 40) * bytes ≤ 140737488355328) (h1b : 1 ≤ bytes) (hv : fitsI k v0) (hM : ∀ i, fitsI k (M i)) :
    Gives P (lendP k bytes v0 M b) [.one .sl] h (Lent h.size k M l) := by
  have hlen := hb.len
  have hbd : l.length + 40 ≤ 140737488355328 := Nat.le_trans (Nat.le_mul_of_pos_right _ h1b) hroom
  unfold lendP
  refine wp_call (c_copyP hb (Nat.le_trans (Nat.mul_le_mul_right _ (by omega)) hroom)) fun x h1 e1 ho => ?_
  refine wp_while (fun (s : Sl × Int × Unit) h' => Ext h h' ∧ 0 ≤ s.2.1 ∧ s.2.1 ≤ 40 ∧ ∃ m : List Int, m.length = s.2.1.toNat ∧ OwnL h.size k h' s.1 (l ++ m)) (fun s _ => 40 - s.2.1.toNat)
    (fun t vs h' => t = 2 ∧ ∃ x : Sl × Unit, vs = Ts.inj [.one .sl] x ∧ Ext h h' ∧ ∃ m : List Int, m.length = 40 ∧ OwnL h.size k h' x.1 (l ++ m)) ⟨e1, by simp, by simp, [], by simp, by simpa using ho⟩ ?_ ?_
  · rintro ⟨s, (i : Int), u⟩ h' ⟨e, h0, h1, m, hm, ho⟩
    dsimp only at h0 h1 hm ho ⊢
    refine wp_ifB (fun hc => ?_) fun hc => ?_
    · rw [ltI_iff] at hc
      refine s_push ho e.size hv ?_ ?_ fun r h2 k2 o2 _ _ => ?_
      · refine Nat.le_trans (Nat.mul_le_mul_right _ ?_) hroom
        rw [List.length_append]; omega
      · rw [List.length_append]; omega
      · rw [add_ok (by omega) (by omega)]
        refine s_ret ⟨fun _ => ⟨(r, i + 1, ()), rfl, ⟨Keep.trans e k2, by dsimp only; omega, by dsimp only; omega, m ++ [v0], by rw [List.length_append]; simp; omega, by simpa using o2⟩, by dsimp only; omega⟩, fun h => absurd rfl h⟩
    · rw [ltI_not] at hc
      exact s_ret ⟨fun h => absurd h (by decide), fun _ => ⟨rfl, (s, ()), rfl, e, m, by omega, ho⟩⟩
  · rintro t vs h2 ⟨ht, ⟨y, u⟩, hv, e2, m, hm, ho⟩
    refine s_exit ht (y, ()) hv ?_
    have hyl := ho.len
    rw [List.length_append] at hyl
    have hcap := ho.own.2.1
    have hmax := ho.own.2.2.1
    simp only [cutBase_zero, subZero, natTo]
    dsimp only at hyl hcap hmax ⊢
    refine s_grd (leB_ok (by rw [natI_def]; omega) (by rw [natI_def]; omega)) ?_
    refine wp_while (fun (s : Int × Unit) h' => Ext h h' ∧ l.length ≤ s.1.toNat ∧ 0 ≤ s.1 ∧ s.1 ≤ y.cap ∧ OwnL h.size k h' ⟨y.base, s.1.toNat, y.cap⟩ (l ++ marks M l.length (s.1.toNat - l.length))) (fun s _ => y.cap - s.1.toNat)
      (fun t vs h' => t = 4 ∧ vs = [] ∧ Ext h h' ∧ OwnL h.size k h' ⟨y.base, y.cap, y.cap⟩ (l ++ marks M l.length (y.cap - l.length))) ⟨e2, by simp [natI, hlen], by simp [natI], by simp only [natI]; omega, ?_⟩ ?_ ?_
    · simp only [natI_def, hlen, Int.toNat_natCast, Nat.sub_self]
      simpa [marks] using ho.pre
    · rintro ⟨(i : Int), u⟩ h' ⟨e, hl0, h0, h1, ho⟩
      dsimp only at hl0 h0 h1 ho ⊢
      refine wp_ifB (fun hc => ?_) fun hc => ?_
      · rw [ltI_iff, natI_def] at hc
        obtain ⟨i, rfl⟩ := Int.eq_ofNat_of_zero_le h0
        rw [Int.toNat_natCast] at ho hl0
        refine s_fill ho (by omega) (hM _) fun h3 o3 u3 z3 => ?_
        rw [add_ok (by omega) (by omega)]
        have hk3 : Keep h.size h' h3 := Upd.ext_of u3 (fun a ha => (ho.own.lt ha).1) e.size
        refine s_ret ⟨fun _ => ⟨((i : Int) + 1, ()), rfl, ⟨Keep.trans e hk3, by dsimp only; omega, by dsimp only; omega, by dsimp only; omega, ?_⟩, by dsimp only; omega⟩, fun h => absurd rfl h⟩
        dsimp only
        rw [show ((i : Int) + 1).toNat = i + 1 by omega, show i + 1 - l.length = (i - l.length) + 1 by omega, marks_succ, show l.length + (i - l.length) = i by omega, ← List.append_assoc]
        exact o3
      · rw [ltI_not, natI_def] at hc
        have : i.toNat = y.cap := by omega
        rw [this] at ho
        exact s_ret ⟨fun h => absurd h (by decide), fun _ => ⟨rfl, rfl, e, ho⟩⟩
    · rintro t vs h3 ⟨ht, hv, e3, ho⟩
      exact s_exit ht () hv ⟨rfl, e3, (⟨y.base, y.cap, y.cap⟩, ()), rfl, by dsimp only; omega, rfl, ho⟩

def markB (i : Int) : Int := wrapI IntKind.u8 (addI IntKind.i64 167 i)
def markI (i : Int) : Int := subI IntKind.i64 (-71) i
theorem c_lend {b : Sl} {l : List Int} (hb : Lst .u8 h b l) (hroom : l.length + 40 ≤ 140737488355328) : Gives P (F_law1_lend S b) [.one .sl] h (Lent h.size .u8 markB l) :=
  c_lendP (bytes := 1) (v0 := 167) (M := markB) hb (by omega) (by decide) (fits_u8.2 (by decide)) fun i => range_u8 _
theorem c_lendInts {b : Sl} {l : List Int} (hb : Lst .i64 h b l) (hroom : (l.length + 40) * 8 ≤ 140737488355328) : Gives P (F_law1_lendInts S b) [.one .sl] h (Lent h.size .i64 markI l) :=
  c_lendP (bytes := 8) (v0 := -71) (M := markI) hb (by omega) (by decide) (fits_i64.2 (by decide)) fun i => range_i64 _

/-! ### Lists that are held against one another -/

theorem toList_loop (l : List UInt8) : ∀ (n i : Nat) (r : List UInt8), l.length - i = n → ByteArray.toList.loop ⟨l.toArray⟩ i r = r.reverse ++ l.drop i := by
  intro n
  induction n with
  | zero =>
    intro i r h
    unfold ByteArray.toList.loop
    rw [if_neg (by show ¬ i < l.toArray.size; simp; omega), List.drop_eq_nil_of_le (by omega)]; simp
  | succ n ih =>
    intro i r h
    unfold ByteArray.toList.loop
    rw [if_pos (by show i < l.toArray.size; simp; omega), ih _ _ (by omega)]
    have : (ByteArray.mk l.toArray).get! i = l[i]'(by omega) := by
      show l.toArray[i]! = _
      rw [getElem!_pos _ i (by simp; omega)]; simp
    rw [this, List.reverse_cons, List.append_assoc, List.drop_eq_getElem_cons (i := i) (by omega)]; rfl
theorem byteArray_toList (l : List UInt8) : (ByteArray.mk l.toArray).toList = l := by
  show ByteArray.toList.loop ⟨l.toArray⟩ 0 [] = l
  rw [toList_loop l l.length 0 [] (Nat.sub_zero _)]; simp

def toB (l : List Int) : List UInt8 := l.map fun x => UInt8.ofNat x.toNat
theorem toB_back {l : List Int} (h : ∀ x, x ∈ l → fitsI .u8 x) : (toB l).map (fun b => Value.int .u8 b.toNat) = l.map (.int .u8) := by
  induction l with
  | nil => rfl
  | cons x l ih =>
    have hx := fits_u8.1 (h x (List.mem_cons_self ..))
    have := ih fun y hy => h y (List.mem_cons_of_mem _ hy)
    simp only [toB, List.map_cons, List.map_map] at this ⊢
    rw [this]
    congr 2
    simp only [UInt8.toNat_ofNat']
    omega
theorem toB_inj {l m : List Int} (h : ∀ x, x ∈ l → fitsI .u8 x) (h' : ∀ x, x ∈ m → fitsI .u8 x) (e : toB l = toB m) : l = m := by
  have := congrArg (List.map fun b : UInt8 => Value.int .u8 b.toNat) e
  rw [toB_back h, toB_back h'] at this
  exact List.map_inj_right (f := Value.int .u8) (fun x y e => by injection e) |>.1 this

theorem s_bytes {x : Sl} {l : List Int} {K : ByteArray → Prog} (hr : Lst .u8 h x l) (hk : wp P (K ⟨(toB l).toArray⟩) h Q) : wp P (.bytes x K) h Q := by
  refine ⟨toB l, ?_, hk⟩
  rw [toB_back hr.wf]
  have := Rd.firsts hr.rd
  simpa using this

theorem eqS_is {l m : List Int} (h : ∀ x, x ∈ l → fitsI .u8 x) (h' : ∀ x, x ∈ m → fitsI .u8 x) : eqS ⟨(toB l).toArray⟩ ⟨(toB m).toArray⟩ = decide (l = m) := by
  unfold eqS
  rw [byteArray_toList, byteArray_toList]
  by_cases e : l = m
  · subst e; simp
  · have : toB l ≠ toB m := fun e' => e (toB_inj h h' e')
    simp [e, this]

theorem c_sameBytes {a b : Sl} {l m : List Int} (ha : Lst .u8 h a l) (hb : Lst .u8 h b m) : Gives P (F_law1_sameBytes S a b) [.one .bool] h fun (x : Bool × Unit) _ => x.1 = decide (l = m) := by
  unfold F_law1_sameBytes Gives
  refine s_bytes ha (s_bytes hb (s_ret ?_))
  exact ⟨rfl, Ext.refl h, (_, ()), rfl, eqS_is ha.wf hb.wf⟩

theorem take_eq_succ {l m : List Int} {i : Nat} (hl : i < l.length) (hm : i < m.length) (h : l.take i = m.take i) (he : l.getD i 0 = m.getD i 0) : l.take (i + 1) = m.take (i + 1) := by
  rw [List.take_add_one, List.take_add_one, h]
  rw [List.getD_eq_getElem?_getD, List.getD_eq_getElem?_getD, List.getElem?_eq_getElem hl, List.getElem?_eq_getElem hm] at he
  rw [List.getElem?_eq_getElem hl, List.getElem?_eq_getElem hm]
  simp at he
  rw [he]

theorem c_sameInts {a b : Sl} {l m : List Int} (ha : Lst .i64 h a l) (hb : Lst .i64 h b m) : Gives P (F_law1_sameInts S a b) [.one .bool] h fun (x : Bool × Unit) _ => x.1 = decide (l = m) := by
  have hla := ha.len
  have hlb := hb.len
  have hbd := ha.bound
  unfold F_law1_sameInts Gives
  refine wp_ifB (fun hc => ?_) fun hc => ?_
  · rw [neI_iff, natI_def, natI_def, hla, hlb] at hc
    refine s_ret ⟨rfl, Ext.refl h, (_, ()), rfl, ?_⟩
    have : l ≠ m := fun e => hc (by rw [e])
    show Bool.false = _
    simp [this]
  rw [neI_not, natI_def, natI_def, hla, hlb] at hc
  refine wp_while (fun (s : Int × Unit) h' => h' = h ∧ 0 ≤ s.1 ∧ s.1 ≤ l.length ∧ l.take s.1.toNat = m.take s.1.toNat) (fun s _ => l.length - s.1.toNat)
    (fun t vs h' => h' = h ∧ (t = 2 ∧ vs = [] ∧ l = m ∨ t = 1 ∧ vs = [.bool Bool.false] ∧ l ≠ m)) ⟨rfl, by simp, by simp, by simp⟩ ?_ ?_
  · rintro ⟨(i : Int), u⟩ h' ⟨rfl, h0, h1, ht⟩
    dsimp only at h0 h1 ht ⊢
    refine wp_ifB (fun hc => ?_) fun hc => ?_
    · rw [ltI_iff, natI_def, hla] at hc
      refine s_at ha h0 (by omega) fun _ => s_at hb h0 (by omega) fun _ => wp_ifB (fun hn => ?_) fun hn => ?_
      · rw [neI_iff] at hn
        exact s_ret ⟨fun h => absurd h (by decide), fun _ => ⟨rfl, .inr ⟨rfl, rfl, fun e => hn (by rw [e])⟩⟩⟩
      · rw [neI_not] at hn
        rw [add_ok (by omega) (by omega)]
        refine s_ret ⟨fun _ => ⟨(i + 1, ()), rfl, ⟨rfl, by dsimp only; omega, by dsimp only; omega, ?_⟩, by dsimp only; omega⟩, fun h => absurd rfl h⟩
        dsimp only
        rw [show (i + 1).toNat = i.toNat + 1 by omega]
        exact take_eq_succ (by omega) (by omega) ht hn
    · rw [ltI_not, natI_def, hla] at hc
      refine s_ret ⟨fun h => absurd h (by decide), fun _ => ⟨rfl, .inl ⟨rfl, rfl, ?_⟩⟩⟩
      rwa [List.take_of_length_le (by omega), List.take_of_length_le (by omega)] at ht
  · rintro t vs h' ⟨rfl, ⟨ht, hv, e⟩ | ⟨ht, hv, e⟩⟩
    · exact s_exit ht () hv ⟨rfl, Ext.refl _, (_, ()), rfl, by show Bool.true = _; simp [e]⟩
    · exact s_skip (by omega) (s_exit ht (Bool.false, ()) hv ⟨rfl, Ext.refl _, (_, ()), rfl, by show Bool.false = _; simp [e]⟩)

theorem lent_take {n : Nat} {k : IntKind} {M : Int → Int} {l : List Int} {x : Sl × Unit} (hl : Lent n k M l x h) (m : Nat) (hm : l.length ≤ m) (hm' : m < 2 ^ 63) : Lst k h ⟨x.1.base, l.length, m⟩ l := by
  have := hl.2.2.lst.take (n := l.length) (m := m) (by rw [List.length_append]; omega) hm hm'
  simpa using this

theorem c_kept {n : Nat} {b : Sl} {l : List Int} {x : Sl × Unit} (hc : Lent n .u8 markB l x h) (hb : Lst .u8 h b l) : Gives P (F_law1_kept S x.1 b) [.one .bool] h fun (x : Bool × Unit) _ => x.1 = Bool.true := by
  obtain ⟨c1, c2, c3⟩ := hc
  have hlb := hb.len
  have hcl := c3.lst
  have hmax := c3.own.2.2.1
  have hlen := c3.len
  rw [List.length_append, marks_len] at hlen
  unfold F_law1_kept Gives
  refine wp_while (fun (s : Int × Unit) h' => h' = h ∧ l.length ≤ s.1 ∧ s.1 ≤ x.1.len) (fun s _ => x.1.len - s.1.toNat)
    (fun t vs h' => h' = h ∧ t = 2 ∧ vs = []) ⟨rfl, by simp [natI, hlb], by simp only [natI_def]; omega⟩ ?_ ?_
  · rintro ⟨(i : Int), u⟩ h' ⟨rfl, h0, h1⟩
    dsimp only at h0 h1 ⊢
    refine wp_ifB (fun hc => ?_) fun hc => ?_
    · rw [ltI_iff, natI_def] at hc
      refine s_at hcl (by omega) (by rw [List.length_append, marks_len]; omega) fun _ => wp_ifB (fun hn => ?_) fun hn => ?_
      · rw [neI_iff, marks_at _ _ _ _ (by omega) (by omega), Int.toNat_of_nonneg (by omega)] at hn
        exact absurd rfl hn
      · rw [add_ok (by omega) (by omega)]
        exact s_ret ⟨fun _ => ⟨(i + 1, ()), rfl, ⟨rfl, by dsimp only; omega, by dsimp only; omega⟩, by dsimp only; omega⟩, fun h => absurd rfl h⟩
    · exact s_ret ⟨fun h => absurd h (by decide), fun _ => ⟨rfl, rfl, rfl⟩⟩
  · rintro t vs h' ⟨rfl, ht, hv⟩
    refine s_exit ht () hv ?_
    rw [add_ok (by rw [natI_def]; omega) (by rw [natI_def]; omega)]
    refine s_bind (wp_ifB (fun hc => ?_) fun hc => ?_)
    · refine s_grd (leB_ok (by rw [natI_def]; omega) (by rw [natI_def]; omega)) ?_
      simp only [cutBase_zero, subZero, natTo, hlb]
      refine s_bytes (lent_take ⟨c1, c2, c3⟩ _ (by omega) (by omega)) (s_bytes hb (s_ret ?_))
      refine s_exit rfl (_, ()) rfl ⟨rfl, Ext.refl _, (_, ()), rfl, ?_⟩
      show eqS _ _ = Bool.true
      rw [eqS_is hb.wf hb.wf]; simp
    · rw [geI_not, natI_def, natI_def] at hc
      omega

theorem c_keptInts {n : Nat} {b : Sl} {l : List Int} {x : Sl × Unit} (hc : Lent n .i64 markI l x h) (hb : Lst .i64 h b l) : Gives P (F_law1_keptInts S x.1 b) [.one .bool] h fun (x : Bool × Unit) _ => x.1 = Bool.true := by
  obtain ⟨c1, c2, c3⟩ := hc
  have hlb := hb.len
  have hcl := c3.lst
  have hmax := c3.own.2.2.1
  have hlen := c3.len
  rw [List.length_append, marks_len] at hlen
  unfold F_law1_keptInts Gives
  refine wp_while (fun (s : Int × Unit) h' => h' = h ∧ l.length ≤ s.1 ∧ s.1 ≤ x.1.len) (fun s _ => x.1.len - s.1.toNat)
    (fun t vs h' => h' = h ∧ t = 2 ∧ vs = []) ⟨rfl, by simp [natI, hlb], by simp only [natI_def]; omega⟩ ?_ ?_
  · rintro ⟨(i : Int), u⟩ h' ⟨rfl, h0, h1⟩
    dsimp only at h0 h1 ⊢
    refine wp_ifB (fun hc => ?_) fun hc => ?_
    · rw [ltI_iff, natI_def] at hc
      refine s_at hcl (by omega) (by rw [List.length_append, marks_len]; omega) fun _ => wp_ifB (fun hn => ?_) fun hn => ?_
      · rw [neI_iff, marks_at _ _ _ _ (by omega) (by omega), Int.toNat_of_nonneg (by omega)] at hn
        exact absurd rfl hn
      · rw [add_ok (by omega) (by omega)]
        exact s_ret ⟨fun _ => ⟨(i + 1, ()), rfl, ⟨rfl, by dsimp only; omega, by dsimp only; omega⟩, by dsimp only; omega⟩, fun h => absurd rfl h⟩
    · exact s_ret ⟨fun h => absurd h (by decide), fun _ => ⟨rfl, rfl, rfl⟩⟩
  · rintro t vs h' ⟨rfl, ht, hv⟩
    refine s_exit ht () hv ?_
    rw [add_ok (by rw [natI_def]; omega) (by rw [natI_def]; omega)]
    refine s_bind (wp_ifB (fun hc => ?_) fun hc => ?_)
    · refine s_grd (leB_ok (by rw [natI_def]; omega) (by rw [natI_def]; omega)) ?_
      simp only [cutBase_zero, subZero, natTo, hlb]
      refine wp_call (c_sameInts (lent_take ⟨c1, c2, c3⟩ _ (by omega) (by omega)) hb) fun y h2 e2 hy => s_ret ?_
      refine s_exit rfl (_, ()) rfl ⟨rfl, e2, (_, ()), rfl, ?_⟩
      have hy : y.1 = decide (l = l) := hy
      show y.1 = Bool.true
      rw [hy]; simp
    · rw [geI_not, natI_def, natI_def] at hc
      omega

/-- The same memory, written over. -/
theorem c_turned {m : Nat} {c : Sl} {n : Nat} {L : List Int} (hc : OwnL m .u8 h c L) (hm : m ≤ h.size) (hn : n ≤ L.length) (hroom : n ≤ 140737488355328) :
    GivesN m P (F_law1_turned S c (n : Int)) [.one .sl] h fun (x : Sl × Unit) h' => ∃ l' : List Int, l'.length = n ∧ OwnL m .u8 h' c (l' ++ L.drop n) ∧ Lst .u8 h' x.1 l' := by
  have hlen := hc.len
  have hcap := hc.own.2.1
  have hmax := hc.own.2.2.1
  unfold F_law1_turned GivesN
  refine wp_while (fun (s : Int × Unit) h' => Keep m h h' ∧ 0 ≤ s.1 ∧ s.1 ≤ n ∧ ∃ l' : List Int, l'.length = n ∧ OwnL m .u8 h' c (l' ++ L.drop n)) (fun s _ => n - s.1.toNat)
    (fun t vs h' => t = 2 ∧ vs = [] ∧ Keep m h h' ∧ ∃ l' : List Int, l'.length = n ∧ OwnL m .u8 h' c (l' ++ L.drop n)) ⟨Keep.refl _ _, by simp, by simp, L.take n, by simp; omega, by rw [List.take_append_drop]; exact hc⟩ ?_ ?_
  · rintro ⟨(i : Int), u⟩ h' ⟨k, h0, h1, l', hl', ho⟩
    dsimp only at h0 h1 ⊢
    refine wp_ifB (fun hc => ?_) fun hc => ?_
    · rw [ltI_iff] at hc
      have hlt : (i : Int) < (l' ++ L.drop n).length := by rw [List.length_append]; omega
      refine s_at ho.lst h0 hlt fun _ => s_not (s_set ho h0 hlt (range_u8 _) fun h2 o2 u2 z2 => ?_)
      rw [add_ok (by omega) (by omega)]
      refine s_ret ⟨fun _ => ⟨(i + 1, ()), rfl, ⟨Keep.trans k (Upd.ext_of u2 (fun a ha => (ho.own.lt ha).1) (by have := k.1; omega)), by dsimp only; omega, by dsimp only; omega, ?_⟩, by dsimp only; omega⟩, fun h => absurd rfl h⟩
      rw [List.set_append_left i.toNat _ (by omega)] at o2
      exact ⟨_, by simpa using hl', o2⟩
    · exact s_ret ⟨fun h => absurd h (by decide), fun _ => ⟨rfl, rfl, k, l', hl', ho⟩⟩
  · rintro t vs h' ⟨ht, hv, k, l', hl', ho⟩
    refine s_exit ht () hv (s_grd (leB_ok (by omega) (by omega)) ?_)
    simp only [cutBase_zero, subZero, toN_def, Int.toNat_natCast]
    have hl := ho.lst.take (n := n) (m := c.cap) (by rw [List.length_append]; omega) (by omega) (by omega)
    rw [List.take_left' hl'] at hl
    refine wp_call (c_copyBytes hl (by omega)) fun y h2 e2 hy => s_ret ⟨rfl, Keep.trans k (e2.keep (by have := k.1; omega)), (_, ()), rfl, l', hl', ho.ext e2, hy.lst⟩
end Go.Sw.Codec
