/-
  A text: a range over its pieces; Bytes.
-/
import Derived.Test.YtjhnjehmbgaciaaSwG2
set_option linter.unusedVariables false
set_option linter.unusedSimpArgs false
set_option maxRecDepth 100000
namespace Go.Sw.Piece
open Go.Sw.Any Go.Sw.Codec
open Go.Sw.Tree (iv s_putAll s_newP s_getP s_getT s_putP eqI_self Placed cell_own cell_upd1 wp_whileG minI_eq)
variable {P : Program} {S : Ids} {h : Heap} {Q : Nat → List Value → Heap → Prop}

/-- The function values of a text. -/
structure Cl (P : Program) (S : Ids) : Prop where
  it : ∀ (y : Value) (a b : Option Addr), Dyn P (.func (.func S.f_Tree_part_Items_1) #[] #[.pointer a, .pointer b]) [y] (F_Tree_part_Items_1 S y a b)
  wk : ∀ (p : Option Addr) (i : Int) (a b : Option Addr), Dyn P (.func (.func S.f_Tree_part_Items_1_1) #[] #[.pointer a, .pointer b]) [.pointer p, iv i] (F_Tree_part_Items_1_1 S p i a b)
  atoms : ∀ (a t : Int) (p : Option Addr), Dyn P (.func (.func S.f_Text_Atoms_1) #[] #[.pointer p]) [iv a, iv t] (F_Text_Atoms_1 S a t p)
  tags : ∀ (a t : Int) (p : Option Addr), Dyn P (.func (.func S.f_Text_Tags_1) #[] #[.pointer p]) [iv a, iv t] (F_Text_Tags_1 S a t p)
  chunks : ∀ (y : Value) (a b : Option Addr), Dyn P (.func (.func S.f_Text_Chunks_1) #[] #[.pointer a, .pointer b]) [y] (F_Text_Chunks_1 S y a b)
theorem Cl.clos (C : Cl P S) (Z : Nat → Prop) : Clos P (part S Z) := ⟨fun y a b => C.it y a b, fun p i a b => C.wk p i a b⟩

/-- An iterator over pieces from the i-th on: its cells. -/
structure ItR (h : Heap) (root : Option Addr) (i : Int) (a b : Addr) : Prop where
  ca : Sw.cell h a = some (.pointer root)
  cb : Sw.cell h b = some (iv i)
theorem c_ItemsF {p : Option Addr} {i : Int} : Gives P (F_Tree_part_Items S (p, ()) i) [.one .any] h fun (y : Value × Unit) h' => ∃ a b, y.1 = .func (.func S.f_Tree_part_Items_1) #[] #[.pointer (some a), .pointer (some b)] ∧ ItR h' p i a b ∧ h.size ≤ a.block ∧ h.size ≤ b.block := by
  unfold F_Tree_part_Items Gives
  refine s_newP p fun h1 e1 o1 => fun el => ?_
  have e2 : Ext h1 (h1.push (.cells [iv i].toArray el)) := Ext.push ..
  have q2 : Own h1.size 1 (h1.push (.cells [iv i].toArray el)) ⟨some ⟨h1.size, 0, none⟩, 1, 1⟩ [iv i] := own_alloc rfl (by decide) (by decide)
  generalize (h1.push (.cells [iv i].toArray el)) = h2 at e2 q2 ⊢
  exact s_ret ⟨rfl, e1.trans e2, (_, ()), rfl, _, _, rfl, ⟨cell_own (o1.ext e2), cell_own q2⟩, Nat.le_refl _, e1.size⟩

/-- A range over a text's pieces, from the i-th on. -/
theorem wp_rangeP (C : Cl P S) {n : Nat} {T : TX} {i : Int} {a b : Addr} {body : Option Addr × Unit → Prog} {K : Nat → Prog} (t : TextR S n h T) (hi : fitsI .i64 i) (it : ItR h T.cur.root i a b) (J : Nat → Heap → Prop) (F : Nat → Heap → Prop)
    (sJ : ∀ k a b, J k a → Chg (own h.size 4) a b → J k b) (sF : ∀ k a b, F k a → Chg (own h.size 4) a b → F k b)
    (hr : ∀ k q h1 c, (T.cur.ps.drop i.toNat)[k]? = some q → J k h1 → h.size + 4 ≤ h1.size → OwnP (h.size + 4) h1 c q.1 → wp P (body (some c, ())) h1 fun tag _ h2 => Held (fun i => own h.size 4 i ∨ ((T.Z i ∨ i = a.block ∨ i = b.block) ∧ i < h.size)) h1 h2 ∧ (tag = 0 → J (k + 1) h2) ∧ (tag ≠ 0 → F tag h2))
    (j0 : J 0 h)
    (hk : ∀ j h5, h.size + 2 ≤ h5.size → (j = 0 ∧ J (T.cur.ps.drop i.toNat).length h5 ∨ j ≠ 0 ∧ F j h5) → wp P (K j) h5 fun t vs h6 => Held (own h.size 1) h5 h6 ∧ ∀ h7, Chg (own h.size 1) h6 h7 → h7.size = h6.size → Q t vs h7) :
    wp P (.range (.func (.func S.f_Tree_part_Items_1) #[] #[.pointer (some a), .pointer (some b)]) [.agg PB] [.one .ptr] (fun (r : Part × Unit) =>
      .alloc (Bs.inj PB zP) fun (c : Addr) => .store (some c) (Bs.inj PB r.1) <| .ret 0 [.pointer (some c)]) body K) h Q := by
  let Z : Nat → Prop := fun i => T.Z i ∨ i = a.block ∨ i = b.block
  have nd : Nd (part S Z) h T.cur.root T.cur.t := part_mono t.cur.nd fun _ _ h => .inl h
  have itg := iter_items (part_ok S Z (P := P)) (C.clos Z) nd (Nat.le_of_lt (t.cur.room t.lim.2)) hi it.ca it.cb (.inr (.inl rfl)) (.inr (.inr rfl))
  refine wp_range (A := AL (part S Z) (T.cur.t.list.drop i.toNat)) (N := (T.cur.t.list.drop i.toNat).length) (Z := Z) (m := 2) (h0 := h) itg (Held.refl _ _) J F sJ sF (fun k hp h1 args ⟨r, _, e⟩ => ⟨(r, ()), e⟩) ?_ j0 ?_
  · rintro k hp h1 ⟨x, u⟩ hkN j hps c hs1 hz1 ⟨r, hrr, hre⟩
    have hx : Bs.inj PB x = Bs.inj PB r := by
      have h1 := congrArg (fun l => l.head?) hre
      simp only [Ts.inj, List.head?_cons, Option.some.injEq] at h1
      have h2 : (Value.agg (Bs.inj PB x).toArray) = Value.agg (Bs.inj PB r).toArray := h1
      injection h2 with h2
      exact List.toArray_inj h2
    dsimp only
    rw [hx]
    have hq : ∃ q, (T.cur.ps.drop i.toNat)[k]? = some q ∧ r = q.1 := by
      have h1 : (T.cur.t.list.drop i.toNat)[k]? = some r := hrr
      rw [t.cur.ls, ← List.map_drop, List.getElem?_map] at h1
      cases hq : (T.cur.ps.drop i.toNat)[k]? with
      | none => rw [hq] at h1; cases h1
      | some q => rw [hq] at h1; exact ⟨q, rfl, (Option.some.inj h1).symm⟩
    obtain ⟨q, hq, rfl⟩ := hq
    refine s_newO (bs := PB) zP (by decide) fun h2 e2 o2 => s_stoO (bs := PB) q.1 o2 (flatP _) fun h3 o3 u3 => s_ret ⟨rfl, (some ⟨h1.size, 0, none⟩, ()), rfl, ?_, fun h3' c3 hs3 => ?_⟩
    · exact Held.of_ext (Upd.extN e2 u3 (by intro z hz; cases hz; exact Nat.le_refl _))
    · have e13 : Ext h1 h3 := Upd.extN e2 u3 (by intro z hz; cases hz; exact Nat.le_refl _)
      refine hr k q h3' _ hq ?_ (by have := e13.size; omega) ((c3.own o3 fun z hz hw => by cases hz; have := hw.2; dsimp only at this; omega).mono (by omega))
      exact sJ _ _ _ (sJ _ _ _ (sJ _ _ _ j c) (Chg.of_ext e13)) c3
  · intro j h5 hs5 hz5 hx
    refine hk j h5 hs5 ?_
    have : (T.cur.t.list.drop i.toNat).length = (T.cur.ps.drop i.toNat).length := by rw [t.cur.ls, List.length_drop, List.length_drop, List.length_map]
    rw [← this]; exact hx

/-- copy into the middle of a list of one's own. -/
theorem s_copyAt {n : Nat} {k : IntKind} {s x : Sl} {pre mid post l : List Int} {i : Nat} {K : Nat → Prog} (ho : OwnL n k h s (pre ++ mid ++ post)) (hx : Lst k h x l) (hl : l.length = mid.length) (h0 : 0 < l.length) (hi : i = pre.length)
    (hk : ∀ h', OwnL n k h' s (pre ++ l ++ post) → Upd s h h' → h'.size = h.size → wp P (K l.length) h' Q) : wp P (.copy 1 ⟨cutBase s.base s.cap i 1, subN s.len i, subN s.cap i⟩ x K) h Q := by
  subst hi
  have hxl := hx.len
  have hsl := ho.len
  simp only [List.length_append] at hsl
  obtain ⟨o1, o2, o3, o4⟩ := ho.own
  cases hb : s.base with
  | none => rw [hb] at o4; simp only at o4; omega
  | some a =>
    rw [hb] at o4
    obtain ⟨b, off, spot⟩ := a
    obtain ⟨e0, e1, e2, cs, elem, e3, e4, e5⟩ := o4
    simp only at e0 e1 e2 e3
    subst e0; subst e1
    have hcut : cutBase (some (⟨b, 0, none⟩ : Addr)) s.cap pre.length 1 = some ⟨b, pre.length, none⟩ := by
      unfold cutBase; rw [if_neg (by omega)]; simp [add_mk]
    rw [hcut]
    have hmin : min x.len (subN s.len pre.length) = l.length := by unfold subN; omega
    obtain ⟨w, cs', c1, c2, c3, c4, c5, c6⟩ := puts_block (vs := l.map (.int k)) (i := 0) (off := pre.length) e3 (by intro y hy; obtain ⟨z, _, rfl⟩ := List.mem_map.1 hy; rfl) (by rw [List.length_map]; simp at e4; omega)
    refine ⟨l.map (.int k), ?_, ?_⟩
    · rw [hmin]
      have := hx.rd.firsts
      rw [hxl] at this; exact this
    · dsimp only
      rw [hmin]
      refine ⟨w, hk _ ⟨⟨by simp at o1 ⊢; omega, o2, o3, ?_⟩, ?_⟩ ⟨by unfold puts; omega, fun j hj hne => c6 j fun e => (hne _ hb) e.symm, fun a e => by unfold puts; rw [thaw_putFrom]; exact e⟩ (by unfold puts; omega)⟩
      · rw [hb]
        refine ⟨rfl, rfl, e2, cs', elem, c1, by rw [c2, e4], fun j v hj => ?_⟩
        rw [List.map_append, List.map_append] at hj
        by_cases hj1 : j < pre.length
        · rw [List.append_assoc, List.getElem?_append_left (by rw [List.length_map]; exact hj1)] at hj
          rw [c4 j (by omega)]
          exact e5 j v (by rw [List.map_append, List.map_append, List.append_assoc, List.getElem?_append_left (by rw [List.length_map]; exact hj1)]; exact hj)
        · by_cases hj2 : j < pre.length + l.length
          · rw [List.getElem?_append_left (by simp; omega), List.getElem?_append_right (by simp; omega), List.length_map] at hj
            have := c3 (j - pre.length) v hj
            rw [show pre.length + 0 + (j - pre.length) = j by omega] at this; exact this
          · rw [List.getElem?_append_right (by simp; omega)] at hj
            rw [c4 j (by simp; omega)]
            refine e5 j v ?_
            rw [List.map_append, List.map_append, List.getElem?_append_right (by simp; omega)]
            simp only [List.length_append, List.length_map] at hj ⊢
            rw [show j - (pre.length + mid.length) = j - (pre.length + l.length) by omega]; exact hj
      · intro y hy
        rcases List.mem_append.1 hy with hy | hy
        · rcases List.mem_append.1 hy with hy | hy
          · exact ho.wf y (List.mem_append_left _ (List.mem_append_left _ hy))
          · exact hx.wf y hy
        · exact ho.wf y (List.mem_append_right _ hy)
end Go.Sw.Piece

set_option linter.unusedVariables false
set_option linter.unusedSimpArgs false
set_option maxRecDepth 100000
namespace Go.Sw.Piece
open Go.Sw.Any Go.Sw.Codec
open Go.Sw.Tree (iv s_putAll s_newP s_getP s_getT s_putP eqI_self Placed cell_own cell_upd1 wp_whileG minI_eq)
variable {P : Program} {S : Ids} {h : Heap} {Q : Nat → List Value → Heap → Prop}

/-- A new list of noughts. -/
theorem s_mkZ {k : IntKind} {bytes n : Nat} {K : Sl → Prog} (h1 : n < 2 ^ 63) (h2 : bytes * n ≤ 2 ^ 48) (hk : ∀ h' r, Ext h h' → OwnL h.size k h' r (List.replicate n 0) → wp P (K r) h' Q) : wp P (.mk bytes [.int k 0] (n : Int) (n : Int) K) h Q := by
  refine ⟨⟨by omega, Int.le_refl _, by omega, by exact_mod_cast h2⟩, fun elem => hk _ _ (Ext.push ..) ⟨⟨by simp, by simp, by dsimp only; omega, ?_⟩, fun x hx => by rw [(List.mem_replicate.1 hx).2]; exact fits_zero k⟩⟩
  refine ⟨rfl, rfl, Nat.le_refl _, _, elem, Array.getElem?_push_size, ?_, fun i v hi => ?_⟩
  · rw [zeros_one]; simp
  · rw [zeros_one]
    rw [List.map_replicate] at hi
    rw [List.getElem?_toArray]
    simpa using hi
theorem s_new1 (v : Value) {K : Addr → Prog} (hk : ∀ h', Ext h h' → Own h.size 1 h' ⟨some ⟨h.size, 0, none⟩, 1, 1⟩ [v] → h'.size = h.size + 1 → wp P (K ⟨h.size, 0, none⟩) h' Q) : wp P (.alloc [v] K) h Q :=
  fun el => hk _ (Ext.push ..) (own_alloc rfl (by decide) (by decide)) (by simp)
/-- A cell of one's own. -/
abbrev Cel (n : Nat) (h : Heap) (a : Addr) (v : Value) : Prop := Own n 1 h ⟨some a, 1, 1⟩ [v]
theorem s_cel {n : Nat} {a : Addr} {b : B} {x : b.den} {K : b.den → Prog} (o : Cel n h a (b.inj x)) (hk : wp P (K x) h Q) : wp P (.load (.one b) (some a) K) h Q := wp_load1 a x rfl (cell_own o) hk
theorem s_celck {n : Nat} {a : Addr} {v : Value} {K : Prog} (o : Cel n h a v) (hk : wp P K h Q) : wp P (.check (some a) [v] K) h Q := s_check0 rfl o.cells hk
theorem s_celput {n : Nat} {a : Addr} {v : Value} (w : Value) {K : Prog} (o : Cel n h a v) (hw : flat w = true) (hk : ∀ h', Cel n h' a w → Upd ⟨some a, 1, 1⟩ h h' → wp P K h' Q) : wp P (.store (some a) [w] K) h Q :=
  s_putAll [w] o rfl (by intro u hu; rw [List.mem_singleton.1 hu]; exact hw) hk
/-- A new cell, and its value. -/
theorem s_newput (z w : Value) {K : Addr → Prog} (hw : flat w = true) (hk : ∀ h', Ext h h' → Cel h.size h' ⟨h.size, 0, none⟩ w → wp P (K ⟨h.size, 0, none⟩) h' Q) : wp P (.alloc [z] fun a => .store (some a) [w] (K a)) h Q :=
  s_new1 z fun h1 e1 o1 _ => s_celput w o1 hw fun h2 o2 u2 => hk h2 (Upd.extN e1 u2 (by intro x hx; cases hx; exact Nat.le_refl _)) o2

theorem Keep.chg {n : Nat} {F : Nat → Prop} {a b c : Heap} (k : Keep n a b) (c' : Chg F b c) (hn : n ≤ b.size) (hf : ∀ i, F i → n ≤ i) : Keep n a c := Keep.trans k (c'.keep hn fun i hi x => by have := hf i x; omega)

theorem c_Bytes (C : Cl P S) {n : Nat} {T : TX} (t : TextR S n h T) : Gives P (F_Text_Bytes S (some T.p)) [.one .sl] h fun (y : Sl × Unit) h' => OwnL h.size .u8 h' y.1 (bytesL T.cur.ps) := by
  unfold F_Text_Bytes Gives
  have hsm := t.cur.small
  refine wp_call (Piece.c_Size t) fun ⟨(L : Int), _⟩ h1 e1 hL => ?_
  have hL : L = (bytesL T.cur.ps).length := hL
  subst hL
  dsimp only
  refine s_mkZ (k := .u8) (by omega) (by omega) fun h2 out e2 oo => s_newput _ (slv out) rfl fun h3 e3 o3 => s_newput _ (i64v 0) rfl fun h4 e4 o4 => ?_
  have e04 := ((e1.trans e2).trans e3).trans e4
  refine s_root (t.ext e04) (wp_call c_ItemsF fun ⟨y, _⟩ h5 e5 hy => ?_)
  obtain ⟨a, b, hy, itr, ha, hb⟩ := hy
  have hy : y = _ := hy
  subst hy
  dsimp only
  have e05 := e04.trans e5
  have t5 := t.ext e05
  have oo5 : OwnL h1.size .u8 h5 out _ := oo.ext ((e3.trans e4).trans e5)
  have o35 := o3.ext (e4.trans e5)
  have o45 := o4.ext e5
  have q3 : h2.size < h4.size := Nat.lt_of_lt_of_le (o3.lt rfl).2 e4.size
  have q4 : h3.size < h4.size := (o4.lt rfl).2
  have q34 : h2.size < h3.size := (o3.lt rfl).2
  have qo : ∀ c, out.base = some c → h1.size ≤ c.block ∧ c.block < h2.size := fun c hc => oo.own.lt hc
  have lo := t.lo
  have s1 := e1.size; have s2 := e2.size; have s5 := e5.size
  let J : Nat → Heap → Prop := fun k h' => Keep h.size h h' ∧ h5.size ≤ h'.size ∧ TextR S n h' T ∧ OwnL h1.size .u8 h' out (bytesL (T.cur.ps.take k) ++ List.replicate ((bytesL T.cur.ps).length - (bytesL (T.cur.ps.take k)).length) 0) ∧ Cel h2.size h' ⟨h2.size, 0, none⟩ (slv out) ∧ Cel h3.size h' ⟨h3.size, 0, none⟩ (i64v (bytesL (T.cur.ps.take k)).length)
  have sJ : ∀ k a b, J k a → Chg (own h5.size 4) a b → J k b := fun k a b ⟨j1, j2, j3, j4, j5, j6⟩ c => by
    have hn : ∀ i, i < h5.size → ¬ own h5.size 4 i := fun i hi o => by have := o.1; omega
    refine ⟨Keep.chg j1 c j1.size fun i o => by have := o.1; have := e05.size; omega, Nat.le_trans j2 c.1, j3.chg c fun i hi => hn i (by have := (lo i hi).2; have := e05.size; omega), c.ownL j4 fun x hx => hn _ (by have := qo x hx; omega), c.own j5 fun x hx => by cases hx; exact hn _ (show h2.size < h5.size by omega), c.own j6 fun x hx => by cases hx; exact hn _ (show h3.size < h5.size by omega)⟩
  have J0 : J 0 h5 := ⟨e05.keep (Nat.le_refl _), Nat.le_refl _, t5, by simpa [bytesL] using oo5, o35, by simpa [bytesL] using o45⟩
  refine wp_rangeP C t5 (fits_i64.2 (by decide)) itr J (fun _ _ => False) sJ (fun _ _ _ h _ => h) ?_ J0 ?_
  · rintro k q h6 c hq ⟨j1, j2, j3, j4, j5, j6⟩ hs6 oc
    rw [show (Int.ofNat 0 : Int).toNat = 0 from rfl, List.drop_zero] at hq
    have hqm := List.mem_of_getElem? hq
    have pc := j3.cur.pcs q hqm
    have hsucc : bytesL (T.cur.ps.take (k + 1)) = bytesL (T.cur.ps.take k) ++ q.2 := by rw [List.take_add_one, hq, bytesL_append]; simp [bytesL]
    have hsub := bytes_sub (List.take_sublist (k + 1) T.cur.ps)
    rw [hsucc, List.length_append] at hsub
    have hol := j4.len
    rw [List.length_append, List.length_replicate] at hol
    refine s_cel (b := .int .i64) (x := ((bytesL (T.cur.ps.take k)).length : Int)) j6 (s_cel (b := .sl) (x := out) j5 (s_cel (b := .int .i64) (x := ((bytesL (T.cur.ps.take k)).length : Int)) j6 (s_grd (leB_ok (by omega) (by omega)) (wp_grd rfl (wp_load1 (b := .sl) (c.add 0) q.1.1 rfl (cells_iff.1 oc.cells 0 _ rfl) ?_)))))
    rw [show toN (((bytesL (T.cur.ps.take k)).length : Nat) : Int) = (bytesL (T.cur.ps.take k)).length by rw [toN_def]; omega]
    have hrep : List.replicate ((bytesL T.cur.ps).length - (bytesL (T.cur.ps.take k)).length) (0 : Int) = List.replicate q.2.length 0 ++ List.replicate ((bytesL T.cur.ps).length - (bytesL (T.cur.ps.take (k + 1))).length) 0 := by
      rw [List.replicate_append_replicate, hsucc, List.length_append]; congr 1; omega
    rw [hrep, ← List.append_assoc] at j4
    refine s_copyAt j4 pc.lst (by simp) pc.ne rfl fun h7 o7 u7 z7 => ?_
    have cg7 : Chg (fun i => ∃ x, out.base = some x ∧ x.block = i) h6 h7 := Chg.of_upd u7 fun x hx _ => ⟨x, hx, rfl⟩
    have j67 : Cel h3.size h7 ⟨h3.size, 0, none⟩ (i64v (bytesL (T.cur.ps.take k)).length) := cg7.own j6 fun x hx ⟨y, hy, e⟩ => by cases hx; have := (qo y hy).2; have e' : y.block = h3.size := e; omega
    have j57 : Cel h2.size h7 ⟨h2.size, 0, none⟩ (slv out) := cg7.own j5 fun x hx ⟨y, hy, e⟩ => by cases hx; have := (qo y hy).2; have e' : y.block = h2.size := e; omega
    refine s_celck j67 (s_celput _ j67 rfl fun h8 j68 u8 => s_ret ⟨?_, fun _ => ⟨?_, ?_, ?_, ?_, ?_, ?_⟩, fun hne => absurd rfl hne⟩)
    · have cg8 : Chg (fun i => i = h3.size) h7 h8 := upd_chg u8
      have cg68 : Chg (fun i => (∃ x, out.base = some x ∧ x.block = i) ∨ i = h3.size) h6 h8 := (cg7.mono fun i _ e => .inl e).trans (cg8.mono fun i _ e => .inr e) fun i _ x => x
      refine Held.of_chg cg68 fun i hi hw hx => ?_
      have hw2 : h1.size ≤ i ∧ i < h4.size := by
        rcases hx with ⟨x, hx, e⟩ | e
        · have := qo x hx; omega
        · omega
      rcases hw with o | ⟨hz | hz | hz, hlt⟩
      · have := o.1; omega
      · have := (lo i hz).2; omega
      · omega
      · omega
    · exact Keep.chg (Keep.chg j1 cg7 j1.size fun i ⟨x, hx, e⟩ => by have := qo x hx; omega) (upd_chg u8) (by have := j1.size; omega) fun i e => by have e : i = h3.size := e; omega
    · have := u8.1; omega
    · refine TextR.chg (TextR.chg j3 cg7 fun i hi ⟨x, hx, e⟩ => ?_) (upd_chg u8) fun i hi e => ?_
      · have := (lo i hi).2; have := qo x hx; omega
      · have := (lo i hi).2; have e : i = h3.size := e; omega
    · rw [hsucc]
      rw [hsucc] at o7
      exact o7.upd u8 fun x y hx hy => by cases hy; have := (qo x hx).2; show h3.size ≠ x.block; omega
    · exact upd_own j57 u8 fun x hx => by cases hx; show h3.size ≠ h2.size; omega
    · have hadd : addI .i64 ((bytesL (T.cur.ps.take k)).length : Int) (natI q.2.length) = ((bytesL (T.cur.ps.take (k + 1))).length : Int) := by
        rw [natI_def, add_ok (by omega) (by omega), hsucc, List.length_append]; omega
      rw [hadd] at j68; exact j68
  · intro j h6 hs6 hx
    rcases hx with ⟨rfl, j1, j2, j3, j4, j5, j6⟩ | ⟨_, hx⟩
    · rw [show (Int.ofNat 0 : Int).toNat = 0 from rfl, List.drop_zero, List.take_length] at j4
      have j4 : OwnL h1.size .u8 h6 out (bytesL T.cur.ps) := by simpa using j4
      refine s_tag (s_cel (b := .sl) (x := out) j5 (s_ret ⟨Held.refl _ _, fun h7 c7 _ => ⟨rfl, ?_, (out, ()), rfl, ?_⟩⟩))
      · exact Keep.chg j1 c7 j1.size fun i o => by have := o.1; have := e05.size; omega
      · exact (c7.ownL j4 fun x hx o => by have := qo x hx; have := o.1; omega).mono e1.size
    · exact hx.elim
end Go.Sw.Piece

set_option linter.unusedVariables false
set_option linter.unusedSimpArgs false
set_option maxRecDepth 100000
namespace Go.Sw.Piece
open Go.Sw.Any Go.Sw.Codec
open Go.Sw.Tree (iv s_putAll s_newP s_getP s_getT s_putP eqI_self Placed cell_own cell_upd1 wp_whileG minI_eq)
variable {P : Program} {S : Ids} {h : Heap} {Q : Nat → List Value → Heap → Prop}

theorem elsF_get (tag : Int) : ∀ (ts : List (Int × Int)) (o w : Nat) (t : Int × Int), ts[w]? = some t → (elsF tag o ts)[w]? = some (t.1, if tag < 0 then -1 else tag + ((o + offs (ts.take w) : Nat) : Int))
  | [], o, w, t, h => by simp at h
  | x :: ts, o, 0, t, h => by simp at h; subst h; simp [elsF, offs]
  | x :: ts, o, w + 1, t, h => by
    have := elsF_get tag ts (o + x.2.toNat) w t (by simpa using h)
    simp only [elsF, List.getElem?_cons_succ, List.take_succ_cons, offs_cons]
    rw [this, Nat.add_assoc]

/-- A function value that puts a number behind a list. -/
structure See (P : Program) (see : Value) (f : El → Int) (cc : Addr) : Prop where
  flat : flat see = true
  go : ∀ (h : Heap) (m : Nat) (e : El) (s : Sl) (l : List Int) (Q : Nat → List Value → Heap → Prop) (K : Unit → Prog), m ≤ h.size → Cel m h cc (slv s) → OwnL m .i64 h s l → fitsI .i64 e.1 → fitsI .i64 e.2 → l.length ≤ 1099511627776 → (∀ x, s.base = some x → x.block ≠ cc.block) →
    (∀ h' s', Cel m h' cc (slv s') → OwnL m .i64 h' s' (l ++ [f e]) → Chg (fun i => i = cc.block ∨ ∃ x, s.base = some x ∧ x.block = i) h h' → (∀ x, s'.base = some x → s.base = some x ∨ h.size ≤ x.block) → wp P (K ()) h' Q) → wp P (.callv see [iv e.1, iv e.2] [] K) h Q

theorem see_push {m : Nat} {cc : Addr} {s : Sl} {l : List Int} {v : Int} {K : Prog} (hm : m ≤ h.size) (oc : Cel m h cc (slv s)) (ol : OwnL m .i64 h s l) (hv : fitsI .i64 v) (hl : l.length ≤ 1099511627776) (hne : ∀ x, s.base = some x → x.block ≠ cc.block)
    (hk : ∀ h' s', Cel m h' cc (slv s') → OwnL m .i64 h' s' (l ++ [v]) → Chg (fun i => i = cc.block ∨ ∃ x, s.base = some x ∧ x.block = i) h h' → (∀ x, s'.base = some x → s.base = some x ∨ h.size ≤ x.block) → wp P K h' Q) :
    wp P (.load (.one .sl) (some cc) fun (l1 : Sl) => .alloc [iv v] fun (a2 : Addr) => .append 1 8 [iv 0] l1 ⟨some a2, 1, 1⟩ fun (l3 : Sl) => .store (some cc) [slv l3] K) h Q := by
  refine s_cel (b := .sl) (x := s) oc (s_push ol hm hv (by omega) (by omega) fun r h1 k1 o1 u1 b1 => ?_)
  have c1 : Chg (fun i => ∃ x, s.base = some x ∧ x.block = i) h h1 := Chg.of_upd u1 fun x hx _ => ⟨x, hx, rfl⟩
  have hcc : cc.block < h.size := (oc.lt rfl).2
  refine s_celput (slv r) (c1.own oc fun x hx ⟨y, hy, e⟩ => by cases hx; exact hne y hy e) rfl fun h2 o2 u2 => hk h2 r o2 (o1.upd u2 fun a b ha hb => ?_) ?_ b1
  · cases hb
    rcases b1 a ha with hx | hx
    · exact (hne a hx).symm
    · omega
  · exact (c1.mono fun i _ e => .inr e).trans ((upd_chg u2).mono fun i _ e => .inl e) fun i _ x => x

theorem see_atoms (C : Cl P S) (cc : Addr) : See P (.func (.func S.f_Text_Atoms_1) #[] #[.pointer (some cc)]) (·.1) cc :=
  ⟨rfl, fun h m e s l Q K hm oc ol h1 h2 hl hne hk => wp_dyn (C.atoms _ _ _) (see_push hm oc ol h1 hl hne fun h' s' a b c d => s_ret ⟨rfl, (), rfl, hk h' s' a b c d⟩)⟩
/-- The elements from a place to another that there are. -/
def cutL (E : List El) (from_ to : Int) : List El := (E.take (min to E.length).toNat).drop (max from_ 0).toNat

/-- While walk goes: v atoms were passed. -/
structure WJ (S : Ids) (P : Program) (n : Nat) (T : TX) (h0 : Heap) (hr m0 : Nat) (a1 a2 a7 a8 cc : Addr) (see : Value) (f : El → Int) (R : List El) (m cnt v : Nat) (h : Heap) (s : Sl) : Prop where
  c : Chg (fun i => i = cc.block) h0 h
  sz : hr ≤ h.size
  t : TextR S n h T
  o1 : Cel h0.size h a1 (.pointer (some T.p))
  o2 : Cel h0.size h a2 see
  o7 : Cel h0.size h a7 (i64v ((m - v : Nat) : Int))
  o8 : Cel h0.size h a8 (i64v ((cnt - (v - m) : Nat) : Int))
  oc : Cel m0 h cc (slv s)
  ol : OwnL m0 .i64 h s (((R.take v).drop m).map f)
  sb : ∀ x, s.base = some x → hr + 4 ≤ x.block ∧ 0 < ((R.take v).drop m).length
  lt : a1.block < hr ∧ a2.block < hr ∧ a7.block < hr ∧ a8.block < hr ∧ cc.block < h0.size ∧ h0.size ≤ hr
variable {n : Nat} {T : TX} {h0 : Heap} {hr m0 : Nat} {a1 a2 a7 a8 cc : Addr} {see : Value} {f : El → Int} {R : List El} {m cnt v : Nat} {s : Sl}
theorem WJ.chg {h' : Heap} {F : Nat → Prop} (j : WJ S P n T h0 hr m0 a1 a2 a7 a8 cc see f R m cnt v h s) (c : Chg F h h') (hF : ∀ i, F i → hr ≤ i ∧ ∀ x, s.base = some x → x.block ≠ i) (hz : ∀ i, T.Z i → i < h0.size) : WJ S P n T h0 hr m0 a1 a2 a7 a8 cc see f R m cnt v h' s := by
  obtain ⟨l1, l2, l7, l8, lc, lh⟩ := j.lt
  exact ⟨j.c.trans (c.mono fun i _ x => x) fun i hi x => by have := (hF i x).1; omega, Nat.le_trans j.sz c.1, j.t.chg c fun i hi x => by have := (hF i x).1; have := hz i hi; omega,
    c.own j.o1 fun x hx y => by cases hx; have := (hF _ y).1; omega, c.own j.o2 fun x hx y => by cases hx; have := (hF _ y).1; omega, c.own j.o7 fun x hx y => by cases hx; have := (hF _ y).1; omega, c.own j.o8 fun x hx y => by cases hx; have := (hF _ y).1; omega,
    c.own j.oc fun x hx y => by cases hx; have := (hF _ y).1; omega, c.ownL j.ol fun x hx y => (hF _ y).2 x hx rfl, j.sb, j.lt⟩
theorem WJ.ext {h' : Heap} (j : WJ S P n T h0 hr m0 a1 a2 a7 a8 cc see f R m cnt v h s) (c : Ext h h') (hz : ∀ i, T.Z i → i < h0.size) : WJ S P n T h0 hr m0 a1 a2 a7 a8 cc see f R m cnt v h' s :=
  j.chg (F := fun _ => False) (Chg.of_ext c) (fun i x => x.elim) hz

theorem own_ne {k : IntKind} {n' : Nat} {l : List Int} {c x : Addr} {q : Part} (o : OwnL m0 k h s l) (hl : 0 < l.length) (hx : s.base = some x) (oc : OwnP n' h c q) : x.block ≠ c.block := by
  intro e
  obtain ⟨_, _, _, o4⟩ := id o.own
  rw [hx] at o4
  obtain ⟨x0, x1, _⟩ := o4
  obtain ⟨_, _, _, c4⟩ := id oc
  obtain ⟨c0, c1, _⟩ := c4
  obtain ⟨y, ey, cy⟩ := o.lst.rd.at (i := 0) hl
  rw [hx] at ey; cases ey
  have cc := cells_iff.1 oc.cells 0 _ rfl
  have : x = c := by
    obtain ⟨xb, xo, xs⟩ := x
    obtain ⟨cb, co, cs⟩ := c
    dsimp only at e x0 x1 c0 c1
    subst e; subst x0; subst x1; subst c0; subst c1; rfl
  rw [this] at cy
  rw [cc] at cy
  cases cy

theorem told_succ {E : El} (hv : R[v]? = some E) (hm : m ≤ v) : (R.take (v + 1)).drop m = (R.take v).drop m ++ [E] := by
  rw [List.take_add_one, hv]
  rw [List.drop_append_of_le_length (by rw [List.length_take]; have := (List.getElem?_eq_some_iff.1 hv).1; omega)]; rfl
theorem told_skip (hm : v < m) : (R.take (v + 1)).drop m = [] ∧ (R.take v).drop m = [] := by
  constructor <;> exact List.drop_of_length_le (by rw [List.length_take]; omega)

/-- One atom is passed. -/
theorem c_pass (hs : See P see f cc) {c : Addr} {q : Part} {E : El} {tag at_ : Int} {nr : Nat} {W : Nat → Prop} (j : WJ S P n T h0 hr m0 a1 a2 a7 a8 cc see f R m cnt v h s) (hm0 : m0 ≤ h0.size) (hz : ∀ i, T.Z i → i < h0.size) (hcz : ¬ T.Z cc.block) (hd : a1.block ≠ a7.block ∧ a1.block ≠ a8.block ∧ a2.block ≠ a7.block ∧ a2.block ≠ a8.block ∧ a7.block ≠ a8.block)
    (hge : h0.size ≤ a1.block ∧ h0.size ≤ a2.block ∧ h0.size ≤ a7.block ∧ h0.size ≤ a8.block) (hv : R[v]? = some E) (hlt : v - m < cnt) (hbig : m ≤ 1099511627776 ∧ cnt ≤ 1099511627776 ∧ v ≤ 1099511627776) (oc : OwnP (hr + 4) h c q) (htag : q.2.1 = tag) (hE : E.2 = if tag < 0 then -1 else tag + at_) (hfit : fitsI .i64 E.1 ∧ fitsI .i64 E.2 ∧ -9223372036854775808 ≤ tag + at_ ∧ tag + at_ ≤ 9223372036854775807)
    (hW : ∀ i, W i → i ≠ a7.block ∧ i ≠ a8.block ∧ i ≠ cc.block ∧ i < hr + 4) :
    wp P (.bind
          (.load (.one (.int .i64)) (some a7) fun (n239 : Int) =>
          ifB (gtI n239 0)
            (.load (.one (.int .i64)) (some a7) fun (n240 : Int) =>
            .store (some a7) [i64v (subI .i64 n240 1)] <|
            .ret 0 []) <|
          .bind
            (grd (someB (some c)) <|
            .load (.one (.int .i64)) (shiftTo (some c) 1) fun (n252 : Int) =>
            ifB (ltI n252 0)
              (.load (.one .any) (some a2) fun (c253 : Value) =>
              .callv c253 [i64v E.1, i64v (-1)] [] fun (u254 : Unit) =>
              .ret 0 []) <|
            .load (.one .any) (some a2) fun (c255 : Value) =>
            grd (someB (some c)) <|
            .load (.one (.int .i64)) (shiftTo (some c) 1) fun (n256 : Int) =>
            .callv c255 [i64v E.1, i64v (addI .i64 n256 at_)] [] fun (u257 : Unit) =>
            .ret 0 []) fun (k258 : Nat) =>
          fun (vs259 : List Value) =>
          ifB (eqN k258 0)
            (.cast [] vs259 fun (u260 : Unit) =>
            .load (.one (.int .i64)) (some a8) fun (n261 : Int) =>
            .store (some a8) [i64v (subI .i64 n261 1)] <|
            .load (.one (.int .i64)) (some a8) fun (n262 : Int) =>
            ifB (eqI n262 0)
              (.ret 1 []) <|
            .ret 0 []) <|
          .fail) fun k vs => .ret k vs) h fun tg vs h' => vs = [] ∧ Held W h h' ∧ OwnP (hr + 4) h' c q ∧ ∃ s', WJ S P n T h0 hr m0 a1 a2 a7 a8 cc see f R m cnt (v + 1) h' s' ∧ ((tg = 0 ∧ v + 1 - m < cnt) ∨ (tg = 1 ∧ v + 1 = m + cnt)) := by
  obtain ⟨l1, l2, l7, l8, lc, lh⟩ := j.lt
  obtain ⟨d17, d18, d27, d28, d78⟩ := hd
  have hc4 : hr + 4 ≤ c.block := (oc.lt rfl).1
  refine wp_bind (fun tg vs h' => vs = [] ∧ Held W h h' ∧ OwnP (hr + 4) h' c q ∧ ∃ s', WJ S P n T h0 hr m0 a1 a2 a7 a8 cc see f R m cnt (v + 1) h' s' ∧ ((tg = 0 ∧ v + 1 - m < cnt) ∨ (tg = 1 ∧ v + 1 = m + cnt))) ?_ fun t vs h' hx => s_ret hx
  refine s_cel (b := .int .i64) (x := ((m - v : Nat) : Int)) j.o7 (wp_ifB (fun hc => ?_) fun hc => ?_)
  · rw [gtI_iff] at hc
    obtain ⟨k1, k2⟩ := told_skip (R := R) (show v < m by omega)
    refine s_cel (b := .int .i64) (x := ((m - v : Nat) : Int)) j.o7 ?_
    rw [sub_ok (by omega) (by omega)]
    refine s_celput (i64v (((m - v : Nat) : Int) - 1)) j.o7 rfl fun h1 o1 u1 => s_ret ⟨rfl, ?_, ?_, s, ?_, .inl ⟨rfl, by omega⟩⟩
    · exact Held.of_chg (upd_chg u1) fun i hi hw e => (hW i hw).1 e
    · exact upd_own oc u1 fun x hx => by cases hx; omega
    · have cg : Chg (fun i => i = a7.block) h h1 := upd_chg u1
      refine ⟨j.c.trans cg fun i hi e => by have e : i = a7.block := e; omega, Nat.le_trans j.sz cg.1, j.t.chg cg fun i hi e => by have := hz i hi; have e : i = a7.block := e; omega, cg.own j.o1 fun x hx e => by cases hx; exact d17 e, cg.own j.o2 fun x hx e => by cases hx; exact d27 e, ?_, ?_, cg.own j.oc fun x hx e => by cases hx; have e : cc.block = a7.block := e; omega, ?_, fun x hx => ?_, j.lt⟩
      · rw [show ((m - (v + 1) : Nat) : Int) = ((m - v : Nat) : Int) - 1 by omega]; exact o1
      · rw [show cnt - (v + 1 - m) = cnt - (v - m) by omega]; exact cg.own j.o8 fun x hx e => by cases hx; exact d78 e.symm
      · rw [k1, ← k2]; exact cg.ownL j.ol fun x hx e => by have := (j.sb x hx).1; have e : x.block = a7.block := e; omega
      · have := j.sb x hx; rw [k2] at this; exact absurd this.2 (by simp)
  · rw [gtI_not] at hc
    have hmv : m ≤ v := by omega
    have hts := told_succ hv hmv
    have htl : ((R.take v).drop m).length = v - m := by rw [List.length_drop, List.length_take]; have := (List.getElem?_eq_some_iff.1 hv).1; omega
    have c1 : Sw.cell h (c.add 1) = some (i64v tag) := by rw [← htag]; exact cells_iff.1 oc.cells 1 _ rfl
    have neW : ∀ x, s.base = some x → x.block ≠ c.block := fun x hx => own_ne j.ol (by rw [List.length_map]; exact (j.sb x hx).2) hx oc
    -- the number is told
    have tell : ∀ {K : Unit → Prog} {Q : Nat → List Value → Heap → Prop}, (∀ h' s', Held W h h' → OwnP (hr + 4) h' c q → h.size ≤ h'.size → WJ S P n T h0 hr m0 a1 a2 a7 a8 cc see f R m (cnt + 0) v h s → (Chg (fun i => i = cc.block ∨ ∃ x, s.base = some x ∧ x.block = i) h h') → Cel m0 h' cc (slv s') → OwnL m0 .i64 h' s' (((R.take (v + 1)).drop m).map f) → (∀ x, s'.base = some x → s.base = some x ∨ h.size ≤ x.block) → wp P (K ()) h' Q) → wp P (.callv see [iv E.1, iv E.2] [] K) h Q := fun hk =>
      hs.go h m0 E s _ _ _ (by have := j.c.1; omega) j.oc j.ol hfit.1 hfit.2.1 (by rw [List.length_map, htl]; omega) (fun x hx => by have := (j.sb x hx).1; omega) fun h' s' o1 o2 cg b1 =>
        hk h' s' (Held.of_chg cg fun i hi hw e => by
          rcases e with e | ⟨x, hx, e⟩
          · exact (hW i hw).2.2.1 e
          · have := (j.sb x hx).1; have := (hW i hw).2.2.2; omega) (cg.own oc fun x hx e => by
          cases hx
          rcases e with e | ⟨y, hy, e⟩
          · omega
          · exact neW y hy e) cg.1 j cg o1 (by rw [hts, List.map_append]; exact o2) b1
    refine wp_bind (fun tg vs h' => tg = 0 ∧ vs = [] ∧ Held W h h' ∧ OwnP (hr + 4) h' c q ∧ ∃ s', Chg (fun i => i = cc.block ∨ ∃ x, s.base = some x ∧ x.block = i) h h' ∧ Cel m0 h' cc (slv s') ∧ OwnL m0 .i64 h' s' (((R.take (v + 1)).drop m).map f) ∧ ∀ x, s'.base = some x → s.base = some x ∨ h.size ≤ x.block) ?_ ?_
    · refine wp_grd rfl (wp_load1 (b := .int .i64) (c.add 1) tag rfl c1 (wp_ifB (fun hc => ?_) fun hc => ?_))
      · rw [ltI_iff] at hc
        rw [if_pos hc] at hE
        rw [← hE]
        exact s_cel (b := .any) (x := see) j.o2 (tell fun h' s' w o sz _ cg o1 o2 b1 => s_ret ⟨rfl, rfl, w, o, s', cg, o1, o2, b1⟩)
      · rw [ltI_not] at hc
        rw [if_neg (by omega)] at hE
        refine s_cel (b := .any) (x := see) j.o2 (wp_grd rfl (wp_load1 (b := .int .i64) (c.add 1) tag rfl c1 ?_))
        rw [add_ok hfit.2.2.1 hfit.2.2.2, ← hE]
        exact tell fun h' s' w o sz _ cg o1 o2 b1 => s_ret ⟨rfl, rfl, w, o, s', cg, o1, o2, b1⟩
    · rintro tg vs h1 ⟨rfl, rfl, w1, oc1, s', cg, o1, o2, b1⟩
      have o81 : Cel h0.size h1 a8 (i64v ((cnt - (v - m) : Nat) : Int)) := cg.own j.o8 fun x hx e => by
        cases hx
        rcases e with e | ⟨y, hy, e⟩
        · omega
        · have := (j.sb y hy).1; omega
      refine s_tag (s_cast0 (s_cel (b := .int .i64) (x := ((cnt - (v - m) : Nat) : Int)) o81 ?_))
      rw [sub_ok (by omega) (by omega)]
      refine s_celput (i64v (((cnt - (v - m) : Nat) : Int) - 1)) o81 rfl fun h2 o82 u2 => ?_
      have e8 : ((cnt - (v - m) : Nat) : Int) - 1 = ((cnt - (v + 1 - m) : Nat) : Int) := by omega
      have cg2 : Chg (fun i => i = a8.block) h1 h2 := upd_chg u2
      have old : ∀ {a : Addr} {x : Value}, Cel h0.size h a x → a.block < hr → h0.size ≤ a.block → a.block ≠ a8.block → Cel h0.size h2 a x := fun o q1 q2 q3 => cg2.own (cg.own o fun x hx e => by
        cases hx
        rcases e with e | ⟨y, hy, e⟩
        · omega
        · have := (j.sb y hy).1; omega) fun x hx e => by cases hx; exact q3 e
      have sb' : ∀ x, s'.base = some x → hr + 4 ≤ x.block := fun x hx => by
        rcases b1 x hx with hy | hy
        · exact (j.sb x hy).1
        · have : c.block < h.size := (oc.lt rfl).2; omega
      have J2 : WJ S P n T h0 hr m0 a1 a2 a7 a8 cc see f R m cnt (v + 1) h2 s' := by
        refine ⟨?_, ?_, ?_, old j.o1 l1 hge.1 d18, old j.o2 l2 hge.2.1 d28, ?_, by rw [← e8]; exact o82, cg2.own o1 fun x hx e => by cases hx; have e : cc.block = a8.block := e; omega, cg2.ownL o2 fun x hx e => by have := sb' x hx; have e : x.block = a8.block := e; omega, fun x hx => ⟨sb' x hx, by rw [hts, List.length_append]; simp⟩, j.lt⟩
        · refine (j.c.trans cg fun i hi e => ?_).trans cg2 fun i hi e => by have e : i = a8.block := e; omega
          rcases e with e | ⟨y, hy, e⟩
          · exact e
          · have := (j.sb y hy).1; omega
        · have := cg.1; have := cg2.1; have := j.sz; omega
        · refine TextR.chg (TextR.chg j.t cg fun i hi e => ?_) cg2 fun i hi e => by have := hz i hi; have e : i = a8.block := e; omega
          rcases e with e | ⟨y, hy, e⟩
          · exact hcz (e ▸ hi)
          · have := (j.sb y hy).1; have := hz i hi; omega
        · have := old j.o7 l7 hge.2.2.1 d78
          rw [show m - (v + 1) = m - v by omega]; exact this
      have w2 : Held W h h2 := w1.trans (Held.of_chg cg2 fun i hi hw e => (hW i hw).2.1 e)
      have oc2 : OwnP (hr + 4) h2 c q := cg2.own oc1 fun x hx e => by cases hx; have e : c.block = a8.block := e; omega
      refine s_cel (b := .int .i64) (x := (((cnt - (v - m) : Nat) : Int) - 1)) o82 (wp_ifB (fun hx => ?_) fun hx => ?_)
      · rw [eqI_iff] at hx
        exact s_ret ⟨rfl, w2, oc2, s', J2, .inr ⟨rfl, by omega⟩⟩
      · rw [eqI_not] at hx
        exact s_ret ⟨rfl, w2, oc2, s', J2, .inl ⟨rfl, by omega⟩⟩
end Go.Sw.Piece

set_option linter.unusedVariables false
set_option linter.unusedSimpArgs false
set_option maxRecDepth 100000
namespace Go.Sw.Piece
open Go.Sw.Any Go.Sw.Codec
open Go.Sw.Tree (iv s_putAll s_newP s_getP s_getT s_putP eqI_self Placed cell_own cell_upd1 wp_whileG minI_eq)
variable {P : Program} {S : Ids} {h : Heap} {Q : Nat → List Value → Heap → Prop}

theorem maxI_eq (a b : Int) : maxI a b = max a b := by unfold maxI; split <;> omega
theorem elsP_get {enc : Int} {q : Pc} {w : Nat} {t : Int × Int} (hw : (toks enc q.2)[w]? = some t) : (elsP enc q)[w]? = some (t.1, if q.1.2.1 < 0 then -1 else q.1.2.1 + (offs ((toks enc q.2).take w) : Int)) := by
  have := elsF_get q.1.2.1 (toks enc q.2) 0 w t hw
  unfold elsP
  rw [this, Nat.zero_add]

theorem c_walkT (M : Meth0 P S) (C : Cl P S) {n m0 : Nat} {T : TX} {from_ to : Int} {see : Value} {f : El → Int} {cc : Addr} (t : TextR S n h T) (hs : See P see f cc) (oc : Cel m0 h cc (slv ⟨none, 0, 0⟩)) (hm0 : m0 ≤ h.size) (hcz : ¬ T.Z cc.block) (hto : fitsI .i64 to) :
    wp P (F_Text_walk S (some T.p) from_ to see) h fun tg vs h' => tg = 0 ∧ vs = [] ∧ Chg (fun i => i = cc.block) h h' ∧ ∃ s, Cel m0 h' cc (slv s) ∧ OwnL m0 .i64 h' s ((cutL (els T.enc T.cur.ps) from_ to).map f) := by
  unfold F_Text_walk
  rw [fits_i64] at hto
  have hf := t.cur.few t.lim.2
  have hEl : (els T.enc T.cur.ps).length = (toksL T.enc T.cur.ps).length := els_len ..
  have lo := t.lo
  have hcl : cc.block < h.size := (oc.lt rfl).2
  refine s_new1 _ fun h1 e1 o1 z1 => wp_grd hs.flat (s_new1 _ fun h2 e2 o2 z2 => ?_)
  have e02 := e1.trans e2
  refine s_cel (b := .ptr) (x := some T.p) (o1.ext e2) (wp_call (c_Len (t.ext e02)) fun ⟨(L : Int), _⟩ h3 e3 hL => ?_)
  have hL : L = (els T.enc T.cur.ps).length := hL
  subst hL
  dsimp only
  rw [maxI_eq, minI_eq]
  have e03 := e02.trans e3
  have hcutE : cutL (els T.enc T.cur.ps) from_ to = ((els T.enc T.cur.ps).take (min to (els T.enc T.cur.ps).length).toNat).drop (max from_ 0).toNat := rfl
  refine wp_ifB (fun hc => ?_) fun hc => ?_
  · rw [geI_iff] at hc
    refine s_ret ⟨rfl, rfl, Chg.of_ext e03, ⟨none, 0, 0⟩, oc.ext e03, ?_⟩
    have : cutL (els T.enc T.cur.ps) from_ to = [] := by rw [hcutE]; exact List.drop_of_length_le (by rw [List.length_take]; omega)
    rw [this]; exact OwnL.nil _ _ _
  rw [geI_not] at hc
  generalize hfr : max from_ 0 = fr at *
  generalize htt : min to ((els T.enc T.cur.ps).length : Int) = tt at *
  have hfr0 : 0 ≤ fr := by omega
  have httL : tt ≤ (els T.enc T.cur.ps).length := by omega
  have t3 := t.ext e03
  refine s_cel (b := .ptr) (x := some T.p) (o1.ext (e2.trans e3)) (wp_call (c_find t3 hfr0 (by omega)) fun ⟨(i' : Int), (m' : Int), _⟩ h4 e4 ⟨i, m, hi, hm, fi⟩ => ?_)
  have hi : i' = i := hi
  have hm : m' = m := hm
  subst hi; subst hm
  dsimp only
  have hil := fi.1
  have hfe := fi.2.1
  have hpsl := pcs_le t.cur.pcs
  have hsm := t.cur.small
  refine s_newput _ (i64v (m : Int)) rfl fun h5 e5 o5 => s_newput _ (i64v (subI .i64 tt fr)) rfl fun h6 e6 o6 => ?_
  rw [sub_ok (by omega) (by omega)] at o6
  have e36 := (e4.trans e5).trans e6
  have e06 := e03.trans e36
  refine s_cel (b := .ptr) (x := some T.p) (o1.ext ((e2.trans e3).trans e36)) (s_root (t.ext e06) (wp_call c_ItemsF fun ⟨y, _⟩ h7 e7 hy => ?_))
  obtain ⟨a, b, hy, itr, ha, hb⟩ := hy
  have hy : y = _ := hy
  subst hy
  dsimp only
  have e07 := e06.trans e7
  have t7 := t.ext e07
  -- what is passed
  generalize hR : els T.enc (T.cur.ps.drop i) = R
  have hsplit : els T.enc T.cur.ps = els T.enc (T.cur.ps.take i) ++ R := by rw [← hR, ← els_append, List.take_append_drop]
  have hRl : R.length + (els T.enc (T.cur.ps.take i)).length = (els T.enc T.cur.ps).length := by rw [hsplit, List.length_append]; omega
  rw [← els_len] at hfe
  have hfm : fr.toNat = (els T.enc (T.cur.ps.take i)).length + m := by omega
  generalize hcnt : (tt - fr).toNat = cnt
  have hres : (R.take (m + cnt)).drop m = cutL (els T.enc T.cur.ps) from_ to := by
    rw [hcutE]
    have h1 : tt.toNat = fr.toNat + cnt := by omega
    have hd : ∀ A : List El, (A ++ R).drop (A.length + m) = R.drop m := fun A => by rw [← List.drop_drop, List.drop_left' rfl]
    rw [List.drop_take, List.drop_take, h1, Nat.add_sub_cancel_left, Nat.add_sub_cancel_left, hfm, hsplit, hd]
  have s12 := e1.size; have s23 := e3.size; have s45 := e5.size
  have g1 : h1.size < h2.size + 0 := by omega
  have p2 : h1.size < h2.size := by omega
  have p5 : h4.size < h5.size := (o5.lt rfl).2
  have p6 : h5.size < h6.size := (o6.lt rfl).2
  have s4 := e4.size; have s7 := e7.size
  let A1 : Addr := ⟨h.size, 0, none⟩
  let A2 : Addr := ⟨h1.size, 0, none⟩
  let A7 : Addr := ⟨h4.size, 0, none⟩
  let A8 : Addr := ⟨h5.size, 0, none⟩
  let V : Nat → Nat := fun k => (els T.enc ((T.cur.ps.drop i).take k)).length
  let J : Nat → Heap → Prop := fun k h' => ∃ s, WJ S P n T h h7.size m0 A1 A2 A7 A8 cc see f R m cnt (V k) h' s ∧ V k - m < cnt
  let F : Nat → Heap → Prop := fun tg h' => tg = 1 ∧ ∃ s, WJ S P n T h h7.size m0 A1 A2 A7 A8 cc see f R m cnt (m + cnt) h' s
  have hz : ∀ i, T.Z i → i < h.size := fun i hi => (lo i hi).2
  have stab : ∀ {v s a b}, WJ S P n T h h7.size m0 A1 A2 A7 A8 cc see f R m cnt v a s → Chg (own h7.size 4) a b → WJ S P n T h h7.size m0 A1 A2 A7 A8 cc see f R m cnt v b s := fun j c =>
    j.chg c (fun i o => ⟨o.1, fun x hx e => by have := (j.sb x hx).1; have := o.2; omega⟩) hz
  have J0 : J 0 h7 := by
    refine ⟨⟨none, 0, 0⟩, ⟨Chg.of_ext e07, Nat.le_refl _, t7, (o1.ext (((e2.trans e3).trans e36).trans e7)), (o2.ext ((e3.trans e36).trans e7)).mono e1.size, ?_, ?_, oc.ext e07, ?_, fun x hx => (by cases hx), ?_⟩, ?_⟩
    · have : V 0 = 0 := rfl
      rw [this, Nat.sub_zero]; exact (o5.ext (e6.trans e7)).mono (by have := e03.size; omega)
    · have h1 : V 0 = 0 := rfl
      rw [h1, Nat.zero_sub, Nat.sub_zero]
      have h2 : ((cnt : Nat) : Int) = tt - fr := by omega
      rw [h2]; exact (o6.ext e7).mono (by have := e03.size; omega)
    · have : V 0 = 0 := rfl
      rw [this]; simp; exact OwnL.nil _ _ _
    · refine ⟨?_, ?_, ?_, ?_, hcl, e07.size⟩
      · show h.size < h7.size; omega
      · show h1.size < h7.size; omega
      · show h4.size < h7.size; omega
      · show h5.size < h7.size; omega
    · have : V 0 = 0 := rfl
      omega
  have hbm : m ≤ 1099511627776 ∧ cnt ≤ 1099511627776 := by omega
  refine wp_rangeP C t7 (i := (i : Int)) (fits_i64.2 (by omega)) itr J F (fun k a b ⟨s, j, l⟩ c => ⟨s, stab j c, l⟩) (fun k a b ⟨h1, s, j⟩ c => ⟨h1, s, stab j c⟩) ?_ J0 ?_
  · rintro k q h8 c hq ⟨s, j, hlt⟩ hs8 ocP
    rw [Int.toNat_natCast] at hq
    have hqm := List.mem_of_mem_drop (List.mem_of_getElem? hq)
    have pc0 := t.cur.pcs q hqm
    have hby := pc0.bytes
    have okt := okT_toks (enc := T.enc) hby
    have hVs : V (k + 1) = V k + (toks T.enc q.2).length := by
      show (els T.enc ((T.cur.ps.drop i).take (k + 1))).length = (els T.enc ((T.cur.ps.drop i).take k)).length + _
      rw [List.take_add_one, hq, els_append, List.length_append]
      congr 1
      show (els T.enc [q]).length = _
      rw [els_one, elsP_len]
    have hRs : R = els T.enc ((T.cur.ps.drop i).take k) ++ elsP T.enc q ++ els T.enc ((T.cur.ps.drop i).drop (k + 1)) := by rw [← hR]; exact els_split hq
    have hRq : ∀ w E, (elsP T.enc q)[w]? = some E → R[V k + w]? = some E := fun w E hE => by
      have hwl := (List.getElem?_eq_some_iff.1 hE).1
      rw [hRs, List.append_assoc, List.getElem?_append_right (by show (els T.enc ((T.cur.ps.drop i).take k)).length ≤ V k + w; exact Nat.le_add_right _ _)]
      have : V k + w - (els T.enc ((T.cur.ps.drop i).take k)).length = w := by show (els T.enc ((T.cur.ps.drop i).take k)).length + w - _ = w; omega
      rw [this, List.getElem?_append_left hwl]; exact hE
    have hVR : V k + (toks T.enc q.2).length ≤ R.length := by
      rw [hRs, List.length_append, List.length_append, elsP_len]
      show (els T.enc ((T.cur.ps.drop i).take k)).length + _ ≤ (els T.enc ((T.cur.ps.drop i).take k)).length + _ + _; omega
    let W : Nat → Prop := fun i => own h7.size 4 i ∨ ((T.Z i ∨ i = a.block ∨ i = b.block) ∧ i < h7.size)
    have hW : ∀ i, W i → i ≠ A7.block ∧ i ≠ A8.block ∧ i ≠ cc.block ∧ i < h7.size + 4 := fun i hw => by
      show i ≠ h4.size ∧ i ≠ h5.size ∧ i ≠ cc.block ∧ i < h7.size + 4
      rcases hw with o | ⟨hz' | hz' | hz', hlt⟩
      · have := o.1; have := o.2; omega
      · have := hz i hz'; have : i ≠ cc.block := fun e => hcz (e ▸ hz'); omega
      · omega
      · omega
    refine wp_whileG (G := Nat) (fun w (r : Int × Unit) h' => w ≤ (toks T.enc q.2).length ∧ r.1 = offs ((toks T.enc q.2).take w) ∧ Held W h8 h' ∧ OwnP (h7.size + 4) h' c q.1 ∧ ∃ s, WJ S P n T h h7.size m0 A1 A2 A7 A8 cc see f R m cnt (V k + w) h' s ∧ V k + w - m < cnt) (fun w => (toks T.enc q.2).length - w)
      (fun tg vs h' => vs = [] ∧ Held W h8 h' ∧ ((tg = 4 ∧ J (k + 1) h') ∨ (tg = 1 ∧ F 1 h'))) 0 ⟨Nat.zero_le _, rfl, Held.refl _ _, ocP, s, j, hlt⟩ ?_ ?_
    · rintro w ⟨(at_ : Int), u⟩ h9 ⟨hw, hat, H9, oc9, s9, j9, hlt9⟩
      dsimp only at hat ⊢
      subst hat
      obtain ⟨hbn, htk⟩ := toks_at (enc := T.enc) hby w hw
      have hle := hbn.le hby
      have pc9 := j9.t.cur.pcs q hqm
      have hq9 : Sw.cell h9 (c.add 0) = some (slv q.1.1) := cells_iff.1 oc9.cells 0 _ rfl
      have hql := pc0.lst.len
      have hlen := pc0.len
      refine wp_grd rfl (wp_load1 (b := .sl) (c.add 0) q.1.1 rfl hq9 (wp_ifB (fun hc => ?_) fun hc => ?_))
      · rw [ltI_iff, natI_def, hql] at hc
        have hkl : offs ((toks T.enc q.2).take w) < q.2.length := by omega
        have htc := toks_cons (enc := T.enc) (hby.drop (offs ((toks T.enc q.2).take w))) (by rw [List.length_drop]; omega)
        rw [htk] at htc
        have hwlt : w < (toks T.enc q.2).length := by
          by_cases hx : w < (toks T.enc q.2).length
          · exact hx
          · rw [List.drop_of_length_le (by omega)] at htc; cases htc
        rw [List.drop_eq_getElem_cons hwlt, List.cons.injEq] at htc
        have hget := elsP_get (enc := T.enc) (q := q) (List.getElem?_eq_getElem hwlt)
        have hsz := okt _ (List.getElem_mem hwlt)
        have hfa := toks_fits (enc := T.enc) hby _ (List.getElem_mem hwlt)
        have hoff : offs ((toks T.enc q.2).take (w + 1)) = offs ((toks T.enc q.2).take w) + (toks T.enc q.2)[w].2.toNat := by
          rw [List.take_add_one, List.getElem?_eq_getElem hwlt, offs_append]; simp [offs]
        refine s_cel (b := .ptr) (x := some T.p) j9.o1 (s_enc j9.t (wp_grd rfl (wp_load1 (b := .sl) (c.add 0) q.1.1 rfl hq9 (wp_call (c_Next M pc9.lst) fun ⟨(x : Int), (sz : Int), _⟩ h10 e10 hx => ?_))))
        have hx : (x, sz) = firstF T.enc (q.2.drop (offs ((toks T.enc q.2).take w))) := by
          rcases hx with ⟨hno, _, _⟩ | ⟨_, _, _, hx⟩
          · rcases hno with h | h | h
            · exact absurd t.enc h
            · omega
            · omega
          · rw [Int.toNat_natCast] at hx; exact hx
        rw [← htc.1] at hx
        have hx1 : x = (toks T.enc q.2)[w].1 := congrArg Prod.fst hx
        have hx2 : sz = (toks T.enc q.2)[w].2 := congrArg Prod.snd hx
        dsimp only
        generalize hEE : ((toks T.enc q.2)[w].1, if q.1.2.1 < 0 then (-1 : Int) else q.1.2.1 + (offs ((toks T.enc q.2).take w) : Int)) = E at hget
        have hE1 : x = E.1 := by rw [hx1, ← hEE]
        have htg := pc0.tag
        rw [hE1]
        refine wp_bind _ (c_pass (nr := 0) (W := W) (tag := q.1.2.1) (at_ := (offs ((toks T.enc q.2).take w) : Nat)) (c := c) (E := E) hs (j9.ext e10 hz) hm0 hz hcz ⟨by show h.size ≠ h4.size; have := e03.size; omega, by show h.size ≠ h5.size; have := e03.size; omega, by show h1.size ≠ h4.size; omega, by show h1.size ≠ h5.size; omega, by show h4.size ≠ h5.size; omega⟩
          ⟨Nat.le_refl _, e1.size, by show h.size ≤ h4.size; have := e03.size; omega, by show h.size ≤ h5.size; have := e03.size; omega⟩ (hRq w E hget) hlt9 ⟨hbm.1, hbm.2, by omega⟩ (oc9.ext e10) rfl (by rw [← hEE]) ⟨by rw [← hEE]; exact hfa, by rw [← hEE, fits_i64]; dsimp only; split <;> omega, by omega, by omega⟩ hW) ?_
        rintro tg vs h11 ⟨rfl, H11, oc11, s11, j11, ⟨rfl, hl11⟩ | ⟨rfl, hl11⟩⟩
        · have HH := (H9.trans (Held.of_ext e10)).trans H11
          refine s_skip (by decide) (s_tag (s_cast0 ?_))
          rw [add_ok (by omega) (by omega)]
          refine s_ret ⟨fun _ => ⟨w + 1, (_, ()), rfl, ⟨hwlt, ?_, HH, oc11, s11, j11, hl11⟩, by omega⟩, fun h => absurd rfl h⟩
          show _ = ((offs ((toks T.enc q.2).take (w + 1)) : Nat) : Int)
          rw [hoff]; omega
        · have HH := (H9.trans (Held.of_ext e10)).trans H11
          refine s_tag (s_cast0 (s_ret ⟨fun h => absurd h (by decide), fun _ => ⟨rfl, HH, .inr ⟨rfl, rfl, s11, ?_⟩⟩⟩))
          rw [← hl11]; exact j11
      · rw [ltI_not, natI_def, hql] at hc
        have hwe : w = (toks T.enc q.2).length := by
          have : (toks T.enc q.2).drop w = [] := by rw [← htk]; exact toks_nil (by rw [List.length_drop]; omega)
          rw [List.drop_eq_nil_iff] at this; omega
        subst hwe
        refine s_ret ⟨fun h => absurd h (by decide), fun _ => ⟨rfl, H9, .inl ⟨rfl, s9, ?_⟩⟩⟩
        show WJ S P n T h h7.size m0 A1 A2 A7 A8 cc see f R m cnt (V (k + 1)) h9 s9 ∧ V (k + 1) - m < cnt
        rw [hVs]; exact ⟨j9, hlt9⟩
    · rintro tg vs h9 ⟨rfl, H9, ⟨rfl, j9⟩ | ⟨rfl, f9⟩⟩
      · exact s_tag (s_cast0 (s_ret ⟨H9, fun _ => j9, fun h => absurd rfl h⟩))
      · exact s_skip (by decide) (s_tag (s_cast0 (s_ret ⟨H9, fun h => absurd h (by decide), fun _ => f9⟩)))
  · intro k h8 hs8 hx
    rcases hx with ⟨rfl, s, j, hlt⟩ | ⟨hk0, rfl, s, j⟩
    · exfalso
      have hV : V (T.cur.ps.drop i).length = R.length := by
        show (els T.enc ((T.cur.ps.drop i).take (T.cur.ps.drop i).length)).length = _
        rw [List.take_length, hR]
      rw [Int.toNat_natCast, hV] at hlt
      omega
    · refine s_tag (s_ret ⟨Held.refl _ _, fun h9 c9 _ => ?_⟩)
      have j9 := stab j (c9.mono fun i _ o => ⟨o.1, by have := o.2; omega⟩)
      refine ⟨rfl, rfl, j9.c, s, j9.oc, ?_⟩
      have := j9.ol
      rw [hres] at this; exact this

theorem c_Atoms (M : Meth0 P S) (C : Cl P S) {n : Nat} {T : TX} {from_ to : Int} (t : TextR S n h T) (hto : fitsI .i64 to) : Gives P (F_Text_Atoms S (some T.p) from_ to) [.one .sl] h fun (y : Sl × Unit) h' => OwnL h.size .i64 h' y.1 ((cutL (els T.enc T.cur.ps) from_ to).map (·.1)) := by
  unfold F_Text_Atoms Gives
  refine s_new1 _ fun h1 e1 o1 z1 => wp_callW (c_walkT M C (t.ext e1) (see_atoms C _) o1 e1.size (fun hz => by have : h.size < h.size := (t.lo _ hz).2; omega) hto) fun tg vs h2 hx => ?_
  obtain ⟨rfl, rfl, c2, s, o2, ol⟩ := hx
  refine ⟨rfl, (), rfl, s_cel (b := .sl) (x := s) o2 (s_ret ⟨rfl, ?_, (s, ()), rfl, ol⟩)⟩
  exact Keep.chg (e1.keep (Nat.le_refl _)) c2 e1.size fun i e => Nat.le_of_eq e.symm
end Go.Sw.Piece

set_option linter.unusedVariables false
set_option linter.unusedSimpArgs false
set_option maxRecDepth 100000
namespace Go.Sw.Piece
open Go.Sw.Any Go.Sw.Codec
open Go.Sw.Tree (iv s_putAll s_newP s_getP s_getT s_putP eqI_self Placed cell_own cell_upd1 wp_whileG minI_eq)
variable {P : Program} {S : Ids} {h : Heap} {Q : Nat → List Value → Heap → Prop}

theorem s_copyAll {n : Nat} {k : IntKind} {s x : Sl} {old l : List Int} {K : Nat → Prog} (ho : OwnL n k h s old) (hx : Lst k h x l) (hl : l.length = old.length)
    (hk : ∀ h', OwnL n k h' s l → Upd s h h' → wp P (K l.length) h' Q) : wp P (.copy 1 s x K) h Q := by
  cases l with
  | nil =>
    have h0 : old = [] := List.eq_nil_of_length_eq_zero hl.symm
    subst h0
    have hs : s.len = 0 := ho.len
    have hxl : x.len = 0 := hx.len
    have hmin : min x.len s.len = 0 := by omega
    refine ⟨[], ?_, ?_⟩
    · rw [hmin]; have := hx.rd.firsts; rw [hxl] at this; exact this
    · rw [hmin]
      cases hb : s.base with
      | none => exact hk h ho ⟨Nat.le_refl _, fun _ _ _ => rfl, fun _ e => e⟩
      | some a => exact ⟨trivial, hk h ho ⟨Nat.le_refl _, fun _ _ _ => rfl, fun _ e => e⟩⟩
  | cons y l =>
    have := s_copyAt (P := P) (Q := Q) (K := K) (s := s) (x := x) (pre := []) (mid := old) (post := []) (l := y :: l) (i := 0) (by simpa using ho) hx hl (by simp) rfl fun h' o u z => hk h' (by simpa using o) u
    rw [cutBase_zero, show subN s.len 0 = s.len from rfl, show subN s.cap 0 = s.cap from rfl] at this
    exact this
theorem elsF_append (tag : Int) : ∀ (a b : List (Int × Int)) (o : Nat), elsF tag o (a ++ b) = elsF tag o a ++ elsF tag (o + offs a) b
  | [], b, o => by simp [elsF, offs]
  | x :: a, b, o => by simp only [List.cons_append, elsF, elsF_append tag a b, offs_cons, Nat.add_assoc]

/-- A piece of the loaded bytes. -/
def Ld (enc : Int) (lo : Sl) (l : List Int) (q : Pc) : Prop := ∃ a e : Nat, a < e ∧ e ≤ l.length ∧ q.2 = (l.take e).drop a ∧ q.1 = mkP ⟨cutBase lo.base e a 1, e - a, e - a⟩ a (toks enc q.2)

theorem ld_pcr {m : Nat} {T : TX} {enc : Int} {lo : Sl} {l : List Int} {q : Pc} (ol : OwnL m .u8 h lo l) (hT : T.enc = enc) (had : T.ad = ⟨none, 0, 0⟩) (hz : ∀ b, lo.base = some b → T.Z b.block ∧ b.block ≠ T.p.block) (hlen : l.length ≤ 65536) (ld : Ld enc lo l q) : PcR h T q := by
  obtain ⟨a, e, hae, hel, h2, h1⟩ := ld
  have hlol := ol.len
  have hcap := ol.lst.cap
  have hmax := ol.lst.max
  have hl1 := (ol.lst.take (n := e) (m := e) hel (Nat.le_refl _) (by omega)).tail (i := a) (by rw [List.length_take]; omega)
  dsimp only at hl1
  have hl2 : q.2.length = e - a := by rw [h2, List.length_drop, List.length_take]; omega
  have hb : q.1.1 = ⟨cutBase lo.base e a 1, e - a, e - a⟩ := by rw [h1]; rfl
  have ht : q.1.2.1 = a := by rw [h1]; rfl
  refine ⟨by rw [hb, h2]; exact hl1, by omega, by rw [hT, hb, ht]; exact h1, by rw [ht]; omega, by omega, fun x hx => ?_⟩
  rw [hb] at hx
  have hx : cutBase lo.base e a 1 = some x := hx
  unfold cutBase at hx
  rw [if_neg (by omega)] at hx
  cases hlb : lo.base with
  | none => rw [hlb] at hx; simp at hx
  | some b =>
    rw [hlb] at hx
    have hx : b.add (a * 1) = x := Option.some.inj hx
    subst hx
    rw [add_block]
    exact ⟨(hz b hlb).1, (hz b hlb).2, fun c hc => by rw [had] at hc; cases hc⟩

/-- What Open answers. -/
inductive OpenR (S : Ids) (h0 h : Heap) (enc limit : Int) (l : List Int) : Option Addr → Int → Prop where
  | enc : ¬ known enc → OpenR S h0 h enc limit l none 10
  | arg : known enc → ¬ (0 ≤ limit ∧ limit ≤ 65536) → OpenR S h0 h enc limit l none 1
  | full : known enc → 0 ≤ limit ∧ limit ≤ 65536 → limit < l.length → OpenR S h0 h enc limit l none 50
  | ok (T : TX) : known enc → 0 ≤ limit ∧ limit ≤ 65536 → l.length ≤ limit → TextR S h0.size h T → T.enc = enc → T.limit = limit → T.kept = [] → T.A = [] → els enc T.cur.ps = elsF 0 0 (toks enc l) → bytesL T.cur.ps = l → (∀ i, T.Z i → h0.size ≤ i) → OpenR S h0 h enc limit l (some T.p) 0

theorem c_Open (M : Meth0 P S) {enc limit : Int} {b : Sl} {l : List Int} (hb : Lst .u8 h b l) :
    Gives P (F_piece_Open S enc b limit) [.one .ptr, .one (.int .i64)] h fun (y : Option Addr × Int × Unit) h' => OpenR S h h' enc limit l y.1 y.2.1 := by
  unfold F_piece_Open Gives
  have hbl := hb.len
  have hby : isBytes l := hb.wf
  refine bind_bool (¬ known enc) ?_ fun bb h1 e1 h1b => wp_ifB (fun hx => s_ret ⟨rfl, e1, (none, 10, ()), rfl, .enc (h1b.1 hx)⟩) fun hx => ?_
  · unfold known
    refine wp_ifB (fun hc => s_ret ⟨rfl, Ext.refl _, true, rfl, ?_⟩) fun hc => s_ret ⟨rfl, Ext.refl _, _, rfl, ?_⟩
    · rw [ltI_iff] at hc; exact Iff.intro (fun _ => by omega) fun _ => rfl
    · rw [ltI_not] at hc; rw [gtI_iff]; omega
  have he : known enc := by
    by_cases hk : known enc
    · exact hk
    · rw [h1b.2 hk] at hx; cases hx
  refine bind_bool (¬ (0 ≤ limit ∧ limit ≤ 65536)) ?_ fun bb h2 e2 h2b => wp_ifB (fun hx => s_ret ⟨rfl, e1.trans e2, (none, 1, ()), rfl, .arg he (h2b.1 hx)⟩) fun hx => ?_
  · refine wp_ifB (fun hc => s_ret ⟨rfl, Ext.refl _, true, rfl, ?_⟩) fun hc => s_ret ⟨rfl, Ext.refl _, _, rfl, ?_⟩
    · rw [ltI_iff] at hc; exact Iff.intro (fun _ => by omega) fun _ => rfl
    · rw [ltI_not] at hc; rw [gtI_iff]; omega
  have hlim : 0 ≤ limit ∧ limit ≤ 65536 := by
    by_cases hk : 0 ≤ limit ∧ limit ≤ 65536
    · exact hk
    · rw [h2b.2 hk] at hx; cases hx
  have e02 := e1.trans e2
  refine wp_ifB (fun hc => s_ret ⟨rfl, e02, (none, 50, ()), rfl, .full he hlim (by rw [gtI_iff, natI_def, hbl] at hc; omega)⟩) fun hc => ?_
  rw [gtI_not, natI_def, hbl] at hc
  have hnat : natI b.len = (l.length : Int) := by rw [natI_def, hbl]
  rw [hnat]
  have okt := okT_toks (enc := enc) hby
  have htl := toks_len (enc := enc) hby
  have hto := toks_offs (enc := enc) hby
  refine s_mkZ (k := .u8) (by omega) (by omega) fun h3 lo e3 olo => s_copyAll olo (hb.ext (e02.trans e3)) (by simp) fun h4 ol4 u4 => ?_
  have e24 : Ext h2 h4 := Upd.extN e3 u4 (fun a ha => (olo.own.lt ha).1)
  have hlol := ol4.len
  refine fun el => ?_
  have e5 : Ext h4 (h4.push (.cells [i64v enc, i64v limit, .pointer none, .slice none 0 0].toArray el)) := Ext.push ..
  have o5 : Own h4.size 1 (h4.push (.cells [i64v enc, i64v limit, .pointer none, .slice none 0 0].toArray el)) ⟨some ⟨h4.size, 0, none⟩, 4, 4⟩ [i64v enc, i64v limit, .pointer none, .slice none 0 0] := own_alloc rfl (by decide) (by decide)
  generalize h4.push (.cells [i64v enc, i64v limit, .pointer none, .slice none 0 0].toArray el) = h5 at e5 o5 ⊢
  have e05 := (e02.trans e24).trans e5
  have ol5 := ol4.ext e5
  have hcapL := ol5.lst.cap
  have hmaxL := ol5.lst.max
  refine wp_whileG (G := Nat × List Pc) (fun g (r : Sl × Int × Unit) h' => g.1 ≤ (toks enc l).length ∧ r.2.1 = offs ((toks enc l).take g.1) ∧ Ext h5 h' ∧ OwnPs h5.size h' r.1 (g.2.map (·.1)) ∧ (∀ q, q ∈ g.2 → Ld enc lo l q) ∧ els enc g.2 = elsF 0 0 ((toks enc l).take g.1) ∧ bytesL g.2 = l.take (offs ((toks enc l).take g.1)) ∧ g.2.length ≤ g.1) (fun g => (toks enc l).length - g.1)
    (fun tg vs h' => tg = 3 ∧ Ext h5 h' ∧ ∃ (s : Sl) (ps : List Pc), vs = [slv s] ∧ OwnPs h5.size h' s (ps.map (·.1)) ∧ (∀ q, q ∈ ps → Ld enc lo l q) ∧ els enc ps = elsF 0 0 (toks enc l) ∧ bytesL ps = l) (0, []) ⟨Nat.zero_le _, rfl, Ext.refl _, Own.nil _ _ _, (fun q hq => by cases hq), rfl, by simp [bytesL, offs], Nat.le_refl _⟩ ?_ ?_
  · rintro ⟨k, ps⟩ ⟨(s : Sl), (at_ : Int), u⟩ h6 ⟨hk, hat, e6, os, hld, hel, hbs, hpn⟩
    dsimp only at hk hat os hld hel hbs hpn ⊢
    subst hat
    have hbk := toks_at (enc := enc) hby k hk
    have hkl := hbk.1.le hby
    have hLn : natI lo.len = (l.length : Int) := by rw [natI_def, hlol]
    rw [hLn]
    refine wp_ifB (fun hc => ?_) fun hc => ?_
    · rw [ltI_iff] at hc
      have hklt : k < (toks enc l).length := by
        by_cases hx : k < (toks enc l).length
        · exact hx
        · rw [List.take_of_length_le (by omega), hto] at hc; omega
      have ol6 := ol5.ext e6
      refine wp_whileG (G := Nat) (fun w (r : Int × Int × Unit) h' => k + w ≤ (toks enc l).length ∧ w ≤ 128 ∧ r.1 = offs ((toks enc l).take (k + w)) ∧ r.2.1 = w ∧ Ext h6 h') (fun w => (toks enc l).length - w)
        (fun tg vs h' => tg = 5 ∧ Ext h6 h' ∧ ∃ w, 1 ≤ w ∧ k + w ≤ (toks enc l).length ∧ vs = [i64v (offs ((toks enc l).take (k + w)))]) 0 ⟨by omega, by omega, rfl, rfl, Ext.refl _⟩ ?_ ?_
      · rintro w ⟨(en : Int), (n : Int), u⟩ h7 ⟨hkw, hw, hen, hn, e7⟩
        dsimp only at hen hn ⊢
        subst hen; subst hn
        obtain ⟨hbn, htk⟩ := toks_at (enc := enc) hby (k + w) hkw
        have hle := hbn.le hby
        have hmono : offs ((toks enc l).take k) ≤ offs ((toks enc l).take (k + w)) := by
          have : (toks enc l).take k = ((toks enc l).take (k + w)).take k := by rw [List.take_take, Nat.min_eq_left (by omega)]
          rw [this]; exact offs_take_le _ _
        refine bind_bool (offs ((toks enc l).take (k + w)) < l.length ∧ w < 128) ?_ fun bb h8 e8 hb8 => wp_ifB (fun hx => ?_) fun hx => ?_
        · refine wp_ifB (fun hc => s_ret ⟨rfl, Ext.refl _, _, rfl, ?_⟩) fun hc => s_ret ⟨rfl, Ext.refl _, false, rfl, ?_⟩
          · rw [ltI_iff] at hc ⊢; omega
          · rw [ltI_not] at hc; exact Iff.intro (fun h => by cases h) fun h => by omega
        · obtain ⟨hlt, hw128⟩ := hb8.1 hx
          have hwlt : k + w < (toks enc l).length := by
            by_cases hx : k + w < (toks enc l).length
            · exact hx
            · rw [List.take_of_length_le (by omega), hto] at hlt; omega
          have htc := toks_cons (enc := enc) (hby.drop (offs ((toks enc l).take (k + w)))) (by rw [List.length_drop]; omega)
          rw [htk, List.drop_eq_getElem_cons hwlt, List.cons.injEq] at htc
          have hsz := okt _ (List.getElem_mem hwlt)
          have hoff : offs ((toks enc l).take (k + (w + 1))) = offs ((toks enc l).take (k + w)) + (toks enc l)[k + w].2.toNat := by
            rw [show k + (w + 1) = (k + w) + 1 by omega, List.take_add_one, List.getElem?_eq_getElem hwlt, offs_append]; simp [offs]
          refine wp_call (c_Next M (ol6.ext (e7.trans e8)).lst) fun ⟨(x : Int), (sz : Int), _⟩ h9 e9 hx9 => ?_
          have hx9 : (x, sz) = firstF enc (l.drop (offs ((toks enc l).take (k + w)))) := by
            rcases hx9 with ⟨hno, _, _⟩ | ⟨_, _, _, hx⟩
            · rcases hno with h | h | h
              · exact absurd he h
              · omega
              · omega
            · rw [Int.toNat_natCast] at hx; exact hx
          rw [← htc.1] at hx9
          have hx2 : sz = (toks enc l)[k + w].2 := congrArg Prod.snd hx9
          dsimp only
          rw [add_ok (by omega) (by omega), add_ok (a := (w : Int)) (by omega) (by omega)]
          refine s_ret ⟨fun _ => ⟨w + 1, (_, _, ()), rfl, ⟨by omega, by omega, ?_, by dsimp only; omega, (e7.trans e8).trans e9⟩, by omega⟩, fun h => absurd rfl h⟩
          dsimp only
          rw [hoff]; omega
        · have hno : ¬ (offs ((toks enc l).take (k + w)) < l.length ∧ w < 128) := fun k => by rw [hb8.2 k] at hx; cases hx
          refine s_ret ⟨fun h => absurd h (by decide), fun _ => ⟨rfl, e7.trans e8, w, ?_, hkw, rfl⟩⟩
          by_cases h0 : w = 0
          · subst h0; exact absurd ⟨by rw [Nat.add_zero]; omega, by omega⟩ hno
          · omega
      · rintro tg vs h7 ⟨rfl, e7, w, hw1, hkw, rfl⟩
        refine s_tag (s_castI ?_)
        have hbn := (toks_at (enc := enc) hby (k + w) hkw).1
        have hle := hbn.le hby
        have htt := toks_take (enc := enc) hby (k + w) hkw
        have hsub : ((toks enc l).take (k + w)).take k = (toks enc l).take k := by rw [List.take_take, Nat.min_eq_left (by omega)]
        have hoapp := offs_append (((toks enc l).take (k + w)).take k) (((toks enc l).take (k + w)).drop k)
        rw [List.take_append_drop, hsub] at hoapp
        have hpos := offs_pos (((okt.take (k + w)).drop k)) (by rw [List.length_drop, List.length_take]; omega)
        have htd := (toks_at (enc := enc) (hby.take (offs ((toks enc l).take (k + w)))) k (by rw [htt, List.length_take]; omega)).2
        rw [htt, hsub] at htd
        generalize hA : offs ((toks enc l).take k) = A at *
        generalize hE : offs ((toks enc l).take (k + w)) = E at *
        have hAE : A < E := by omega
        have tA : toN (A : Int) = A := by rw [toN_def]; omega
        have tE : toN (E : Int) = E := by rw [toN_def]; omega
        dsimp only
        refine s_grd (andB_iff.2 ⟨leB_ok (by omega) (by omega), andB_iff.2 ⟨leB_ok (by omega) (by rw [tE]; omega), leB_ok (by omega) (by rw [tE]; omega)⟩⟩) ?_
        rw [tA, tE]
        have ol7 := (ol5.ext e6).ext e7
        have hl1 := (ol7.lst.take (n := E) (m := E) hle (Nat.le_refl _) (by omega)).tail (i := A) (by rw [List.length_take]; omega)
        dsimp only at hl1
        refine wp_call (c_newPart M he (tag := (A : Int)) hl1 (by rw [List.length_drop, List.length_take]; omega)) fun ⟨(y : Part), _⟩ h8 e8 hy => ?_
        have hy : y = mkP ⟨cutBase lo.base E A 1, E - A, E - A⟩ A (toks enc ((l.take E).drop A)) := hy
        dsimp only
        have e68 := e7.trans e8
        have hsl := OwnPs.len os
        rw [List.length_map] at hsl
        refine wp_push (n := h5.size) (new := Bs.inj PB y) (os.ext e68) (Nat.le_trans e6.size e68.size) rfl (flatP _) rfl (by show (s.len + 1) * 64 ≤ _; omega) (by omega) fun r h9 a9 b9 u9 d9 => s_ret ⟨fun _ => ⟨(k + w, ps ++ [(y, (l.take E).drop A)]), (r, (E : Int), ()), rfl, ⟨hkw, by dsimp only; rw [hE], ?_, ?_, ?_, ?_, ?_, by dsimp only; rw [List.length_append]; simp; omega⟩, by dsimp only; omega⟩, fun h => absurd rfl h⟩
        · exact Upd.extN (e6.trans e68) u9 (fun a ha => (os.lt ha).1)
        · rw [List.map_append]
          show Own h5.size 7 h9 r (cP (_ ++ [y]))
          rw [cP_append, cP_one]; exact a9
        · intro q hq
          rcases List.mem_append.1 hq with hq | hq
          · exact hld q hq
          · rw [List.mem_singleton.1 hq]
            exact ⟨A, E, hAE, hle, rfl, hy⟩
        · dsimp only
          rw [els_append, els_one, hel]
          have h1 : (toks enc l).take (k + w) = (toks enc l).take k ++ ((toks enc l).take (k + w)).drop k := by rw [← hsub, List.take_append_drop]
          conv => rhs; rw [h1]
          rw [elsF_append, hA]
          congr 1
          unfold elsP
          dsimp only
          rw [htd, hy]
          show elsF (A : Int) 0 _ = _
          have : (A : Int) = tagF 0 A := by unfold tagF; simp
          rw [this, elsF_tag]
        · dsimp only
          rw [bytesL_append, hbs, hE]
          have : l.take A = (l.take E).take A := by rw [List.take_take, Nat.min_eq_left (by omega)]
          rw [this]
          simp [bytesL, List.take_append_drop]
    · rw [ltI_not] at hc
      have hke : k = (toks enc l).length := by
        by_cases hx : k < (toks enc l).length
        · have h1 := offs_append ((toks enc l).take k) ((toks enc l).drop k)
          rw [List.take_append_drop, hto] at h1
          have := offs_pos (okt.drop k) (by rw [List.length_drop]; omega)
          omega
        · omega
      subst hke
      rw [List.take_length] at hel hbs
      rw [hto, List.take_length] at hbs
      exact s_ret ⟨fun h => absurd h (by decide), fun _ => ⟨rfl, e6, s, ps, rfl, os, hld, hel, hbs⟩⟩
  · rintro tg vs h6 ⟨rfl, e6, s, ps, rfl, os, hld, hel, hbs⟩
    refine s_tag (wp_cast (tys := [.one .sl]) (s, ()) rfl ?_)
    dsimp only
    have e06 := e05.trans e6
    have hlo : ∀ b, lo.base = some b → h.size ≤ b.block ∧ b.block < h4.size := fun b hb => by have := ol4.own.lt hb; have := e02.size; omega
    have e04 := e02.trans e24
    let Z : Nat → Prop := fun i => h.size ≤ i
    let T0 : TX := { p := ⟨h4.size, 0, none⟩, enc := enc, limit := limit, cur := ⟨none, .nil, ps⟩, kept := [], ad := ⟨none, 0, 0⟩, A := [], Z := Z }
    have pc6 : ∀ q, q ∈ ps → PcR h6 T0 q := fun q hq => ld_pcr (ol5.ext e6) rfl rfl (fun b hb => ⟨(hlo b hb).1, by show b.block ≠ h4.size; have := (hlo b hb).2; omega⟩) (by omega) (hld q hq)
    have hwM : ∀ x, x ∈ ps.map (·.1) → VS (wtP x) (sumP x) := fun x hx => by
      obtain ⟨q, hq, rfl⟩ := List.mem_map.1 hx
      exact (pc6 q hq).wt.2
    have its : Its (part S Z) h6 s (ps.map (·.1)) := its_own os hwM
    have hfr : Fresh (part S Z) h6 := fun i hi => Nat.le_trans e06.size hi
    have hWm : ((ps.map (·.1)).map wtP).sum = (toksL enc ps).length := W_ps pc6
    have hmt := (toksL_le (enc := enc) fun q hq => (pc6 q hq).bytes).1
    rw [hbs] at hmt
    have hof := c_Of (part_ok S Z (P := P)) its (show (part S Z).W (ps.map (·.1)) ≤ 4398046511104 from by
      have : (part S Z).W (ps.map (·.1)) = (toksL enc ps).length := hWm
      rw [this]; omega) hfr
    rw [← g_Of S Z] at hof
    refine wp_call (R := fun (y : TR × Unit) h' => ∃ t' : Bt Part, Nd (part S Z) h' y.1.1 t' ∧ t'.list = ps.map (·.1)) (Gives.mono hof fun y h' e ⟨t', q1, q2, _⟩ => ⟨t', q1, q2⟩) fun ⟨⟨(root : Option Addr), _⟩, _⟩ h7 e7 ⟨t', nd, hl'⟩ => ?_
    have nd : Nd (part S Z) h7 root t' := nd
    dsimp only
    have o7 := o5.ext (e6.trans e7)
    refine s_setC' (.pointer root) o7 (by simp) rfl fun h8 o8 u8 => ?_
    have o8 : Own h4.size 1 h8 ⟨some ⟨h4.size, 0, none⟩, 4, 4⟩ [i64v enc, i64v limit, .pointer root, .slice none 0 0] := o8
    have e08 : Ext h h8 := Upd.extN (e06.trans e7) u8 (by intro x hx; cases hx; exact e04.size)
    have ol8 : OwnL h2.size .u8 h8 lo l := ((ol5.ext e6).ext e7).upd u8 fun x y hx hy => by cases hy; have := (hlo x hx).2; show h4.size ≠ x.block; omega
    have hp8 : h4.size < h8.size := (o8.lt rfl).2
    let T : TX := { p := ⟨h4.size, 0, none⟩, enc := enc, limit := limit, cur := ⟨root, t', ps⟩, kept := [], ad := ⟨none, 0, 0⟩, A := [], Z := fun i => h.size ≤ i ∧ i < h8.size }
    have nd8 : Nd (part S Z) h8 root t' := nd.updK u8 fun b hb => by
      cases hb
      have := cells_iff.1 o7.cells 0 _ rfl
      rw [add_zero'] at this
      exact ⟨_, _, this⟩
    refine s_ret ⟨rfl, e08, (some ⟨h4.size, 0, none⟩, 0, ()), rfl, .ok T he hlim (by omega) ⟨he, hlim, o8.mono e04.size, OwnL.nil _ _ _, fun b hb => (by cases hb), fun b hb => (by cases hb), ⟨part_mono nd8 fun i hi hz => ⟨hz, hi⟩, hl', fun q hq => ld_pcr ol8 rfl rfl (fun b hb => ⟨⟨(hlo b hb).1, by have := (hlo b hb).2; omega⟩, by show b.block ≠ h4.size; have := (hlo b hb).2; omega⟩) (by omega) (hld q hq), ?_⟩, fun s hs => (by cases hs), ⟨e04.size, hp8⟩, fun b hb => (by cases hb), fun i hi => hi⟩ rfl rfl rfl rfl hel hbs fun i hi => hi.1⟩
    show (bytesL ps).length ≤ _
    rw [hbs]; omega
end Go.Sw.Piece

set_option linter.unusedVariables false
set_option linter.unusedSimpArgs false
set_option maxRecDepth 100000
namespace Go.Sw.Piece
open Go.Sw.Any Go.Sw.Codec
open Go.Sw.Tree (iv s_putAll s_newP s_getP s_getT s_putP eqI_self Placed cell_own cell_upd1 wp_whileG minI_eq)
variable {P : Program} {S : Ids} {h : Heap} {Q : Nat → List Value → Heap → Prop}

theorem TextR.keep {n : Nat} {T : TX} (r : TextR S n h T) : TextR S n h { T with kept := T.cur :: T.kept } := by
  have pc : ∀ {q}, PcR h T q → PcR h { T with kept := T.cur :: T.kept } q := fun q => ⟨q.lst, q.ne, q.is, q.tag, q.len, q.blk⟩
  have st : ∀ {s}, StR S h T s → StR S h { T with kept := T.cur :: T.kept } s := fun s => ⟨s.nd, s.ls, fun q hq => pc (s.pcs q hq), s.small⟩
  refine ⟨r.enc, r.lim, r.ob, r.ad, r.adp, r.adk, st r.cur, fun s hs => ?_, r.zp, r.za, r.lo⟩
  rcases List.mem_cons.1 hs with rfl | hs
  · exact st r.cur
  · exact st (r.kept s hs)

end Go.Sw.Piece

set_option linter.unusedVariables false
set_option linter.unusedSimpArgs false
set_option maxRecDepth 100000
namespace Go.Sw.Piece
open Go.Sw.Any Go.Sw.Codec
open Go.Sw.Tree (iv s_putAll s_newP s_getP s_getT s_putP eqI_self Placed cell_own cell_upd1 wp_whileG minI_eq)
variable {P : Program} {S : Ids} {h : Heap} {Q : Nat → List Value → Heap → Prop}

def edit1 (a1 : Addr) (at_ a : Int) : EdD := (at_, at_, (⟨some a1, 1, 1⟩, [a]), ())
theorem ok_edit1 {m : Nat} {a1 a2 : Addr} {at_ a : Int} (o1 : OwnL m .i64 h ⟨some a1, 1, 1⟩ [a]) (o2 : Own m 1 h ⟨some a2, 3, 3⟩ [i64v at_, i64v at_, slv ⟨some a1, 1, 1⟩]) (hf : fitsI .i64 at_) :
    (Sh.list EdSh).ok h (⟨some a2, 1, 1⟩, [edit1 a1 at_ a]) := by
  have hl : (Sh.list (.int .i64)).ok h ((⟨some a1, 1, 1⟩, [a]) : Sl × List Int) := by
    refine ⟨rfl, Nat.le_refl _, (by decide : 1 < 2 ^ 63), fun i y hi => ?_⟩
    have hlt := (List.getElem?_eq_some_iff.1 hi).1
    simp at hlt
    subst hlt
    simp at hi
    subst hi
    refine ⟨a1, rfl, cells_iff.2 fun j v hj => ?_, o1.wf a (List.mem_singleton.2 rfl)⟩
    cases j with
    | zero =>
      simp [Sh.cells] at hj; subst hj
      have := o1.lst.cell (j := 0) (by simp)
      simpa [Sh.size, add_zero'] using this
    | succ j => simp [Sh.cells] at hj
  refine ⟨rfl, Nat.le_refl _, (by decide : 1 < 2 ^ 63), fun i y hi => ?_⟩
  have hlt := (List.getElem?_eq_some_iff.1 hi).1
  simp at hlt
  subst hlt
  simp at hi
  subst hi
  refine ⟨a2, rfl, cells_iff.2 fun j v hj => ?_, ⟨hf, hf, hl, trivial⟩⟩
  rw [Nat.zero_mul, add_zero']
  refine cells_iff.1 o2.cells _ _ ?_
  match j, hj with
  | 0, hj => exact hj
  | 1, hj => exact hj
  | 2, hj => exact hj
  | j + 3, hj => simp [Sh.cells, edit1] at hj

/-- One atom is put. -/
theorem c_put1 (M : Meth0 P S) {n : Nat} {T : TX} {at_ a : Int} {K : Int × Unit → Prog} (t : TextR S n h T) (hn : n ≤ h.size) (hfa : fitsI .i64 a) (hs : 0 < sizeF T.enc a) (h0 : 0 ≤ at_) (hle : at_ ≤ (els T.enc T.cur.ps).length) (hA : T.A.length ≤ 399999999990) (hsm : (bytesL T.cur.ps).length + sizeF T.enc a ≤ T.limit)
    (hk : ∀ h' T', Chg (wfoot T) h h' → TextR S n h' T' → Nxt T T' h.size → els T.enc T'.cur.ps = (els T.enc T.cur.ps).take at_.toNat ++ [(a, -1)] ++ (els T.enc T.cur.ps).drop at_.toNat → T'.A.length ≤ T.A.length + 4 → wp P (K (0, ())) h' Q) :
    wp P (.alloc [i64v a] fun (a1 : Addr) => .alloc [i64v at_, i64v at_, .slice (some a1) 1 1] fun (a2 : Addr) => .call (F_Text_Change S (some T.p) ⟨some a2, 1, 1⟩) [.one (.int .i64)] K) h Q := by
  have lo := t.lo
  have hpos := sizeF_pos T.enc a
  have hlim := t.lim
  have hbig : (els T.enc T.cur.ps).length ≤ 65536 := by
    have h2 := (toksL_le (enc := T.enc) t.cur.bytes).1
    rw [els_len]; omega
  refine s_allocL (k := .i64) [a] (by intro x hx; rw [List.mem_singleton.1 hx]; exact hfa) (by simp) fun h1 e1 o1 => fun el => ?_
  have e2 : Ext h1 (h1.push (.cells [i64v at_, i64v at_, .slice (some ⟨h.size, 0, none⟩) 1 1].toArray el)) := Ext.push ..
  have o2 : Own h1.size 1 (h1.push (.cells [i64v at_, i64v at_, .slice (some ⟨h.size, 0, none⟩) 1 1].toArray el)) ⟨some ⟨h1.size, 0, none⟩, 3, 3⟩ [i64v at_, i64v at_, .slice (some ⟨h.size, 0, none⟩) 1 1] := own_alloc rfl (by decide) (by decide)
  generalize h1.push (.cells [i64v at_, i64v at_, .slice (some ⟨h.size, 0, none⟩) 1 1].toArray el) = h2 at e2 o2 ⊢
  have e02 := e1.trans e2
  have t2 := t.ext e02
  have hfit : fitsI .i64 at_ := fits_i64.2 (by omega)
  have nW : ∀ i, h.size ≤ i → ¬ wfoot T i := fun i hi hw => by have := (lo i (wfoot_Z t hw)).2; omega
  have hok : ∀ h', Chg (wfoot T) h2 h' → (Sh.list EdSh).ok h' (⟨some ⟨h1.size, 0, none⟩, 1, 1⟩, [edit1 ⟨h.size, 0, none⟩ at_ a]) := fun h' c =>
    ok_edit1 (c.ownL (o1.ext e2) fun x hx hw => by cases hx; exact nW h.size (Nat.le_refl _) hw) ((c.own o2 fun x hx hw => by cases hx; exact nW h1.size e1.size hw).mono e1.size) hfit
  have hpo : putsOf [edit1 ⟨h.size, 0, none⟩ at_ a] = [a] := rfl
  refine wp_callW (c_Change M (x := (⟨some ⟨h1.size, 0, none⟩, 1, 1⟩, [edit1 ⟨h.size, 0, none⟩ at_ a])) t2 (Nat.le_trans hn e02.size) hok (fun e he hne b hb hz => ?_) (by show T.A.length + 4 * (putsOf [edit1 ⟨h.size, 0, none⟩ at_ a]).length ≤ _; rw [hpo]; simp; omega) (by omega)) fun tg vs h3 hx => ?_
  · rw [List.mem_singleton.1 he] at hb
    have hb : some (⟨h.size, 0, none⟩ : Addr) = some b := hb
    cases hb
    have : h.size < h.size := (lo _ hz).2
    omega
  · obtain ⟨rfl, c3, r, T', rfl, R⟩ := hx
    have hr : r = 0 := by
      have hts := toksL_els t.enc t.cur.bytes
      have hoff := (toksL_le (enc := T.enc) t.cur.bytes).2
      have hplc : Plc (toksL T.enc T.cur.ps).length 0 [edit1 ⟨h.size, 0, none⟩ at_ a] := ⟨h0, Int.le_refl _, by show at_ ≤ _; rw [← els_len]; exact hle, trivial⟩
      have hfe : fitsE T.enc (putsOf [edit1 ⟨h.size, 0, none⟩ at_ a]) := by rw [hpo]; intro b hb; rw [List.mem_singleton.1 hb]; exact hs
      have hg : goneE (toksL T.enc T.cur.ps) [edit1 ⟨h.size, 0, none⟩ at_ a] = 0 := by simp [goneE, edit1]
      have hz : sizeL T.enc (putsOf [edit1 ⟨h.size, 0, none⟩ at_ a]) = sizeF T.enc a := by rw [hpo]; simp [sizeL]
      cases R.ref with
      | many h => simp at h
      | place _ h => exact absurd hplc h
      | fit _ _ h => exact absurd hfe h
      | full _ _ _ hfull =>
        have hfull : T.limit < offs (toksL T.enc T.cur.ps) + sizeL T.enc (putsOf [edit1 ⟨h.size, 0, none⟩ at_ a]) - goneE (toksL T.enc T.cur.ps) [edit1 ⟨h.size, 0, none⟩ at_ a] := hfull
        rw [hg, hz] at hfull; omega
      | ok => rfl
    subst hr
    refine ⟨rfl, (0, ()), rfl, hk h3 T' (Chg.pre e02 c3) R.t ⟨R.nx.p, R.nx.enc, R.nx.limit, R.nx.kept, R.nx.zm, fun i hi => (R.nx.zn i hi).imp id fun h => by have := e02.size; omega, fun b hb => (R.nx.adc b hb).imp id fun h => by have := e02.size; omega⟩ ?_ ?_⟩
    · rw [R.els, if_pos rfl]; rfl
    · have := R.len
      have h4 : (putsOf [edit1 ⟨h.size, 0, none⟩ at_ a]).length = 1 := by rw [hpo]; rfl
      have this : T'.A.length ≤ T.A.length + 4 * (putsOf [edit1 ⟨h.size, 0, none⟩ at_ a]).length := this
      omega
end Go.Sw.Piece

set_option linter.unusedVariables false
set_option linter.unusedSimpArgs false
set_option maxRecDepth 100000
namespace Go.Sw.Piece
open Go.Sw.Any Go.Sw.Codec
open Go.Sw.Tree (iv s_putAll s_newP s_getP s_getT s_putP eqI_self Placed cell_own cell_upd1 wp_whileG minI_eq)
variable {P : Program} {S : Ids} {h : Heap} {Q : Nat → List Value → Heap → Prop}

theorem known1 : known 1 := by unfold known; omega
theorem c_able (M : Meth0 P S) : Gives P (F_law5_able S) [.one .bool] h fun (y : Bool × Unit) _ => y.1 = true := by
  unfold F_law5_able Gives
  have hb97 : ∀ x, x ∈ [(97 : Int)] → fitsI .u8 x := bytes_fit rfl
  refine s_allocL (k := .u8) [97] hb97 (by simp) fun h1 e1 o1 => wp_call (c_Next M o1.lst) fun ⟨(a : Int), (n : Int), _⟩ h2 e2 hx => ?_
  have hx : (a, n) = ((97 : Int), (1 : Int)) := by
    rcases hx with ⟨hno, _, _⟩ | ⟨_, _, _, hx⟩
    · rcases hno with h | h | h
      · exact absurd known1 h
      · exact absurd h (by decide)
      · exact absurd h (by decide)
    · have h3 : firstF 1 [97] = ((97 : Int), (1 : Int)) := by decide
      exact hx.trans h3
  have ha : a = 97 := congrArg Prod.fst hx
  have hn : n = 1 := congrArg Prod.snd hx
  subst ha; subst hn
  dsimp only
  have e02 := e1.trans e2
  refine bind_bool False (s_neF rfl (s_ret ⟨rfl, Ext.refl _, _, rfl, ?_⟩)) fun bb h3 e3 hb => wp_ifB (fun hx => (hb.1 hx).elim) fun _ => ?_
  · rw [neI_iff]; exact Iff.intro (fun h => h rfl) False.elim
  refine s_allocL (k := .u8) [97] hb97 (by simp) fun h4 e4 o4 => wp_call (c_Open M (limit := Int.ofNat 2) (enc := Int.ofNat 1) o4.lst) fun ⟨(p : Option Addr), (er : Int), _⟩ h5 e5 hx => ?_
  have e05 := ((e02.trans e3).trans e4).trans e5
  have hx : OpenR S h4 h5 (Int.ofNat 1) (Int.ofNat 2) [97] p er := hx
  have hen : known (Int.ofNat 1) := known1
  cases hx with
  | enc h => exact absurd hen h
  | arg _ h => exact absurd (by decide : (0 : Int) ≤ Int.ofNat 2 ∧ Int.ofNat 2 ≤ 65536) h
  | full _ _ h => exact absurd h (by decide)
  | ok T _ _ _ t he hl hk hA hel hby hz =>
    have htk : toks (Int.ofNat 1) [97] = [((97 : Int), (1 : Int))] := by decide
    rw [htk] at hel
    have hlen : (els T.enc T.cur.ps).length = 1 := by rw [he, hel]; rfl
    have hbl : (bytesL T.cur.ps).length = 1 := by rw [hby]; rfl
    refine bind_bool False (s_ifF (s_neF rfl (wp_call (c_Len t) fun ⟨(L : Int), _⟩ h6 e6 hL => s_ret ⟨rfl, e6, _, rfl, ?_⟩))) fun bb h6 e6 hb => wp_ifB (fun hx => (hb.1 hx).elim) fun _ => ?_
    · have hL : L = _ := hL
      rw [hL, hlen, neI_iff]; exact Iff.intro (fun h => absurd rfl h) False.elim
    have t6 := t.ext e6
    have e06 := e05.trans e6
    have h4s : h.size ≤ h4.size := ((e02.trans e3).trans e4).size
    have hs98 : sizeF T.enc 98 = 1 := by rw [he]; decide
    refine wp_bind (fun tg vs h' => tg = 0 ∧ vs = [.bool true] ∧ Ext h h') ?_ ?_
    · refine c_put1 M t6 (by have := e5.size; have := e6.size; omega) (fits_i64.2 (by decide)) (by rw [hs98]; decide) (by decide) (by rw [hlen]; decide) (by rw [hA]; decide) (by rw [hbl, hs98, hl]; decide) fun h7 T' c7 t7 nx hE _ => ?_
      have cl := c_Len (P := P) t7
      rw [nx.p] at cl
      refine s_ifT (wp_call cl fun ⟨(L : Int), _⟩ h8 e8 hL => s_ret ⟨rfl, ?_, ?_⟩)
      · have hL : L = _ := hL
        rw [nx.enc, hE] at hL
        have : L = 2 := by rw [hL, he, hel]; rfl
        rw [this]; rfl
      · have : Keep h.size h6 h7 := c7.keep (by have := e06.size; omega) fun i hi hw => by have := hz i (wfoot_Z t6 hw); omega
        exact Keep.trans (Keep.trans e06 this) (e8.keep (by have := e06.size; have := c7.1; omega))
    · rintro tg vs h7 ⟨rfl, rfl, e7⟩
      exact s_tag (s_castB (s_ret ⟨rfl, e7, (true, ()), rfl, rfl⟩))
end Go.Sw.Piece

set_option linter.unusedVariables false
set_option linter.unusedSimpArgs false
set_option maxRecDepth 100000
namespace Go.Sw.Piece
open Go.Sw.Any Go.Sw.Codec
open Go.Sw.Tree (iv s_putAll s_newP s_getP s_getT s_putP eqI_self Placed cell_own cell_upd1 wp_whileG minI_eq)
variable {P : Program} {S : Ids} {h : Heap} {Q : Nat → List Value → Heap → Prop}

/-- A text that was opened. -/
structure Opened (S : Ids) (h0 h : Heap) (enc limit : Int) (l : List Int) (T : TX) : Prop where
  t : TextR S h0.size h T
  en : T.enc = enc
  li : T.limit = limit
  kept : T.kept = []
  A : T.A = []
  el : Piece.els enc T.cur.ps = elsF 0 0 (toks enc l)
  bytes : bytesL T.cur.ps = l
  z : ∀ i, T.Z i → h0.size ≤ i

theorem c_opened (M : Meth0 P S) {enc : Int} {b : Sl} {l : List Int} (he : known enc) (hb : Lst .u8 h b l) (hl : l.length ≤ 65536) :
    Gives P (F_law5_opened S enc b) [.one .ptr] h fun (y : Option Addr × Unit) h' => ∃ T, y.1 = some T.p ∧ Opened S h h' enc 65536 l T := by
  unfold F_law5_opened Gives
  refine s_append (n := h.size) (k := .u8) (OwnL.nil _ _ _) (Nat.le_refl _) hb (by simp; omega) (by simp; omega) fun r h1 k1 o1 u1 b1 => ?_
  have e1 : Ext h h1 := k1
  rw [List.nil_append] at o1
  refine wp_call (c_Open M (enc := enc) (limit := Int.ofNat 65536) o1.lst) fun ⟨(p : Option Addr), (er : Int), _⟩ h2 e2 hx => ?_
  have hx : OpenR S h1 h2 enc (Int.ofNat 65536) l p er := hx
  have h65 : (Int.ofNat 65536 : Int) = 65536 := rfl
  cases hx with
  | enc h => exact absurd he h
  | arg _ h => exact absurd (by decide : (0 : Int) ≤ Int.ofNat 65536 ∧ Int.ofNat 65536 ≤ 65536) h
  | full _ _ h => rw [h65] at h; omega
  | ok T _ _ _ t he' hl' hk hA hel hby hz =>
    refine s_neF rfl (s_ret ⟨rfl, e1.trans e2, (some T.p, ()), rfl, T, rfl, ⟨?_, he', hl', hk, hA, ?_, hby, fun i hi => Nat.le_trans e1.size (hz i hi)⟩⟩)
    · have lo := t.lo
      exact ⟨t.enc, t.lim, t.ob.mono e1.size, t.ad.mono e1.size, t.adp, t.adk, t.cur, t.kept, t.zp, t.za, fun i hi => ⟨Nat.le_trans e1.size (lo i hi).1, (lo i hi).2⟩⟩
    · rw [← he'] at hel ⊢; exact hel

theorem cutL_all (E : List El) : cutL E 0 (E.length : Int) = E := by
  unfold cutL
  rw [show (min (E.length : Int) E.length).toNat = E.length by omega, List.take_length]; rfl

end Go.Sw.Piece

set_option linter.unusedVariables false
set_option linter.unusedSimpArgs false
set_option maxRecDepth 100000
namespace Go.Sw.Piece
open Go.Sw.Any Go.Sw.Codec
variable {P : Program} {S : Ids} {h : Heap} {Q : Nat → List Value → Heap → Prop}

theorem c_same5B {a b : Sl} {l m : List Int} (ha : Lst .u8 h a l) (hb : Lst .u8 h b m) : Gives P (F_law5_sameBytes S a b) [.one .bool] h fun (x : Bool × Unit) _ => x.1 = decide (l = m) := by
  have hla := ha.len
  have hlb := hb.len
  have hbd := ha.bound
  unfold F_law5_sameBytes Gives
  refine wp_ifB (fun hc => ?_) fun hc => ?_
  · rw [neI_iff, natI_def, natI_def, hla, hlb] at hc
    refine s_ret ⟨rfl, Ext.refl h, (_, ()), rfl, ?_⟩
    have : l ≠ m := fun e => hc (by rw [e])
    show Bool.false = _
    simp [this]
  rw [neI_not, natI_def, natI_def, hla, hlb] at hc
  refine wp_while (fun (s : Int × Unit) h' => h' = h ∧ 0 ≤ s.1 ∧ s.1 ≤ l.length ∧ l.take s.1.toNat = m.take s.1.toNat) (fun s _ => l.length - s.1.toNat)
    (fun t vs h' => h' = h ∧ (t = 2 ∧ vs = [] ∧ l = m ∨ t = 1 ∧ vs = [.bool Bool.false] ∧ l ≠ m)) ⟨rfl, by simp, by simp, by simp⟩ ?_ ?_
  · rintro ⟨(i : Int), u⟩ h' ⟨rfl, h0, h1, ht⟩
    dsimp only at h0 h1 ht ⊢
    refine wp_ifB (fun hc => ?_) fun hc => ?_
    · rw [ltI_iff, natI_def, hla] at hc
      refine s_at ha h0 (by omega) fun _ => s_at hb h0 (by omega) fun _ => wp_ifB (fun hn => ?_) fun hn => ?_
      · rw [neI_iff] at hn
        exact s_ret ⟨fun h => absurd h (by decide), fun _ => ⟨rfl, .inr ⟨rfl, rfl, fun e => hn (by rw [e])⟩⟩⟩
      · rw [neI_not] at hn
        rw [add_ok (by omega) (by omega)]
        refine s_ret ⟨fun _ => ⟨(i + 1, ()), rfl, ⟨rfl, by dsimp only; omega, by dsimp only; omega, ?_⟩, by dsimp only; omega⟩, fun h => absurd rfl h⟩
        dsimp only
        rw [show (i + 1).toNat = i.toNat + 1 by omega]
        exact take_eq_succ (by omega) (by omega) ht hn
    · rw [ltI_not, natI_def, hla] at hc
      refine s_ret ⟨fun h => absurd h (by decide), fun _ => ⟨rfl, .inl ⟨rfl, rfl, ?_⟩⟩⟩
      rwa [List.take_of_length_le (by omega), List.take_of_length_le (by omega)] at ht
  · rintro t vs h' ⟨rfl, ⟨ht, hv, e⟩ | ⟨ht, hv, e⟩⟩
    · exact s_exit ht () hv ⟨rfl, Ext.refl _, (_, ()), rfl, by show Bool.true = _; simp [e]⟩
    · exact s_skip (by omega) (s_exit ht (Bool.false, ()) hv ⟨rfl, Ext.refl _, (_, ()), rfl, by show Bool.false = _; simp [e]⟩)

theorem c_same5I {a b : Sl} {l m : List Int} (ha : Lst .i64 h a l) (hb : Lst .i64 h b m) : Gives P (F_law5_sameInts S a b) [.one .bool] h fun (x : Bool × Unit) _ => x.1 = decide (l = m) := by
  have hla := ha.len
  have hlb := hb.len
  have hbd := ha.bound
  unfold F_law5_sameInts Gives
  refine wp_ifB (fun hc => ?_) fun hc => ?_
  · rw [neI_iff, natI_def, natI_def, hla, hlb] at hc
    refine s_ret ⟨rfl, Ext.refl h, (_, ()), rfl, ?_⟩
    have : l ≠ m := fun e => hc (by rw [e])
    show Bool.false = _
    simp [this]
  rw [neI_not, natI_def, natI_def, hla, hlb] at hc
  refine wp_while (fun (s : Int × Unit) h' => h' = h ∧ 0 ≤ s.1 ∧ s.1 ≤ l.length ∧ l.take s.1.toNat = m.take s.1.toNat) (fun s _ => l.length - s.1.toNat)
    (fun t vs h' => h' = h ∧ (t = 2 ∧ vs = [] ∧ l = m ∨ t = 1 ∧ vs = [.bool Bool.false] ∧ l ≠ m)) ⟨rfl, by simp, by simp, by simp⟩ ?_ ?_
  · rintro ⟨(i : Int), u⟩ h' ⟨rfl, h0, h1, ht⟩
    dsimp only at h0 h1 ht ⊢
    refine wp_ifB (fun hc => ?_) fun hc => ?_
    · rw [ltI_iff, natI_def, hla] at hc
      refine s_at ha h0 (by omega) fun _ => s_at hb h0 (by omega) fun _ => wp_ifB (fun hn => ?_) fun hn => ?_
      · rw [neI_iff] at hn
        exact s_ret ⟨fun h => absurd h (by decide), fun _ => ⟨rfl, .inr ⟨rfl, rfl, fun e => hn (by rw [e])⟩⟩⟩
      · rw [neI_not] at hn
        rw [add_ok (by omega) (by omega)]
        refine s_ret ⟨fun _ => ⟨(i + 1, ()), rfl, ⟨rfl, by dsimp only; omega, by dsimp only; omega, ?_⟩, by dsimp only; omega⟩, fun h => absurd rfl h⟩
        dsimp only
        rw [show (i + 1).toNat = i.toNat + 1 by omega]
        exact take_eq_succ (by omega) (by omega) ht hn
    · rw [ltI_not, natI_def, hla] at hc
      refine s_ret ⟨fun h => absurd h (by decide), fun _ => ⟨rfl, .inl ⟨rfl, rfl, ?_⟩⟩⟩
      rwa [List.take_of_length_le (by omega), List.take_of_length_le (by omega)] at ht
  · rintro t vs h' ⟨rfl, ⟨ht, hv, e⟩ | ⟨ht, hv, e⟩⟩
    · exact s_exit ht () hv ⟨rfl, Ext.refl _, (_, ()), rfl, by show Bool.true = _; simp [e]⟩
    · exact s_skip (by omega) (s_exit ht (Bool.false, ()) hv ⟨rfl, Ext.refl _, (_, ()), rfl, by show Bool.false = _; simp [e]⟩)
end Go.Sw.Piece

set_option linter.unusedVariables false
set_option linter.unusedSimpArgs false
set_option maxRecDepth 100000
namespace Go.Sw.Piece
open Go.Sw.Any Go.Sw.Codec
open Go.Sw.Tree (iv s_putAll s_newP s_getP s_getT s_putP eqI_self Placed cell_own cell_upd1 wp_whileG minI_eq)
variable {P : Program} {S : Ids} {h : Heap} {Q : Nat → List Value → Heap → Prop}

/-- While atoms are put one by one: the text, the list. -/
structure MI (S : Ids) (h0 : Heap) (p0 : Addr) (enc : Int) (i : Nat) (h : Heap) (T : TX) (s : Sl) (L : List Int) : Prop where
  k : Keep h0.size h0 h
  t : TextR S h0.size h T
  p : T.p = p0
  en : T.enc = enc
  li : T.limit = 65536
  A : T.A.length ≤ 4 * i
  z : ∀ i, T.Z i → h0.size ≤ i
  el : els enc T.cur.ps = L.map fun a => (a, -1)
  fit : ∀ a, a ∈ L → 0 < sizeF enc a
  len : L.length ≤ i
  ol : OwnL h0.size .i64 h s L
  nz : ∀ b, s.base = some b → ¬ T.Z b.block
theorem MI.ext {h0 h' : Heap} {p0 : Addr} {enc : Int} {i : Nat} {T : TX} {s : Sl} {L : List Int} (m : MI S h0 p0 enc i h T s L) (e : Ext h h') : MI S h0 p0 enc i h' T s L :=
  { m with k := Keep.trans m.k (e.keep m.k.size), t := m.t.ext e, ol := m.ol.ext e }
theorem MI.more {h0 : Heap} {p0 : Addr} {enc : Int} {i : Nat} {T : TX} {s : Sl} {L : List Int} (m : MI S h0 p0 enc i h T s L) : MI S h0 p0 enc (i + 1) h T s L :=
  { m with A := by have := m.A; omega, len := by have := m.len; omega }
theorem MI.bytes {h0 : Heap} {p0 : Addr} {enc : Int} {i : Nat} {T : TX} {s : Sl} {L : List Int} (m : MI S h0 p0 enc i h T s L) : bytesL T.cur.ps = L.flatMap (putF enc) := by
  have := (toksL_els m.t.enc m.t.cur.bytes).2.1
  rw [m.en] at this
  rw [this, m.el, List.map_map]
  have : (List.map ((fun x : El => x.1) ∘ fun a => ((a, -1) : El)) L) = L := by
    conv => rhs; rw [← List.map_id L]
    rfl
  rw [this]

end Go.Sw.Piece
