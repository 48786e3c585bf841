/-
  The tree over any kind of things: Items.
-/
import Derived.Test.YteoloieadjeneaaSwK5
set_option linter.unusedVariables false
set_option linter.unusedSimpArgs false
set_option maxRecDepth 100000
namespace Go.Sw.Any
open Go.Sw.Tree (iv s_putAll s_newP s_getP s_getT s_putP small_ne cells_upd wp_whileG least TR minI_eq eqI_self Placed  s_any cell_own)
variable {P : Program} {I : Inst} {h : Heap} {Q : Nat → List Value → Heap → Prop}

abbrev ag (I : Inst) (r : I.It) : Value := .agg (Bs.inj I.iB r).toArray
abbrev fItems (I : Inst) (a b : Option Addr) : Value := .func (.func I.f1) #[] #[.pointer a, .pointer b]
abbrev fWalk (I : Inst) (a b : Option Addr) : Value := .func (.func I.f2) #[] #[.pointer a, .pointer b]
/-- The tree's function values. -/
structure Clos (P : Program) (I : Inst) : Prop where
  it : ∀ (y : Value) (a b : Option Addr), Dyn P (fItems I a b) [y] (G_Items1 I y a b)
  wk : ∀ (p : Option Addr) (i : Int) (a b : Option Addr), Dyn P (fWalk I a b) [.pointer p, iv i] (G_Walk I p i a b)

/-- What is called with each thing in turn: J k: k of them were taken; F: it said that it is enough. -/
def Yields (P : Program) (I : Inst) (y : Value) (m m' : Nat) (L : List I.It) (J : Nat → Heap → Prop) (F : Heap → Prop) : Prop :=
  ∀ (k : Nat) (r : I.It) (h : Heap), L[k]? = some r → m' + 2 ≤ h.size → J k h → DynV P y [ag I r] h fun vs h' => ∃ b : Bool, vs = [.bool b] ∧ Tree.Fr m m' (m' + 2) h h' ∧ (b = true → J (k + 1) h') ∧ (b = false → F h')

/-- The walker's own. -/
structure St (hm : Heap) (m' : Nat) (y : Value) (I : Inst) (h : Heap) : Prop where
  ext : Ext hm h
  le : hm.size ≤ m'
  sz : m' + 2 ≤ h.size
  cy : Sw.cell h ⟨m', 0, none⟩ = some y
  cw : Sw.cell h ⟨m' + 1, 0, none⟩ = some (fWalk I (some ⟨m' + 1, 0, none⟩) (some ⟨m', 0, none⟩))
theorem St.fr {hm h h' : Heap} {m' : Nat} {y : Value} (s : St hm m' y I h) (f : Tree.Fr hm.size m' (m' + 2) h h') : St hm m' y I h' where
  ext := ⟨Nat.le_trans s.ext.1 f.1, fun i hi => (f.2.1 i (.inl hi)).trans (s.ext.2.1 i hi), fun a e => f.2.2 a (s.ext.2.2 a e)⟩
  le := s.le
  sz := Nat.le_trans s.sz f.1
  cy := by have := s.cy; unfold Sw.cell at this ⊢; dsimp only at this ⊢; rw [f.2.1 m' (by omega)]; exact this
  cw := by have := s.cw; unfold Sw.cell at this ⊢; dsimp only at this ⊢; rw [f.2.1 (m' + 1) (by omega)]; exact this
theorem St.more {hm h h' : Heap} {m' : Nat} {y : Value} (s : St hm m' y I h) (e : Ext h h') : St hm m' y I h' := s.fr (Tree.Fr.ext e (Nat.le_trans s.le (by have := s.sz; omega)) s.sz)

theorem s_any {a : Addr} {v : Value} {K : Value → Prog} (hc : Sw.cell h a = some v) (hk : wp P (K v) h Q) : wp P (.load (.one .any) (some a) K) h Q := wp_load1 (b := .any) a v rfl hc hk

theorem c_walk (O : I.Ok P) (D : Clos P I) {hm : Heap} {m' : Nat} {y : Value} {L : List I.It} {J : Nat → Heap → Prop} {F : Heap → Prop} (hJ : ∀ k a b, J k a → Ext a b → J k b) (hY : Yields P I y hm.size m' L J F) :
    ∀ (t : Bt I.It) {p : Option Addr} {i : Int} {k : Nat} {h : Heap}, Nd I hm p t → I.W t.list ≤ 4398046511104 → 0 ≤ i → i ≤ 9223372036854775807 → (∀ (j : Nat) (r : I.It), t.list[j]? = some r → i.toNat ≤ j → L[k + (j - i.toNat)]? = some r) → St hm m' y I h → J k h →
    wp P (G_Walk I p i (some ⟨m' + 1, 0, none⟩) (some ⟨m', 0, none⟩)) h fun tag vs h' => tag = 0 ∧ ∃ b : Bool, vs = [.bool b] ∧ St hm m' y I h' ∧ (b = true → J (k + (t.list.length - i.toNat)) h') ∧ (b = false → F h') := by
  intro t
  induction t with
  | nil =>
    intro p i k h nt hroom h0 h1 hL st hj
    obtain rfl := nt
    unfold G_Walk
    refine bind_bool True (s_ifT (s_ret ⟨rfl, Ext.refl _, true, rfl, Iff.intro (fun _ => trivial) fun _ => rfl⟩)) fun b h2 e2 hb => ?_
    have hbt : b = true := hb.2 trivial
    subst hbt
    exact s_ifT (s_ret ⟨rfl, true, rfl, st.more e2, fun _ => by simpa [Bt.list] using hJ _ _ _ hj e2, fun h => by cases h⟩)
  | node l x r ihl ihr =>
    intro p i k h nt hroom h0 h1 hL st hj
    have hl := node_len l r x; have hlw := node_W (I := I) l r x; have hll := W_len O (Bt.node l x r).list
    obtain ⟨a, ql, qr, rfl, c, n1, n2⟩ := nt
    have cAt : ∀ {h'}, St hm m' y I h' → NdC I h' a ql qr l x r := fun s => NdC.ext c s.ext
    have hxL : ∀ (j : Nat) (v : I.It), l.list[j]? = some v → (Bt.node l x r).list[j]? = some v := fun j v hv => by
      show (l.list ++ x :: r.list)[j]? = _
      rw [List.getElem?_append_left (List.getElem?_eq_some_iff.1 hv).1]; exact hv
    have hxM : (Bt.node l x r).list[l.list.length]? = some x := by
      show (l.list ++ x :: r.list)[_]? = _
      rw [List.getElem?_append_right (Nat.le_refl _)]; simp
    have hxR : ∀ (j : Nat) (v : I.It), r.list[j]? = some v → (Bt.node l x r).list[l.list.length + 1 + j]? = some v := fun j v hv => by
      show (l.list ++ x :: r.list)[_]? = _
      rw [List.getElem?_append_right (by omega), show l.list.length + 1 + j - l.list.length = j + 1 by omega, List.getElem?_cons_succ]; exact hv
    unfold G_Walk
    refine bind_bool (((Bt.node l x r).list.length : Int) ≤ i) ?_ fun b h2 e2 hb => ?_
    · exact s_ifF (wp_grd rfl (wp_grd rfl (wp_load1 (b := .int .i64) (a.add (I.ni + 2)) _ rfl (cAt st).nums.1 (s_ret ⟨rfl, Ext.refl _, _, rfl, geI_iff⟩))))
    have st2 := st.more e2
    have hj2 := hJ _ _ _ hj e2
    dsimp only
    refine wp_ifB (fun hc => s_ret ⟨rfl, true, rfl, st2, fun _ => ?_, fun h => by cases h⟩) fun hc => ?_
    · have := hb.1 hc
      rw [show (Bt.node l x r).list.length - i.toNat = 0 by omega]; exact hj2
    have hlt : i < ((Bt.node l x r).list.length : Int) := by
      by_cases hx : ((Bt.node l x r).list.length : Int) ≤ i
      · rw [hb.2 hx] at hc; cases hc
      · omega
    refine q_left (cAt st2) (wp_call (c_count (n1.ext st2.ext)) fun n h3 e3 hn => ?_)
    obtain ⟨(n : Int), w⟩ := n
    dsimp only at hn ⊢
    subst hn
    have st3 := st2.more e3
    have hj3 := hJ _ _ _ hj2 e3
    refine wp_bind (fun tg vs h' => tg = 0 ∧ ∃ b : Bool, vs = [.bool b] ∧ St hm m' y I h' ∧ (b = true → F h') ∧ (b = false → J (k + (l.list.length - i.toNat)) h')) ?_ ?_
    · refine wp_ifB (fun hd => ?_) fun hd => ?_
      · rw [ltI_iff] at hd
        refine s_any st3.cw (q_left (cAt st3) (wp_dyn (D.wk _ _ _ _) (wp_mono _ ?_ (ihl (k := k) n1 (by omega) h0 h1 (fun j v hv hj => hL j v (hxL j v hv) hj) st3 hj3))))
        rintro tg vs h4 ⟨rfl, b, rfl, st4, t4, f4⟩
        refine ⟨rfl, (b, ()), rfl, s_ret ⟨rfl, notB b, rfl, st4, fun hb => f4 (notB_iff.1 hb), fun hb => t4 (notB_not.1 hb)⟩⟩
      · rw [ltI_not] at hd
        refine s_ret ⟨rfl, false, rfl, st3, fun h => (by cases h), fun _ => ?_⟩
        rw [show l.list.length - i.toNat = 0 by omega]; exact hj3
    rintro tg vs h4 ⟨rfl, b, rfl, st4, f4, t4⟩
    refine s_tag (s_castB (wp_ifB (fun hc => s_ret ⟨rfl, false, rfl, st4, fun h => (by cases h), fun _ => f4 hc⟩) fun hc => ?_))
    have hj4 := t4 hc
    refine wp_bind (fun tg vs h' => tg = 0 ∧ ∃ b : Bool, vs = [.bool b] ∧ St hm m' y I h' ∧ (b = true → F h') ∧ (b = false → J (k + (l.list.length + 1 - i.toNat)) h')) ?_ ?_
    · refine wp_ifB (fun hd => ?_) fun hd => ?_
      · rw [leI_iff] at hd
        refine s_any st4.cy (q_item (cAt st4) (wp_callv ((hY _ x h4 (hL _ x hxM (by omega)) st4.sz hj4).mono ?_)))
        rintro vs h5 ⟨b, rfl, fr, t5, f5⟩
        refine ⟨(b, ()), rfl, s_ret ⟨rfl, notB b, rfl, st4.fr fr, fun hb => f5 (notB_iff.1 hb), fun hb => ?_⟩⟩
        have := t5 (notB_not.1 hb)
        rw [show k + (l.list.length + 1 - i.toNat) = k + (l.list.length - i.toNat) + 1 by omega]; exact this
      · rw [leI_not] at hd
        refine s_ret ⟨rfl, false, rfl, st4, fun h => (by cases h), fun _ => ?_⟩
        rw [show l.list.length + 1 - i.toNat = l.list.length - i.toNat by omega]; exact hj4
    rintro tg vs h5 ⟨rfl, b, rfl, st5, f5, t5⟩
    refine s_tag (s_castB (wp_ifB (fun hc => s_ret ⟨rfl, false, rfl, st5, fun h => (by cases h), fun _ => f5 hc⟩) fun hc => ?_))
    have hj5 := t5 hc
    rw [sub_ok (a := i) (by omega) (by omega), sub_ok (by omega) (by omega)]
    have hmx : maxI 0 (i - l.list.length - 1) = ((i.toNat - (l.list.length + 1) : Nat) : Int) := by unfold maxI; split <;> omega
    rw [hmx]
    refine s_any st5.cw (q_right (cAt st5) (wp_dyn (D.wk _ _ _ _) (wp_mono _ ?_ (ihr (k := k + (l.list.length + 1 - i.toNat)) n2 (by omega) (by omega) (by omega) (fun j v hv hj => ?_) st5 hj5))))
    · rintro tg vs h6 ⟨rfl, b, rfl, st6, t6, f6⟩
      refine ⟨rfl, (b, ()), rfl, s_ret ⟨rfl, b, rfl, st6, fun hb => ?_, f6⟩⟩
      have := t6 hb
      rw [Int.toNat_natCast] at this
      rw [show k + ((Bt.node l x r).list.length - i.toNat) = k + (l.list.length + 1 - i.toNat) + (r.list.length - (i.toNat - (l.list.length + 1))) by omega]; exact this
    · rw [Int.toNat_natCast] at hj ⊢
      have := hL _ v (hxR j v hv) (by omega)
      rw [show k + (l.list.length + 1 - i.toNat) + (j - (i.toNat - (l.list.length + 1))) = k + (l.list.length + 1 + j - i.toNat) by omega]; exact this

/-- An iterator over a list. -/
def Iter (P : Program) (I : Inst) (it : Value) (h0 : Heap) (L : List I.It) : Prop :=
  ∀ (hm h : Heap) (y : Value) (J : Nat → Heap → Prop) (F : Heap → Prop) (K : Unit → Prog) (Q : Nat → List Value → Heap → Prop), Ext h0 hm → Ext hm h → flat y = true → (∀ k a b, J k a → Ext a b → J k b) → Yields P I y hm.size h.size L J F → J 0 h →
    (∀ h', Ext hm h' → h.size ≤ h'.size → (J L.length h' ∨ F h') → wp P (K ()) h' Q) → wp P (.callv it [y] [] K) h Q

theorem Iter.ext {it : Value} {h0 h1 : Heap} {L : List I.It} (x : Iter P I it h0 L) (e : Ext h0 h1) : Iter P I it h1 L := fun hm h y J F K Q e0 => x hm h y J F K Q (e.trans e0)

theorem iter_items (O : I.Ok P) (D : Clos P I) {h0 : Heap} {p : Option Addr} {t : Bt I.It} {a b : Addr} {i : Int} (nt : Nd I h0 p t) (hroom : I.W t.list ≤ 4398046511104) (hi : fitsI .i64 i) (ca : Sw.cell h0 a = some (.pointer p)) (cb : Sw.cell h0 b = some (iv i)) :
    Iter P I (fItems I (some a) (some b)) h0 (t.list.drop i.toNat) := by
  intro hm h y J F K Q e0 em fy hJ hY hj hk
  rw [fits_i64] at hi
  refine wp_dyn (D.it _ _ _) ?_
  unfold G_Items1
  refine wp_grd (by cases y <;> first | rfl | cases fy) fun el1 => ?_
  have e1 : Ext h (h.push (.cells [y].toArray el1)) := Ext.push ..
  have q1 : Own h.size 1 (h.push (.cells [y].toArray el1)) ⟨some ⟨h.size, 0, none⟩, 1, 1⟩ [y] := own_alloc rfl (by decide) (by decide)
  have z1 : (h.push (.cells [y].toArray el1)).size = h.size + 1 := by simp
  generalize (h.push (.cells [y].toArray el1)) = h1 at e1 q1 z1 ⊢
  intro el2
  have e2 : Ext h1 (h1.push (.cells [.nilFunc].toArray el2)) := Ext.push ..
  have q2 : Own h1.size 1 (h1.push (.cells [.nilFunc].toArray el2)) ⟨some ⟨h1.size, 0, none⟩, 1, 1⟩ [.nilFunc] := own_alloc rfl (by decide) (by decide)
  generalize (h1.push (.cells [.nilFunc].toArray el2)) = h2 at e2 q2 ⊢
  rw [z1] at q2 ⊢
  refine s_putAll [fWalk I (some ⟨h.size + 1, 0, none⟩) (some ⟨h.size, 0, none⟩)] q2 rfl (by intro v hv; rw [List.mem_singleton.1 hv]; rfl) fun h3 q3 u3 => ?_
  have e13 : Ext h1 h3 := Upd.extN e2 u3 (fun x hx => by cases hx; exact Nat.le_of_eq z1)
  have e03 := (e0.trans em).trans (e1.trans e13)
  have b3 := (q3.lt rfl).2
  dsimp only at b3
  have c3 : Sw.cell h3 ⟨h.size + 1, 0, none⟩ = some (fWalk I (some ⟨h.size + 1, 0, none⟩) (some ⟨h.size, 0, none⟩)) := by have := cells_iff.1 q3.cells 0 _ rfl; rwa [add_zero'] at this
  have cy3 : Sw.cell h3 ⟨h.size, 0, none⟩ = some y := by have := cells_iff.1 (q1.ext e13).cells 0 _ rfl; rwa [add_zero'] at this
  have st : St hm h.size y I h3 := ⟨em.trans (e1.trans e13), em.size, b3, cy3, c3⟩
  refine s_any c3 (wp_grd rfl (wp_load1 (b := .ptr) (a.add 0) p rfl (by rw [add_zero']; exact e03.cell ca) (wp_load1 (b := .int .i64) b i rfl (e03.cell cb) (wp_dyn (D.wk _ _ _ _) ?_))))
  have hmx : maxI 0 i = (i.toNat : Int) := by unfold maxI; split <;> omega
  rw [hmx]
  refine wp_mono _ ?_ (c_walk O D hJ hY t (k := 0) (nt.ext e0) hroom (by omega) (by omega) (fun j r hr hj => ?_) st (hJ _ _ _ hj (e1.trans e13)))
  · rintro tg vs h4 ⟨rfl, b, rfl, st4, t4, f4⟩
    have s4 := st4.sz
    refine ⟨rfl, (b, ()), rfl, s_ret ⟨rfl, (), rfl, hk h4 st4.ext (by omega) ?_⟩⟩
    cases b with
    | true => left; have := t4 rfl; rw [Int.toNat_natCast, Nat.zero_add] at this; rw [List.length_drop]; exact this
    | false => exact .inr (f4 rfl)
  · rw [Int.toNat_natCast] at hj ⊢
    rw [List.getElem?_drop, Nat.zero_add, show i.toNat + (j - i.toNat) = j by omega]; exact hr

theorem c_Items {p : Option Addr} {i : Int} : Gives P (G_Items I (p, ()) i) [.one .any] h fun (y : Value × Unit) h' => ∃ a b, y.1 = fItems I (some a) (some b) ∧ Sw.cell h' a = some (.pointer p) ∧ Sw.cell h' b = some (iv i) := by
  unfold G_Items Gives
  refine s_newP p fun h1 e1 o1 => fun el => ?_
  have e2 : Ext h1 (h1.push (.cells [iv i].toArray el)) := Ext.push ..
  have q2 : Own h1.size 1 (h1.push (.cells [iv i].toArray el)) ⟨some ⟨h1.size, 0, none⟩, 1, 1⟩ [iv i] := own_alloc rfl (by decide) (by decide)
  generalize (h1.push (.cells [iv i].toArray el)) = h2 at e2 q2 ⊢
  exact s_ret ⟨rfl, e1.trans e2, (fItems I (some ⟨h.size, 0, none⟩) (some ⟨h1.size, 0, none⟩), ()), rfl, _, _, rfl, cell_own (o1.ext e2), cell_own q2⟩

end Go.Sw.Any
