/-
  Words: the tree's contracts, of its own functions; its edges (edges).
-/
import Derived.Test.YteoloieadjeneaaSwW2
set_option linter.unusedVariables false
set_option linter.unusedSimpArgs false
set_option maxRecDepth 100000
namespace Go.Sw.Words
open Go.Sw.Any
open Go.Sw.Tree (iv slV s_putAll s_newP s_getP s_getT s_putP eqI_self Placed cell_own cell_upd1 upd_trans ext_upd bool_false s_newS minI_eq c_num TR s_ckP)
variable {P : Program} {S : Ids} {h : Heap} {Q : Nat → List Value → Heap → Prop}

theorem w_At {p : Option Addr} {t : Bt W1} {i : Int} {x : W1} (nt : Nd (word S) h p t) (hroom : (word S).W t.list ≤ 4398046511104) (h0 : 0 ≤ i) (hx : t.list[i.toNat]? = some x) :
    Gives P (F_Tree_Word_At S (p, ()) i) [.agg [.str], .one .bool] h fun (y : W1 × Bool × Unit) h' => y.1 = x ∧ y.2.1 = true := c_At (I := word S) word_ok nt (fun _ _ => trivial) hroom h0 hx
theorem w_AtNo {p : Option Addr} {t : Bt W1} {i : Int} (nt : Nd (word S) h p t) (hroom : (word S).W t.list ≤ 4398046511104) (hf : i ≤ 9223372036854775807) (hno : i < 0 ∨ (t.list.length : Int) ≤ i) :
    Gives P (F_Tree_Word_At S (p, ()) i) [.agg [.str], .one .bool] h fun (y : W1 × Bool × Unit) h' => y.1 = (ByteArray.mk #[], ()) ∧ y.2.1 = false := c_AtNo (I := word S) word_ok nt hroom hf hno
theorem w_Upto {p : Option Addr} {t : Bt W1} {i : Int} (nt : Nd (word S) h p t) (hroom : (word S).W t.list < 4398046511104) :
    Gives P (F_Tree_Word_Upto S (p, ()) i) [.agg [.str, .int .i64]] h fun (x : W2 × Unit) _ => x.1 = (word S).sum (t.list.take i.toNat) := c_Upto' (I := word S) word_ok nt (fun _ _ => trivial) hroom
theorem w_Sum {p : Option Addr} {t : Bt W1} (nt : Nd (word S) h p t) (hroom : (word S).W t.list ≤ 4398046511104) :
    Gives P (F_Tree_Word_Sum S (p, ())) [.agg [.str, .int .i64]] h fun (x : W2 × Unit) _ => x.1 = (word S).sum t.list := c_Sum (I := word S) word_ok nt (fun _ _ => trivial) hroom
theorem w_Find {p : Option Addr} {t : Bt W1} {k n : Int} (nt : Nd (word S) h p t) (hroom : (word S).W t.list < 4398046511104) :
    Gives P (F_Tree_Word_Find S (p, ()) k n) [.one (.int .i64)] h fun (x : Int × Unit) _ => Any.Found (word S) t.list k n x.1 := c_Find (I := word S) word_ok nt (fun _ _ => trivial) hroom
theorem w_Size {p : Option Addr} {t : Bt W1} (nt : Nd (word S) h p t) : Gives P (F_Tree_Word_Size S (p, ())) [.one (.int .i64)] h fun (x : Int × Unit) _ => x.1 = t.list.length := c_Size (I := word S) nt
theorem w_Items {p : Option Addr} {i : Int} : Gives P (F_Tree_Word_Items S (p, ()) i) [.one .any] h fun (y : Value × Unit) h' => ∃ a b, y.1 = fItems (word S) (some a) (some b) ∧ Sw.cell h' a = some (.pointer p) ∧ Sw.cell h' b = some (iv i) := c_Items (I := word S)
theorem w_Of {items : Sl} {l : List W1} (hr : Its (word S) h items l) (hroom : (word S).W l ≤ 4398046511104) : Gives P (F_tree_Of_Word S items) [.agg [.ptr]] h fun (y : TR × Unit) h' => ∃ t : Bt W1, Nd (word S) h' y.1.1 t ∧ t.list = l ∧ t.Full := by
  rw [g_Of]; exact c_Of (I := word S) word_ok hr hroom
theorem w_Replace {p : Option Addr} {t : Bt W1} {items : Sl} {its : List W1} {i j : Int} (nt : Nd (word S) h p t) (hr : Its (word S) h items its) (h0 : 0 ≤ i) (h1 : i ≤ j) (h2 : j ≤ t.list.length) (hroom : (word S).W t.list + (word S).W its ≤ 4398046511104) :
    Gives P (F_Tree_Word_Replace S (p, ()) i j items) [.agg [.ptr], .one (.int .i64)] h fun (y : TR × Int × Unit) h' => y.2.1 = 0 ∧ ∃ t', Nd (word S) h' y.1.1 t' ∧ t'.list = t.list.take i.toNat ++ its ++ t.list.drop j.toNat := by
  rw [g_Replace]
  exact (c_Replace (I := word S) word_ok nt hr (fun _ _ => trivial) h0 h1 h2 hroom).mono fun y h' e ⟨a, t', b, c, _⟩ => ⟨a, t', b, c⟩
theorem w_ReplaceNo {p : Option Addr} {t : Bt W1} {items : Sl} {i j : Int} (nt : Nd (word S) h p t) (hno : ¬ Placed i j t.list.length) :
    Gives P (F_Tree_Word_Replace S (p, ()) i j items) [.agg [.ptr], .one (.int .i64)] h fun (y : TR × Int × Unit) h' => y.2.1 = 1 ∧ y.1.1 = none := by
  rw [g_Replace]; exact c_ReplaceNo (I := word S) nt hno

/-- One of some numbers in an object. -/
theorem s_one {a : Addr} {L : List Int} {N : Nat} {i f : Int} {K : Int → Prog} (hc : Cells h a (L.map iv)) (hN : N = L.length) (h0 : 0 ≤ i) (hf : L[i.toNat]? = some f) (hk : wp P (K f) h Q) :
    wp P (grd (inB i N) (.load (.one (.int .i64)) (shiftTo (some a) (mulN (toN i) 1)) K)) h Q := by
  have hlt := (List.getElem?_eq_some_iff.1 hf).1
  refine wp_grd (inB_is.2 ⟨h0, by omega⟩) (wp_load1 (b := .int .i64) (a.add i.toNat) f (by simp [shiftTo, mulN, toN]) (cells_iff.1 hc _ _ ?_) hk)
  rw [List.getElem?_map, hf]; rfl
theorem s_oneCk {a : Addr} {L : List Int} {i f : Int} {K : Prog} (hc : Cells h a (L.map iv)) (hf : L[i.toNat]? = some f) (hk : wp P K h Q) : wp P (.check (shiftTo (some a) (mulN (toN i) 1)) [iv f] K) h Q := by
  refine s_check0 (a := a.add i.toNat) (by simp [shiftTo, mulN, toN]) (cells_iff.2 fun q v hq => ?_) hk
  match q, hq with
  | 0, hq => simp at hq; subst hq; rw [add_zero']; exact cells_iff.1 hc _ _ (by rw [List.getElem?_map, hf]; rfl)
  | q + 1, hq => simp at hq
/-- Some numbers in a new object. -/
theorem s_newL (L : List Int) (hs : L.length ≤ 100) {K : Addr → Prog} (hk : ∀ h', Ext h h' → Cells h' ⟨h.size, 0, none⟩ (L.map iv) → wp P (K ⟨h.size, 0, none⟩) h' Q) : wp P (.alloc (L.map iv) K) h Q := fun elem => by
  have o : Own h.size 1 (h.push (.cells (L.map iv).toArray elem)) ⟨some ⟨h.size, 0, none⟩, L.length, L.length⟩ (L.map iv) := own_alloc (by simp) (by decide) (by omega)
  exact hk _ (Ext.push ..) o.cells

/-- The words up to a place that is none. -/
theorem upto_far {ws : List W1} {f : Int} (hf : f < 0 ∨ (ws.length : Int) ≤ f) : (word S).sum (ws.take f.toNat) = if f < 0 then zs else (word S).sum ws := by
  split
  · rename_i h; rw [show f.toNat = 0 by omega, List.take_zero]; rfl
  · rw [List.take_of_length_le (by omega)]

theorem c_edges (D : ClosW P S) {p : Option Addr} {t : Bt W1} {l : Sl} (nt : Nd (word S) h p t) (hits : Its (word S) h l t.list) (hroom : (word S).W t.list < 4398046511104) :
    Gives P (F_law4_edges S (p, ()) l ((word S).sum t.list)) [.one .bool] h fun (y : Bool × Unit) _ => y.1 = true := by
  have hlen := hits.len (word_ok (P := P))
  have hWl := W_len (word_ok (P := P) (S := S)) t.list
  unfold F_law4_edges Gives
  rw [natI_def, hlen, add_ok (a := (t.list.length : Int)) (by omega) (by omega)]
  refine s_newP p fun h1 e1 o1 => s_newO (bs := [.str, .int .i64]) ((word S).sum t.list) (by decide) fun h2 e2 o2 => s_newL [-1, -5, -9223372036854775808, (t.list.length : Int), (t.list.length : Int) + 1, 9223372036854775807] (by simp) fun h3 e3 c3 => ?_
  have hfar : ∀ i : Nat, i < 6 → ∃ f, ([-1, -5, -9223372036854775808, (t.list.length : Int), (t.list.length : Int) + 1, 9223372036854775807] : List Int)[i]? = some f ∧ (f < 0 ∨ (t.list.length : Int) ≤ f) ∧ f ≤ 9223372036854775807 := by
    intro i hi
    match i, hi with
    | 0, _ => exact ⟨_, rfl, by omega, by omega⟩
    | 1, _ => exact ⟨_, rfl, by omega, by omega⟩
    | 2, _ => exact ⟨_, rfl, by omega, by omega⟩
    | 3, _ => exact ⟨_, rfl, by omega, by omega⟩
    | 4, _ => exact ⟨_, rfl, by omega, by omega⟩
    | 5, _ => exact ⟨_, rfl, by omega, by omega⟩
  generalize hF : ([-1, -5, -9223372036854775808, (t.list.length : Int), (t.list.length : Int) + 1, 9223372036854775807] : List Int) = far at c3 hfar
  have hFl : 6 = far.length := by rw [← hF]; rfl
  have e13 := e2.trans e3
  have e03 := e1.trans e13
  refine wp_while (fun (r : Int × Unit) h' => Ext h3 h' ∧ 0 ≤ r.1 ∧ r.1 ≤ 6) (fun r _ => (6 - r.1).toNat) (fun tg vs h' => tg = 2 ∧ vs = [] ∧ Ext h3 h') ⟨Ext.refl _, by simp, by simp⟩ ?_ ?_
  · rintro ⟨(i : Int), u⟩ h4 ⟨e4, i0, i1⟩
    dsimp only at i0 i1 ⊢
    refine wp_ifB (fun hd => ?_) fun hd => s_ret ⟨fun h => absurd h (by decide), fun _ => ⟨rfl, rfl, e4⟩⟩
    rw [ltI_iff] at hd
    obtain ⟨f, hf, hff, hfm⟩ := hfar i.toNat (by omega)
    have o14 := o1.ext (e13.trans e4)
    have c4 := e4.cells c3
    have n4 := nt.ext (e03.trans e4)
    refine bind_val (tys := [.one .ptr, .one .bool]) (fun (y : Option Addr × Bool × Unit) h' => ∃ a m, y.1 = some a ∧ y.2.1 = false ∧ Own m 1 h' ⟨some a, 1, 1⟩ (Bs.inj [.str] (ByteArray.mk #[], ()))) ⟨?_, ?_⟩ fun y h5 e5 hy => ?_
    · refine s_getT o14 (s_one c4 hFl i0 hf (wp_call (w_AtNo n4 (by omega) hfm hff) fun y k1 d1 hy => ?_))
      obtain ⟨y1, (y2 : Bool), w⟩ := y
      obtain ⟨rfl, rfl⟩ : y1 = (ByteArray.mk #[], ()) ∧ y2 = false := hy
      refine s_newO (bs := [.str]) (ByteArray.mk #[], ()) (by decide) fun k2 d2 oz => s_oneCk ((d1.trans d2).cells c4) hf (s_ckP (o14.ext (d1.trans d2)) (s_stoO (bs := [.str]) (ByteArray.mk #[], ()) oz (flat1 _) fun k3 o3 u3 => ?_))
      exact s_ret ⟨rfl, Upd.extN (d1.trans d2) u3 (by intro a ha; cases ha; exact d1.size), (some ⟨k1.size, 0, none⟩, false, ()), rfl, _, _, rfl, rfl, o3⟩
    · refine s_getT o14 (s_one c4 hFl i0 hf (s_newO (bs := [.str]) (ByteArray.mk #[], ()) (by decide) fun k1 d1 oz => s_oneCk (d1.cells c4) hf (s_ckP (o14.ext d1) (wp_call (w_AtNo (n4.ext d1) (by omega) hfm hff) fun y k2 d2 hy => ?_))))
      obtain ⟨y1, (y2 : Bool), w⟩ := y
      obtain ⟨rfl, rfl⟩ : y1 = (ByteArray.mk #[], ()) ∧ y2 = false := hy
      refine s_stoO (bs := [.str]) (ByteArray.mk #[], ()) (oz.ext d2) (flat1 _) fun k3 o3 u3 => ?_
      exact s_ret ⟨rfl, Upd.extN (d1.trans d2) u3 (by intro a ha; cases ha; exact Nat.le_refl _), (some ⟨h4.size, 0, none⟩, false, ()), rfl, _, _, rfl, rfl, o3⟩
    obtain ⟨y1, (y2 : Bool), w⟩ := y
    obtain ⟨a, m, hy1, hy2, ox⟩ := hy
    dsimp only at hy1 hy2 ⊢
    subst y1; subst y2
    have o15 := o14.ext e5
    have c5 := e5.cells c4
    have n5 := n4.ext e5
    refine bind_val (tys := [.one .ptr]) (fun (y : Option Addr × Unit) h' => ∃ a m, y.1 = some a ∧ Own m 1 h' ⟨some a, 2, 2⟩ (Bs.inj [.str, .int .i64] ((word S).sum (t.list.take f.toNat)))) ⟨?_, ?_⟩ fun y h6 e6 hy => ?_
    · refine s_getT o15 (s_one c5 hFl i0 hf (wp_call (w_Upto n5 hroom) fun y k1 d1 hy => ?_))
      obtain ⟨y1, w2⟩ := y
      obtain rfl : y1 = _ := hy
      refine s_newO (bs := [.str, .int .i64]) zs (by decide) fun k2 d2 oz => s_oneCk ((d1.trans d2).cells c5) hf (s_ckP (o15.ext (d1.trans d2)) (s_stoO (bs := [.str, .int .i64]) ((word S).sum (t.list.take f.toNat)) oz (flat2 _) fun k3 o3 u3 => ?_))
      exact s_ret ⟨rfl, Upd.extN (d1.trans d2) u3 (by intro a ha; cases ha; exact d1.size), (some ⟨k1.size, 0, none⟩, ()), rfl, _, _, rfl, o3⟩
    · refine s_getT o15 (s_one c5 hFl i0 hf (s_newO (bs := [.str, .int .i64]) zs (by decide) fun k1 d1 oz => s_oneCk (d1.cells c5) hf (s_ckP (o15.ext d1) (wp_call (w_Upto (n5.ext d1) hroom) fun y k2 d2 hy => ?_))))
      obtain ⟨y1, w2⟩ := y
      obtain rfl : y1 = _ := hy
      refine s_stoO (bs := [.str, .int .i64]) ((word S).sum (t.list.take f.toNat)) (oz.ext d2) (flat2 _) fun k3 o3 u3 => ?_
      exact s_ret ⟨rfl, Upd.extN (d1.trans d2) u3 (by intro a ha; cases ha; exact Nat.le_refl _), (some ⟨h5.size, 0, none⟩, ()), rfl, _, _, rfl, o3⟩
    obtain ⟨y1, w2⟩ := y
    obtain ⟨b, m2, hy1, oy⟩ := hy
    dsimp only at hy1 ⊢
    subst y1
    have ox6 := ox.ext e6
    have c6 := e6.cells c5
    have o26 := o2.ext (((e3.trans e4).trans e5).trans e6)
    have up := upto_far (S := S) hff
    refine bind_bool False ?_ fun b h7 e7 hb7 => ?_
    · refine s_ifF (s_getO (bs := [.str]) ox6 ?_)
      rw [eqS_self]
      refine s_ifF (s_one c6 hFl i0 hf (wp_ifB (fun hx => ?_) fun hx => ?_))
      · have hx' := ltI_iff.1 hx
        rw [if_pos hx'] at up
        rw [up] at oy
        refine s_getO (bs := [.str, .int .i64]) oy ?_
        show wp P (ifB (notB (andB (eqS (ByteArray.mk #[]) (ByteArray.mk #[])) (eqI 0 0))) _ _) _ _
        rw [eqS_self, eqI_self]
        refine s_ifF (s_one c6 hFl i0 hf ?_)
        rw [show geI f 0 = false from geI_not.2 hx']
        exact s_ifF (s_ret ⟨rfl, Ext.refl _, false, rfl, Iff.intro (fun x => by cases x) False.elim⟩)
      · have hx' := ltI_not.1 hx
        rw [if_neg (by omega)] at up
        rw [up] at oy
        refine s_one c6 hFl i0 hf ?_
        rw [show geI f 0 = true from geI_iff.2 hx']
        refine s_ifT (s_getO (bs := [.str, .int .i64]) oy (s_getO (bs := [.str, .int .i64]) o26 ?_))
        rw [eqS_self, eqI_self]
        exact s_ret ⟨rfl, Ext.refl _, false, rfl, Iff.intro (fun x => by cases x) False.elim⟩
    obtain rfl := bool_false hb7.1
    dsimp only
    refine s_ifF ?_
    rw [add_ok (by omega) (by omega)]
    exact s_ret ⟨fun _ => ⟨(i + 1, ()), rfl, ⟨((e4.trans e5).trans e6).trans e7, by dsimp only; omega, by dsimp only; omega⟩, by dsimp only; omega⟩, fun h => absurd rfl h⟩
  rintro tg vs h4 ⟨rfl, rfl, e4⟩
  refine s_tag (s_cast0 (s_not ?_))
  have hq : quoI .i64 (t.list.length : Int) 2 = ((t.list.length / 2 : Nat) : Int) := by rw [quo_ok (by omega) (by omega) (by omega)]; omega
  have hmx : maxI ((t.list.length : Int) - 1) 0 = ((t.list.length - 1 : Nat) : Int) := by unfold maxI; split <;> omega
  rw [hq, sub_ok (by omega) (by omega), hmx]
  refine s_newL [0, -3, -9223372036854775808, ((t.list.length / 2 : Nat) : Int), ((t.list.length - 1 : Nat) : Int), (t.list.length : Int), (t.list.length : Int) + 1, 9223372036854775807] (by simp) fun h5 e5 c5 => ?_
  have hfr : ∀ i : Nat, i < 8 → ∃ f, ([0, -3, -9223372036854775808, ((t.list.length / 2 : Nat) : Int), ((t.list.length - 1 : Nat) : Int), (t.list.length : Int), (t.list.length : Int) + 1, 9223372036854775807] : List Int)[i]? = some f ∧ -9223372036854775808 ≤ f ∧ f ≤ 9223372036854775807 := by
    intro i hi
    match i, hi with
    | 0, _ => exact ⟨_, rfl, by omega, by omega⟩
    | 1, _ => exact ⟨_, rfl, by omega, by omega⟩
    | 2, _ => exact ⟨_, rfl, by omega, by omega⟩
    | 3, _ => exact ⟨_, rfl, by omega, by omega⟩
    | 4, _ => exact ⟨_, rfl, by omega, by omega⟩
    | 5, _ => exact ⟨_, rfl, by omega, by omega⟩
    | 6, _ => exact ⟨_, rfl, by omega, by omega⟩
    | 7, _ => exact ⟨_, rfl, by omega, by omega⟩
  generalize hG : ([0, -3, -9223372036854775808, ((t.list.length / 2 : Nat) : Int), ((t.list.length - 1 : Nat) : Int), (t.list.length : Int), (t.list.length : Int) + 1, 9223372036854775807] : List Int) = froms at c5 hfr
  have hGl : 8 = froms.length := by rw [← hG]; rfl
  have e05 := (e03.trans e4).trans e5
  refine wp_while (fun (r : Int × Unit) h' => Ext h5 h' ∧ 0 ≤ r.1 ∧ r.1 ≤ 8) (fun r _ => (8 - r.1).toNat) (fun tg vs h' => tg = 4 ∧ vs = [] ∧ Ext h5 h') ⟨Ext.refl _, by simp, by simp⟩ ?_ ?_
  · rintro ⟨(i : Int), u⟩ h6 ⟨e6, i0, i1⟩
    dsimp only at i0 i1 ⊢
    refine wp_ifB (fun hd => ?_) fun hd => s_ret ⟨fun h => absurd h (by decide), fun _ => ⟨rfl, rfl, e6⟩⟩
    rw [ltI_iff] at hd
    obtain ⟨f, hf, hf1, hf2⟩ := hfr i.toNat (by omega)
    have c6 := e6.cells c5
    have e06 := e05.trans e6
    refine s_one c6 hGl i0 hf (s_getT (o1.ext (((e13.trans e4).trans e5).trans e6)) (s_one c6 hGl i0 hf (wp_call w_Items fun y h7 e7 hy => ?_)))
    obtain ⟨y, w⟩ := y
    obtain ⟨a, b, hit, ca, cb⟩ := hy
    dsimp only at hit ⊢
    subst y
    have e07 := e06.trans e7
    have iter := iter_items (I := word S) word_ok D.tree (nt.ext e07) (by omega) (fits_i64.2 ⟨hf1, hf2⟩) ca cb
    have hdrop : t.list.drop f.toNat = t.list.drop (min f.toNat t.list.length) := by
      by_cases hx : f.toNat ≤ t.list.length
      · rw [Nat.min_eq_left hx]
      · rw [Nat.min_eq_right (by omega), List.drop_of_length_le (by omega), List.drop_of_length_le (by omega)]
    rw [hdrop] at iter
    have hat : minI (maxI f 0) (natI l.len) = ((min f.toNat t.list.length : Nat) : Int) := by rw [natI_def, hlen]; unfold minI maxI; split <;> split <;> omega
    rw [show minI (maxI f 0) (t.list.length : Int) = ((min f.toNat t.list.length : Nat) : Int) by rw [natI_def, hlen] at hat; exact hat]
    refine bind_bool False ?_ fun b h8 e8 hb8 => ?_
    · refine wp_grd rfl (s_ifF (wp_call (c_walked D iter (hits.ext e07) (Nat.min_le_right ..) (by omega)) fun y k1 d1 hy => ?_))
      obtain ⟨(y : Bool), w3⟩ := y
      dsimp only at hy ⊢
      subst y
      refine s_ifF (wp_call (c_walked D (iter.ext d1) (hits.ext (e07.trans d1)) (Nat.min_le_right ..) (by omega)) fun y k2 d2 hy => ?_)
      obtain ⟨(y : Bool), w4⟩ := y
      dsimp only at hy ⊢
      subst y
      exact s_ret ⟨rfl, d1.trans d2, false, rfl, Iff.intro (fun x => by cases x) False.elim⟩
    obtain rfl := bool_false hb8.1
    dsimp only
    refine s_ifF ?_
    rw [add_ok (by omega) (by omega)]
    exact s_ret ⟨fun _ => ⟨(i + 1, ()), rfl, ⟨(e6.trans e7).trans e8, by dsimp only; omega, by dsimp only; omega⟩, by dsimp only; omega⟩, fun h => absurd rfl h⟩
  · rintro tg vs h6 ⟨rfl, rfl, e6⟩
    exact s_tag (s_cast0 (s_ret ⟨rfl, e05.trans e6, (true, ()), rfl, rfl⟩))

end Go.Sw.Words
