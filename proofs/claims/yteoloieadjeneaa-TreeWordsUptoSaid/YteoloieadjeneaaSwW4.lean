/-
  Words: has a tree just these words (wordy).
-/
import Derived.Test.YteoloieadjeneaaSwW3
set_option linter.unusedVariables false
set_option linter.unusedSimpArgs false
set_option maxRecDepth 100000
namespace Go.Sw.Words
open Go.Sw.Any
open Go.Sw.Tree (iv slV s_putAll s_newP s_getP s_getT s_putP eqI_self Placed cell_own cell_upd1 upd_trans ext_upd bool_false s_newS minI_eq c_num TR s_ckP)
variable {P : Program} {S : Ids} {h : Heap} {Q : Nat → List Value → Heap → Prop}

/-- What is known of the least number behind i words. -/
def Least (S : Ids) (L : List W1) (k n : Int) (i : Nat) (x : Int) : Prop :=
  (n ≤ 0 ∧ x = 0) ∨ (0 < n ∧ x = (L.length : Int) + 1 ∧ key ((word S).sum (L.take i)) k < n) ∨
  (0 < n ∧ 1 ≤ x ∧ x ≤ i ∧ x ≤ L.length ∧ n ≤ key ((word S).sum (L.take x.toNat)) k ∧ key ((word S).sum (L.take (x.toNat - 1))) k < n)

theorem sum_take {L : List W1} {i : Nat} {r : W1} (hr : L[i]? = some r) : (word S).sum (L.take (i + 1)) = add ((word S).sum (L.take i)) (meas r) := by
  rw [List.take_add_one, hr]
  exact Any.sum_snoc (I := word S) (L.take i) r
theorem W_take1 {L : List W1} {i : Nat} {r : W1} (hr : L[i]? = some r) : (word S).W (L.take i) + (r.1.size + 1) ≤ (word S).W L := by
  have h1 := W_append (I := word S) (L.take i) [r]
  have h2 : L.take (i + 1) = L.take i ++ [r] := by rw [List.take_add_one, hr]; rfl
  have h3 := Any.W_take (I := word S) L (i + 1)
  rw [h2, h1] at h3
  have h4 : (word S).W [r] = r.1.size + 1 := rfl
  omega

theorem c_wordy (D : ClosW P S) {p : Option Addr} {t : Bt W1} {l : Sl} {k n : Int} (nt : Nd (word S) h p t) (hits : Its (word S) h l t.list) (hroom : (word S).W t.list < 4398046511104) :
    Gives P (F_law4_wordy S (p, ()) l k n) [.one .bool] h fun (y : Bool × Unit) _ => y.1 = true := by
  have hlen := hits.len (word_ok (P := P))
  have hWl := W_len (word_ok (P := P) (S := S)) t.list
  have vv : ∀ i, V ((word S).W (t.list.take i)) ((word S).sum (t.list.take i)) := fun i => Any.V.sum (word_ok (P := P) (S := S)) (fun _ _ => trivial)
  have vmono : ∀ i, V ((word S).W t.list) ((word S).sum (t.list.take i)) := fun i => by
    obtain ⟨a, b⟩ := vv i
    exact ⟨a, by have := Any.W_take (I := word S) t.list i; omega⟩
  unfold F_law4_wordy Gives
  refine s_newP p fun h1 e1 o1 => s_newO (bs := [.str, .int .i64]) zs (by decide) fun h2 e2 o2 => ?_
  have hnl : natI l.len = (t.list.length : Int) := by rw [natI_def, hlen]
  rw [hnl, add_ok (by omega) (by omega)]
  refine bind_val (tys := [.one (.int .i64)]) (fun (x : Int × Unit) _ => Least S t.list k n 0 x.1) ?_ fun x h3 e3 hx => ?_
  · refine wp_ifB (fun hd => ?_) fun hd => ?_
    · exact s_ret ⟨rfl, Ext.refl _, (0, ()), rfl, .inl ⟨leI_iff.1 hd, rfl⟩⟩
    · refine s_ret ⟨rfl, Ext.refl _, (_, ()), rfl, .inr (.inl ⟨leI_not.1 hd, rfl, ?_⟩)⟩
      have : key ((word S).sum (t.list.take 0)) k = 0 := (word_ok (P := P) (S := S)).key0 k
      rw [this]; exact leI_not.1 hd
  obtain ⟨(least : Int), w1⟩ := x
  dsimp only at hx ⊢
  have e23 := e2.trans e3
  have e03 := e1.trans e23
  refine bind_bool False ?_ fun b h4 e4 hb4 => ?_
  · refine s_getT (o1.ext e23) (wp_call (w_Size (nt.ext e03)) fun y k1 d1 hy => ?_)
    obtain ⟨(y : Int), w2⟩ := y
    dsimp only at hy ⊢
    rw [show neI y (t.list.length : Int) = false from neI_not.2 hy]
    refine s_ifF (s_getT (o1.ext (e23.trans d1)) (s_getO (bs := [.str, .int .i64]) (o2.ext (e3.trans d1)) (wp_call (w_Upto (i := Int.ofNat 0) (nt.ext (e03.trans d1)) hroom) fun y k2 d2 hy => s_ckO (bs := [.str, .int .i64]) (o2.ext ((e3.trans d1).trans d2)) ?_)))
    obtain ⟨y, w3⟩ := y
    obtain rfl : y = _ := hy
    show wp P (.ret 0 [.bool (notB (andB (eqS (ByteArray.mk #[]) (ByteArray.mk #[])) (eqI 0 0)))]) _ _
    rw [eqS_self, eqI_self]
    exact s_ret ⟨rfl, d1.trans d2, false, rfl, Iff.intro (fun x => by cases x) False.elim⟩
  obtain rfl := bool_false hb4.1
  dsimp only
  have e24 := e23.trans e4
  have e04 := e03.trans e4
  refine s_ifF (wp_while (fun (r : Int × Int × Unit) h' => Ext h h' ∧ 0 ≤ r.2.1 ∧ r.2.1 ≤ t.list.length ∧ Least S t.list k n r.2.1.toNat r.1 ∧ Own h.size 1 h' ⟨some ⟨h.size, 0, none⟩, 1, 1⟩ [.pointer p] ∧ Own h1.size 1 h' ⟨some ⟨h1.size, 0, none⟩, 2, 2⟩ (Bs.inj [.str, .int .i64] ((word S).sum (t.list.take r.2.1.toNat))))
    (fun r _ => (t.list.length - r.2.1).toNat)
    (fun tg vs h' => tg = 2 ∧ Ext h h' ∧ Own h.size 1 h' ⟨some ⟨h.size, 0, none⟩, 1, 1⟩ [.pointer p] ∧ Own h1.size 1 h' ⟨some ⟨h1.size, 0, none⟩, 2, 2⟩ (Bs.inj [.str, .int .i64] ((word S).sum t.list)) ∧ ∃ x : Int × Unit, vs = Ts.inj [.one (.int .i64)] x ∧ Least S t.list k n t.list.length x.1)
    ⟨e04, by simp, by simp, hx, o1.ext e24, o2.ext (e3.trans e4)⟩ ?_ ?_)
  · rintro ⟨(m : Int), (i : Int), u⟩ h5 ⟨e5, i0, i1, hm, oT, oS⟩
    dsimp only at i0 i1 hm oS ⊢
    have b1 := (o1.lt rfl).2
    dsimp only at b1
    refine wp_ifB (fun hd => ?_) fun hd => ?_
    rotate_left
    · rw [ltI_not] at hd
      rw [show i.toNat = t.list.length by omega] at hm oS
      rw [List.take_length] at oS
      exact s_ret ⟨fun h => absurd h (by decide), fun _ => ⟨rfl, e5, oT, oS, (m, ()), rfl, hm⟩⟩
    rw [ltI_iff] at hd
    have hj : t.list[i.toNat]? = some t.list[i.toNat] := List.getElem?_eq_getElem (by omega)
    generalize t.list[i.toNat] = r at hj
    have hsum := sum_take (S := S) hj
    have hW1 := W_take1 (S := S) hj
    have n5 := nt.ext e5
    refine wp_bind (fun tg vs h' => tg = 0 ∧ ∃ m', vs = [iv m'] ∧ Ext h h' ∧ Least S t.list k n (i.toNat + 1) m' ∧ Own h.size 1 h' ⟨some ⟨h.size, 0, none⟩, 1, 1⟩ [.pointer p] ∧ Own h1.size 1 h' ⟨some ⟨h1.size, 0, none⟩, 2, 2⟩ (Bs.inj [.str, .int .i64] ((word S).sum (t.list.take (i.toNat + 1))))) ?_ ?_
    · refine s_getT oT (wp_call (w_At n5 (by omega) i0 hj) fun y h6 e6 hy => ?_)
      obtain ⟨y1, (y2 : Bool), w2⟩ := y
      obtain ⟨rfl, rfl⟩ : y1 = r ∧ y2 = true := hy
      dsimp only
      refine s_putO (bs := [.str]) (z := (ByteArray.mk #[], ())) y1 (by decide) (flat1 _) fun h7 e7 oX => ?_
      have e57 := e6.trans e7
      refine s_getO (bs := [.str, .int .i64]) (oS.ext e57) (s_atI (word_ok (P := P)) (hits.ext (e5.trans e57)) i0 hd fun r' hr' => ?_)
      rw [hj] at hr'
      cases hr'
      refine wp_call c_Measure fun y h8 e8 hy => ?_
      obtain ⟨y, w3⟩ := y
      obtain rfl : y = _ := hy
      refine s_ckO (bs := [.str, .int .i64]) (oS.ext (e57.trans e8)) (wp_call (c_Add (n := (word S).W (t.list.take i.toNat)) (m := y1.1.size + 1) (vv _) ⟨by simp [meas], by simp [meas]⟩ (by omega)) fun y h9 e9 hy => ?_)
      obtain ⟨y, w4⟩ := y
      obtain rfl : y = _ := hy
      have e59 := (e57.trans e8).trans e9
      refine s_stoO (bs := [.str, .int .i64]) (add ((word S).sum (t.list.take i.toNat)) (meas y1)) (oS.ext e59) (flat2 _) fun h10 oS10 u10 => ?_
      rw [← hsum] at oS10
      have e010 : Ext h h10 := Upd.extN (e5.trans e59) u10 (by intro a ha; cases ha; exact e1.size)
      have oT10 := ob_upd (oT.ext e59) u10 (by dsimp only; omega)
      have bX := (oS.lt rfl).2
      dsimp only at bX
      have s6 := e6.size
      have oX10 := ob_upd (oX.ext (e8.trans e9)) u10 (by dsimp only; omega)
      refine bind_bool False ?_ fun b h11 e11 hb11 => ?_
      · refine s_ifF (s_getO (bs := [.str]) oX10 (s_atI (word_ok (P := P)) (hits.ext e010) i0 hd fun r' hr' => ?_))
        rw [hj] at hr'
        cases hr'
        rw [eqS_self, add_ok (a := i) (by omega) (by omega)]
        refine s_ifF (s_getT oT10 (s_getO (bs := [.str, .int .i64]) oS10 (wp_call (w_Upto (i := i + 1) (nt.ext e010) hroom) fun y h11 e11 hy => s_ckO (bs := [.str, .int .i64]) (oS10.ext e11) ?_)))
        obtain ⟨y, w5⟩ := y
        rw [show (i + 1).toNat = i.toNat + 1 by omega] at hy
        obtain rfl : y = _ := hy
        rw [eqS_self, eqI_self]
        exact s_ret ⟨rfl, e11, false, rfl, Iff.intro (fun x => by cases x) False.elim⟩
      obtain rfl := bool_false hb11.1
      dsimp only
      refine s_ifF (bind_bool ((t.list.length : Int) < m ∧ n ≤ key ((word S).sum (t.list.take (i.toNat + 1))) k) ?_ fun b h12 e12 hb12 => ?_)
      · refine wp_ifB (fun hg => s_getO (bs := [.str, .int .i64]) (oS10.ext e11) (wp_call (c_Key (vmono _) (by omega)) fun y h12 e12 hy => ?_)) fun hg => ?_
        · obtain ⟨(y : Int), w6⟩ := y
          dsimp only at hy ⊢
          subst y
          exact s_ret ⟨rfl, e12, _, rfl, Iff.intro (fun x => ⟨gtI_iff.1 hg, geI_iff.1 x⟩) fun x => geI_iff.2 x.2⟩
        · rw [gtI_not] at hg
          exact s_ret ⟨rfl, Ext.refl _, false, rfl, Iff.intro (fun x => by cases x) fun x => by omega⟩
      have e1012 := e11.trans e12
      have oT12 := oT10.ext e1012
      have oS12 := oS10.ext e1012
      dsimp only
      refine wp_ifB (fun hg => ?_) fun hg => ?_
      · obtain ⟨g1, g2⟩ := hb12.1 hg
        rw [add_ok (a := i) (by omega) (by omega)]
        refine s_ret ⟨rfl, _, rfl, e010.trans e1012, ?_, oT12, oS12⟩
        rcases hm with ⟨a, b⟩ | ⟨a, b, c⟩ | ⟨a, b, c, d, _⟩
        · omega
        · refine .inr (.inr ⟨a, by omega, by omega, by omega, ?_, ?_⟩)
          · rw [show (i + 1).toNat = i.toNat + 1 by omega]; exact g2
          · rw [show (i + 1).toNat - 1 = i.toNat by omega]; exact c
        · omega
      · refine s_ret ⟨rfl, _, rfl, e010.trans e1012, ?_, oT12, oS12⟩
        rcases hm with ⟨a, b⟩ | ⟨a, b, c⟩ | ⟨a, b, c, d, f⟩
        · exact .inl ⟨a, b⟩
        · refine .inr (.inl ⟨a, b, ?_⟩)
          have : ¬ ((t.list.length : Int) < m ∧ n ≤ key ((word S).sum (t.list.take (i.toNat + 1))) k) := fun x => by rw [hb12.2 x] at hg; cases hg
          by_cases hx : n ≤ key ((word S).sum (t.list.take (i.toNat + 1))) k
          · exact absurd ⟨by omega, hx⟩ this
          · omega
        · exact .inr (.inr ⟨a, b, by omega, d, f⟩)
    · rintro tg vs h6 ⟨rfl, m', rfl, e6, hl, oT, oS⟩
      refine s_skip (by decide) (s_tag (s_castI ?_))
      rw [add_ok (a := i) (by omega) (by omega)]
      refine s_ret ⟨fun _ => ⟨(m', i + 1, ()), rfl, ⟨e6, by dsimp only; omega, by dsimp only; omega, ?_, oT, ?_⟩, by dsimp only; omega⟩, fun h => absurd rfl h⟩
      · dsimp only; rw [show (i + 1).toNat = i.toNat + 1 by omega]; exact hl
      · dsimp only; rw [show (i + 1).toNat = i.toNat + 1 by omega]; exact oS
  · rintro tg vs h5 ⟨rfl, e5, oT, oS, ⟨(m : Int), w2⟩, rfl, hm⟩
    refine s_tag ⟨(m, ()), rfl, ?_⟩
    dsimp only at hm ⊢
    refine bind_val (tys := [.one .bool]) (fun (x : Bool × Unit) _ => x.1 = true) ?_ fun x h6 e6 hx => s_ret ⟨rfl, e5.trans e6, (x.1, ()), rfl, hx⟩
    refine s_getT oT (s_getO (bs := [.str, .int .i64]) oS (wp_call (w_Sum (nt.ext e5) (by omega)) fun y h6 e6 hy => s_ckO (bs := [.str, .int .i64]) (oS.ext e6) ?_))
    obtain ⟨y, w3⟩ := y
    obtain rfl : y = _ := hy
    rw [eqS_self, eqI_self]
    refine s_ifT (s_getT (oT.ext e6) (wp_call (w_Find (nt.ext (e5.trans e6)) hroom) fun y h7 e7 hy => ?_))
    obtain ⟨(y : Int), w4⟩ := y
    dsimp only at hy ⊢
    have hfm : Any.Found (word S) t.list k n m := by
      rcases hm with ⟨a, b⟩ | ⟨a, b, c⟩ | ⟨a, b, c, d, f, g⟩
      · exact .inl ⟨b, a⟩
      · rw [List.take_length] at c
        exact .inr (.inr ⟨b, c⟩)
      · exact .inr (.inl ⟨b, d, f, g⟩)
    rw [show eqI y m = true from eqI_iff.2 (found_one (word_ok (P := P) (S := S)) (fun _ _ => trivial) hy hfm)]
    have e67 := e6.trans e7
    refine s_ifT (s_getT (oT.ext e67) (s_getO (bs := [.str, .int .i64]) (oS.ext e67) (wp_call (c_edges D (nt.ext (e5.trans e67)) (hits.ext (e5.trans e67)) hroom) fun y h8 e8 hy => ?_)))
    exact s_ret ⟨rfl, e67.trans e8, (y.1, ()), rfl, hy⟩

end Go.Sw.Words
