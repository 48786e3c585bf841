/-
  The laws of chapter 6: LinesGrow.
-/
import Derived.Test.YtaebgdhdldfigaaSwG1
set_option linter.unusedVariables false
set_option linter.unusedSimpArgs false
set_option maxRecDepth 100000
namespace Go.Sw.Piece
open Go.Sw.Any Go.Sw.Codec
open Go.Sw.Tree (iv s_putAll s_newP s_getP s_getT s_putP eqI_self Placed cell_own wp_whileG minI_eq)
variable {P : Program} {S : Ids} {h : Heap} {Q : Nat → List Value → Heap → Prop}
def tl1 (x : Int) : Int := if x ≠ 10 then 32 + x % 64 else x
def inF (l : List Int) : List Int := (l.take 16).map tl1
def keep1 (x : Int) : List Int := if x ≠ 10 ∧ x ≠ 13 then [x] else []
theorem noEnd_one (x : Int) : noEnd [x] = keep1 x := by
 unfold noEnd keep1
 by_cases h : x ≠ 10 ∧ x ≠ 13
 ·rw [if_pos h, List.filter_cons_of_pos (by simp [h.1, h.2])]; rfl
 ·rw [if_neg h, List.filter_cons_of_neg (by simp; omega)]; rfl
theorem noEnd_take {l : List Int} {i : Nat} (hi : i < l.length) : noEnd (l.take (i + 1)) = noEnd (l.take i) ++ keep1 (l.getD i 0) := by
 rw [List.take_add_one, List.getElem?_eq_getElem hi, noEnd_app, List.getD_eq_getElem?_getD, List.getElem?_eq_getElem hi]
 show _ ++ noEnd [l[i]] = _
 rw [noEnd_one]; rfl
theorem ends_take {l : List Int} {i : Nat} (hi : i < l.length) : ends (l.take (i + 1)) = ends (l.take i) + oneE (l.getD i 0) := by
 rw [List.take_add_one, List.getElem?_eq_getElem hi, ends_app, List.getD_eq_getElem?_getD, List.getElem?_eq_getElem hi]
 show _ + ends [l[i]] = _
 rw [ends_one]; rfl
theorem in_at {l : List Int} {i : Nat} (hi : i < l.length) (h16 : i < 16) : (inF l).getD i 0 = tl1 (l.getD i 0) ∧ i < (inF l).length := by
 have hl : i < (inF l).length := by unfold inF; rw [List.length_map, List.length_take]; omega
 refine ⟨?_, hl⟩
 unfold inF
 rw [List.getD_eq_getElem?_getD, List.getElem?_map, List.getElem?_take, if_pos h16, List.getD_eq_getElem?_getD, List.getElem?_eq_getElem hi]; rfl
theorem oneE_yes {x : Int} (h : x = 10) : oneE (tl1 x) = 1 := by subst h; rfl
theorem c_LinesGrow (M : Meth0 P S) (C : Cl0 P S) (L : ClL P S) {x : StX} {at_ nat_ : Int} {w : Sl} {l : List Int} (hx : StSh.ok h x) (hat : fitsI .i64 at_) (hw : Lst .i64 h w l) (hna : fitsI .i64 nat_) :
  Gives P (F_law6_LinesGrow S (x.1, x.2.1.1, ()) at_ w nat_) [.one .bool] h fun (r : Bool × Unit) _ => r.1 = true := by
 unfold F_law6_LinesGrow Gives
 have lx := Sh.lst hx.2.1
 have lw := hw.len
 refine s_newO (bs := bS) ((x.1, x.2.1.1, ()) : StaD) (by decide) fun h1 e1 o1 => s_getO (bs := bS) o1 (wp_call (c_opened6 M (lx.ext e1)) fun ⟨⟨(p1 : Option Addr), (s1 : Sl), _⟩, (b1 : Bool), _⟩ h2 e2 ⟨hb1, T1, hp1, O1⟩ => ?_)
 have hb1 : b1 = true := hb1
 have hp1 : p1 = some T1.p := hp1
 subst hb1; subst hp1
 have O1 : OpB S h1.size h2 (x.2.1.2.take 50000) T1 s1 := O1
 have e12 := e1.trans e2
 refine s_putO (bs := bB) (z := ((none, ⟨none, 0, 0⟩, ()) : BoD)) ((some T1.p, s1, ()) : BoD) (by decide) flatB2 fun h3 e3 o3 => ?_
 have q1 := e1.size; have q12 := e12.size
 have B1 : BothR S h.size h3 ⟨h2.size, 0, none⟩ T1 s1 0 := O1.both q1 e3 o3 q12 (Nat.le_refl _)
 have e13 := e12.trans e3
 have hN := nLines_le (txA T1)
 refine bind_no (wp_ifB (fun hh => by cases hh) fun _ => s_cell (b := .ptr) (some T1.p) rfl B1.ob.cells rfl (wp_call (c_lCount M C B1.t) fun ⟨(c : Int), _⟩ h4 e4 hc => f_ret2 e4 ?_)) fun h4 e4 => wp_ifB (fun hh => by cases hh) fun _ => ?_
 ·have hc : c = nLines (txA T1) := hc
  subst hc
  rw [ltI_not]; dsimp only; omega
 have B4 := B1.ext e4
 have e04 := e13.trans e4
 have q4 := e04.size
 have hfew := B4.few
 have lA := B4.at_.len
 have nbA : nB (txA T1) ≤ (txA T1).length := cntE_le _ _
 refine s_cell (b := .sl) s1 rfl B4.ob.cells rfl ?_
 rw [natI_def, lA]
 have w1 := within_le (x := at_) (n := ((txA T1).length : Int)) (by omega)
 refine wp_call (c_within hat (by omega) (by omega)) fun ⟨(z : Int), _⟩ h5 e5 hz => ?_
 have hz : z = withinF at_ (txA T1).length := hz
 rw [← hz] at w1
 obtain ⟨p, rfl⟩ : ∃ p : Nat, z = p := ⟨z.toNat, by omega⟩
 have hp : p ≤ (txA T1).length := by omega
 clear hz
 dsimp only
 have e05 := e04.trans e5
 have B5 := B4.ext e5
 have ls5 := B5.at_.lst
 refine bind_bool (0 < p ∧ p < (txA T1).length ∧ (txA T1).getD (p - 1) 0 = 13 ∧ (txA T1).getD p 0 = 10) ?_ fun bb h6 e6 hb => wp_ifB (fun hc => s_ret ⟨rfl, e05.trans e6, (_, ()), rfl, rfl⟩) fun hc => ?_
 ·refine wp_ifB (fun ha => ?_) fun ha => s_ret ⟨rfl, Ext.refl _, false, rfl, Iff.intro (fun h => by cases h) fun h => by rw [gtI_not] at ha; omega⟩
  rw [gtI_iff] at ha
  refine s_cell (b := .sl) s1 rfl B5.ob.cells rfl (wp_ifB (fun hb => ?_) fun hb => s_ret ⟨rfl, Ext.refl _, false, rfl, Iff.intro (fun h => by cases h) fun h => by rw [ltI_not, natI_def, lA] at hb; omega⟩)
  rw [ltI_iff, natI_def, lA] at hb
  refine s_cell (b := .sl) s1 rfl B5.ob.cells rfl ?_
  rw [sub_ok (by omega) (by omega)]
  refine s_at ls5 (by omega) (by omega) fun _ => ?_
  rw [show ((p : Int) - 1).toNat = p - 1 by omega]
  refine wp_ifB (fun hd => ?_) fun hd => s_ret ⟨rfl, Ext.refl _, false, rfl, Iff.intro (fun h => by cases h) fun h => by rw [eqI_not] at hd; exact absurd h.2.2.1 hd⟩
  rw [eqI_iff] at hd
  refine s_cell (b := .sl) s1 rfl B5.ob.cells rfl (s_at ls5 (by omega) (by omega) fun _ => s_ret ⟨rfl, Ext.refl _, _, rfl, ?_⟩)
  rw [Int.toNat_natCast, eqI_iff]
  exact ⟨fun h => ⟨by omega, by omega, hd, h⟩, fun h => h.2.2.2⟩
 have hseam : ¬ (0 < p ∧ p < (txA T1).length ∧ (txA T1).getD (p - 1) 0 = 13 ∧ (txA T1).getD p 0 = 10) := fun hh => by have hc : bb = false := hc; rw [hb.2 hh] at hc; cases hc
 have e06 := e05.trans e6
 refine wp_call (c_within (n := 2) hna (by decide) (by decide)) fun ⟨(z : Int), _⟩ h7 e7 hz => ?_
 have w2 := within_le (x := nat_) (n := 2) (by decide)
 have hz : z = withinF nat_ 2 := hz
 rw [← hz] at w2
 clear hz
 have e07 := e06.trans e7
 have q7 := e07.size
 have hil := in_len l
 refine wp_while (fun (r : Sl × Int × Int × Unit) h' => ∃ i : Nat, i ≤ 16 ∧ i ≤ l.length ∧ r.2.2.1 = (i : Int) ∧ r.2.1 = (ends ((inF l).take i) : Nat) ∧ Ext h7 h' ∧ OwnL h7.size .i64 h' r.1 ((inF l).take i)) (fun r _ => (16 - r.2.2.1).toNat)
  (fun tag vs h' => tag = 2 ∧ ∃ r : Sl, vs = [slv r, i64v (ends (inF l) : Nat)] ∧ Ext h7 h' ∧ OwnL h7.size .i64 h' r (inF l)) ⟨0, by omega, Nat.zero_le _, rfl, rfl, Ext.refl _, OwnL.nil _ _ _⟩ ?_ ?_
 ·rintro ⟨(r : Sl), (en : Int), (i' : Int), u⟩ h8 ⟨i, hi16, hil', hi', hen, e8, o8⟩
  dsimp only at hi' hen o8 ⊢
  subst hi'; subst hen
  have q8 := e8.size
  have hel := ends_le ((inF l).take i)
  rw [List.length_take] at hel
  refine bind_bool (i < l.length ∧ i < 16) ?_ fun bb h9 e9 hb => wp_ifB (fun hc => ?_) fun hc => ?_
  ·refine wp_ifB (fun hc => s_ret ⟨rfl, Ext.refl _, _, rfl, ?_⟩) fun hc => s_ret ⟨rfl, Ext.refl _, false, rfl, Iff.intro (fun h => by cases h) fun h => ?_⟩
   ·rw [ltI_iff, natI_def, lw] at hc; rw [ltI_iff]; omega
   ·rw [ltI_not, natI_def, lw] at hc; omega
  ·have hc := hb.1 hc
   have e89 := e8.trans e9
   obtain ⟨ha, hb⟩ := in_at hc.1 hc.2
   refine s_at (hw.ext (e07.trans e89)) (by omega) (by omega) fun hfx => ?_
   rw [Int.toNat_natCast] at hfx ⊢
   refine bind_val (tys := [.one (.int .i64), .one (.int .i64)]) (fun (y : Int × Int × Unit) _ => y.1 = (ends ((inF l).take (i + 1)) : Nat) ∧ y.2.1 = tl1 (l.getD i 0)) ?_ fun ⟨(y1 : Int), (y2 : Int), _⟩ h10 e10 ⟨hy1, hy2⟩ => ?_
   ·rw [ends_take hb, ha]
    refine wp_ifB (fun hd => s_ret ⟨rfl, Ext.refl _, (_, _, ()), rfl, ?_, ?_⟩) fun hd => s_ret ⟨rfl, Ext.refl _, (_, _, ()), rfl, ?_, ?_⟩
    ·rw [neI_iff] at hd
     show ((ends ((inF l).take i) : Nat) : Int) = _
     have := oneE_no hd
     rw [this]; rfl
    ·rw [neI_iff] at hd
     unfold tl1
     rw [if_pos hd]
     show addI .i64 32 (andI .i64 (l.getD i 0) 63) = _
     have hm : andI .i64 (l.getD i 0) 63 = l.getD i 0 % 64 := and_mask64 (l.getD i 0) 6 (by decide)
     rw [hm, add_ok (by omega) (by omega)]
    ·rw [neI_not] at hd
     have := oneE_yes hd
     rw [this]
     show addI .i64 ((ends ((inF l).take i) : Nat) : Int) 1 = _
     rw [add_ok (by omega) (by omega)]; rfl
    ·rw [neI_not] at hd
     unfold tl1; rw [if_neg (fun h => h hd)]; rfl
   ·have hy1 : y1 = (ends ((inF l).take (i + 1)) : Nat) := hy1
    have hy2 : y2 = tl1 (l.getD i 0) := hy2
    have hr := tl1_ok (l.getD i 0)
    rw [← hy2] at hr
    have e910 := e9.trans e10
    refine s_push ((o8.ext e910)) (by have := e910.size; omega) (by rw [fits_i64]; omega) (by rw [List.length_take]; omega) (by rw [List.length_take]; omega) fun r2 h11 k11 o11 _ _ => ?_
    dsimp only
    rw [add_ok (by omega) (by omega)]
    refine s_ret ⟨fun _ => ⟨(r2, y1, (i : Int) + 1, ()), rfl, ⟨i + 1, by omega, by omega, by dsimp only; omega, hy1, Keep.trans (e8.trans e910) k11, ?_⟩, by dsimp only; omega⟩, fun hh => absurd rfl hh⟩
    rw [List.take_add_one, List.getElem?_eq_getElem hb]
    have : (inF l)[i] = y2 := by rw [hy2, ← ha, List.getD_eq_getElem?_getD, List.getElem?_eq_getElem hb]; rfl
    rw [this]; exact o11
  ·have hc : ¬ (i < l.length ∧ i < 16) := fun h => by have hc : bb = false := hc; rw [hb.2 h] at hc; cases hc
   have : (inF l).take i = inF l := List.take_of_length_le (by unfold inF; rw [List.length_map, List.length_take]; omega)
   rw [this] at o8
   refine s_ret ⟨fun hh => absurd hh (by decide), fun _ => ⟨rfl, r, ?_, e8.trans e9, o8.ext e9⟩⟩
   rw [this]
 rintro tag vs h8 ⟨rfl, i8, rfl, e8, oi⟩
 refine s_tag (wp_cast (tys := [.one .sl, .one (.int .i64)]) (i8, ((ends (inF l) : Nat) : Int), ()) rfl ?_)
 have e08 := e07.trans e8
 have q8 := e08.size
 have B8 := ((B5.ext e6).ext e7).ext e8
 have o8 : SmR S h.size h8 ⟨h2.size, 0, none⟩ T1 s1 0 := B8.sm
 have hyp := in_ok l
 generalize inF l = I at *
 have hIe := ends_le I
 refine o8.ld (s_brk M C L o8.t fun h9 e9 => ?_)
 have o9 := o8.ext e9
 refine o9.ld (wp_call (c_copied (oi.ext e9).lst (by omega)) fun ⟨(c1 : Sl), _⟩ h10 e10 oc => ?_)
 have oc : OwnL h9.size .i64 h10 c1 I := oc
 have o10 := o9.ext e10
 dsimp only
 rw [add_ok (a := 1) (by omega) (by omega)]
 refine o10.ck (wp_call (c_lTyped M C o10.t oc.lst (by omega)) fun ⟨(t1 : Sl), (et : Int), _⟩ h11 e11 ⟨ot, het⟩ => ?_)
 have hty : typedF (txA T1) (p : Int) (1 + z) I = (tyF (txA T1) p (1 + z) I I.length, 0) := by
  unfold typedF
  rw [if_neg (by omega), if_neg (by omega)]; rfl
 have ot : OwnL h10.size .i64 h11 t1 (typedF (txA T1) (p : Int) (1 + z) I).1 := ot
 have het : et = (typedF (txA T1) (p : Int) (1 + z) I).2 := het
 rw [hty] at ot het
 dsimp only at ot het
 subst het
 have tl := tyF_len (txA T1) p (1 + z) I I.length
 have tm := ty_mem (A := txA T1) (p := p) (nat_ := 1 + z) hyp I.length (Nat.le_refl _)
 have tn := typed_nB (A := txA T1) (p := p) (nat_ := 1 + z) (by omega) hp hyp hseam
 have tp := ty_plain (A := txA T1) (p := p) (nat_ := 1 + z) hyp I.length (Nat.le_refl _)
 rw [List.take_length] at tp
 generalize tyF (txA T1) p (1 + z) I I.length = U at *
 have lt := ot.len
 have li := oi.len
 have e911 := (e9.trans e10).trans e11
 have B11 := B8.ext e911
 have o11 := o10.ext e11
 refine bind_no (wp_ifB (fun hh => by rw [neI_iff] at hh; exact absurd rfl hh) fun _ => wp_ifB (fun hh => by rw [ltI_iff, natI_def, natI_def, lt, li] at hh; omega) fun _ => wp_ifB (fun hh => ?_) fun _ => ?_) fun h12 e12' => wp_ifB (fun hh => by cases hh) fun _ => ?_
 ·rw [gtI_iff, natI_def, natI_def, lt, li, mul_ok (by omega) (by omega)] at hh; omega
 ·refine s_cell (b := .ptr) (some T1.p) rfl B11.ob.cells rfl (s_cell (b := .sl) s1 rfl B11.ob.cells rfl (s_cell (b := .sl) s1 rfl B11.ob.cells rfl ?_))
  have hns : natI s1.len = ((txA T1).length : Int) := by rw [natI_def, lA]
  rw [hns]
  refine wp_call (c_Atoms M C B11.t (fits_i64.2 (by omega))) fun ⟨(v : Sl), _⟩ h12 e12' ov => ?_
  have ov : OwnL h11.size .i64 h12 v ((cutL (els T1.enc T1.cur.ps) 0 ((txA T1).length : Int)).map (·.1)) := ov
  rw [part_map] at ov
  have ov : OwnL h11.size .i64 h12 v (partL (txA T1) 0 ((txA T1).length : Int)) := ov
  rw [partL_all _ (Int.le_refl _)] at ov
  refine s_ckC (B11.ext e12').ob.cells rfl (wp_call (c_same6 ov.lst (B11.ext e12').at_.lst) fun ⟨(r : Bool), _⟩ h13 e13' hr => f_ret2 (e12'.trans e13') ?_)
  have hr : r = decide (txA T1 = txA T1) := hr
  rw [hr, decide_eq_true rfl]; rfl
 have o12 := o11.ext e12'
 refine o12.ld (wp_call (c_copied (ot.ext e12').lst (by omega)) fun ⟨(c2 : Sl), _⟩ h13 e13' oc2 => ?_)
 have oc2 : OwnL h12.size .i64 h13 c2 U := oc2
 refine (o12.ext e13').ck (s_newA (by simp) fun h14 e14 o14 => (o12.ext (e13'.trans e14)).ck ?_)
 have e012 := (e08.trans e911).trans e12'
 have q12' := e012.size
 have e1214 := e13'.trans e14
 refine o12.edit M e1214 q12' (oc2.ext e14) (Nat.le_refl _) (Nat.le_refl _) hp ?_ (by omega) _ (o14.mono e13'.size) fun h15 T4 c15 o15 _ _ A4 _ => wp_ifB (fun hh => by rw [neI_iff] at hh; exact absurd rfl hh) fun _ => ?_
 ·intro y hy
  have := tm y hy
  have he : known T1.enc := o12.t.enc
  unfold known at he
  rw [fits_iff]; omega
 have e015 : Ext h h15 := Keep.trans (e012.trans e1214) (c15.keep (Nat.le_trans q12' e1214.size) fun i hi f => by have := (o12.t.lo i f).1; omega)
 have zlo : ∀ i, T1.Z i → i < h5.size := fun i hi => (B5.t.lo _ hi).2
 have q57 := (e6.trans e7).size
 have oi15 : OwnL h7.size .i64 h15 i8 I := c15.ownL ((oi.ext (e911.trans e12')).ext e1214) fun x hx f => by have := zlo _ f; have := (oi.own.lt hx).1; omega
 have ot15 : OwnL h10.size .i64 h15 t1 U := c15.ownL ((ot.ext e12').ext e1214) fun x hx f => by have := zlo _ f; have := (ot.own.lt hx).1; have := (e8.trans (e9.trans e10)).size; omega
 have nb4 : nB (txA T4) = nB (txA T1) + ends I := by rw [A4]; exact tn
 refine o15.ld (s_brk M C L o15.t fun h16 e16 => wp_ifB (fun hh => ?_) fun _ => ?_)
 ·rw [neI_iff, nb4, add_ok (by omega) (by omega)] at hh
  exact absurd rfl hh
 have e016 := e015.trans e16
 have ot16 := (ot15.ext e16).lst
 have oi16 := (oi15.ext e16).lst
 refine wp_while (fun (r : Sl × Int × Unit) h' => ∃ i : Nat, i ≤ U.length ∧ r.2.1 = (i : Int) ∧ Ext h16 h' ∧ OwnL h16.size .i64 h' r.1 (noEnd (U.take i))) (fun r _ => (U.length - r.2.1).toNat)
  (fun tag vs h' => tag = 4 ∧ ∃ r : Sl, vs = [slv r] ∧ Ext h16 h' ∧ OwnL h16.size .i64 h' r (noEnd U)) ⟨0, Nat.zero_le _, rfl, Ext.refl _, OwnL.nil _ _ _⟩ ?_ ?_
 ·rintro ⟨(r : Sl), (i' : Int), u⟩ h17 ⟨i, hi, hi', e17, o17⟩
  dsimp only at hi' o17 ⊢
  subst hi'
  have q17 := e17.size
  refine wp_ifB (fun hc => ?_) fun hc => ?_
  ·rw [ltI_iff, natI_def, lt] at hc
   have hci : i < U.length := by omega
   have hnt := noEnd_len (U.take i)
   rw [List.length_take] at hnt
   refine wp_bind (fun tag vs h' => tag = 0 ∧ ∃ r2 : Sl, vs = [slv r2] ∧ Ext h16 h' ∧ OwnL h16.size .i64 h' r2 (noEnd (U.take (i + 1)))) ?_ ?_
   ·rw [noEnd_take hci]
    refine bind_bool (U.getD i 0 ≠ 10 ∧ U.getD i 0 ≠ 13) ?_ fun bb h18 e18 hb => wp_ifB (fun hd => ?_) fun hd => ?_
    ·refine s_at (ot16.ext e17) (by omega) hc fun _ => ?_
     rw [Int.toNat_natCast]
     refine wp_ifB (fun hd => s_at (ot16.ext e17) (by omega) hc fun _ => s_ret ⟨rfl, Ext.refl _, _, rfl, ?_⟩) fun hd => s_ret ⟨rfl, Ext.refl _, false, rfl, Iff.intro (fun h => by cases h) fun h => ?_⟩
     ·rw [neI_iff] at hd
      rw [Int.toNat_natCast, neI_iff]
      exact ⟨fun h => ⟨hd, h⟩, fun h => h.2⟩
     ·rw [neI_not] at hd; exact absurd hd h.1
    ·have hd := hb.1 hd
     have e1718 := e17.trans e18
     refine s_at (ot16.ext e1718) (by omega) hc fun hfx => ?_
     rw [Int.toNat_natCast] at hfx ⊢
     refine s_push (o17.ext e18) e1718.size hfx (by omega) (by omega) fun r2 h19 k19 o19 _ _ => s_ret ⟨rfl, r2, rfl, Keep.trans e1718 k19, ?_⟩
     unfold keep1
     rw [if_pos hd]; exact o19
    ·refine s_ret ⟨rfl, r, rfl, e17.trans e18, ?_⟩
     unfold keep1
     rw [if_neg (fun h => by have hd : bb = false := hd; rw [hb.2 h] at hd; cases hd), List.append_nil]
     exact o17.ext e18
   ·rintro tag vs h18 ⟨rfl, r2, rfl, e18, o18⟩
    refine s_tag (wp_cast (tys := [.one .sl]) (r2, ()) rfl ?_)
    rw [add_ok (by omega) (by omega)]
    exact s_ret ⟨fun _ => ⟨(r2, (i : Int) + 1, ()), rfl, ⟨i + 1, hci, by dsimp only; omega, e18, o18⟩, by dsimp only; omega⟩, fun hh => absurd rfl hh⟩
  ·rw [ltI_not, natI_def, lt] at hc
   rw [List.take_of_length_le (by omega)] at o17
   exact s_ret ⟨fun hh => absurd hh (by decide), fun _ => ⟨rfl, r, rfl, e17, o17⟩⟩
 rintro tag vs h17 ⟨rfl, r7, rfl, e17, or7⟩
 refine s_tag (wp_cast (tys := [.one .sl]) (r7, ()) rfl ?_)
 have oi17 := oi16.ext e17
 refine wp_while (fun (r : Sl × Int × Unit) h' => ∃ i : Nat, i ≤ I.length ∧ r.2.1 = (i : Int) ∧ Ext h17 h' ∧ OwnL h17.size .i64 h' r.1 (noEnd (I.take i))) (fun r _ => (I.length - r.2.1).toNat)
  (fun tag vs h' => tag = 6 ∧ ∃ r : Sl, vs = [slv r] ∧ Ext h17 h' ∧ OwnL h17.size .i64 h' r (noEnd I)) ⟨0, Nat.zero_le _, rfl, Ext.refl _, OwnL.nil _ _ _⟩ ?_ ?_
 ·rintro ⟨(r : Sl), (i' : Int), u⟩ h18 ⟨i, hi, hi', e18, o18⟩
  dsimp only at hi' o18 ⊢
  subst hi'
  have q18 := e18.size
  refine wp_ifB (fun hc => ?_) fun hc => ?_
  ·rw [ltI_iff, natI_def, li] at hc
   have hci : i < I.length := by omega
   have hnt := noEnd_len (I.take i)
   rw [List.length_take] at hnt
   have hok := hyp (I.getD i 0) (by rw [List.getD_eq_getElem?_getD, List.getElem?_eq_getElem hci]; exact List.getElem_mem _)
   refine wp_bind (fun tag vs h' => tag = 0 ∧ ∃ r2 : Sl, vs = [slv r2] ∧ Ext h17 h' ∧ OwnL h17.size .i64 h' r2 (noEnd (I.take (i + 1)))) ?_ ?_
   ·rw [noEnd_take hci]
    refine s_at (oi17.ext e18) (by omega) hc fun _ => ?_
    rw [Int.toNat_natCast]
    refine wp_ifB (fun hd => s_at (oi17.ext e18) (by omega) hc fun hfx => ?_) fun hd => s_ret ⟨rfl, r, rfl, e18, ?_⟩
    ·rw [neI_iff] at hd
     rw [Int.toNat_natCast] at hfx ⊢
     refine s_push o18 q18 hfx (by omega) (by omega) fun r2 h19 k19 o19 _ _ => s_ret ⟨rfl, r2, rfl, Keep.trans e18 k19, ?_⟩
     unfold keep1
     rw [if_pos ⟨hd, by omega⟩]; exact o19
    ·rw [neI_not] at hd
     unfold keep1
     rw [if_neg fun h => h.1 hd, List.append_nil]; exact o18
   ·rintro tag vs h19 ⟨rfl, r2, rfl, e19, o19⟩
    refine s_tag (wp_cast (tys := [.one .sl]) (r2, ()) rfl ?_)
    rw [add_ok (by omega) (by omega)]
    exact s_ret ⟨fun _ => ⟨(r2, (i : Int) + 1, ()), rfl, ⟨i + 1, hci, by dsimp only; omega, e19, o19⟩, by dsimp only; omega⟩, fun hh => absurd rfl hh⟩
  ·rw [ltI_not, natI_def, li] at hc
   rw [List.take_of_length_le (by omega)] at o18
   exact s_ret ⟨fun hh => absurd hh (by decide), fun _ => ⟨rfl, r, rfl, e18, o18⟩⟩
 rintro tag vs h18 ⟨rfl, r8, rfl, e18, or8⟩
 refine s_tag (wp_cast (tys := [.one .sl]) (r8, ()) rfl (wp_call (c_same6 (or7.ext e18).lst or8.lst) fun ⟨(r : Bool), _⟩ h19 e19 hr => s_ret ⟨rfl, (e016.trans e17).trans (e18.trans e19), (r, ()), rfl, ?_⟩))
 have hr : r = decide (noEnd U = noEnd I) := hr
 rw [hr, tp, decide_eq_true rfl]
end Go.Sw.Piece

set_option linter.unusedVariables false
set_option linter.unusedSimpArgs false
set_option maxRecDepth 100000
namespace Go.Sw.Piece
open Go.Sw.Any Go.Sw.Codec
open Go.Sw.Tree (iv s_putAll s_newP s_getP s_getT s_putP eqI_self Placed cell_own wp_whileG minI_eq)
variable {P : Program} {S : Ids} {h : Heap} {Q : Nat → List Value → Heap → Prop}
end Go.Sw.Piece

set_option linter.unusedVariables false
set_option linter.unusedSimpArgs false
set_option maxRecDepth 100000
namespace Go.Sw.Piece
open Go.Sw.Any Go.Sw.Codec
open Go.Sw.Tree (iv s_putAll s_newP s_getP s_getT s_putP eqI_self Placed cell_own wp_whileG minI_eq)
variable {P : Program} {S : Ids} {h : Heap} {Q : Nat → List Value → Heap → Prop}
theorem nLines_nil : nLines [] = 1 := rfl
theorem c_LinesDeleted (M : Meth0 P S) (C : Cl0 P S) (L : ClL P S) {x : StX} {first last : Int} (hx : StSh.ok h x) (hfi : fitsI .i64 first) (hla : fitsI .i64 last) :
  Gives P (F_law6_LinesDeleted S (x.1, x.2.1.1, ()) first last) [.one .bool] h fun (r : Bool × Unit) _ => r.1 = true := by
 unfold F_law6_LinesDeleted Gives
 have lx := Sh.lst hx.2.1
 refine s_newO (bs := bS) ((x.1, x.2.1.1, ()) : StaD) (by decide) fun h1 e1 o1 => s_getO (bs := bS) o1 (wp_call (c_opened6 M (lx.ext e1)) fun ⟨⟨(p1 : Option Addr), (s1 : Sl), _⟩, (b1 : Bool), _⟩ h2 e2 ⟨hb1, T1, hp1, O1⟩ => ?_)
 have hb1 : b1 = true := hb1
 have hp1 : p1 = some T1.p := hp1
 subst hb1; subst hp1
 have O1 : OpB S h1.size h2 (x.2.1.2.take 50000) T1 s1 := O1
 have e12 := e1.trans e2
 refine s_putO (bs := bB) (z := ((none, ⟨none, 0, 0⟩, ()) : BoD)) ((some T1.p, s1, ()) : BoD) (by decide) flatB2 fun h3 e3 o3 => ?_
 have q1 := e1.size; have q12 := e12.size
 have B1 : BothR S h.size h3 ⟨h2.size, 0, none⟩ T1 s1 0 := O1.both q1 e3 o3 q12 (Nat.le_refl _)
 have e13 := e12.trans e3
 have hN := nLines_le (txA T1)
 have nbA : nB (txA T1) ≤ (txA T1).length := cntE_le _ _
 have hfew := B1.few
 have lA := B1.at_.len
 refine wp_ifB (fun hh => by cases hh) fun _ => s_cell (b := .ptr) (some T1.p) rfl B1.ob.cells rfl (wp_call (c_lCount M C B1.t) fun ⟨(c : Int), _⟩ h4 e4 hc => ?_)
 have hc : c = nLines (txA T1) := hc
 subst hc
 have B4 := B1.ext e4
 refine bind_no (wp_ifB (fun hh => by rw [ltI_iff] at hh; dsimp only at hh; omega) fun _ => s_cell (b := .sl) s1 rfl B4.ob.cells rfl (f_ret2 (Ext.refl _) ?_)) fun h5 e5 => wp_ifB (fun hh => by cases hh) fun _ => ?_
 ·rw [natI_def, lA, add_ok (by omega) (by omega), gtI_not]; dsimp only; omega
 have e05 := (e13.trans e4).trans e5
 have subN : subI .i64 ((nLines (txA T1) : Nat) : Int) 1 = ((nLines (txA T1) : Nat) : Int) - 1 := sub_ok (by omega) (by omega)
 dsimp only
 rw [subN]
 have w1 := within_le (x := first) (n := ((nLines (txA T1) : Nat) : Int) - 1) (by omega)
 refine wp_call (c_within hfi (by omega) (by omega)) fun ⟨(z : Int), _⟩ h6 e6 hz => ?_
 have hz : z = withinF first (((nLines (txA T1) : Nat) : Int) - 1) := hz
 rw [← hz] at w1
 obtain ⟨fi, rfl⟩ : ∃ p : Nat, z = p := ⟨z.toNat, by omega⟩
 clear hz
 have subF : subI .i64 (((nLines (txA T1) : Nat) : Int) - 1) (fi : Int) = ((nLines (txA T1) : Nat) : Int) - 1 - fi := sub_ok (by omega) (by omega)
 dsimp only
 rw [subF]
 have w2 := within_le (x := last) (n := ((nLines (txA T1) : Nat) : Int) - 1 - fi) (by omega)
 refine wp_call (c_within hla (by omega) (by omega)) fun ⟨(z : Int), _⟩ h7 e7 hz => ?_
 have hz : z = withinF last (((nLines (txA T1) : Nat) : Int) - 1 - fi) := hz
 rw [← hz] at w2
 obtain ⟨la, hlaz⟩ : ∃ p : Nat, (fi : Int) + z = p := ⟨((fi : Int) + z).toNat, by omega⟩
 clear hz
 have addL : addI .i64 (fi : Int) z = (la : Int) := by rw [add_ok (by omega) (by omega)]; exact hlaz
 have subK : addI .i64 (subI .i64 (la : Int) (fi : Int)) 1 = ((la - fi + 1 : Nat) : Int) := by rw [sub_ok (by omega) (by omega), add_ok (by omega) (by omega)]; omega
 dsimp only
 rw [addL, subK]
 have h_fl : fi ≤ la := by omega
 have h_ln : la < nLines (txA T1) := by omega
 clear w2 hlaz
 obtain ⟨f, t, hwf, hft, htl, hleft⟩ := deleted_law (A := txA T1) h_fl h_ln
 have e07 := (e05.trans e6).trans e7
 have q7 := e07.size
 have B7 := ((B4.ext e5).ext e6).ext e7
 refine s_cell (b := .ptr) (some T1.p) rfl B7.ob.cells rfl (wp_call (c_lWhole M C B7.t) fun ⟨(y : SpD), (ye : Int), _⟩ h8 e8 hy => ?_)
 have hy : (y, ye) = wholeF (txA T1) (fi : Int) (la : Int) := hy
 rw [hwf] at hy
 obtain ⟨rfl, rfl⟩ := Prod.mk.inj hy
 refine s_putO (bs := b3) (z := ((0, 0, 0, ()) : SpD)) (((f : Int), (t : Int), 1, ()) : SpD) (by decide) flat3i fun h9 e9 o9 => ?_
 have B9 := (B7.ext e8).ext e9
 have ls9 := B9.at_.lst
 have e09 := (e07.trans e8).trans e9
 refine bind_no (wp_ifB (fun hh => by rw [neI_iff] at hh; exact absurd rfl hh) fun _ => s_cell (b := .int .i64) (1 : Int) rfl o9.cells rfl (wp_ifB (fun hh => by rw [neI_iff] at hh; exact absurd rfl hh) fun _ => s_cell (b := .int .i64) (f : Int) rfl o9.cells rfl (wp_ifB (fun hh => by rw [ltI_iff] at hh; omega) fun _ =>
  s_cell (b := .int .i64) (t : Int) rfl o9.cells rfl (s_cell (b := .int .i64) (f : Int) rfl o9.cells rfl (wp_ifB (fun hh => by rw [ltI_iff] at hh; omega) fun _ => s_cell (b := .int .i64) (t : Int) rfl o9.cells rfl (s_cell (b := .sl) s1 rfl B9.ob.cells rfl (f_ret2 (Ext.refl _) ?_))))))) fun h10 e10 => wp_ifB (fun hh => by cases hh) fun _ => ?_
 ·rw [gtI_not, natI_def, lA]; omega
 have B10 := B9.ext e10
 have o10 := o9.ext e10
 have ls10 := B10.at_.lst
 have e010 := e09.trans e10
 refine bind_bool (0 < f ∧ t < (txA T1).length ∧ (txA T1).getD (f - 1) 0 = 13 ∧ (txA T1).getD t 0 = 10) ?_ fun bb h11 e11 hb => wp_ifB (fun hc => s_ret ⟨rfl, e010.trans e11, (_, ()), rfl, rfl⟩) fun hc => ?_
 ·refine s_cell (b := .int .i64) (f : Int) rfl o10.cells rfl (wp_ifB (fun ha => ?_) fun ha => s_ret ⟨rfl, Ext.refl _, false, rfl, Iff.intro (fun h => by cases h) fun h => by rw [gtI_not] at ha; omega⟩)
  rw [gtI_iff] at ha
  refine s_cell (b := .int .i64) (t : Int) rfl o10.cells rfl (s_cell (b := .sl) s1 rfl B10.ob.cells rfl (wp_ifB (fun hb => ?_) fun hb => s_ret ⟨rfl, Ext.refl _, false, rfl, Iff.intro (fun h => by cases h) fun h => by rw [ltI_not, natI_def, lA] at hb; omega⟩))
  rw [ltI_iff, natI_def, lA] at hb
  refine s_cell (b := .sl) s1 rfl B10.ob.cells rfl (s_cell (b := .int .i64) (f : Int) rfl o10.cells rfl ?_)
  rw [sub_ok (by omega) (by omega)]
  refine s_at ls10 (by omega) (by omega) fun _ => ?_
  rw [show ((f : Int) - 1).toNat = f - 1 by omega]
  refine wp_ifB (fun hd => ?_) fun hd => s_ret ⟨rfl, Ext.refl _, false, rfl, Iff.intro (fun h => by cases h) fun h => by rw [eqI_not] at hd; exact absurd h.2.2.1 hd⟩
  rw [eqI_iff] at hd
  refine s_cell (b := .sl) s1 rfl B10.ob.cells rfl (s_cell (b := .int .i64) (t : Int) rfl o10.cells rfl (s_at ls10 (by omega) (by omega) fun _ => s_ret ⟨rfl, Ext.refl _, _, rfl, ?_⟩))
  rw [Int.toNat_natCast, eqI_iff]
  exact ⟨fun h => ⟨by omega, by omega, hd, h⟩, fun h => h.2.2.2⟩
 have hseam : ¬ (0 < f ∧ t < (txA T1).length ∧ (txA T1).getD (f - 1) 0 = 13 ∧ (txA T1).getD t 0 = 10) := fun hh => by have hc : bb = false := hc; rw [hb.2 hh] at hc; cases hc
 have hL := hleft hseam
 clear hleft
 have B11 := B10.ext e11
 have e011 := e010.trans e11
 refine s_cell (b := .ptr) (some T1.p) rfl B11.ob.cells rfl (wp_call (c_lKinds M C L B11.t) fun ⟨(ky : LnD), _⟩ h12 e12' hk => ?_)
 have hk : ky = kindsD (txA T1) (nLines (txA T1)) := hk
 subst hk
 refine s_newput4 z4 (kindsD (txA T1) (nLines (txA T1))) fun h13 e13' ok => ?_
 have B13 := (B11.ext e12').ext e13'
 have e013 := (e011.trans e12').trans e13'
 refine s_cell (b := .ptr) (some T1.p) rfl B13.ob.cells rfl ?_
 rw [sub_ok (a := (fi : Int)) (by omega) (by omega)]
 refine wp_call (c_lAt M C B13.t) fun ⟨(ln : LnD), (er : Int), _⟩ h14 e14 hat => ?_
 have hat : AtR (txA T1) ((fi : Int) - 1) (ln, er, ()) := hat
 refine s_newput4 z4 ln fun h15 e15 oln => ?_
 have e015 := (e013.trans e14).trans e15
 have q15 := e015.size
 have B15 := (B13.ext e14).ext e15
 have ok15 := (ok.ext e14).ext e15
 have hopen : (er = 0 ∧ ln.1 = ln.2.1 ∧ (la : Int) = ((nLines (txA T1) : Nat) : Int) - 1) ↔ (0 < fi ∧ (lineD (txA T1) (fi - 1)).1 = (lineD (txA T1) (fi - 1)).2.1 ∧ la + 1 = nLines (txA T1)) := by
  by_cases h0 : 0 < fi
  ·obtain ⟨a, b⟩ := hat.1 ⟨by omega, by omega⟩
   have a : ln = lineD (txA T1) ((fi : Int) - 1).toNat := a
   have b : er = 0 := b
   rw [show ((fi : Int) - 1).toNat = fi - 1 by omega] at a
   rw [← a]
   exact ⟨fun ⟨_, y, z⟩ => ⟨h0, y, by omega⟩, fun ⟨_, y, z⟩ => ⟨b, y, by omega⟩⟩
  ·have b : er = 2 := (hat.2 fun h => by omega).2
   exact ⟨fun h => by omega, fun h => absurd h.1 h0⟩
 refine wp_bind (fun tag vs h' => tag = 0 ∧ vs = [] ∧ Ext h h' ∧ BothR S h.size h' ⟨h2.size, 0, none⟩ T1 s1 0 ∧ Own 0 1 h' ⟨some ⟨h8.size, 0, none⟩, 3, 3⟩ (Bs.inj b3 (((f : Int), (t : Int), 1, ()) : SpD)) ∧ ∃ k1 k2 k3 : Int, Own4 h12.size h' ⟨h12.size, 0, none⟩ ((openF (txA T1) fi la : Nat), k1, k2, k3, ())) ?_ ?_
 ·refine bind_bool (er = 0 ∧ ln.1 = ln.2.1 ∧ (la : Int) = ((nLines (txA T1) : Nat) : Int) - 1) ?_ fun bb h16 e16 hbb => wp_ifB (fun hd => ?_) fun hd => ?_
  ·refine wp_ifB (fun hd => ?_) fun hd => s_ret ⟨rfl, Ext.refl _, false, rfl, Iff.intro (fun h => by cases h) fun h => by rw [eqI_not] at hd; exact absurd h.1 hd⟩
   rw [eqI_iff] at hd
   refine s_cell (b := .int .i64) ln.1 rfl oln.cells rfl (s_cell (b := .int .i64) ln.2.1 rfl oln.cells rfl (wp_ifB (fun hg => s_ret ⟨rfl, Ext.refl _, _, rfl, ?_⟩) fun hg => s_ret ⟨rfl, Ext.refl _, false, rfl, Iff.intro (fun h => by cases h) fun h => by rw [eqI_not] at hg; exact absurd h.2.1 hg⟩))
   rw [eqI_iff] at hg
   rw [eqI_iff]
   exact ⟨fun h => ⟨hd, hg, h⟩, fun h => h.2.2⟩
  ·have hd := hopen.1 (hbb.1 hd)
   have B16 := B15.ext e16
   have e1016 := ((((e10.trans e11).trans e12').trans e13').trans (e14.trans e15)).trans e16
   have lk := (ok.lt rfl).2
   have l9 := (o9.lt rfl)
   have qq := ((e9.trans e10).trans (e11.trans e12')).size
   refine s_setC' (i64v 0) (ok15.ext e16) (by show 0 < 4; decide) rfl fun h17 o17 u17 => s_ret ⟨rfl, rfl, ?_, ?_, ?_, ((cntK (txA T1) 1 (nLines (txA T1)) : Nat) : Int), ((cntK (txA T1) 2 (nLines (txA T1)) : Nat) : Int), ((cntK (txA T1) 3 (nLines (txA T1)) : Nat) : Int), ?_⟩
   ·exact Upd.extN (e015.trans e16) u17 (by intro z hz; cases hz; exact ((e011.trans e12').size))
   ·refine B16.chg (Chg.of_upd (F := fun i => i = h12.size) u17 fun x hx _ => by cases hx; rfl) fun i hi e => ?_
    have := (B11.lo i hi).2
    have := e12'.size; omega
   ·refine ((o9.ext e1016).keep fun x hx => ?_).mono (Nat.zero_le _)
    cases hx
    exact u17.2.1 _ (Nat.lt_of_lt_of_le l9.2 e1016.size) fun y hy e => by cases hy; have := l9.2; have := ((e10.trans e11).trans e12').size; dsimp only at e this; omega
   ·have : openF (txA T1) fi la = 0 := by unfold openF; rw [if_pos hd]
    rw [this]; exact o17
  ·have hd : ¬ (0 < fi ∧ (lineD (txA T1) (fi - 1)).1 = (lineD (txA T1) (fi - 1)).2.1 ∧ la + 1 = nLines (txA T1)) := fun h => by have hd : bb = false := hd; rw [hbb.2 (hopen.2 h)] at hd; cases hd
   have e1016 := ((((e10.trans e11).trans e12').trans e13').trans (e14.trans e15)).trans e16
   refine s_ret ⟨rfl, rfl, e015.trans e16, B15.ext e16, (o9.ext e1016).mono (Nat.zero_le _), ((cntK (txA T1) 1 (nLines (txA T1)) : Nat) : Int), ((cntK (txA T1) 2 (nLines (txA T1)) : Nat) : Int), ((cntK (txA T1) 3 (nLines (txA T1)) : Nat) : Int), ?_⟩
   have : openF (txA T1) fi la = cntK (txA T1) 0 (nLines (txA T1)) := by unfold openF; rw [if_neg hd]
   rw [this]
   exact ok15.ext e16
 rintro tag vs h16 ⟨rfl, rfl, e016, B16, o16, k1, k2, k3, ok16⟩
 refine s_tag (s_cast0 ?_)
 have q16 := e016.size
 refine s_cell (b := .ptr) (some T1.p) rfl B16.ob.cells rfl (s_cell (b := .sl) s1 rfl B16.ob.cells rfl (wp_call (c_contents M C B16.t B16.at_.lst (Nat.le_refl _) (by omega)) fun ⟨(cw : Sl), _⟩ h17 e17 ow => ?_))
 have ow : OwnL h16.size .i64 h17 cw (consL (txA T1) (fi : Int) (la : Int) (nLines (txA T1))) := ow
 have B17 := B16.ext e17
 have o17 := o16.ext e17
 have e017 := e016.trans e17
 have q17 := e017.size
 refine s_cell (b := .ptr) (some T1.p) rfl B17.ob.cells rfl (s_cell (b := .int .i64) (f : Int) rfl o17.cells rfl (s_cell (b := .int .i64) (t : Int) rfl o17.cells rfl ?_))
 have sm := B17.sm
 refine s_newA (by simp) fun h18 e18 o18 => sm.edit M e18 q17 (OwnL.nil h17.size .i64 h18) (Nat.le_refl _) hft htl (by intro y hy; cases hy) (by show 0 + 0 ≤ 3000; decide) _ o18 fun h19 T4 c19 sm19 _ _ A4 _ => wp_ifB (fun hh => by rw [neI_iff] at hh; exact absurd rfl hh) fun _ => ?_
 have A4 : txA T4 = (txA T1).take f ++ (txA T1).drop t := by rw [A4, List.append_nil]
 have zlo : ∀ i, T1.Z i → i < h2.size := fun i hi => (O1.t.lo _ hi).2
 have e019 : Ext h h19 := Keep.trans (e017.trans e18) (c19.keep (Nat.le_trans q17 e18.size) fun i hi g => by have := (B17.t.lo i g).1; omega)
 have q28 : h2.size ≤ h8.size := ((((((e3.trans e4).trans e5).trans e6).trans e7).trans e8)).size
 have q812 : h8.size ≤ h12.size := (((e9.trans e10).trans e11).trans e12').size
 have o19 := c19.own (o17.ext e18) fun x hx g => by cases hx; have := zlo _ g; dsimp only at this; omega
 have ok19 := c19.own ((ok16.ext e17).ext e18) fun x hx g => by cases hx; have := zlo _ g; dsimp only at this; omega
 have q1216 : h12.size ≤ h16.size := by have := (ok16.lt rfl).2; dsimp only at this; omega
 have ow19 : OwnL h16.size .i64 h19 cw (consL (txA T1) (fi : Int) (la : Int) (nLines (txA T1))) := c19.ownL (ow.ext e18) fun x hx g => by have := zlo _ g; have := (ow.own.lt hx).1; omega
 have at19 := c19.ownL (B17.at_.ext e18) fun x hx g => (B17.da x hx).1 g
 refine s_cell (b := .sl) s1 rfl sm19.ob.cells rfl (s_cell (b := .int .i64) (f : Int) rfl o19.cells rfl (s_cell (b := .int .i64) (t : Int) rfl o19.cells rfl ?_))
 refine wp_call (c_spliced (f := f) (t := t) (p := ⟨none, 0, 0⟩) (put := []) at19.lst (Lst.nil (by decide)) (by omega) (by decide) (by omega) htl) fun ⟨(sl : Sl), _⟩ h20 e20 os => ?_
 have os : OwnL h19.size .i64 h20 sl ((txA T1).take f ++ [] ++ (txA T1).drop t) := os
 rw [List.append_nil, ← A4] at os
 have lL := os.len
 have sm20 := sm19.ext e20
 have few4 : (txA T4).length ≤ 50000 + 4 * 0 := sm20.few
 have hNL := nLines_le (txA T4)
 have nbL : nB (txA T4) ≤ (txA T4).length := cntE_le _ _
 rw [← A4] at hL
 refine sm20.ld ?_
 rw [natI_def, lL, add_ok (a := ((txA T4).length : Int)) (by omega) (by omega)]
 refine wp_call (c_Atoms M C sm20.t (fits_i64.2 (by omega))) fun ⟨(v : Sl), _⟩ h21 e21 ov => ?_
 have ov : OwnL h20.size .i64 h21 v ((cutL (els T4.enc T4.cur.ps) 0 ((txA T4).length + 1 : Int)).map (·.1)) := ov
 rw [part_map] at ov
 have ov : OwnL h20.size .i64 h21 v (partL (txA T4) 0 ((txA T4).length + 1 : Int)) := ov
 rw [partL_all _ (by omega)] at ov
 refine wp_call (c_same6 ov.lst (os.ext e21).lst) fun ⟨(r : Bool), _⟩ h22 e22 hr => ?_
 have hr : r = decide (txA T4 = txA T4) := hr
 have hr : r = true := by rw [hr, decide_eq_true rfl]
 subst hr
 refine wp_ifB (fun hh => by cases hh) fun _ => ?_
 have e2022 := e21.trans e22
 have sm22 := sm20.ext e2022
 refine sm22.ld (wp_call (c_lCount M C sm22.t) fun ⟨(c : Int), _⟩ h23 e23 hc => ?_)
 have hc : c = nLines (txA T4) := hc
 subst hc
 have e2023 := e2022.trans e23
 have e023 := (e019.trans e20).trans e2023
 refine wp_ifB (fun hg => ?_) fun hg => ?_
 ·rw [eqI_iff] at hg
  have hnil := hL.1 (by omega)
  refine bind_bool True (wp_ifB (fun _ => s_ret ⟨rfl, Ext.refl _, _, rfl, Iff.intro (fun _ => trivial) fun _ => ?_⟩) fun hh => ?_) fun bb h24 e24 hbb => s_ret ⟨rfl, e023.trans e24, (bb, ()), rfl, hbb.2 trivial⟩
  ·rw [eqI_iff, hnil, nLines_nil]; rfl
  ·rw [eqI_not, hnil] at hh; exact absurd rfl hh
 ·rw [eqI_not] at hg
  obtain ⟨g1, g2, g3⟩ := hL.2 (by omega)
  have sm23 := sm22.ext e23
  refine sm23.ld (wp_call (c_lKinds M C L sm23.t) fun ⟨(ky : LnD), _⟩ h24 e24 hk => ?_)
  have hk : ky = kindsD (txA T4) (nLines (txA T4)) := hk
  subst hk
  refine s_newput4 z4 (kindsD (txA T4) (nLines (txA T4))) fun h25 e25 ok25 => ?_
  have e2025 := (e2023.trans e24).trans e25
  have e025 := (e019.trans e20).trans e2025
  have sm25 := sm20.ext e2025
  have okk := (ok19.ext e20).ext e2025
  refine bind_bool True ?_ fun bb h26 e26 hbb => s_ret ⟨rfl, e025.trans e26, (bb, ()), rfl, hbb.2 trivial⟩
  refine wp_ifB (fun _ => ?_) fun hh => ?_
  ·refine s_cell (b := .int .i64) ((cntK (txA T4) 0 (nLines (txA T4)) : Nat) : Int) rfl ok25.cells rfl (s_cell (b := .int .i64) ((openF (txA T1) fi la : Nat) : Int) rfl okk.cells rfl (wp_ifB (fun _ => ?_) fun hh => ?_))
   ·refine sm25.ld (wp_call (c_contents M C sm25.t (os.ext e2025).lst (Nat.le_refl _) (by omega)) fun ⟨(cw2 : Sl), _⟩ h26 e26 ow2 => ?_)
    have ow2 : OwnL h25.size .i64 h26 cw2 (consL (txA T4) (-1) (-1) (nLines (txA T4))) := ow2
    refine wp_call (c_same6 ow2.lst (((ow19.ext e20).ext e2025).ext e26).lst) fun ⟨(r : Bool), _⟩ h27 e27 hr => s_ret ⟨rfl, e26.trans e27, _, rfl, Iff.intro (fun _ => trivial) fun _ => ?_⟩
    have hr : r = decide (consL (txA T4) (-1) (-1) (nLines (txA T4)) = consL (txA T1) (fi : Int) (la : Int) (nLines (txA T1))) := hr
    rw [hr]; exact decide_eq_true g3
   ·rw [eqI_not, g2] at hh; exact absurd rfl hh
  ·rw [eqI_not, sub_ok (by omega) (by omega)] at hh
   exact absurd (by dsimp only; omega) hh
end Go.Sw.Piece
