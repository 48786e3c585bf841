/-
  The laws of chapter 5: PieceFlow.
-/
import Derived.Test.YtjhnjehmbgaciaaSwG1
set_option linter.unusedVariables false
set_option linter.unusedSimpArgs false
set_option maxRecDepth 100000
namespace Go.Sw.Piece
open Go.Sw.Any Go.Sw.Codec
open Go.Sw.Tree (iv s_putAll s_newP s_getP s_getT s_putP small_ne eqI_self Placed cell_own wp_whileG minI_eq)
variable {P : Program} {S : Ids} {h : Heap} {Q : Nat → List Value → Heap → Prop}
theorem nd_outI {I : Inst} {n m c : Nat} {p : Addr} {vs : List Value} (o : Own n 1 h ⟨some p, m, c⟩ vs) (hc : c < I.ni + 4 + I.ns) : ∀ {t : Bt I.It} {r : Option Addr}, Nd I h r t → Nd { I with Z := fun i => I.Z i ∧ i ≠ p.block } h r t
 | .nil, _, n => n
 | .node l x r, q, ⟨a, pl, pr, e1, cc, n1, n2⟩ => ⟨a, pl, pr, e1, ⟨cc.1, ⟨cc.2.1, fun e => small_ne o cc.1 (by rw [List.length_append, headV_len, inj_len]; exact hc) e.symm⟩, cc.2.2⟩, nd_outI o hc n1, nd_outI o hc n2⟩
theorem nd_out {n : Nat} {Z : Nat → Prop} {p : Addr} {vs : List Value} (o : Own n 1 h ⟨some p, 4, 4⟩ vs) {t : Bt Part} {r : Option Addr} (nd : Nd (part S Z) h r t) : Nd (part S fun i => Z i ∧ i ≠ p.block) h r t :=
 nd_outI (I := part S Z) o (show 4 < 7 + 4 + 5 by decide) nd
theorem TextR.chrOut {n : Nat} {T : TX} (t : TextR S n h T) : ChR S (fun i => T.Z i ∧ i ≠ T.p.block) h T.cur.root T.cur.t T.cur.ps :=
 ⟨nd_out t.ob t.cur.nd, t.cur.ls, t.chr.room, fun q hq => ⟨(t.chr.lst q hq).1, fun a ha => ⟨⟨((t.chr.lst q hq).2 a ha).1, ((t.cur.pcs q hq).blk a ha).2.1⟩, ((t.chr.lst q hq).2 a ha).2⟩⟩, t.cur.small⟩
structure FlE (S : Ids) (hb hc : Heap) (T0 : TX) (x : Eds) (sl : Sl) (sz k : Nat) (it : Value) (aK aI aT aE aL aZ : Addr) : Prop where
 cK : Cel 0 hc aK (i64v k)
 cI : Cel 0 hc aI it
 cT : Cel 0 hc aT (.pointer (some T0.p))
 cE : Cel 0 hc aE (slv x.1)
 cL : Cel 0 hc aL (slv sl)
 cZ : Cel 0 hc aZ (i64v sz)
 lt : aK.block < hb.size ∧ aI.block < hb.size ∧ aT.block < hb.size ∧ aE.block < hb.size ∧ aL.block < hb.size ∧ aZ.block < hb.size
 nz : ¬ T0.Z aK.block ∧ ¬ T0.Z aI.block ∧ ¬ T0.Z aT.block ∧ ¬ T0.Z aE.block ∧ ¬ T0.Z aL.block ∧ ¬ T0.Z aZ.block
 tz : ∀ i, T0.Z i → i < hb.size
structure FlJ (S : Ids) (n : Nat) (hb hc : Heap) (T0 : TX) (am : Nat) (l : List Int) (sz N : Nat) (aA aN aS aR : Addr) (c : Nat) (h' : Heap) (T : TX) (s : Sl) (bs : Bool) : Prop where
 t : TextR S n h' T
 nx : Nxt T0 T hc.size
 far : ∀ i, T.Z i → T0.Z i ∨ hc.size + 8 ≤ i
 A : T.A.length ≤ am
 sm : (bytesL T.cur.ps).length ≤ T.limit
 chg : Chg (fun i => i = aA.block ∨ i = aN.block ∨ i = aS.block ∨ i = aR.block ∨ wfoot T0 i) hc h'
 g : Gr hc aA (l.take (c * sz)) h' s
 gz : ∀ b, s.base = some b → ¬ T.Z b.block
 cN : Cel 0 h' aN (i64v c)
 cS : Cel 0 h' aS (.bool bs)
 hS : c < N → bs = false
 cR : Cel 0 h' aR (.bool true)
structure FlC (hb hc : Heap) (aA aN aS aR : Addr) : Prop where
 ge : hb.size ≤ aA.block ∧ aA.block < aN.block ∧ aN.block < aS.block ∧ aS.block < aR.block ∧ aR.block < hc.size
variable {n am sz N c : Nat} {hb hc : Heap} {T0 T : TX} {l : List Int} {aA aN aS aR : Addr} {s : Sl} {bs : Bool}
theorem FlJ.own (f : FlC hb hc aA aN aS aR) (tz : ∀ i, T0.Z i → i < hb.size) {a b : Heap} (j : FlJ S n hb hc T0 am l sz N aA aN aS aR c a T s bs) (cc : Chg (Sw.own hc.size 8) a b) : FlJ S n hb hc T0 am l sz N aA aN aS aR c b T s bs := by
 obtain ⟨g1, g2, g3, g4, g5⟩ := f.ge
 refine ⟨j.t.chg cc fun i hi o => ?_, j.nx, j.far, j.A, j.sm, j.chg.trans cc fun i hi o => by have := o.1; omega, j.g.chg cc (fun o => by have := o.1; omega) fun x hx o => by have := j.g.sb x hx; have := o.2; omega, j.gz, cc.own j.cN fun x hx o => by cases hx; have := o.1; omega, cc.own j.cS fun x hx o => by cases hx; have := o.1; omega, j.hS, cc.own j.cR fun x hx o => by cases hx; have := o.1; omega⟩
 rcases j.far i hi with h | h
 ·have := tz i h; have := o.1; omega
 ·have := o.2; omega
theorem FlJ.get (f : FlC hb hc aA aN aS aR) (t0 : wfoot T0 = wfoot T0) {h' : Heap} (j : FlJ S n hb hc T0 am l sz N aA aN aS aR c h' T s bs) (zw : ∀ i, wfoot T0 i → T0.Z i) {a : Addr} {v : Value} (o : Cel 0 hc a v) (ha : a.block < hb.size) (nz : ¬ T0.Z a.block) : Cel 0 h' a v := by
 obtain ⟨g1, g2, g3, g4, g5⟩ := f.ge
 refine j.chg.own o fun x hx h => ?_
 cases hx
 rcases h with h | h | h | h | h
 ·omega
 ·omega
 ·omega
 ·omega
 ·exact nz (zw _ h)
theorem FlJ.ext {a b : Heap} (j : FlJ S n hb hc T0 am l sz N aA aN aS aR c a T s bs) (e : Ext a b) : FlJ S n hb hc T0 am l sz N aA aN aS aR c b T s bs :=
 ⟨j.t.ext e, j.nx, j.far, j.A, j.sm, j.chg.ext e, ⟨j.g.cel.ext e, j.g.o.ext e, j.g.sb⟩, j.gz, j.cN.ext e, j.cS.ext e, j.hS, j.cR.ext e⟩
theorem take_min (l : List Int) (k : Nat) : (l.drop 0).take (min k l.length - 0) = l.take k := by
 rw [List.drop_zero, Nat.sub_zero]
 by_cases h : k ≤ l.length
 ·rw [Nat.min_eq_left h]
 ·rw [Nat.min_eq_right (by omega), List.take_length, List.take_of_length_le (by omega)]
theorem c_mid (M : Meth0 P S) (C : Cl P S) (W : ClF P S) {x : Eds} {sl : Sl} {it : Value} {Z : Nat → Prop} {h0 h5 : Heap} {a0 : Nat} {aI aT aE aL aZ aR : Addr} (hs : 1 ≤ sz) (hs2 : sz < 2 ^ 63) (hl16 : l.length ≤ 65536) (t5 : TextR S n h5 T) (hn : n ≤ h5.size) (hsm : (bytesL T.cur.ps).length ≤ T.limit)
  (hok : ∀ h', Keep n h5 h' → (Sh.list EdSh).ok h' x) (hll : ∀ h', Keep n h5 h' → Lst .u8 h' sl l) (hw : (Sh.list EdSh).wt x ≤ 1048576) (hA : T.A.length ≤ a0) (ha0 : a0 ≤ 1000000000)
  (itc : IterC P it (nch l.length sz) (chk l sz) Z 8 h0) (held : Held Z h0 h5) (hzw : ∀ i, i < h0.size → Z i → ¬ wfoot T i)
  (cI : Cel 0 h5 aI it) (cT : Cel 0 h5 aT (.pointer (some T.p))) (cE : Cel 0 h5 aE (slv x.1)) (cL : Cel 0 h5 aL (slv sl)) (cZ : Cel 0 h5 aZ (i64v sz)) (cR : Cel 0 h5 aR (.bool true))
  (nz : ¬ T.Z aI.block ∧ ¬ T.Z aT.block ∧ ¬ T.Z aE.block ∧ ¬ T.Z aL.block ∧ ¬ T.Z aZ.block ∧ ¬ T.Z aR.block)
  (hk : ∀ h' T', TextR S n h' T' → Nxt T T' h5.size → (bytesL T'.cur.ps).length ≤ T'.limit → T'.A.length ≤ a0 + 4194304 → Chg (fun i => wfoot T i ∨ i = aR.block) h5 h' → Cel 0 h' aR (.bool true) → Q 0 [] h') :
  wp P (.load (.one .any) (some aI) fun (c385 : Value) =>
     .call (F_law5_ranged S c385) [.one .sl] fun (r386 : Sl × Unit) =>
     .load (.one .any) (some aI) fun (c387 : Value) =>
     .call (F_law5_begun S c387 (Int.ofNat 1)) [.one .sl, .one .bool] fun (r388 : Sl × Bool × Unit) =>
     .load (.one .ptr) (some aT) fun (p389 : Option Addr) =>
     .load (.one .sl) (some aE) fun (l390 : Sl) =>
     .call (F_law5_changed S p389 l390) [.one (.int .i64), .one .bool] fun (r391 : Int × Bool × Unit) =>
     .load (.one .any) (some aI) fun (c392 : Value) =>
     .call (F_law5_ranged S c392) [.one .sl] fun (r393 : Sl × Unit) =>
     .load (.one .any) (some aI) fun (c394 : Value) =>
     .call (F_law5_begun S c394 (Int.ofNat 2)) [.one .sl, .one .bool] fun (r395 : Sl × Bool × Unit) =>
     .load (.one (.int .i64)) (some aZ) fun (n396 : Int) =>
     .load (.one .sl) (some aL) fun (l397 : Sl) =>
     .bind
      (.load (.one .bool) (some aR) fun (b411 : Bool) =>
      ifB b411
       (ifB r388.2.1
        (ifB r395.2.1
         (.load (.one .sl) (some aL) fun (l412 : Sl) =>
         .call (F_law5_sameBytes S r386.1 l412) [.one .bool] fun (r413 : Bool × Unit) =>
         ifB r413.1
          (.load (.one .sl) (some aL) fun (l414 : Sl) =>
          .call (F_law5_sameBytes S r393.1 l414) [.one .bool] fun (r415 : Bool × Unit) =>
          ifB r415.1
           (.load (.one .sl) (some aL) fun (l416 : Sl) =>
           grd (leB (minI n396 (natI l397.len)) l416.cap) <|
           .call (F_law5_sameBytes S r388.1 ⟨cutBase l416.base l416.cap 0 1, subN (toN (minI n396 (natI l397.len))) 0, subN l416.cap 0⟩) [.one .bool] fun (r417 : Bool × Unit) =>
           ifB r417.1
            (.load (.one .sl) (some aL) fun (l418 : Sl) =>
            .load (.one .sl) (some aL) fun (l419 : Sl) =>
            grd (leB (minI (mulI .i64 2 (minI n396 (natI l397.len))) (natI l419.len)) l418.cap) <|
            .call (F_law5_sameBytes S r395.1 ⟨cutBase l418.base l418.cap 0 1, subN (toN (minI (mulI .i64 2 (minI n396 (natI l397.len))) (natI l419.len))) 0, subN l418.cap 0⟩) [.one .bool] fun (r420 : Bool × Unit) =>
            .store (some aR) [.bool r420.1] <|
            .ret 0 []) <|
           .store (some aR) [.bool false] <|
           .ret 0 []) <|
          .store (some aR) [.bool false] <|
          .ret 0 []) <|
         .store (some aR) [.bool false] <|
         .ret 0 []) <|
        .store (some aR) [.bool false] <|
        .ret 0 []) <|
       .store (some aR) [.bool false] <|
       .ret 0 []) <|
      .store (some aR) [.bool false] <|
      .ret 0 []) fun (k421 : Nat) =>
     fun (vs422 : List Value) =>
     ifB (eqN k421 0)
      (.cast [] vs422 fun (u423 : Unit) =>
      .ret 0 []) <|
     .fail) h5 Q := by
 obtain ⟨we1, we2, we3⟩ := eds_wt x
 obtain ⟨z1, z2, z3, z4, z5, z6⟩ := nz
 have wz : ∀ i, wfoot T i → T.Z i := fun i hi => wfoot_Z t5 hi
 refine s_cel (b := .any) (x := it) cI (wp_call (c_ranged W hs (by omega) itc held) fun ⟨(r1 : Sl), _⟩ h6 e6 o1 => ?_)
 have o1 : OwnL h5.size .u8 h6 r1 l := o1
 have held6 : Held Z h0 h6 := held.trans (Held.of_ext e6)
 refine s_cel (b := .any) (x := it) (cI.ext e6) (wp_call (c_begun W (most := 1) hs (by omega) (by decide) (by decide) itc held6) fun ⟨(r2 : Sl), (b2 : Bool), _⟩ h7 e7 ⟨o2, hb2⟩ => ?_)
 have o2 : OwnL h6.size .u8 h7 r2 (l.take (1 * sz)) := o2
 have hb2 : b2 = true := hb2
 subst hb2
 have e57 := e6.trans e7
 refine s_cel (b := .ptr) (x := some T.p) (cT.ext e57) (s_cel (b := .sl) (x := x.1) (cE.ext e57) ?_)
 have k57 : Keep n h5 h7 := e57.keep hn
 have q57 := e57.size
 refine wp_callW (c_changed M (t5.ext e57) (by omega) (fun h' k => hok h' (Keep.trans k57 k)) (by omega) (fun e he => by have := we3 e he; omega) (by omega) hsm) fun tag vs h8 ⟨ht, r, T', hv, c8, R⟩ => ⟨ht, (r, true, ()), hv, ?_⟩
 have q8 := c8.1
 have c58 : Chg (wfoot T) h5 h8 := (Chg.of_ext e57).trans c8 fun _ _ f => f
 have hlo : ∀ i, T.Z i → n ≤ i := fun i hi => (t5.lo i hi).1
 have k58 : Keep n h5 h8 := c58.keep hn fun i hi f => by have := hlo i (wz i f); omega
 have cel8 : ∀ {a : Addr} {v : Value}, Cel 0 h5 a v → ¬ T.Z a.block → Cel 0 h8 a v := fun o hz => c58.own o fun y hy f => by cases hy; exact hz (wz _ f)
 have zlt : ∀ i, T.Z i → i < h5.size := fun i hi => (t5.lo i hi).2
 have held8 : Held Z h0 h8 := held.chg c58 hzw
 refine s_cel (b := .any) (x := it) (cel8 cI z1) (wp_call (c_ranged W hs (by omega) itc held8) fun ⟨(r3 : Sl), _⟩ h9 e9 o3 => ?_)
 have o3 : OwnL h8.size .u8 h9 r3 l := o3
 have held9 : Held Z h0 h9 := held8.trans (Held.of_ext e9)
 refine s_cel (b := .any) (x := it) ((cel8 cI z1).ext e9) (wp_call (c_begun W (most := 2) hs (by omega) (by decide) (by decide) itc held9) fun ⟨(r4 : Sl), (b4 : Bool), _⟩ h10 e10 ⟨o4, hb4⟩ => ?_)
 have o4 : OwnL h9.size .u8 h10 r4 (l.take (2 * sz)) := o4
 have hb4 : b4 = true := hb4
 subst hb4
 have e810 := e9.trans e10
 have k510 : Keep n h5 h10 := Keep.trans k58 (e810.keep (by omega))
 have L10 := hll h10 k510
 have lsl := L10.len; have lcap := L10.cap; have lmax := L10.max
 have o1' : OwnL h5.size .u8 h10 r1 l := (c8.ownL (o1.ext e7) fun y hy f => by have := (o1.own.lt hy).1; have := zlt _ (wz _ f); omega).ext e810
 have o2' : OwnL h6.size .u8 h10 r2 (l.take (1 * sz)) := (c8.ownL o2 fun y hy f => by have := (o2.own.lt hy).1; have := zlt _ (wz _ f); have := e6.size; omega).ext e810
 have cZ10 := (cel8 cZ z5).ext e810
 have cL10 := (cel8 cL z4).ext e810
 have cR10 := (cel8 cR z6).ext e810
 refine s_cel (b := .int .i64) (x := (sz : Int)) cZ10 (s_cel (b := .sl) (x := sl) cL10 ?_)
 have hpart : minI (sz : Int) (natI sl.len) = ((min sz l.length : Nat) : Int) := by rw [minI_eq, natI_def, lsl]; omega
 have h2part : minI (mulI .i64 2 ((min sz l.length : Nat) : Int)) (natI sl.len) = ((min (2 * sz) l.length : Nat) : Int) := by rw [mul_ok (by omega) (by omega), minI_eq, natI_def, lsl]; omega
 rw [hpart]
 dsimp only
 refine s_bind (s_cel (b := .bool) (x := true) cR10 (s_ifT (s_ifT (s_ifT (s_cel (b := .sl) (x := sl) cL10 (wp_call (c_same5B o1'.lst L10) fun ⟨(b5 : Bool), _⟩ h11 e11 hb5 => ?_))))))
 have hb5 : b5 = decide (l = l) := hb5
 rw [decide_eq_true rfl] at hb5
 subst hb5
 refine s_ifT (s_cel (b := .sl) (x := sl) (cL10.ext e11) (wp_call (c_same5B ((o3.ext e10).ext e11).lst (L10.ext e11)) fun ⟨(b6 : Bool), _⟩ h12 e12 hb6 => ?_))
 have hb6 : b6 = decide (l = l) := hb6
 rw [decide_eq_true rfl] at hb6
 subst hb6
 have e1012 := e11.trans e12
 refine s_ifT (s_cel (b := .sl) (x := sl) (cL10.ext e1012) (wp_grd (leB_ok (by omega) (by omega)) ?_))
 rw [toN_def, Int.toNat_natCast]
 refine wp_call (c_same5B (o2'.ext e1012).lst ((L10.ext e1012).sub (i := 0) (j := min sz l.length) (Nat.zero_le _) (by omega))) fun ⟨(b7 : Bool), _⟩ h13 e13 hb7 => ?_
 have hb7 : b7 = decide (_ = _) := hb7
 rw [take_min, Nat.one_mul, decide_eq_true rfl] at hb7
 subst hb7
 have e1013 := e1012.trans e13
 refine s_ifT (s_cel (b := .sl) (x := sl) (cL10.ext e1013) (s_cel (b := .sl) (x := sl) (cL10.ext e1013) ?_))
 rw [h2part]
 refine wp_grd (leB_ok (by omega) (by omega)) ?_
 rw [toN_def, Int.toNat_natCast]
 refine wp_call (c_same5B (o4.ext e1013).lst ((L10.ext e1013).sub (i := 0) (j := min (2 * sz) l.length) (Nat.zero_le _) (by omega))) fun ⟨(b8 : Bool), _⟩ h14 e14 hb8 => ?_
 have hb8 : b8 = decide (_ = _) := hb8
 rw [take_min, decide_eq_true rfl] at hb8
 subst hb8
 have e1014 := e1013.trans e14
 refine s_celput (.bool true) (cR10.ext e1014) rfl fun h15 o15 u15 => s_ret (s_tag (s_cast0 (s_ret ?_)))
 have e814 : Ext h8 h14 := e810.trans e1014
 have c15 : Chg (fun i => i = aR.block) h14 h15 := Chg.of_upd u15 fun y hy _ => by cases hy; rfl
 refine hk h15 T' ((R.t.ext e814).chg c15 fun i hi f => ?_) (R.nx.low q57) (R.small t5.enc t5.cur.bytes hsm (blen_state t5.cur t5.enc)) (by have := R.len; omega) (((c58.mono fun _ _ f => .inl f).ext e814).trans c15 fun i _ f => .inr f) o15
 subst f
 rcases R.nx.zn _ hi with h | h
 ·exact z6 h
 ·have := (cR.lt rfl).2; omega
end Go.Sw.Piece

set_option linter.unusedVariables false
set_option linter.unusedSimpArgs false
set_option maxRecDepth 100000
namespace Go.Sw.Piece
open Go.Sw.Any Go.Sw.Codec
open Go.Sw.Tree (iv s_putAll s_newP s_getP s_getT s_putP small_ne eqI_self Placed cell_own wp_whileG minI_eq)
variable {P : Program} {S : Ids} {h : Heap} {Q : Nat → List Value → Heap → Prop}
variable {n am sz N c : Nat} {hb hc : Heap} {T0 T : TX} {l : List Int} {aA aN aS aR : Addr} {s : Sl} {bs : Bool}
theorem cb_flow (M : Meth0 P S) (C : Cl P S) (W : ClF P S) {x : Eds} {sl : Sl} {it : Value} {Z : Nat → Prop} {h0 : Heap} {a0 k : Nat} {aK aI aT aE aL aZ : Addr} (hs : 1 ≤ sz) (hs2 : sz < 2 ^ 63) (hl16 : l.length ≤ 65536)
  (E : FlE S hb hc T0 x sl sz k it aK aI aT aE aL aZ) (f : FlC hb hc aA aN aS aR) (t0 : TextR S n hc T0) (hn : n ≤ hb.size) (h0b : h0.size ≤ hb.size) (ad0 : ∀ b, T0.ad.base = some b → h0.size ≤ b.block) (zp : ∀ i, i < h0.size → Z i → i ≠ T0.p.block)
  (hok : ∀ h', Keep n hc h' → (Sh.list EdSh).ok h' x) (hll : ∀ h', Keep n hc h' → Lst .u8 h' sl l) (hw : (Sh.list EdSh).wt x ≤ 1048576) (ha0 : a0 ≤ 900000000)
  (itc : IterC P it (nch l.length sz) (chk l sz) Z 8 h0) {hp h1 : Heap} {s1 : Sl} (hcN : c < nch l.length sz) (hj : ∃ T s bs, FlJ S n hb hc T0 (a0 + if k < c then 4194304 else 0) l sz (nch l.length sz) aA aN aS aR c hp T s bs)
  (hps : hc.size + 8 ≤ hp.size) (cc : Chg (Sw.own hc.size 8) hp h1) (held : Held Z h0 h1) (os : OwnL hp.size .u8 h1 s1 (chk l sz c)) :
  DynV P (.func (.func S.f_law5_PieceFlow_1) #[] #[.pointer (some aS), .pointer (some aZ), .pointer (some aR), .pointer (some aA), .pointer (some aN), .pointer (some aK), .pointer (some aI), .pointer (some aT), .pointer (some aE), .pointer (some aL)]) [slv s1] h1 fun vs h2 =>
   ∃ b, vs = [.bool b] ∧ Held (fun i => Sw.own hc.size 8 i ∨ (Z i ∧ i < h0.size)) h1 h2 ∧ (b = true → ∃ T s bs, FlJ S n hb hc T0 (a0 + if k < c + 1 then 4194304 else 0) l sz (nch l.length sz) aA aN aS aR (c + 1) h2 T s bs) ∧ (b = false → False) := by
 obtain ⟨T, s, bs, j⟩ := hj
 obtain ⟨g1, g2, g3, g4, g5⟩ := f.ge
 obtain ⟨l1, l2, l3, l4, l5, l6⟩ := E.lt
 obtain ⟨z1, z2, z3, z4, z5, z6⟩ := E.nz
 have tz := E.tz
 have wz0 : ∀ i, wfoot T0 i → T0.Z i := fun i hi => wfoot_Z t0 hi
 have hbs := j.hS hcN
 subst hbs
 have spz : ∀ b, s.base = some b → b.block < hp.size := fun b hb' => (j.g.o.own.lt hb').2
 have tlt : ∀ i, T.Z i → i < hp.size := fun i hi => (j.t.lo i hi).2
 have j1 := j.own f tz cc
 have q1 := cc.1
 have get : ∀ {a : Addr} {v : Value}, Cel 0 hc a v → a.block < hb.size → ¬ T0.Z a.block → Cel 0 h1 a v := fun o ha nz => j1.get f rfl wz0 o ha nz
 have hcl : c * sz < l.length := (lt_nch hs).1 hcN
 have hc16 : c < 65536 := by have : c * 1 ≤ c * sz := Nat.mul_le_mul_left c hs; omega
 have lch : (chk l sz c).length = min sz (l.length - c * sz) := by show ((l.drop (c * sz)).take sz).length = _; rw [List.length_take, List.length_drop]
 have ls1 := os.len
 refine (W.fl s1 _ _ _ _ _ _ _ _ _ _ h1 _ ?_).toV
 unfold F_law5_PieceFlow_1
 refine s_bind (bind_bool False ?_ fun bb h2 e2 hb2 => wp_ifB (fun hx => (hb2.1 hx).elim) fun _ => s_ret (s_tag (s_cast0 ?_)))
 ·refine s_cel (b := .bool) (x := false) j1.cS (s_ifF (wp_ifB (fun hz => ?_) fun _ => s_cel (b := .int .i64) (x := (sz : Int)) (get E.cZ l6 z6) (s_ret ⟨rfl, Ext.refl _, _, rfl, ?_⟩)))
  ·rw [eqI_iff, natI_def] at hz; omega
  ·rw [gtI_iff, natI_def]
   exact ⟨fun h => by omega, False.elim⟩
 have j2 := j1.ext e2
 have q2 := e2.size
 refine s_cel (b := .int .i64) (x := (sz : Int)) ((get E.cZ l6 z6).ext e2) (s_celput (.bool (ltI (natI s1.len) sz)) j2.cS rfl fun h3 oS3 u3 => ?_)
 have c3 : Chg (fun i => i = aS.block) h2 h3 := Chg.of_upd u3 fun y hy _ => by cases hy; rfl
 have q3 := c3.1
 have g3' : Gr hc aA (l.take (c * sz)) h3 s := j2.g.chg c3 (by omega) fun b hb' e => by have := j.g.sb b hb'; omega
 have os3 : OwnL hp.size .u8 h3 s1 (chk l sz c) := c3.ownL (os.ext e2) fun y hy e => by have := (os.own.lt hy).1; omega
 refine s_cel (b := .sl) (x := s) g3'.cel (c_grow g3' hps (by omega) spz (by omega) os3 (by rw [List.length_take, lch]; omega) fun h4 s' g4' os4 hne c4 b4 => ?_)
 rw [show l.take (c * sz) ++ chk l sz c = l.take ((c + 1) * sz) from chunk_add l sz c] at g4'
 have q4 := c4.1
 have c4' : Chg (fun i => i = aA.block ∨ hc.size + 8 ≤ i) h3 h4 := c4.mono fun i _ e => by
  rcases e with e | ⟨b, hb', e⟩
  ·exact .inl e
  ·have := j.g.sb b hb'; exact .inr (by omega)
 have oN4 : Cel 0 h4 aN (i64v c) := c4'.own (c3.own (j2.cN) fun y hy e => by cases hy; omega) fun y hy e => by cases hy; omega
 refine s_scrib (V := fun r X => .load (.one (.int .i64)) (some aN) fun (n333 : Int) => X (wrapI .u8 (addI .i64 r n333))) (fun i => wrapI .u8 (addI .i64 i c)) (fun h' => Cel 0 h' aN (i64v c)) os4 (by rw [lch]; omega) oN4 (fun _ => range_u8 _) (fun ha hb' l' ol oc u => oc.keep fun y hy => by
  cases hy
  exact u.2.1 _ (oc.lt rfl).2 fun z hz e => by have := (ol.own.lt hz).1; omega) (fun i ha X R _ oc w => s_cel (b := .int .i64) (x := (c : Int)) oc w) fun h5 l' ol oN5 u5 => ?_
 have c5 : Chg (fun i => ∃ y, s1.base = some y ∧ y.block = i) h4 h5 := Chg.of_upd u5 fun y hy _ => ⟨y, hy, rfl⟩
 have c5' : Chg (fun i => hp.size ≤ i) h4 h5 := c5.mono fun i _ ⟨y, hy, e⟩ => by have := (ol.own.lt hy).1; omega
 have q5 := c5.1
 have c25 : Chg (fun i => i = aS.block ∨ i = aA.block ∨ (∃ b, s.base = some b ∧ b.block = i) ∨ hp.size ≤ i) h2 h5 := ((c3.mono fun i _ e => .inl e).trans (c4.mono (G := fun i => i = aS.block ∨ i = aA.block ∨ (∃ b, s.base = some b ∧ b.block = i) ∨ hp.size ≤ i) fun i _ e => e.elim (fun e => .inr (.inl e)) fun e => .inr (.inr (.inl e))) fun i _ e => e).trans c5' fun i _ e => .inr (.inr (.inr e))
 have c15 : Chg (fun i => i = aS.block ∨ i = aA.block ∨ (∃ b, s.base = some b ∧ b.block = i) ∨ hp.size ≤ i) h1 h5 := Chg.pre e2 c25
 have c15h : Chg (fun i => i = aS.block ∨ i = aA.block ∨ hc.size + 8 ≤ i) h1 h5 := c15.mono fun i _ e => by
  rcases e with e | e | ⟨b, hb', e⟩ | e
  ·exact .inl e
  ·exact .inr (.inl e)
  ·have := j.g.sb b hb'; exact .inr (.inr (by omega))
  ·exact .inr (.inr (by omega))
 have tcell : ∀ i, T.Z i → i < hb.size ∨ hc.size + 8 ≤ i := fun i hi => (j.far i hi).imp (tz i) id
 have t5 : TextR S n h5 T := j1.t.chg c15 fun i hi e => by
  have h1 := tcell i hi
  rcases e with e | e | ⟨b, hb', e⟩ | e
  ·omega
  ·omega
  ·exact j.gz b hb' (by rw [e]; exact hi)
  ·have := tlt i hi; omega
 have get5 : ∀ {a : Addr} {v : Value}, Cel 0 hc a v → a.block < hb.size → ¬ T0.Z a.block → Cel 0 h5 a v := fun o ha nz => c15h.own (get o ha nz) fun y hy e => by cases hy; omega
 have held5 : Held Z h0 h5 := held.chg c15h fun i hi _ e => by omega
 have cR5 : Cel 0 h5 aR (.bool true) := c15h.own j1.cR fun y hy e => by cases hy; omega
 have tp : T.p = T0.p := j.nx.p
 have wfo : ∀ i, wfoot T i → wfoot T0 i ∨ (hc.size + 8 ≤ i ∧ T.Z i) := fun i hi => by
  rcases hi with hi | ⟨b, hb', hi⟩
  ·rw [tp] at hi; exact .inl (.inl hi)
  ·rcases j.nx.adc b hb' with h | h
   ·exact .inl (.inr ⟨b, h, hi⟩)
   ·refine .inr ?_
    have hz := j.t.za b hb'
    rw [hi] at hz h
    rcases j.far i hz with h' | h'
    ·have := tz i h'; omega
    ·exact ⟨h', hz⟩
 have wf0 : ∀ i, wfoot T0 i → i = T0.p.block ∨ (h0.size ≤ i ∧ i < hb.size) := fun i hi => by
  have hz := tz i (wz0 i hi)
  rcases hi with hi | ⟨b, hb', hi⟩
  ·exact .inl hi
  ·exact .inr ⟨by have := ad0 b hb'; omega, hz⟩
 have hzw : ∀ i, i < h0.size → Z i → ¬ wfoot T i := fun i hi hz hw' => by
  rcases wfo i hw' with h | h
  ·rcases wf0 i h with h | h
   ·exact zp i hi hz h
   ·omega
  ·omega
 have k15 : Keep n hc h1 := j1.chg.keep (by omega) fun i hi e => by
  rcases e with e | e | e | e | e
  ·omega
  ·omega
  ·omega
  ·omega
  ·have := (t0.lo i (wz0 i e)).1; omega
 have k5 : Keep n hc h5 := Keep.trans k15 (c15h.keep (by omega) fun i hi e => by omega)
 have nzT : ∀ {a : Addr}, a.block < hb.size → ¬ T0.Z a.block → ¬ T.Z a.block := fun {a} ha nz hz => by
  rcases j.far _ hz with h | h
  ·exact nz h
  ·omega
 have hRz : ¬ T.Z aR.block := fun hz => by have := tcell _ hz; omega
 have sb5 : ∀ b, s'.base = some b → b.block < h5.size := fun b hb' => by have := (g4'.o.own.lt hb').2; omega
 have sz5 : ∀ b, s'.base = some b → ¬ T.Z b.block := fun b hb' hz => by
  rcases b4 b hb' with h | h
  ·exact j.gz b h hz
  ·have := tlt _ hz; omega
 have g5' : Gr hc aA (l.take ((c + 1) * sz)) h5 s' := g4'.chg c5 (fun ⟨y, hy, e⟩ => by have := (ol.own.lt hy).1; omega) fun b hb' ⟨y, hy, e⟩ => hne b hb' y hy e.symm
 have oS5 : Cel 0 h5 aS (.bool (ltI (natI s1.len) sz)) := c5'.own (c4'.own oS3 fun y hy e => by cases hy; omega) fun y hy e => by cases hy; omega
 have hif : (if k < c then 4194304 else 0) ≤ 4194304 := by split <;> omega
 refine s_tag (s_cast0 (wp_bind (fun tag vs h' => tag = 0 ∧ vs = [] ∧ ∃ T', TextR S n h' T' ∧ Nxt T T' h5.size ∧ (bytesL T'.cur.ps).length ≤ T'.limit ∧ T'.A.length ≤ a0 + (if k < c + 1 then 4194304 else 0) ∧ Chg (fun i => wfoot T i ∨ i = aR.block) h5 h' ∧ Cel 0 h' aR (.bool true)) ?_ ?_))
 ·refine s_cel (b := .int .i64) (x := (c : Int)) oN5 (s_cel (b := .int .i64) (x := (k : Int)) (get5 E.cK l1 z1) (wp_ifB (fun he => ?_) fun he => s_ret ⟨rfl, rfl, T, t5, Nxt.refl _ _, j.sm, ?_, Chg.refl _ _, cR5⟩))
  ·rw [eqI_iff] at he
   have hck : c = k := by omega
   subst hck
   have hA : T.A.length ≤ a0 := by have := j.A; rw [if_neg (by omega)] at this; omega
   refine c_mid M C W hs hs2 hl16 t5 (by omega) j.sm (fun h' k' => hok h' (Keep.trans k5 k')) (fun h' k' => hll h' (Keep.trans k5 k')) hw hA (by omega) itc held5 hzw (get5 E.cI l2 z2) (by rw [tp]; exact get5 E.cT l3 z3) (get5 E.cE l4 z4) (get5 E.cL l5 z5) (get5 E.cZ l6 z6) cR5
    ⟨nzT l2 z2, nzT l3 z3, nzT l4 z4, nzT l5 z5, nzT l6 z6, hRz⟩ fun h' T' t' nx' sm' A' c' r' => ⟨rfl, rfl, T', t', nx', sm', by rw [if_pos (by omega)]; exact A', c', r'⟩
  ·rw [eqI_not] at he
   have hA := j.A
   by_cases hkc : k < c
   ·rw [if_pos hkc] at hA; rw [if_pos (by omega)]; exact hA
   ·rw [if_neg hkc] at hA; rw [if_neg (by omega)]; exact hA
 rintro tag vs h6 ⟨rfl, rfl, T', t6, nx6, sm6, A6, c6, cR6⟩
 have c6c : Chg (fun i => wfoot T0 i ∨ (hc.size + 8 ≤ i ∧ T.Z i) ∨ i = aR.block) h5 h6 := c6.mono fun i _ e => e.elim (fun e => (wfo i e).imp id .inl) fun e => .inr (.inr e)
 have q6 := c6.1
 have w0lt : ∀ i, wfoot T0 i → i < hb.size := fun i hi => tz i (wz0 i hi)
 have cN6 : Cel 0 h6 aN (i64v c) := c6c.own oN5 fun y hy e => by
  cases hy
  rcases e with e | e | e
  ·have := w0lt _ e; omega
  ·omega
  ·omega
 refine s_tag (s_cast0 (s_cel (b := .int .i64) (x := (c : Int)) cN6 ?_))
 rw [add_ok (by omega) (by omega)]
 refine s_celput (i64v ((c : Int) + 1)) cN6 rfl fun h7 oN7 u7 => ?_
 have c7 : Chg (fun i => i = aN.block) h6 h7 := Chg.of_upd u7 fun y hy _ => by cases hy; rfl
 have cR7 : Cel 0 h7 aR (.bool true) := c7.own cR6 fun y hy e => by cases hy; omega
 have c57 : Chg (fun i => wfoot T0 i ∨ (hc.size + 8 ≤ i ∧ T.Z i) ∨ i = aR.block ∨ i = aN.block) h5 h7 := (c6c.mono fun i _ e => by rcases e with e | e | e; exact .inl e; exact .inr (.inl e); exact .inr (.inr (.inl e))).trans c7 fun i _ e => .inr (.inr (.inr e))
 have call : Chg (fun i => i = aA.block ∨ i = aN.block ∨ i = aS.block ∨ i = aR.block ∨ wfoot T0 i ∨ hc.size + 8 ≤ i) h1 h7 := (c15h.mono fun i _ e => by rcases e with e | e | e; exact .inr (.inr (.inl e)); exact .inl e; exact .inr (.inr (.inr (.inr (.inr e))))).trans c57 fun i _ e => by
  rcases e with e | e | e | e
  ·exact .inr (.inr (.inr (.inr (.inl e))))
  ·exact .inr (.inr (.inr (.inr (.inr e.1))))
  ·exact .inr (.inr (.inr (.inl e)))
  ·exact .inr (.inl e)
 refine s_cel (b := .bool) (x := true) cR7 (s_ret ⟨rfl, true, rfl, Held.of_chg call fun i _ hw' e => ?_, fun _ => ⟨T', s', ltI (natI s1.len) sz, ?_⟩, fun h => by cases h⟩)
 ·rcases hw' with hw' | ⟨hz, hi⟩
  ·have o1 := hw'.1; have o2 := hw'.2
   rcases e with e | e | e | e | e | e
   ·omega
   ·omega
   ·omega
   ·omega
   ·have := w0lt i e; omega
   ·omega
  ·rcases e with e | e | e | e | e | e
   ·omega
   ·omega
   ·omega
   ·omega
   ·rcases wf0 i e with h | h
    ·exact zp i hi hz h
    ·omega
   ·omega
 ·have farT' : ∀ i, T'.Z i → T0.Z i ∨ hc.size + 8 ≤ i := fun i hi => by
   rcases nx6.zn i hi with h | h
   ·exact j.far i h
   ·exact .inr (by omega)
  have ne57 : ∀ {a : Addr} {v : Value}, Cel 0 h5 a v → hb.size ≤ a.block → a.block < hc.size → a.block ≠ aR.block → a.block ≠ aN.block → Cel 0 h7 a v := fun o h1' h2' h3' h4' => c57.own o fun y hy e => by
   cases hy
   rcases e with e | e | e | e
   ·have := w0lt _ e; omega
   ·omega
   ·exact h3' e
   ·exact h4' e
  refine ⟨t6.chg c7 fun i hi e => (farT' i hi).elim (fun h => by have := tz i h; omega) fun h => by omega, j.nx.trans nx6 (by omega), farT', A6, sm6, j1.chg.trans call fun i hi e => ?_, ⟨ne57 g5'.cel g1 (by omega) (by omega) (by omega), c57.ownL g5'.o fun b hb' e => ?_, g5'.sb⟩, fun b hb' hz => ?_, oN7, ne57 oS5 (by omega) (by omega) (by omega) (by omega), fun hlt => ?_, cR7⟩
  ·rcases e with e | e | e | e | e | e
   ·exact .inl e
   ·exact .inr (.inl e)
   ·exact .inr (.inr (.inl e))
   ·exact .inr (.inr (.inr (.inl e)))
   ·exact .inr (.inr (.inr (.inr e)))
   ·omega
  ·have hsb := g5'.sb b hb'
   rcases e with e | e | e | e
   ·have := w0lt _ e; omega
   ·exact sz5 b hb' e.2
   ·omega
   ·omega
  ·rcases nx6.zn _ hz with h | h
   ·exact sz5 b hb' h
   ·have := sb5 b hb'; omega
  ·have h1 := (lt_nch hs).1 hlt
   rw [Nat.succ_mul] at h1
   rw [ltI_not, natI_def]; omega
end Go.Sw.Piece

set_option linter.unusedVariables false
set_option linter.unusedSimpArgs false
set_option maxRecDepth 100000
namespace Go.Sw.Piece
open Go.Sw.Any Go.Sw.Codec
open Go.Sw.Tree (iv s_putAll s_newP s_getP s_getT s_putP small_ne eqI_self Placed cell_own wp_whileG minI_eq)
variable {P : Program} {S : Ids} {h : Heap} {Q : Nat → List Value → Heap → Prop}
structure FlL (S : Ids) (hs h0 : Heap) (Z : Nat → Prop) (p : Addr) (it : Value) (x : Eds) (sl : Sl) (sz : Nat) (aI aT aE aL aZ : Addr) (k : Nat) (aK : Addr) (T : TX) (h : Heap) : Prop where
 e : Ext hs h
 t : TextR S hs.size h T
 tp : T.p = p
 A : T.A.length ≤ k * 4194304
 sm : (bytesL T.cur.ps).length ≤ T.limit
 ad : ∀ b, T.ad.base = some b → h0.size ≤ b.block
 held : Held Z h0 h
 cK : Cel 0 h aK (i64v k)
 cI : Cel 0 h aI it
 cT : Cel 0 h aT (.pointer (some p))
 cE : Cel 0 h aE (slv x.1)
 cL : Cel 0 h aL (slv sl)
 cZ : Cel 0 h aZ (i64v sz)
 nz : ¬ T.Z aK.block ∧ ¬ T.Z aI.block ∧ ¬ T.Z aT.block ∧ ¬ T.Z aE.block ∧ ¬ T.Z aL.block ∧ ¬ T.Z aZ.block
theorem c_PieceFlow (M : Meth0 P S) (C : Cl P S) (W : ClF P S) {enc size : Int} {sl : Sl} {l : List Int} {x : Eds} (hl : Lst .u8 h sl l) (hx : (Sh.list EdSh).ok h x) (hw : (Sh.list EdSh).wt x ≤ 1048576) (hsz : fitsI .i64 size) :
  Gives P (F_law5_PieceFlow S enc sl size x.1) [.one .bool] h fun (y : Bool × Unit) _ => y.1 = true := by
 unfold F_law5_PieceFlow Gives
 have hsz' := fits_i64.1 hsz
 refine s_new1 _ fun h1 e1 o1 z1 => s_new1 _ fun h2 e2 o2 z2 => s_new1 _ fun h3 e3 o3 z3 => ?_
 refine wp_call (c_able M) fun ⟨(ab : Bool), _⟩ h4 e4 hab => ?_
 have hab : ab = true := hab
 subst hab
 refine s_ifF ?_
 have q1 := e1.size; have q2 := e2.size; have q3 := e3.size; have q4 := e4.size
 have e04 := ((e1.trans e2).trans e3).trans e4
 have oL : Cel 0 h4 ⟨h.size, 0, none⟩ (slv sl) := (((o1.ext e2).ext e3).ext e4).mono (Nat.zero_le _)
 have oZ : Cel 0 h4 ⟨h1.size, 0, none⟩ (i64v size) := ((o2.ext e3).ext e4).mono (Nat.zero_le _)
 have oE : Cel 0 h4 ⟨h2.size, 0, none⟩ (slv x.1) := (o3.ext e4).mono (Nat.zero_le _)
 have l4 := hl.ext e04
 refine bind_bool (¬ (known enc ∧ l.length ≤ 65536) ∨ size < 1) ?_ fun bb h5 e5 hb5 => wp_ifB (fun hc => s_ret ⟨rfl, e04.trans e5, (true, ()), rfl, rfl⟩) fun hc => ?_
 ·refine s_cel (b := .sl) (x := sl) oL (wp_call (c_known5 l4) fun ⟨(b1 : Bool), _⟩ h5 e5 hb1 => ?_)
  have hb1 : b1 = true ↔ known enc ∧ l.length ≤ 65536 := hb1
  refine wp_ifB (fun hc => s_ret ⟨rfl, e5, true, rfl, Iff.intro (fun _ => .inl fun h => ?_) fun _ => rfl⟩) fun hc => s_cel (b := .int .i64) (x := size) (oZ.ext e5) (s_ret ⟨rfl, e5, _, rfl, ?_⟩)
  ·rw [notB_iff] at hc
   have hc : b1 = false := hc
   rw [hb1.2 h] at hc; cases hc
  ·rw [notB_not] at hc
   have hc : b1 = true := hc
   rw [ltI_iff]
   exact ⟨.inr, fun h => h.elim (fun h => absurd (hb1.1 hc) h) id⟩
 have hc : ¬ (¬ (known enc ∧ l.length ≤ 65536) ∨ size < 1) := fun h => by have hc : bb = false := hc; rw [hb5.2 h] at hc; cases hc
 have he : known enc := Classical.byContradiction fun h => hc (.inl fun k => h k.1)
 have hl16 : l.length ≤ 65536 := Classical.byContradiction fun h => hc (.inl fun k => h k.2)
 obtain ⟨sz, rfl⟩ : ∃ sz : Nat, size = sz := ⟨size.toNat, by omega⟩
 have hs : 1 ≤ sz := by omega
 have e05 := e04.trans e5
 have q5 := e5.size
 refine s_cel (b := .sl) (x := sl) (oL.ext e5) (wp_call (c_opened M he (hl.ext e05) hl16) fun ⟨(tp : Option Addr), _⟩ h6 e6 ⟨T, htp, O⟩ => ?_)
 have htp : tp = some T.p := htp
 subst htp
 have q6 := e6.size
 have e06 := e05.trans e6
 refine s_newput _ (.pointer (some T.p)) rfl fun h7 e7 oT => s_cel (b := .ptr) (x := some T.p) oT (s_ifF (s_cel (b := .ptr) (x := some T.p) oT (s_cel (b := .int .i64) (x := (sz : Int)) (((oZ.ext e5).ext e6).ext e7) ?_)))
 have q7 := e7.size
 have lT : h6.size < h7.size := (oT.lt rfl).2
 have t7 : TextR S h.size h7 T := (O.t.mono (by omega)).ext e7
 have tlo : ∀ i, T.Z i → h5.size ≤ i := fun i hi => (O.t.lo i hi).1
 have tlt : ∀ i, T.Z i → i < h6.size := fun i hi => (O.t.lo i hi).2
 refine wp_call (c_TChunks C (Z := fun i => T.Z i ∧ i ≠ T.p.block) t7 t7.chrOut hsz) fun ⟨(it : Value), _⟩ h8 e8 ⟨b1, b3, hit, itc⟩ => ?_
 have hit : it = .func (.func S.f_Text_Chunks_1) #[] #[.pointer (some b1), .pointer (some b3)] := hit
 have q8 := e8.size
 have itc : IterC P it (nch l.length sz) (chk l sz) (fun i => (T.Z i ∧ i ≠ T.p.block) ∨ h7.size ≤ i) 8 h8 := by
  have h : IterC P it (nchI (bytesL T.cur.ps).length (sz : Int)) (chunkI (bytesL T.cur.ps) (sz : Int)) (fun i => (T.Z i ∧ i ≠ T.p.block) ∨ h7.size ≤ i) 8 h8 := itc
  unfold nchI chunkI at h
  rw [if_neg (by omega), O.bytes] at h
  exact h
 have hf0 : flatB it = true := by rw [hit]; rfl
 have hf1 : isFunc it = true := by rw [hit]; rfl
 have hf2 : isNilFunc it = false := by rw [hit]; rfl
 have hf3 : flat it = true := by rw [hit]; rfl
 refine s_new1 _ fun h9 e9 o9 z9 => ?_
 dsimp only
 rw [hf0]
 refine wp_grd rfl (s_celput it o9 hf3 fun h10 o10 u10 => s_cel (b := .any) (x := it) o10 ?_)
 rw [hf1, hf2]
 refine wp_grd rfl (s_ifF ?_)
 have e810 : Ext h8 h10 := Upd.extN e9 u10 (by intro y hy; cases hy; exact Nat.le_refl _)
 have q10 := e810.size
 refine s_newput _ (i64v 0) rfl fun h11 e11 o11 => ?_
 have q11 := e11.size
 have e811 := e810.trans e11
 have e711 := e8.trans e811
 have e511 := (e6.trans e7).trans e711
 have e011 := e05.trans e511
 have l10 : h8.size < h10.size := (o10.lt rfl).2
 generalize hZ : (fun i => (T.Z i ∧ i ≠ T.p.block) ∨ h7.size ≤ i) = Z at itc
 have zp : ∀ i, Z i → i ≠ T.p.block := fun i hi e => by
  rw [← hZ] at hi
  rcases hi with hi | hi
  ·exact hi.2 e
  ·have := tlt _ t7.zp; omega
 have I0 : FlL S h h8 Z T.p it x sl sz ⟨h8.size, 0, none⟩ ⟨h6.size, 0, none⟩ ⟨h2.size, 0, none⟩ ⟨h.size, 0, none⟩ ⟨h1.size, 0, none⟩ 0 ⟨h10.size, 0, none⟩ T h11 := by
  refine ⟨e011, t7.ext e711, rfl, by rw [O.A]; exact Nat.zero_le _, by rw [O.bytes, O.li]; omega, fun b hb => ?_, Held.of_ext e811, o11.mono (Nat.zero_le _), (o10.ext e11).mono (Nat.zero_le _), (oT.ext e711).mono (Nat.zero_le _), oE.ext (e5.trans e511), oL.ext (e5.trans e511), oZ.ext (e5.trans e511), ?_⟩
  ·have := t7.adk b hb; rw [O.A] at this; exact absurd this (by decide)
  ·have l3 : h2.size < h3.size := by omega
   exact ⟨fun hz => by have := tlt _ hz; dsimp only at this; omega, fun hz => by have := tlt _ hz; dsimp only at this; omega, fun hz => by have := tlt _ hz; dsimp only at this; omega, fun hz => by have := tlo _ hz; dsimp only at this; omega, fun hz => by have := tlo _ hz; dsimp only at this; omega, fun hz => by have := tlo _ hz; dsimp only at this; omega⟩
 have e08 : Ext h h8 := (e06.trans e7).trans e8
 have q08 := e08.size
 refine wp_whileG (G := Nat × Addr × TX) (fun g (r : Option Addr × Unit) h' => r.1 = some g.2.1 ∧ g.1 ≤ 2 ∧ FlL S h h8 Z T.p it x sl sz ⟨h8.size, 0, none⟩ ⟨h6.size, 0, none⟩ ⟨h2.size, 0, none⟩ ⟨h.size, 0, none⟩ ⟨h1.size, 0, none⟩ g.1 g.2.1 g.2.2 h') (fun g => 2 - g.1)
  (fun tag vs h' => tag = 2 ∧ vs = [] ∧ Ext h h') (0, ⟨h10.size, 0, none⟩, T) ⟨rfl, by omega, I0⟩ ?_ ?_
 ·rintro ⟨k, aK, T0⟩ ⟨(r : Option Addr), u⟩ hb ⟨hr, hk, L⟩
  dsimp only at hr hk L ⊢
  subst hr
  have qb := L.e.size
  have qh0 := L.held.1
  refine s_cel (b := .int .i64) (x := (k : Int)) L.cK (wp_ifB (fun hc => ?_) fun hc => s_ret ⟨fun hh => absurd hh (by decide), fun _ => ⟨rfl, rfl, L.e⟩⟩)
  rw [ltI_iff] at hc
  refine s_new1 _ fun ha ea oa za => s_newput _ (i64v 0) rfl fun hn en on => s_newput _ (.bool false) rfl fun hq eq oq => s_newput _ (.bool true) rfl fun hc' ec oc => ?_
  have qa := ea.size; have qn := en.size; have qq := eq.size; have qc := ec.size
  have la := (oa.lt rfl).2; have ln : ha.size < hn.size := (on.lt rfl).2; have lq : hn.size < hq.size := (oq.lt rfl).2; have lc : hq.size < hc'.size := (oc.lt rfl).2
  have eb := ((ea.trans en).trans eq).trans ec
  have lK := (L.cK.lt rfl).2; have lI := (L.cI.lt rfl).2; have lTT := (L.cT.lt rfl).2; have lE := (L.cE.lt rfl).2; have lL := (L.cL.lt rfl).2; have lZ := (L.cZ.lt rfl).2
  have t0 : TextR S h.size hc' T0 := L.t.ext eb
  have tz : ∀ i, T0.Z i → i < hb.size := fun i hi => (L.t.lo i hi).2
  have E : FlE S hb hc' T0 x sl sz k it aK ⟨h8.size, 0, none⟩ ⟨h6.size, 0, none⟩ ⟨h2.size, 0, none⟩ ⟨h.size, 0, none⟩ ⟨h1.size, 0, none⟩ :=
   ⟨L.cK.ext eb, L.cI.ext eb, by rw [L.tp]; exact L.cT.ext eb, L.cE.ext eb, L.cL.ext eb, L.cZ.ext eb, ⟨lK, lI, lTT, lE, lL, lZ⟩, L.nz, tz⟩
  have f : FlC hb hc' ⟨hb.size, 0, none⟩ ⟨ha.size, 0, none⟩ ⟨hn.size, 0, none⟩ ⟨hq.size, 0, none⟩ := ⟨by dsimp only at la ⊢; omega⟩
  have ehc := L.e.trans eb
  have heldc : Held Z h8 hc' := L.held.trans (Held.of_ext eb)
  have oA : Cel 0 hc' ⟨hb.size, 0, none⟩ (slv ⟨none, 0, 0⟩) := (((oa.ext en).ext eq).ext ec).mono (Nat.zero_le _)
  have oN : Cel 0 hc' ⟨ha.size, 0, none⟩ (i64v ((0 : Nat) : Int)) := ((on.ext eq).ext ec).mono (Nat.zero_le _)
  have oS : Cel 0 hc' ⟨hn.size, 0, none⟩ (.bool false) := (oq.ext ec).mono (Nat.zero_le _)
  have oR : Cel 0 hc' ⟨hq.size, 0, none⟩ (.bool true) := oc.mono (Nat.zero_le _)
  have w0 : ∀ i, wfoot T0 i → T0.Z i := fun i hi => wfoot_Z t0 hi
  refine s_cel (b := .any) (x := it) (L.cI.ext eb) (wp_callv (DynE.mono (itc hc' _ (fun c h' => ∃ T s bs, FlJ S h.size hb hc' T0 (k * 4194304 + if k < c then 4194304 else 0) l sz (nch l.length sz) ⟨hb.size, 0, none⟩ ⟨ha.size, 0, none⟩ ⟨hn.size, 0, none⟩ ⟨hq.size, 0, none⟩ c h' T s bs) (fun _ => False) (by omega) heldc rfl
   (fun c a b ⟨T, s, bs, j⟩ cc => ⟨T, s, bs, j.own f tz cc⟩) (fun a b f => f.elim)
   (fun c hp h1' s1 hcN hj hps cc held os => cb_flow M C W hs (by omega) hl16 E f t0 (by omega) (by omega) L.ad (fun i _ hi => by rw [L.tp]; exact zp i hi) (fun h' k' => Sh.ok.ext (s := .list EdSh) (Keep.trans ehc k') hx) (fun h' k' => hl.ext (Keep.trans ehc k')) hw (by omega) itc hcN hj hps cc held os)
   ⟨T0, ⟨none, 0, 0⟩, false, t0, Nxt.refl _ _, fun i hi => .inl hi, Nat.le_trans L.A (Nat.le_add_right _ _), L.sm, Chg.refl _ _, ⟨oA, by rw [Nat.zero_mul, List.take_zero]; exact OwnL.nil _ _ _, fun b hb => by cases hb⟩, fun b hb => (by cases hb), oN, oS, fun _ => rfl, oR⟩) fun vs h12 ⟨hv, s12, hz12, hend⟩ => ⟨(), hv, ?_⟩).toV)
  rcases hend with ⟨T', s, bs, j⟩ | hf
  ·have get : ∀ {a : Addr} {v : Value}, Cel 0 hc' a v → a.block < hb.size → ¬ T0.Z a.block → Cel 0 h12 a v := fun o ha' nz => j.get f rfl w0 o ha' nz
   obtain ⟨z1', z2', z3', z4', z5', z6'⟩ := L.nz
   have hall := j.g.o
   rw [take_all hs] at hall
   have k12 : Keep h.size hc' h12 := j.chg.keep (by omega) fun i hi e => by
    have hlo := t0.lo
    rcases e with e | e | e | e | e
    ·dsimp only at e; omega
    ·dsimp only at e; omega
    ·dsimp only at e; omega
    ·dsimp only at e; omega
    ·have := (hlo i (w0 i e)).1; omega
   have e12 : Ext h h12 := Keep.trans ehc k12
   refine bind_bool False ?_ fun bb h13 e13 hb13 => wp_ifB (fun hx => (hb13.1 hx).elim) fun _ => ?_
   ·refine s_cel (b := .bool) (x := true) j.cR (s_ifF (s_cel (b := .sl) (x := s) j.g.cel (s_cel (b := .sl) (x := sl) (get E.cL lL z5') (wp_call (c_same5B hall.lst (hl.ext e12)) fun ⟨(b2 : Bool), _⟩ h13 e13 hb2 => s_ret ⟨rfl, e13, _, rfl, ?_⟩))))
    have hb2 : b2 = decide (l = l) := hb2
    rw [decide_eq_true rfl] at hb2
    rw [hb2]
    exact Iff.intro (fun h => by cases h) False.elim
   have q12 := j.chg.1; have q13 := e13.size
   refine s_cel (b := .int .i64) (x := (k : Int)) ((get E.cK lK z1').ext e13) (s_newput _ (i64v k) rfl fun h14 e14 o14 => s_cel (b := .int .i64) (x := (k : Int)) o14 ?_)
   rw [add_ok (by omega) (by omega)]
   refine s_celput (i64v ((k : Int) + 1)) o14 rfl fun h15 o15 u15 => ?_
   have e1214 := e13.trans e14
   have e1215 : Ext h12 h15 := Upd.extN e1214 u15 (by intro y hy; cases hy; dsimp only; omega)
   have tlt' : ∀ i, T'.Z i → i < h12.size := fun i hi => (j.t.lo i hi).2
   have nzT : ∀ {a : Addr}, a.block < hb.size → ¬ T0.Z a.block → ¬ T'.Z a.block := fun {a} ha' nz hz => by
    rcases j.far _ hz with h | h
    ·exact nz h
    ·omega
   refine s_ret ⟨fun _ => ⟨(k + 1, ⟨h13.size, 0, none⟩, T'), (some ⟨h13.size, 0, none⟩, ()), rfl, ⟨rfl, by dsimp only; omega, e12.trans e1215, j.t.ext e1215, by rw [j.nx.p]; exact L.tp, ?_, j.sm, fun b hb' => ?_, hz12.trans (Held.of_ext e1215), o15.mono (Nat.zero_le _), (get E.cI lI z2').ext e1215, (get (L.cT.ext eb) lTT z3').ext e1215, (get E.cE lE z4').ext e1215, (get E.cL lL z5').ext e1215, (get E.cZ lZ z6').ext e1215, ?_⟩, by dsimp only; omega⟩, fun hh => absurd rfl hh⟩
   ·have := j.A
    have hif : (if k < nch l.length sz then 4194304 else 0) ≤ 4194304 := by split <;> omega
    dsimp only
    omega
   ·rcases j.nx.adc b hb' with h | h
    ·exact L.ad b h
    ·omega
   ·exact ⟨fun hz => by have := tlt' _ hz; dsimp only at this; omega, nzT lI z2', nzT lTT z3', nzT lE z4', nzT lL z5', nzT lZ z6'⟩
  ·exact hf.elim
 ·rintro tag vs h12 ⟨rfl, rfl, e12⟩
  exact s_tag (s_cast0 (s_ret ⟨rfl, e12, (true, ()), rfl, rfl⟩))
end Go.Sw.Piece
