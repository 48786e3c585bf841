/-
  Codec: the document's own functions, as far as pieces need them.
-/
import Derived.Test.YtaebgdhdldfigaaSwCC
set_option linter.unusedVariables false
set_option linter.unusedSimpArgs false
set_option maxRecDepth 100000
namespace Go.Sw.Codec
variable {P : Program} {S : Ids} {h : Heap} {Q : Nat → List Value → Heap → Prop}
theorem c_ref_Scalar (a : Int) : Gives P (F_ref1_Scalar S a) [.one .bool] h fun (x : Bool × Unit) h' => x.1 = decide ((0 ≤ a ∧ a < 55296) ∨ (57343 < a ∧ a ≤ 1114111)) := by
 unfold F_ref1_Scalar Gives
 repeat' first
  | with_reducible refine s_ret ?_ | with_reducible refine s_bind ?_ | with_reducible refine s_tag ?_ | with_reducible refine s_tagNo rfl ?_ | with_reducible refine s_castB ?_ | with_reducible refine s_castI ?_ | with_reducible refine s_castS ?_ | with_reducible refine s_castII ?_ | with_reducible refine s_cast0 ?_
  | with_reducible refine s_ifT ?_ | with_reducible refine s_ifF ?_ | with_reducible refine s_not ?_ | with_reducible refine s_alloc (fun _ => ?_) | with_reducible refine wp_ifB (fun hc => ?_) (fun hc => ?_)
 all_goals (refine ⟨rfl, Ext.refl _, (_, ()), rfl, ?_⟩; show _ = decide _)
 all_goals simp only [ltI_iff, gtI_iff, geI_iff, leI_iff, eqI_iff, neI_iff, notB_iff, ltI_not, gtI_not, geI_not, leI_not, eqI_not, neI_not, notB_not] at *
 all_goals ((try unfold leI); simp only [decide_eq_decide, Bool.true_eq, Bool.false_eq, decide_eq_true_eq, decide_eq_false_iff_not]; try omega)
theorem quo64 {a b : Int} (h0 : 0 ≤ a) (hb : 0 < b) (h1 : a < 2 ^ 63) : quoI .i64 a b = a / b := by
 unfold quoI
 rw [Int.tdiv_eq_ediv_of_nonneg h0, IntKind.wrap_i64]
 have : 0 ≤ a / b := Int.ediv_nonneg h0 (by omega)
 have : a / b ≤ a := Int.ediv_le_self b h0
 omega
theorem rem64 {k : IntKind} {a b : Int} (h0 : 0 ≤ a) : remI k a b = a % b := by
 unfold remI; exact Int.tmod_eq_emod_of_nonneg h0
theorem byte_is (a : Int) : wrapI .u8 a = a % 256 := by unfold wrapI; exact IntKind.wrap_u8' a
def Frsh (n : Nat) (s : Sl) : Prop := ∀ a, s.base = some a → n ≤ a.block
theorem frsh_new {n m c : Nat} : Frsh n ⟨some ⟨n, 0, none⟩, m, c⟩ := fun a ha => by cases ha; exact Nat.le_refl _
theorem c_ref_eight {a : Int} (h0 : 0 ≤ a) (h1 : a ≤ 1114111) : Gives P (F_ref1_eight S a) [.one .sl] h fun (x : Sl × Unit) h' => Ints .u8 h' x.1 (eightB a) ∧ Frsh h.size x.1 := by
 unfold F_ref1_eight Gives
 have q1 := quo64 (a := a) (b := 64) h0 (by decide) (by omega)
 have q2 := quo64 (a := a) (b := 4096) h0 (by decide) (by omega)
 have q3 := quo64 (a := a) (b := 262144) h0 (by decide) (by omega)
 have r1 := rem64 (k := .i64) (a := a) (b := 64) h0
 have r2 := rem64 (k := .i64) (a := a / 64) (b := 64) (by omega)
 have r3 := rem64 (k := .i64) (a := a / 4096) (b := 64) (by omega)
 simp only [q1, q2, q3, r1, r2, r3, byte_is]
 repeat' first
  | with_reducible refine s_ret ?_ | with_reducible refine s_bind ?_ | with_reducible refine s_tag ?_ | with_reducible refine s_tagNo rfl ?_ | with_reducible refine s_castB ?_ | with_reducible refine s_castI ?_ | with_reducible refine s_castS ?_ | with_reducible refine s_castII ?_ | with_reducible refine s_cast0 ?_
  | with_reducible refine s_ifT ?_ | with_reducible refine s_ifF ?_ | with_reducible refine s_not ?_ | with_reducible refine s_alloc (fun _ => ?_) | with_reducible refine wp_ifB (fun hc => ?_) (fun hc => ?_)
 all_goals refine ⟨rfl, Ext.push .., (⟨_, _, _⟩, ()), rfl, ?_⟩
 all_goals simp only [ltI_iff, gtI_iff, geI_iff, leI_iff, eqI_iff, neI_iff, notB_iff, ltI_not, gtI_not, geI_not, leI_not, eqI_not, neI_not, notB_not] at *
 ·have : eightB a = [a % 256] := by unfold eightB; rw [if_pos (by omega)]; congr 1; omega
  rw [this]; exact ⟨rd_alloc rfl, frsh_new⟩
 ·have : eightB a = [addI .i64 192 (a / 64) % 256, addI .i64 128 (a % 64) % 256] := by
   rw [add64 (by omega) (by omega), add64 (by omega) (by omega)]
   unfold eightB; rw [if_neg (by omega), if_pos (by omega)]; congr 1; omega; congr 1; omega
  rw [this]; exact ⟨rd_alloc rfl, frsh_new⟩
 ·have : eightB a = [addI .i64 224 (a / 4096) % 256, addI .i64 128 (a / 64 % 64) % 256, addI .i64 128 (a % 64) % 256] := by
   rw [add64 (by omega) (by omega), add64 (by omega) (by omega), add64 (by omega) (by omega)]
   unfold eightB; rw [if_neg (by omega), if_neg (by omega), if_pos (by omega)]; congr 1; omega; congr 1; omega; congr 1; omega
  rw [this]; exact ⟨rd_alloc rfl, frsh_new⟩
 ·have : eightB a = [addI .i64 240 (a / 262144) % 256, addI .i64 128 (a / 4096 % 64) % 256, addI .i64 128 (a / 64 % 64) % 256, addI .i64 128 (a % 64) % 256] := by
   rw [add64 (by omega) (by omega), add64 (by omega) (by omega), add64 (by omega) (by omega), add64 (by omega) (by omega)]
   unfold eightB; rw [if_neg (by omega), if_neg (by omega), if_neg (by omega)]; congr 1; omega; congr 1; omega; congr 1; omega; congr 1; omega
  rw [this]; exact ⟨rd_alloc rfl, frsh_new⟩
theorem c_begins {b m : Sl} {l r : List Int} {at_ : Int} (hb : Lst .u8 h b l) (hm : Lst .u8 h m r) (h0 : 0 ≤ at_) (h1 : at_ ≤ l.length) (hr : r.length < 2 ^ 62) (hl : l.length < 2 ^ 62) :
  Gives P (F_ref1_begins S b at_ m) [.one .bool] h fun (x : Bool × Unit) _ => x.1 = begF l at_.toNat r := by
 have hlb := hb.len
 have hlm := hm.len
 unfold F_ref1_begins Gives
 simp only [natI_def, hlb, hlm]
 rw [add_ok (by omega) (by omega)]
 refine wp_ifB (fun hc => ?_) fun hc => ?_
 ·rw [gtI_iff] at hc
  refine s_ret ⟨rfl, Ext.refl _, (_, ()), rfl, ?_⟩
  show Bool.false = _
  unfold begF
  symm; rw [decide_eq_false_iff_not]
  intro e
  have := congrArg List.length e
  rw [List.length_take, List.length_drop] at this
  omega
 rw [gtI_not] at hc
 refine wp_while (fun (s : Int × Unit) h' => h' = h ∧ 0 ≤ s.1 ∧ s.1 ≤ r.length ∧ (l.drop at_.toNat).take s.1.toNat = r.take s.1.toNat) (fun s _ => r.length - s.1.toNat)
  (fun t vs h' => h' = h ∧ (t = 2 ∧ vs = [] ∧ begF l at_.toNat r = true ∨ t = 1 ∧ vs = [.bool Bool.false] ∧ begF l at_.toNat r = false)) ⟨rfl, by simp, by simp, by simp⟩ ?_ ?_
 ·rintro ⟨(i : Int), u⟩ h' ⟨rfl, i0, i1, ht⟩
  dsimp only at i0 i1 ht ⊢
  refine wp_ifB (fun hi => ?_) fun hi => ?_
  ·rw [ltI_iff] at hi
   rw [add_ok (a := at_) (by omega) (by omega)]
   have hd : l.getD (at_ + i).toNat 0 = (l.drop at_.toNat).getD i.toNat 0 := by
    rw [List.getD_eq_getElem?_getD, List.getD_eq_getElem?_getD, List.getElem?_drop, show (at_ + i).toNat = at_.toNat + i.toNat by omega]
   refine hlb ▸ s_at hb (by omega) (by omega) fun _ => hlm ▸ s_at hm i0 (by omega) fun _ => wp_ifB (fun hn => ?_) fun hn => ?_
   ·rw [neI_iff, hd] at hn
    refine s_ret ⟨fun h => absurd h (by decide), fun _ => ⟨rfl, .inr ⟨rfl, rfl, ?_⟩⟩⟩
    unfold begF
    rw [decide_eq_false_iff_not]
    intro e
    apply hn
    have := congrArg (fun x => List.getD x i.toNat 0) e
    simp only [List.getD_eq_getElem?_getD, List.getElem?_take] at this ⊢
    rw [if_pos (by omega)] at this
    exact this
   ·rw [neI_not, hd] at hn
    rw [add_ok (by omega) (by omega)]
    refine s_ret ⟨fun _ => ⟨(i + 1, ()), rfl, ⟨rfl, by dsimp only; omega, by dsimp only; omega, ?_⟩, by dsimp only; omega⟩, fun h => absurd rfl h⟩
    dsimp only
    rw [show (i + 1).toNat = i.toNat + 1 by omega]
    exact take_eq_succ (by rw [List.length_drop]; omega) (by omega) ht hn
  ·rw [ltI_not] at hi
   refine s_ret ⟨fun h => absurd h (by decide), fun _ => ⟨rfl, .inl ⟨rfl, rfl, ?_⟩⟩⟩
   unfold begF
   rw [decide_eq_true_eq]
   rw [show i.toNat = r.length by omega] at ht
   rw [ht, List.take_length]
 ·rintro t vs h' ⟨rfl, ⟨ht, hv, e⟩ | ⟨ht, hv, e⟩⟩
  ·exact s_exit ht () hv ⟨rfl, Ext.refl _, (_, ()), rfl, by show Bool.true = _; rw [e]⟩
  ·exact s_skip (by omega) (s_exit ht (Bool.false, ()) hv ⟨rfl, Ext.refl _, (_, ()), rfl, by show Bool.false = _; rw [e]⟩)
theorem c_known (enc : Int) : Gives P (F_ref1_known S enc) [.one .bool] h fun (x : Bool × Unit) _ => (x.1 = true ↔ known enc) := by
 unfold F_ref1_known
 refine bind_bool (known enc) ?_ fun b h' e hb => s_ret ⟨rfl, e, (b, ()), rfl, hb⟩
 refine wp_ifB (fun hc => ?_) fun hc => ?_
 ·rw [geI_iff] at hc
  exact s_ret ⟨rfl, Ext.refl _, _, rfl, by rw [leI_iff]; unfold known; omega⟩
 ·rw [geI_not] at hc
  exact s_ret ⟨rfl, Ext.refl _, _, rfl, by unfold known; exact ⟨(fun h => by cases h), (fun h => by omega)⟩⟩
theorem mtP_small {a : Int} {l : List Int} (hb : isBytes l) (h0 : -240 ≤ a) (h1 : a ≤ 255) : ∀ i : Nat, i ≤ 3 → -70000000 ≤ mtP a l i ∧ mtP a l i ≤ 70000000 := by
 have b1 := hb.at 1
 have b2 := hb.at 2
 have b3 := hb.at 3
 intro i hi
 have : i = 0 ∨ i = 1 ∨ i = 2 ∨ i = 3 := by omega
 rcases this with rfl | rfl | rfl | rfl <;> simp only [mtP, Nat.reduceAdd] <;> omega
theorem leadF_at (m : Nat) (h4 : m ≤ 4) : [0, 0, 192, 224, 240].getD m (0 : Int) = leadF m := by
 have : m = 0 ∨ m = 1 ∨ m = 2 ∨ m = 3 ∨ m = 4 := by omega
 rcases this with rfl | rfl | rfl | rfl | rfl <;> rfl
theorem leadF_bound (m : Nat) : 0 ≤ leadF m ∧ leadF m ≤ 240 := by unfold leadF; (repeat' split) <;> omega
theorem c_meant {b : Sl} {l : List Int} {a : Nat} {m : Int} (hb : Lst .u8 h b l) (h1 : 1 ≤ m) (h4 : m ≤ 4) (hm : a + m ≤ l.length) :
  Gives P (F_ref1_meant S b (a : Int) m) [.one (.int .i64)] h fun (x : Int × Unit) _ => x.1 = meantF m.toNat (l.drop a) := by
 have hlb := hb.len
 have hbd := hb.bound
 have hby : isBytes l := hb.wf
 have b0 := hby.at a
 have hlf := leadF_bound m.toNat
 unfold F_ref1_meant
 refine s_allocL (k := .i64) [0, 0, 0, 0, 0] (by intro x hx; simp at hx; subst hx; exact fits_zero _) (by simp) fun h1' e1 o1 => ?_
 refine s_storeL (l := [0, 0, 0, 0, 0]) [0, 0, 192, 224, 240] o1 rfl (by intro x hx; rw [fits_i64]; simp at hx; omega) fun h2 o2 u2 z2 => ?_
 have e2 : Ext h h2 := Keep.trans e1 (Upd.ext_of u2 (by intro x hx; cases hx; exact Nat.le_refl _) e1.size)
 refine s_at (hb.ext e2) (by omega) (by omega) fun _ => s_grd (inB_ok (by omega) (by omega)) ?_
 have hload : ∀ {K : Int → Prog} {Q}, wp P (K (leadF m.toNat)) h2 Q → wp P (.load (.one (.int .i64)) (shiftTo (Option.some ⟨h.size, 0, none⟩) (mulN (toN m) 1)) K) h2 Q := by
  intro K Q hk
  rw [mulN_def, toN_def, Nat.mul_one]
  rw [← leadF_at m.toNat (by omega)] at hk
  exact s_loadL o2.lst (by simp; omega) hk
 refine hload ?_
 rw [Int.toNat_natCast, wrap_ok (by omega) (by omega), sub_ok (by omega) (by omega)]
 have hd0 : l.getD a 0 = (l.drop a).getD 0 0 := by rw [getD_drop, Nat.add_zero]
 have hdb := (hby.drop a).at 0
 rw [hd0]
 refine wp_while (fun (s : Int × Int × Unit) h' => Ext h h' ∧ 1 ≤ s.2.1 ∧ s.2.1 ≤ m ∧ s.1 = mtP ((l.drop a).getD 0 0 - leadF m.toNat) (l.drop a) (s.2.1 - 1).toNat) (fun s _ => (m - s.2.1).toNat)
  (fun t vs h' => t = 2 ∧ Ext h h' ∧ vs = [.int .i64 (meantF m.toNat (l.drop a))]) ⟨e2, by simp, by dsimp only; omega, rfl⟩ ?_ ?_
 ·rintro ⟨(x : Int), (i : Int), u⟩ h' ⟨e, i0, i1, ha⟩
  dsimp only at i0 i1 ha ⊢
  refine wp_ifB (fun hi => ?_) fun hi => ?_
  ·rw [ltI_iff] at hi
   have hs := mtP_small (hby.drop a) (a := (l.drop a).getD 0 0 - leadF m.toNat) (by omega) (by omega) (i - 1).toNat (by omega)
   rw [← ha] at hs
   rw [add_ok (a := (a : Int)) (by omega) (by omega)]
   have hbi := hby.at ((a : Int) + i).toNat
   refine s_at (hb.ext e) (by omega) (by omega) fun _ => ?_
   rw [wrap_ok (by omega) (by omega), mul_ok (by omega) (by omega), add_ok (a := x * 64) (by omega) (by omega), sub_ok (by omega) (by omega), add_ok (by omega) (by omega)]
   refine s_ret ⟨fun _ => ⟨(x * 64 + l.getD ((a : Int) + i).toNat 0 - 128, i + 1, ()), rfl, ⟨e, by dsimp only; omega, by dsimp only; omega, ?_⟩, by dsimp only; omega⟩, fun h => absurd rfl h⟩
   dsimp only
   rw [show (i + 1 - 1).toNat = (i - 1).toNat + 1 by omega]
   show _ = mtP _ _ (i - 1).toNat * 64 + (l.drop a).getD ((i - 1).toNat + 1) 0 - 128
   rw [getD_drop l a ((i - 1).toNat + 1), show a + ((i - 1).toNat + 1) = ((a : Int) + i).toNat by omega, ha]
  ·rw [ltI_not] at hi
   refine s_ret ⟨fun h => absurd h (by decide), fun _ => ⟨rfl, e, ?_⟩⟩
   unfold meantF
   rw [ha, show (i - 1).toNat = m.toNat - 1 by omega]
 ·rintro t vs h' ⟨ht, e, hv⟩
  exact s_exit ht (_, ()) hv (s_ret ⟨rfl, e, (_, ()), rfl, rfl⟩)
theorem begF_drop (l m : List Int) (a : Nat) : begF l a m = begF (l.drop a) 0 m := by unfold begF; rw [List.drop_zero]
theorem c_eightAt {b : Sl} {l : List Int} {a : Nat} (hb : Lst .u8 h b l) (ha : a < l.length) (hl : l.length < 2 ^ 62) :
  Gives P (F_ref1_eightAt S b (a : Int)) duo h fun (x : Int × Int × Unit) _ => (x.1, x.2.1) = first8 (l.drop a) := by
 have hlb := hb.len
 have hby : isBytes l := hb.wf
 have hd := hby.drop a
 have b0 := hby.at a
 unfold F_ref1_eightAt
 refine wp_while (fun (s : Int × Unit) h' => Ext h h' ∧ 1 ≤ s.1 ∧ s.1 ≤ 5 ∧ s.1 ≤ l.length - a + 1 ∧ ∀ m : Nat, 1 ≤ m → (m : Int) < s.1 → rowF (l.drop a) ≠ ((m : Int), (m : Int))) (fun s _ => (5 - s.1).toNat)
  (fun t vs h' => Ext h h' ∧ (t = 2 ∧ vs = [] ∧ first8 (l.drop a) = (-1 - l.getD a 0, 1) ∨ t = 1 ∧ vs = [.int .i64 (first8 (l.drop a)).1, .int .i64 (first8 (l.drop a)).2])) ⟨Ext.refl _, by simp, by simp, by dsimp only; omega, fun m h1 h2 => by dsimp only at h2; omega⟩ ?_ ?_
 ·rintro ⟨(m : Int), u⟩ h' ⟨e, m0, m1, m2, hno⟩
  dsimp only at m0 m1 m2 hno ⊢
  refine bind_bool (m ≤ 4 ∧ a + m ≤ l.length) ?_ fun c h2 e2 hc => wp_ifB (fun h3 => ?_) fun h3 => ?_
  ·refine wp_ifB (fun hc => ?_) fun hc => ?_
   ·rw [leI_iff] at hc
    refine s_ret ⟨rfl, Ext.refl _, _, rfl, ?_⟩
    rw [add_ok (by omega) (by omega), leI_iff, natI_def, hlb]; omega
   ·rw [leI_not] at hc
    exact s_ret ⟨rfl, Ext.refl _, _, rfl, ⟨(fun h => by cases h), fun h => by omega⟩⟩
  ·obtain ⟨q1, q2⟩ := hc.1 h3
   obtain ⟨m, rfl⟩ := Int.eq_ofNat_of_zero_le (show 0 ≤ m by omega)
   have hci := cand_iff hd (m := m) (by omega) (by omega) (by rw [List.length_drop]; omega)
   have e02 := e.trans e2
   refine wp_bind (fun t vs h' => Ext h h' ∧ (t = 0 ∧ vs = [] ∧ ¬ cand m (l.drop a) ∨ t = 1 ∧ cand m (l.drop a) ∧ vs = [.int .i64 (meantF m (l.drop a)), .int .i64 m])) ?_ ?_
   ·refine wp_call (c_meant (hb.ext e02) (by omega) (by omega) (by omega)) fun ⟨(x : Int), _⟩ h4 e4 hx => ?_
    have hx : x = meantF (m : Int).toNat (l.drop a) := hx
    rw [Int.toNat_natCast] at hx
    subst hx
    dsimp only
    refine wp_call (c_ref_Scalar _) fun s h5 e5 hs => ?_
    have hs : s.1 = decide (scalarF (meantF m (l.drop a))) := hs
    refine wp_ifB (fun hn => ?_) fun hn => ?_
    ·rw [notB_iff, hs] at hn
     exact s_ret ⟨(e02.trans e4).trans e5, .inl ⟨rfl, rfl, fun hcd => by have := hcd.1; simp [this] at hn⟩⟩
    rw [notB_not, hs] at hn
    have hsc : scalarF (meantF m (l.drop a)) := of_decide_eq_true hn
    have hsc' : 0 ≤ meantF m (l.drop a) ∧ meantF m (l.drop a) ≤ 1114111 := by unfold scalarF at hsc; omega
    refine wp_call (c_ref_eight hsc'.1 hsc'.2) fun y h6 e6 ⟨hy, hyf⟩ => ?_
    have e06 := ((e02.trans e4).trans e5).trans e6
    have hyl : y.1.len = (eightB (meantF m (l.drop a))).length := hy.len
    have hle : (eightB (meantF m (l.drop a))).length ≤ 4 := by rw [len_eight]; (repeat' split) <;> omega
    have hyL : Lst .u8 h6 ⟨y.1.base, y.1.len, y.1.len⟩ (eightB (meantF m (l.drop a))) := ⟨⟨hy.1, hy.2⟩, Nat.le_refl _, by dsimp only; omega, fun z hz => by
     rw [fits_u8]
     unfold eightB at hz
     generalize meantF m (l.drop a) = w at *
     (repeat' split at hz) <;> simp at hz <;> omega⟩
    have hbeg : Gives P (F_ref1_begins S b (a : Int) y.1) [.one .bool] h6 fun (x : Bool × Unit) _ => x.1 = begF (l.drop a) 0 (eightB (meantF m (l.drop a))) := by
     rw [← begF_drop]
     have := c_begins (P := P) (S := S) (hb.ext e06) hyL (at_ := (a : Int)) (by omega) (by omega) (by omega) hl
     exact this
    refine wp_call hbeg fun z h7 e7 hz => ?_
    have hz : z.1 = begF (l.drop a) 0 (eightB (meantF m (l.drop a))) := hz
    refine bind_bool (cand m (l.drop a)) ?_ fun c h8 e8 hc8 => wp_ifB (fun h9 => ?_) fun h9 => ?_
    ·refine wp_ifB (fun hq => ?_) fun hq => ?_
     ·rw [eqI_iff, natI_def, hyl] at hq
      refine s_ret ⟨rfl, Ext.refl _, _, rfl, ?_⟩
      rw [hz]
      exact ⟨fun h => ⟨hsc, by omega, h⟩, fun h => h.2.2⟩
     ·rw [eqI_not, natI_def, hyl] at hq
      exact s_ret ⟨rfl, Ext.refl _, _, rfl, ⟨(fun h => by cases h), fun h => by have := h.2.1; omega⟩⟩
    ·exact s_ret ⟨(e06.trans e7).trans e8, .inr ⟨rfl, hc8.1 h9, rfl⟩⟩
    ·exact s_ret ⟨(e06.trans e7).trans e8, .inl ⟨rfl, rfl, fun hcd => by rw [hc8.2 hcd] at h9; cases h9⟩⟩
   ·rintro t vs h4 ⟨e4, ⟨ht, hv, hn⟩ | ⟨ht, hcd, hv⟩⟩
    ·refine s_skip (by omega) (s_exit ht () hv ?_)
     rw [add_ok (by omega) (by omega)]
     refine s_ret ⟨fun _ => ⟨((m : Int) + 1, ()), rfl, ⟨e4, by dsimp only; omega, by dsimp only; omega, by dsimp only; omega, fun j j1 j2 => ?_⟩, by dsimp only; omega⟩, fun h => absurd rfl h⟩
     dsimp only at j2
     by_cases hj : j = m
     ·subst hj; exact fun hr => hn (hci.2 hr)
     ·exact hno j j1 (by omega)
    ·refine s_exit ht (meantF m (l.drop a), (m : Int), ()) hv (s_ret ⟨fun h => absurd h (by decide), fun _ => ⟨e4, .inr ⟨rfl, ?_⟩⟩⟩)
     rw [meant_val hd (m := m) (by omega) (by omega) (hci.1 hcd)]
  ·refine s_ret ⟨fun h => absurd h (by decide), fun _ => ⟨e.trans e2, .inl ⟨rfl, rfl, ?_⟩⟩⟩
   have hn : ¬ (m ≤ 4 ∧ a + m ≤ l.length) := fun h => by rw [hc.2 h] at h3; cases h3
   rw [raw_val hd (by rw [List.length_drop]; omega) fun j j1 j4 jl => hno j j1 (by rw [List.length_drop] at jl; omega), getD_drop, Nat.add_zero]
 ·rintro t vs h' ⟨e, ⟨ht, hv, hf⟩ | ⟨ht, hv⟩⟩
  ·refine s_exit ht () hv (s_at (hb.ext e) (by omega) (by omega) fun _ => ?_)
   rw [Int.toNat_natCast, wrap_ok (by omega) (by omega), sub_ok (by omega) (by omega)]
   exact s_ret ⟨rfl, e, (-1 - l.getD a 0, 1, ()), rfl, hf.symm⟩
  ·exact s_skip (by omega) (s_exit ht (_, _, ()) hv (s_ret ⟨rfl, e, (_, _, ()), rfl, rfl⟩))
theorem c_unitAt {enc : Int} {b : Sl} {l : List Int} {a : Nat} (hb : Lst .u8 h b l) (hl : l.length < 2 ^ 62) (ha : a ≤ l.length + 4) :
  Gives P (F_ref1_unitAt S enc b (a : Int)) [.one (.int .i64)] h fun (x : Int × Unit) _ => x.1 = if a + 2 ≤ l.length then unitF enc l a else -1 := by
 have hlb := hb.len
 have hby : isBytes l := hb.wf
 have b0 := hby.at a
 have b1 := hby.at (a + 1)
 unfold F_ref1_unitAt
 simp only [natI_def, hlb]
 rw [add_ok (by omega) (by omega)]
 refine wp_ifB (fun hc => ?_) fun hc => ?_
 ·rw [gtI_iff] at hc
  rw [if_neg (by omega)]
  exact s_ret ⟨rfl, Ext.refl _, (-1, ()), rfl, rfl⟩
 rw [gtI_not] at hc
 rw [if_pos (by omega), add_ok (by omega) (by omega)]
 unfold unitF
 refine wp_ifB (fun h2 => ?_) fun h2 => ?_
 ·rw [eqI_iff] at h2
  rw [if_pos h2]
  refine hlb ▸ s_at hb (by omega) (by omega) fun _ => s_at hb (by omega) (by omega) fun _ => ?_
  rw [Int.toNat_natCast, show ((a : Int) + 1).toNat = a + 1 by omega, wrap_ok (by omega) (by omega), wrap_ok (by omega) (by omega), mul_ok (by omega) (by omega), add_ok (by omega) (by omega)]
  exact s_ret ⟨rfl, Ext.refl _, (_, ()), rfl, rfl⟩
 ·rw [eqI_not] at h2
  rw [if_neg h2]
  refine hlb ▸ s_at hb (by omega) (by omega) fun _ => s_at hb (by omega) (by omega) fun _ => ?_
  rw [Int.toNat_natCast, show ((a : Int) + 1).toNat = a + 1 by omega, wrap_ok (by omega) (by omega), wrap_ok (by omega) (by omega), mul_ok (by omega) (by omega), add_ok (by omega) (by omega)]
  exact s_ret ⟨rfl, Ext.refl _, (_, ()), rfl, rfl⟩
theorem c_ref_At {enc : Int} {b : Sl} {l : List Int} {a : Nat} (hb : Lst .u8 h b l) (ha : a < l.length) (hl : l.length < 2 ^ 62) :
  Gives P (F_ref1_At S enc b (a : Int)) duo h fun (x : Int × Int × Unit) _ => (x.1, x.2.1) = firstF enc (l.drop a) := by
 have hlb := hb.len
 have hby : isBytes l := hb.wf
 have b0 := hby.at a
 have hd0 : (l.drop a).getD 0 0 = l.getD a 0 := by rw [getD_drop, Nat.add_zero]
 have u0 := unit_bound (enc := enc) hby a
 have u2 := unit_bound (enc := enc) hby (a + 2)
 have hu0 : unitF enc (l.drop a) 0 = unitF enc l a := unitF_drop enc l a
 have hu2 : unitF enc (l.drop a) 2 = unitF enc l (a + 2) := by unfold unitF; rw [getD_drop, getD_drop]
 unfold F_ref1_At firstF
 refine wp_ifB (fun hc => ?_) fun hc => ?_
 ·rw [eqI_iff] at hc
  rw [if_pos hc]
  exact wp_call (c_eightAt hb ha hl) fun x h2 e2 hx => s_ret ⟨rfl, e2, x, rfl, hx⟩
 rw [eqI_not] at hc
 rw [if_neg hc]
 refine wp_ifB (fun hc => ?_) fun hc => ?_
 ·rw [eqI_iff] at hc
  rw [if_pos hc]
  refine s_at hb (by omega) (by omega) fun _ => ?_
  rw [Int.toNat_natCast, wrap_ok (by omega) (by omega)]
  exact s_ret ⟨rfl, Ext.refl _, (l.getD a 0, 1, ()), rfl, by dsimp only; rw [hd0]⟩
 rw [eqI_not] at hc
 rw [if_neg hc]
 unfold first16
 rw [List.length_drop, hd0, hu0, hu2]
 refine wp_call (c_unitAt hb hl (by omega)) fun ⟨(u : Int), _⟩ h1 e1 hu => ?_
 have hu : u = if a + 2 ≤ l.length then unitF enc l a else -1 := hu
 dsimp only
 refine wp_ifB (fun hn => ?_) fun hn => ?_
 ·rw [ltI_iff] at hn
  have h1 : ¬ a + 2 ≤ l.length := fun h => by rw [if_pos h] at hu; omega
  rw [if_pos (by omega)]
  refine s_at (hb.ext e1) (by omega) (by omega) fun _ => ?_
  rw [Int.toNat_natCast, wrap_ok (by omega) (by omega), sub_ok (by omega) (by omega)]
  exact s_ret ⟨rfl, e1, (_, 1, ()), rfl, rfl⟩
 rw [ltI_not] at hn
 have h1' : a + 2 ≤ l.length := by
  by_cases h : a + 2 ≤ l.length
  ·exact h
  ·rw [if_neg h] at hu; omega
 rw [if_pos h1'] at hu
 subst hu
 rw [if_neg (by omega), add_ok (by omega) (by omega)]
 refine wp_call (c_unitAt (a := a + 2) (hb.ext e1) hl (by omega)) fun ⟨(v : Int), _⟩ h2 e2 hv => ?_
 have hv : v = if a + 2 + 2 ≤ l.length then unitF enc l (a + 2) else -1 := hv
 dsimp only
 refine bind_bool (55296 ≤ unitF enc l a ∧ unitF enc l a < 56320 ∧ 4 ≤ l.length - a ∧ 56320 ≤ unitF enc l (a + 2) ∧ unitF enc l (a + 2) < 57344) ?_ fun c h3 e3 hc3 => wp_ifB (fun h4 => ?_) fun h4 => ?_
 ·have hno : ∀ {h' : Heap} {φ : Prop}, ¬ φ → wp P (.ret 0 [(Value.bool Bool.false)]) h' fun t vs h'' => t = 0 ∧ Ext h' h'' ∧ ∃ b, vs = [.bool b] ∧ (b = true ↔ φ) := fun hn => s_ret ⟨rfl, Ext.refl _, _, rfl, ⟨(fun h => by cases h), fun h => absurd h hn⟩⟩
  refine wp_ifB (fun h1 => ?_) fun h1 => ?_
  ·rw [geI_iff] at h1
   refine wp_ifB (fun h2 => ?_) fun h2 => ?_
   ·rw [ltI_iff] at h2
    refine wp_ifB (fun h3 => ?_) fun h3 => ?_
    ·rw [geI_iff] at h3
     have hle : a + 2 + 2 ≤ l.length := by
      by_cases h : a + 2 + 2 ≤ l.length
      ·exact h
      ·rw [if_neg h] at hv; omega
     rw [if_pos hle] at hv
     refine s_ret ⟨rfl, Ext.refl _, _, rfl, ?_⟩
     rw [ltI_iff]; omega
    ·rw [geI_not] at h3
     refine hno fun hh => ?_
     rw [if_pos (by omega)] at hv; omega
   ·rw [ltI_not] at h2
    exact hno fun hh => by omega
  ·rw [geI_not] at h1
   exact hno fun hh => by omega
 ·have hp := hc3.1 h4
  rw [if_pos hp]
  rw [if_pos (by omega)] at hv
  rw [hv, sub_ok (a := unitF enc l a) (by omega) (by omega), mul_ok (by omega) (by omega), add_ok (a := 65536) (by omega) (by omega), add_ok (by omega) (by omega), sub_ok (by omega) (by omega)]
  refine s_ret ⟨rfl, (e1.trans e2).trans e3, (_, 4, ()), rfl, ?_⟩
  dsimp only
  congr 1; omega
 ·rw [if_neg fun hh => by rw [hc3.2 hh] at h4; cases h4]
  exact s_ret ⟨rfl, (e1.trans e2).trans e3, (_, 2, ()), rfl, rfl⟩
end Go.Sw.Codec
