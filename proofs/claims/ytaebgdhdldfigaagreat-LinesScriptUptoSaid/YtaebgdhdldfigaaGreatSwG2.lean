/-
  The laws of chapter 6: lists, places, the walk.
-/
import Derived.Test.YtaebgdhdldfigaaGreatSwG1
import Derived.Test.YtaebgdhdldfigaaGreatSwCE
set_option linter.unusedVariables false
set_option linter.unusedSimpArgs false
set_option maxRecDepth 100000
namespace Go.Sw.Piece
open Go.Sw.Any Go.Sw.Codec
open Go.Sw.Tree (iv s_putAll s_newP s_getP s_getT s_putP eqI_self Placed cell_own wp_whileG minI_eq)
variable {P : Program} {S : Ids} {h : Heap} {Q : Nat → List Value → Heap → Prop} {s : Sl} {A : List Int}
theorem s_copy {h0 : Heap} {i0 tg : Nat} {a r : Sl} {U : List Int} {K : Nat → List Value → Prog} (ha : Lst .i64 h0 a A) (e0 : Ext h0 h) (ho : OwnL h0.size .i64 h r U) (hi : i0 ≤ A.length) (hl : U.length + A.length ≤ 3000000000) (ht : tg ≠ 0)
  (hk : ∀ r' h', Ext h0 h' → OwnL h0.size .i64 h' r' (U ++ A.drop i0) → wp P (K tg [slv r']) h' Q) :
  wp P (.bind (.loop [.one .sl, .one (.int .i64)] (r, ((i0 : Int), ())) fun (r16 : Sl × Int × Unit) =>
   ifB (ltI r16.2.1 (natI a.len))
    (grd (andB (someB a.base) (inB r16.2.1 a.len)) <| .load (.one (.int .i64)) (shiftTo a.base (mulN (toN r16.2.1) 1)) fun (n17 : Int) =>
     .alloc [.int .i64 n17] fun (a18 : Addr) => .append 1 8 [.int .i64 0] r16.1 ⟨some a18, 1, 1⟩ fun (l19 : Sl) => .ret 0 [slv l19, .int .i64 (addI .i64 r16.2.1 1)]) <|
   .ret tg [slv r16.1]) K) h Q := by
 have la := ha.len
 refine wp_while (fun (r' : Sl × Int × Unit) h' => ∃ i : Nat, i0 ≤ i ∧ i ≤ A.length ∧ r'.2.1 = (i : Int) ∧ Ext h0 h' ∧ OwnL h0.size .i64 h' r'.1 (U ++ (A.drop i0).take (i - i0))) (fun r' _ => (A.length - r'.2.1).toNat)
  (fun tag vs h' => tag = tg ∧ ∃ r' : Sl, vs = [slv r'] ∧ Ext h0 h' ∧ OwnL h0.size .i64 h' r' (U ++ A.drop i0)) ⟨i0, Nat.le_refl _, hi, rfl, e0, by rw [Nat.sub_self]; simpa using ho⟩ ?_ ?_
 ·rintro ⟨(r' : Sl), (i' : Int), u⟩ h1 ⟨i, hi0, hiA, hi', k1, o1⟩
  dsimp only at hi' o1 ⊢
  subst hi'
  have q1 := k1.size
  refine wp_ifB (fun hc => ?_) fun hc => ?_
  ·rw [ltI_iff, natI_def, la] at hc
   refine s_at (ha.ext k1) (by omega) (by omega) fun hfx => ?_
   rw [Int.toNat_natCast] at hfx ⊢
   have hlen : (U ++ (A.drop i0).take (i - i0)).length ≤ 3000000000 := by rw [List.length_append, List.length_take, List.length_drop]; omega
   refine s_push o1 (by omega) hfx (by omega) (by omega) fun r2 h2 k2 o2 _ _ => ?_
   rw [add_ok (by omega) (by omega)]
   refine s_ret ⟨fun _ => ⟨(r2, (i : Int) + 1, ()), rfl, ⟨i + 1, by omega, by omega, by dsimp only; omega, Keep.trans k1 k2, ?_⟩, by dsimp only; omega⟩, fun hh => absurd rfl hh⟩
   have : (A.drop i0).take (i + 1 - i0) = (A.drop i0).take (i - i0) ++ [A.getD i 0] := by
    rw [show i + 1 - i0 = i - i0 + 1 by omega, List.take_add_one, List.getElem?_drop, show i0 + (i - i0) = i by omega, List.getD_eq_getElem?_getD, List.getElem?_eq_getElem (by omega)]; rfl
   rw [this, ← List.append_assoc]; exact o2
  ·rw [ltI_not, natI_def, la] at hc
   have : i = A.length := by omega
   subst this
   rw [List.take_of_length_le (by rw [List.length_drop]; omega)] at o1
   exact s_ret ⟨fun hh => absurd hh ht, fun _ => ⟨rfl, r', rfl, k1, o1⟩⟩
 ·rintro tag vs h1 ⟨rfl, r', rfl, k1, o1⟩
  exact hk r' h1 k1 o1
theorem c_copied (ha : Lst .i64 h s A) (hl : A.length ≤ 2000000000) : Gives P (F_law6_copied S s) [.one .sl] h fun (y : Sl × Unit) h' => OwnL h.size .i64 h' y.1 A := by
 unfold F_law6_copied Gives
 refine s_copy (U := []) (i0 := 0) ha (Ext.refl _) (OwnL.nil _ _ _) (Nat.zero_le _) (by simp only [List.length_nil]; omega) (by decide) fun r h' k o => s_tag (wp_cast (tys := [.one .sl]) (r, ()) rfl (s_ret ⟨rfl, k, (r, ()), rfl, by simpa using o⟩))
def withinF (x n : Int) : Int := (if x < 0 then -(x + 1) else x) % (n + 1)
theorem within_le {x n : Int} (hn : 0 ≤ n) : 0 ≤ withinF x n ∧ withinF x n ≤ n := by
 unfold withinF
 exact ⟨Int.emod_nonneg _ (by omega), by have := Int.emod_lt_of_pos (if x < 0 then -(x + 1) else x) (show 0 < n + 1 by omega); omega⟩
theorem c_within {x n : Int} (hx : fitsI .i64 x) (h0 : 0 ≤ n) (hn : n ≤ 4000000000) : Gives P (F_law6_within S x n) [.one (.int .i64)] h fun (y : Int × Unit) _ => y.1 = withinF x n := by
 unfold F_law6_within Gives
 rw [fits_i64] at hx
 rw [add_ok (a := n) (by omega) (by omega)]
 refine bind_val (tys := [.one (.int .i64)]) (fun (y : Int × Unit) _ => y.1 = if x < 0 then -(x + 1) else x) ?_ fun ⟨(y : Int), _⟩ h1 e1 hy => ?_
 ·refine wp_ifB (fun hc => s_ret ⟨rfl, Ext.refl _, (_, ()), rfl, ?_⟩) fun hc => s_ret ⟨rfl, Ext.refl _, (_, ()), rfl, ?_⟩
  ·rw [ltI_iff] at hc
   rw [if_pos hc, add_ok (by omega) (by omega)]
   show subI .i64 0 (x + 1) = _
   rw [sub_ok (by omega) (by omega)]; omega
  ·rw [ltI_not] at hc
   rw [if_neg (by omega)]
 ·have hy : y = if x < 0 then -(x + 1) else x := hy
  have y0 : 0 ≤ y := by rw [hy]; split <;> omega
  refine wp_grd (notB_iff.2 (eqI_not.2 (by omega))) (s_ret ⟨rfl, e1, (_, ()), rfl, ?_⟩)
  show remI .i64 y (n + 1) = _
  rw [rem_ok y0, hy]; rfl
def pl1 (x : Int) : Int := if x ≠ 10 ∧ x ≠ 13 then 32 + x % 64 else x
def plainF (l : List Int) : List Int := (l.take 16).map pl1
theorem plain_mem {l : List Int} : ∀ x, x ∈ plainF l → x = 10 ∨ x = 13 ∨ (32 ≤ x ∧ x ≤ 95) := by
 intro x hx
 obtain ⟨y, _, rfl⟩ := List.mem_map.1 hx
 unfold pl1
 split <;> omega
theorem plain_len (l : List Int) : (plainF l).length ≤ 16 := by unfold plainF; rw [List.length_map, List.length_take]; omega
theorem plain_fits {l : List Int} {enc : Int} (he : known enc) : fitsE enc (plainF l) := by
 intro x hx
 have := plain_mem x hx
 rw [fits_iff]
 unfold known at he
 omega
theorem c_plain {l : List Int} (hl : Lst .i64 h s l) : Gives P (F_law6_plain S s) [.one .sl] h fun (y : Sl × Unit) h' => OwnL h.size .i64 h' y.1 (plainF l) := by
 unfold F_law6_plain Gives
 have ll := hl.len
 have hpl := plain_len l
 refine wp_while (fun (r' : Sl × Int × Unit) h' => ∃ i : Nat, i ≤ 16 ∧ i ≤ l.length ∧ r'.2.1 = (i : Int) ∧ Ext h h' ∧ OwnL h.size .i64 h' r'.1 ((l.take i).map pl1)) (fun r' _ => (16 - r'.2.1).toNat)
  (fun tag vs h' => tag = 2 ∧ ∃ r' : Sl, vs = [slv r'] ∧ Ext h h' ∧ OwnL h.size .i64 h' r' (plainF l)) ⟨0, Nat.zero_le _, Nat.zero_le _, rfl, Ext.refl _, OwnL.nil _ _ _⟩ ?_ ?_
 ·rintro ⟨(r' : Sl), (i' : Int), u⟩ h1 ⟨i, hi16, hil, hi', e1, o1⟩
  dsimp only at hi' o1 ⊢
  subst hi'
  have q1 := e1.size
  refine bind_bool (i < l.length ∧ i < 16) ?_ fun bb h2 e2 hb => wp_ifB (fun hc => ?_) fun hc => ?_
  ·refine wp_ifB (fun hc => s_ret ⟨rfl, Ext.refl _, _, rfl, ?_⟩) fun hc => s_ret ⟨rfl, Ext.refl _, false, rfl, Iff.intro (fun h => by cases h) fun h => ?_⟩
   ·rw [ltI_iff, natI_def, ll] at hc; rw [ltI_iff]; omega
   ·rw [ltI_not, natI_def, ll] at hc; omega
  ·have hc := hb.1 hc
   have e12 := e1.trans e2
   have q2 := e12.size
   refine s_at (hl.ext e12) (by omega) (by omega) fun hfx => ?_
   rw [Int.toNat_natCast] at hfx ⊢
   refine bind_val (tys := [.one (.int .i64)]) (fun (y : Int × Unit) _ => y.1 = pl1 (l.getD i 0)) ?_ fun ⟨(y : Int), _⟩ h3 e3 hy => ?_
   ·refine bind_bool (l.getD i 0 ≠ 10 ∧ l.getD i 0 ≠ 13) ?_ fun b3 h3 e3 hb3 => wp_ifB (fun hd => s_ret ⟨rfl, e3, (_, ()), rfl, ?_⟩) fun hd => s_ret ⟨rfl, e3, (_, ()), rfl, ?_⟩
    ·refine wp_ifB (fun hc => s_ret ⟨rfl, Ext.refl _, _, rfl, ?_⟩) fun hc => s_ret ⟨rfl, Ext.refl _, false, rfl, Iff.intro (fun h => by cases h) fun h => ?_⟩
     ·rw [neI_iff] at hc; rw [neI_iff]; exact ⟨fun h => ⟨hc, h⟩, fun h => h.2⟩
     ·rw [neI_not] at hc; exact absurd hc h.1
    ·unfold pl1
     rw [if_pos (hb3.1 hd)]
     show addI .i64 32 (andI .i64 (l.getD i 0) 63) = _
     have hm : andI .i64 (l.getD i 0) 63 = l.getD i 0 % 64 := and_mask64 (l.getD i 0) 6 (by decide)
     rw [hm, add_ok (by omega) (by omega)]
    ·unfold pl1
     rw [if_neg fun h => by have hd : b3 = false := hd; rw [hb3.2 h] at hd; cases hd]; rfl
   ·have hy : y = pl1 (l.getD i 0) := hy
    have hfy : fitsI .i64 y := by
     rw [hy]; unfold pl1
     split
     ·rw [fits_i64]; omega
     ·exact hfx
    have e13 := e12.trans e3
    refine s_push ((o1.ext e2).ext e3) e13.size hfy (by rw [List.length_map, List.length_take]; omega) (by rw [List.length_map, List.length_take]; omega) fun r2 h4 k4 o4 _ _ => ?_
    rw [add_ok (by omega) (by omega)]
    refine s_ret ⟨fun _ => ⟨(r2, (i : Int) + 1, ()), rfl, ⟨i + 1, by omega, by omega, by dsimp only; omega, Keep.trans e13 k4, ?_⟩, by dsimp only; omega⟩, fun hh => absurd rfl hh⟩
    have : (l.take (i + 1)).map pl1 = (l.take i).map pl1 ++ [y] := by
     rw [hy, List.take_add_one, List.map_append, List.getD_eq_getElem?_getD, List.getElem?_eq_getElem (by omega)]; rfl
    rw [this]; exact o4
  ·have hc : ¬ (i < l.length ∧ i < 16) := fun h => by have hc : bb = false := hc; rw [hb.2 h] at hc; cases hc
   have : (l.take i).map pl1 = plainF l := by
    unfold plainF
    by_cases h16 : i = 16
    ·rw [h16]
    ·rw [List.take_of_length_le (by omega), List.take_of_length_le (by omega)]
   rw [this] at o1
   exact s_ret ⟨fun hh => absurd hh (by decide), fun _ => ⟨rfl, r', rfl, e1.trans e2, o1.ext e2⟩⟩
 ·rintro tag vs h1 ⟨rfl, r', rfl, e1, o1⟩
  exact s_tag (wp_cast (tys := [.one .sl]) (r', ()) rfl (s_ret ⟨rfl, e1, (r', ()), rfl, o1⟩))
theorem c_spliced {f t : Nat} {p : Sl} {put : List Int} (ha : Lst .i64 h s A) (hp : Lst .i64 h p put) (hl : A.length ≤ 1000000000) (hpl : put.length ≤ 1000) (hf : f ≤ A.length) (ht : t ≤ A.length) :
  Gives P (F_law6_spliced S s f t p) [.one .sl] h fun (y : Sl × Unit) h' => OwnL h.size .i64 h' y.1 (A.take f ++ put ++ A.drop t) := by
 unfold F_law6_spliced Gives
 have la := ha.len; have lc := ha.cap
 have hx := Go.Sw.Lst.sub ha (i := 0) (j := f) (Nat.zero_le _) hf
 rw [List.drop_zero, Nat.sub_zero] at hx
 refine wp_grd (leB_ok (by omega) (by omega)) ?_
 rw [toN_def, Int.toNat_natCast]
 have hlt : (A.take f).length ≤ 1000000000 := by rw [List.length_take]; omega
 refine wp_call (c_copied hx (by omega)) fun ⟨(r1 : Sl), _⟩ h1 e1 o1 => ?_
 have o1 : OwnL h.size .i64 h1 r1 (A.take f) := o1
 have q1 := e1.size
 refine s_copy (i0 := 0) hp e1 o1 (Nat.zero_le _) (by omega) (by decide) fun r2 h2 e2 o2 => s_tag (wp_cast (tys := [.one .sl]) (r2, ()) rfl ?_)
 rw [List.drop_zero] at o2
 refine s_copy ha e2 o2 ht (by rw [List.length_append]; omega) (by decide) fun r3 h3 e3 o3 => s_tag (wp_cast (tys := [.one .sl]) (r3, ()) rfl ?_)
 exact s_ret ⟨rfl, e3, (r3, ()), rfl, o3⟩
theorem c_same6 {b : Sl} {l m : List Int} (ha : Lst .i64 h s l) (hb : Lst .i64 h b m) : Gives P (F_law6_same S s b) [.one .bool] h fun (x : Bool × Unit) _ => x.1 = decide (l = m) := by
 have hla := ha.len
 have hlb := hb.len
 have hbd := ha.bound
 unfold F_law6_same Gives
 refine wp_ifB (fun hc => ?_) fun hc => ?_
 ·rw [neI_iff, natI_def, natI_def, hla, hlb] at hc
  refine s_ret ⟨rfl, Ext.refl h, (_, ()), rfl, ?_⟩
  have : l ≠ m := fun e => hc (by rw [e])
  show Bool.false = _
  simp [this]
 rw [neI_not, natI_def, natI_def, hla, hlb] at hc
 refine wp_while (fun (s : Int × Unit) h' => h' = h ∧ 0 ≤ s.1 ∧ s.1 ≤ l.length ∧ l.take s.1.toNat = m.take s.1.toNat) (fun s _ => l.length - s.1.toNat)
  (fun t vs h' => h' = h ∧ (t = 2 ∧ vs = [] ∧ l = m ∨ t = 1 ∧ vs = [.bool Bool.false] ∧ l ≠ m)) ⟨rfl, by simp, by simp, by simp⟩ ?_ ?_
 ·rintro ⟨(i : Int), u⟩ h' ⟨rfl, h0, h1, ht⟩
  dsimp only at h0 h1 ht ⊢
  refine wp_ifB (fun hc => ?_) fun hc => ?_
  ·rw [ltI_iff, natI_def, hla] at hc
   refine s_at ha h0 (by omega) fun _ => s_at hb h0 (by omega) fun _ => wp_ifB (fun hn => ?_) fun hn => ?_
   ·rw [neI_iff] at hn
    exact s_ret ⟨fun h => absurd h (by decide), fun _ => ⟨rfl, .inr ⟨rfl, rfl, fun e => hn (by rw [e])⟩⟩⟩
   ·rw [neI_not] at hn
    rw [add_ok (by omega) (by omega)]
    refine s_ret ⟨fun _ => ⟨(i + 1, ()), rfl, ⟨rfl, by dsimp only; omega, by dsimp only; omega, ?_⟩, by dsimp only; omega⟩, fun h => absurd rfl h⟩
    dsimp only
    rw [show (i + 1).toNat = i.toNat + 1 by omega]
    exact take_eq_succ (by omega) (by omega) ht hn
  ·rw [ltI_not, natI_def, hla] at hc
   rw [List.take_of_length_le (by omega), List.take_of_length_le (by omega)] at ht
   exact s_ret ⟨fun h => absurd h (by decide), fun _ => ⟨rfl, .inl ⟨rfl, rfl, ht⟩⟩⟩
 ·rintro t vs h' ⟨rfl, ⟨rfl, rfl, e⟩ | ⟨rfl, rfl, e⟩⟩
  ·exact s_tag (s_cast0 (s_ret ⟨rfl, Ext.refl _, (_, ()), rfl, (decide_eq_true e).symm⟩))
  ·exact s_tagNo rfl (s_tag (wp_cast (tys := [.one .bool]) (Bool.false, ()) rfl (s_ret ⟨rfl, Ext.refl _, (_, ()), rfl, (decide_eq_false e).symm⟩)))
theorem c_line (x y : LnD) : Gives P (F_law6_line S x y) [.one .bool] h fun (b : Bool × Unit) _ => (b.1 = true ↔ Bs.inj b4 x = Bs.inj b4 y) := by
 unfold F_law6_line Gives
 obtain ⟨x1, x2, x3, x4, u⟩ := x
 obtain ⟨y1, y2, y3, y4, u'⟩ := y
 have key : Bs.inj b4 (x1, x2, x3, x4, u) = Bs.inj b4 (y1, y2, y3, y4, u') ↔ x1 = y1 ∧ x2 = y2 ∧ x3 = y3 ∧ x4 = y4 := by
  simp [Bs.inj, B.inj]
 rw [key]
 refine s_new4 (x1, x2, x3, x4, u) fun h1 e1 o1 => s_new4 (y1, y2, y3, y4, u') fun h2 e2 o2 => ?_
 have c1 := (o1.ext e2).cells
 have c2 := o2.cells
 refine bind_bool (x1 = y1 ∧ x2 = y2 ∧ x3 = y3 ∧ x4 = y4) ?_ fun b h3 e3 hb => s_ret ⟨rfl, (e1.trans e2).trans e3, (b, ()), rfl, hb⟩
 refine s_cell (b := .int .i64) x1 rfl c1 rfl (s_cell (b := .int .i64) y1 rfl c2 rfl (wp_ifB (fun h1 => ?_) fun h1 => s_ret ⟨rfl, Ext.refl _, false, rfl, Iff.intro (fun h => by cases h) fun h => ?_⟩))
 ·rw [eqI_iff] at h1
  refine s_cell (b := .int .i64) x2 rfl c1 rfl (s_cell (b := .int .i64) y2 rfl c2 rfl (wp_ifB (fun h2 => ?_) fun h2 => s_ret ⟨rfl, Ext.refl _, false, rfl, Iff.intro (fun h => by cases h) fun h => ?_⟩))
  ·rw [eqI_iff] at h2
   refine s_cell (b := .int .i64) x3 rfl c1 rfl (s_cell (b := .int .i64) y3 rfl c2 rfl (wp_ifB (fun h3 => ?_) fun h3 => s_ret ⟨rfl, Ext.refl _, false, rfl, Iff.intro (fun h => by cases h) fun h => ?_⟩))
   ·rw [eqI_iff] at h3
    refine s_cell (b := .int .i64) x4 rfl c1 rfl (s_cell (b := .int .i64) y4 rfl c2 rfl (s_ret ⟨rfl, Ext.refl _, _, rfl, ?_⟩))
    rw [eqI_iff]
    exact ⟨fun h => ⟨h1, h2, h3, h⟩, fun h => h.2.2.2⟩
   ·rw [eqI_not] at h3; exact absurd h.2.2.1 h3
  ·rw [eqI_not] at h2; exact absurd h.2.1 h2
 ·rw [eqI_not] at h1; exact absurd h.1 h1
end Go.Sw.Piece

set_option linter.unusedVariables false
set_option linter.unusedSimpArgs false
set_option maxRecDepth 100000
namespace Go.Sw.Piece
open Go.Sw.Any Go.Sw.Codec
open Go.Sw.Tree (iv s_putAll s_newP s_getP s_getT s_putP eqI_self Placed cell_own wp_whileG minI_eq)
variable {P : Program} {S : Ids} {h : Heap} {Q : Nat → List Value → Heap → Prop}
abbrev StaD := Int × Sl × Unit
abbrev BoD := Option Addr × Sl × Unit
abbrev bB : List B := [.ptr, .sl]
abbrev bS : List B := [.int .i64, .sl]
theorem flatB2 {x : BoD} : ∀ v, v ∈ Bs.inj bB x → flat v = true := by intro v hv; simp [Bs.inj] at hv; rcases hv with rfl | rfl <;> rfl
structure OpB (S : Ids) (n : Nat) (h : Heap) (l : List Int) (T : TX) (s : Sl) : Prop where
 t : TextR S n h T
 limit : T.limit = 65536
 at_ : OwnL n .i64 h s (txA T)
 len : (bytesL T.cur.ps).length ≤ 50000
 A : T.A = []
 els : ∃ e, known e ∧ T.enc = e ∧ Piece.els e T.cur.ps = elsF 0 0 (toks e l)
 dis : ∀ a, s.base = some a → ¬ T.Z a.block
theorem text_low {n m : Nat} {T : TX} (t : TextR S n h T) (hm : m ≤ n) : TextR S m h T := { t with ob := t.ob.mono hm, ad := t.ad.mono hm, lo := fun i hi => ⟨Nat.le_trans hm (t.lo i hi).1, (t.lo i hi).2⟩ }
theorem c_opened6 (M : Meth0 P S) {e0 : Int} {b : Sl} {l : List Int} (hb : Lst .u8 h b l) :
  Gives P (F_law6_opened S (e0, b, ())) [.agg bB, .one .bool] h fun (y : BoD × Bool × Unit) h' => y.2.1 = true ∧ ∃ T : TX, y.1.1 = some T.p ∧ OpB S h.size h' (l.take 50000) T y.1.2.1 := by
 unfold F_law6_opened Gives
 have hlb := hb.len
 have hby : isBytes l := hb.wf
 refine s_newO (bs := bS) ((e0, b, ()) : StaD) (by decide) fun h1 e1 o1 => s_newO (bs := bB) ((none, ⟨none, 0, 0⟩, ()) : BoD) (by decide) fun h2 e2 o2 => ?_
 have e12 := e1.trans e2
 have c1 := (o1.ext e2).cells
 refine s_cell (b := .int .i64) e0 rfl c1 rfl ?_
 have q12 := e12.size
 have q1 := e1.size
 refine wp_while (fun (r' : Sl × Int × Unit) h' => ∃ i : Nat, i ≤ 50000 ∧ i ≤ l.length ∧ r'.2.1 = (i : Int) ∧ Ext h2 h' ∧ OwnL h2.size .u8 h' r'.1 (l.take i)) (fun r' _ => (50000 - r'.2.1).toNat)
  (fun tag vs h' => tag = 2 ∧ ∃ r' : Sl, vs = [slv r'] ∧ Ext h2 h' ∧ OwnL h2.size .u8 h' r' (l.take 50000)) ⟨0, Nat.zero_le _, Nat.zero_le _, rfl, Ext.refl _, OwnL.nil _ _ _⟩ ?_ ?_
 ·rintro ⟨(r' : Sl), (i' : Int), u⟩ h3 ⟨i, hi16, hil, hi', e3, o3⟩
  dsimp only at hi' o3 ⊢
  subst hi'
  refine bind_bool (i < l.length ∧ i < 50000) ?_ fun bb h4 e4 hbb => wp_ifB (fun hc => ?_) fun hc => ?_
  ·refine s_cell (b := .sl) b rfl ((o1.ext e2).ext e3).cells rfl (wp_ifB (fun hc => s_ret ⟨rfl, Ext.refl _, _, rfl, ?_⟩) fun hc => s_ret ⟨rfl, Ext.refl _, false, rfl, Iff.intro (fun h => by cases h) fun h => ?_⟩)
   ·rw [ltI_iff, natI_def, hlb] at hc; rw [ltI_iff]; omega
   ·rw [ltI_not, natI_def, hlb] at hc; omega
  ·have hc := hbb.1 hc
   have e24 := e3.trans e4
   have q24 := e24.size
   refine s_cell (b := .sl) b rfl ((o1.ext e2).ext e24).cells rfl ?_
   refine s_at (hb.ext (e12.trans e24)) (by omega) (by omega) fun hfx => ?_
   rw [Int.toNat_natCast] at hfx ⊢
   have hlen : (l.take i).length ≤ 50000 := by rw [List.length_take]; omega
   refine s_push (o3.ext e4) q24 hfx (by omega) (by omega) fun r2 h5 k5 o5 _ _ => ?_
   rw [add_ok (by omega) (by omega)]
   refine s_ret ⟨fun _ => ⟨(r2, (i : Int) + 1, ()), rfl, ⟨i + 1, by omega, by omega, by dsimp only; omega, Keep.trans e24 k5, ?_⟩, by dsimp only; omega⟩, fun hh => absurd rfl hh⟩
   have : l.take (i + 1) = l.take i ++ [l.getD i 0] := by
    rw [List.take_add_one, List.getD_eq_getElem?_getD, List.getElem?_eq_getElem (by omega)]; rfl
   rw [this]; exact o5
  ·have hc : ¬ (i < l.length ∧ i < 50000) := fun h => by have hc : bb = false := hc; rw [hbb.2 h] at hc; cases hc
   have : l.take i = l.take 50000 := by
    by_cases h16 : i = 50000
    ·rw [h16]
    ·rw [List.take_of_length_le (by omega), List.take_of_length_le (by omega)]
   rw [this] at o3
   exact s_ret ⟨fun hh => absurd hh (by decide), fun _ => ⟨rfl, r', rfl, e3.trans e4, o3.ext e4⟩⟩
 ·rintro tag vs h3 ⟨rfl, r, rfl, e3, o3⟩
  refine s_tag (wp_cast (tys := [.one .sl]) (r, ()) rfl ?_)
  have hlen : (l.take 50000).length ≤ 50000 := by rw [List.length_take]; omega
  have hbt : isBytes (l.take 50000) := fun x hx => hby x (List.mem_of_mem_take hx)
  generalize l.take 50000 = m at *
  have henc : addI .i64 1 (andI .i64 e0 3) = 1 + e0 % 4 := by rw [and3, add_ok (by omega) (by omega)]
  have hk : known (1 + e0 % 4) := by unfold known; omega
  rw [henc]
  generalize 1 + e0 % 4 = enc at hk
  refine wp_call (c_ref_Decode o3.lst (by omega)) fun ⟨(s : Sl), (de : Int), _⟩ h4 e4 hd => ?_
  obtain ⟨od, hde⟩ := DecA.known hk hd
  have od : OwnL h3.size .i64 h4 s (dec enc m) := od
  refine wp_call (c_Open M (limit := 65536) (o3.lst.ext e4)) fun ⟨(p : Option Addr), (er : Int), _⟩ h5 e5 hO => ?_
  have hO : OpenR S h4 h5 enc 65536 m p er := hO
  cases hO with
  | enc hx => exact absurd hk hx
  | arg _ hx => exact absurd ⟨by decide, by decide⟩ hx
  | full _ _ hx => omega
  | ok T hk' hl' hm' tr hte htl htk htA hels hbl hz =>
   have q23 := e3.size; have q34 := e4.size
   refine bind_bool False (wp_ifB (fun hc => by cases hc) fun hc => s_ret ⟨rfl, Ext.refl _, _, rfl, by rw [neI_iff]; exact Iff.intro (fun h => h rfl) False.elim⟩) fun b6 h6 e6 hb6 => ?_
   have hb6 : b6 = false := by
    cases hx : b6 with
    | false => rfl
    | true => exact (hb6.1 hx).elim
   subst hb6
   refine s_ifF ?_
   have e26 := (e3.trans e4).trans (e5.trans e6)
   refine s_stoO (bs := bB) ((some T.p, s, ()) : BoD) (o2.ext e26) flatB2 fun h7 o7 u7 => s_getO (bs := bB) o7 (s_ret ⟨rfl, Upd.extN (e12.trans e26) u7 (by intro z hz; cases hz; exact q1), ((some T.p, s, ()), true, ()), rfl, rfl, T, rfl, ?_⟩)
   have n7 : ∀ i, T.Z i → i ≠ h1.size := fun i hi e => by have := hz i hi; have := e2.size; have := (o2.lt rfl).2; dsimp only at this; omega
   have hA : txA T = dec enc m := by
    unfold txA
    rw [hte, hels, elsF_fst, toks_dec hbt]
   have l2 := (o2.lt rfl).2
   dsimp only at l2
   refine ⟨?_, htl, ?_, by rw [hbl]; exact hlen, htA, ⟨enc, hk, hte, hels⟩, ?_⟩
   ·have t6 := tr.ext e6
    have c7 : Chg (fun i => i = h1.size) h6 h7 := Chg.of_upd u7 fun x hx _ => by cases hx; rfl
    have t7 := t6.chg c7 fun i hi e => n7 i hi e
    exact text_low t7 (by omega)
   ·rw [hA]
    have o6 := od.ext (e5.trans e6)
    have := o6.keep fun x hx => u7.2.1 _ (o6.own.lt hx).2 fun y hy e => by cases hy; have := (o6.own.lt hx).1; dsimp only at e; omega
    exact this.mono (by omega)
   ·intro a ha hZ
    have := hz _ hZ
    have := (od.own.lt ha).2
    omega
end Go.Sw.Piece

set_option linter.unusedVariables false
set_option linter.unusedSimpArgs false
set_option maxRecDepth 100000
namespace Go.Sw.Piece
open Go.Sw.Any Go.Sw.Codec
open Go.Sw.Tree (iv s_putAll s_newP s_getP s_getT s_putP eqI_self Placed cell_own wp_whileG minI_eq)
variable {P : Program} {S : Ids} {h : Heap} {Q : Nat → List Value → Heap → Prop}
theorem ok_ints {w : Sl} {l : List Int} (o : Lst .i64 h w l) : (Sh.list (.int .i64)).ok h ((w, l) : Sl × List Int) := by
 refine ⟨o.len, o.cap, o.max, fun i y hi => ?_⟩
 obtain ⟨a, ha, hc⟩ := o.rd.2 i (.int .i64 y) (by rw [List.getElem?_map, hi]; rfl)
 refine ⟨a, ha, cells_iff.2 fun j v hj => ?_, o.wf y (List.mem_of_getElem? hi)⟩
 cases j with
 | zero =>
  simp [Sh.cells] at hj; subst hj
  simpa [Sh.size, add_zero'] using hc
 | succ j => simp [Sh.cells] at hj
theorem ok_edit {m : Nat} {w : Sl} {l : List Int} {a2 : Addr} {f t : Int} (ow : Lst .i64 h w l) (o2 : Own m 1 h ⟨some a2, 3, 3⟩ [i64v f, i64v t, slv w]) (hf : fitsI .i64 f) (ht : fitsI .i64 t) :
  (Sh.list EdSh).ok h (⟨some a2, 1, 1⟩, [((f, t, (w, l), ()) : EdD)]) := by
 refine ⟨rfl, Nat.le_refl _, (by decide : 1 < 2 ^ 63), fun i y hi => ?_⟩
 have hlt := (List.getElem?_eq_some_iff.1 hi).1
 simp at hlt
 subst hlt
 simp at hi
 subst hi
 refine ⟨a2, rfl, cells_iff.2 fun j v hj => ?_, ⟨hf, ht, ok_ints ow, trivial⟩⟩
 rw [Nat.zero_mul, add_zero']
 refine cells_iff.1 o2.cells j v ?_
 match j, hj with
 | 0, hj => exact hj
 | 1, hj => exact hj
 | 2, hj => exact hj
 | j + 3, hj => simp [Sh.cells] at hj
theorem s_ckC {a : Addr} {vs : List Value} {j : Nat} {v : Value} {K : Prog} (hc : Cells h a vs) (hj : vs[j]? = some v) (hk : wp P K h Q) : wp P (.check (shiftTo (some a) j) [v] K) h Q :=
 s_check0 (a := a.add j) rfl (cells_iff.2 fun i u hi => by
  cases i with
  | zero => simp at hi; subst hi; rw [add_zero']; exact cells_iff.1 hc j _ hj
  | succ i => simp at hi) hk
theorem c_edit (M : Meth0 P S) {n m : Nat} {T : TX} {w : Sl} {l : List Int} {a2 : Addr} {f t' : Int} {K : Int × Unit → Prog} (t : TextR S n h T) (hn : n ≤ h.size) (ow : OwnL m .i64 h w l) (o2 : Own m 1 h ⟨some a2, 3, 3⟩ [i64v f, i64v t', slv w])
  (dw : ∀ x, w.base = some x → ¬ T.Z x.block) (d2 : ¬ T.Z a2.block) (h0 : 0 ≤ f) (h1 : f ≤ t') (h2 : t' ≤ (els T.enc T.cur.ps).length) (hf : fitsE T.enc l) (hA : T.A.length + 4 * l.length ≤ 400000000000) (hsm : (bytesL T.cur.ps).length + 4 * l.length ≤ T.limit)
  (hk : ∀ h' T', Chg (wfoot T) h h' → TextR S n h' T' → Nxt T T' h.size → els T.enc T'.cur.ps = (els T.enc T.cur.ps).take f.toNat ++ l.map (fun a => (a, -1)) ++ (els T.enc T.cur.ps).drop t'.toNat → T'.A.length ≤ T.A.length + 4 * l.length → (bytesL T'.cur.ps).length ≤ (bytesL T.cur.ps).length + 4 * l.length → wp P (K (0, ())) h' Q) :
  wp P (.call (F_Text_Change S (some T.p) ⟨some a2, 1, 1⟩) [.one (.int .i64)] K) h Q := by
 have hlim := t.lim
 have hbig : (els T.enc T.cur.ps).length ≤ 65536 := by
  have h2 := (toksL_le (enc := T.enc) t.cur.bytes).1
  rw [els_len]; omega
 let e : EdD := (f, t', (w, l), ())
 have hok : ∀ h', Chg (wfoot T) h h' → (Sh.list EdSh).ok h' (⟨some a2, 1, 1⟩, [e]) := fun h' c =>
  ok_edit (c.ownL ow fun x hx hw => dw x hx (wfoot_Z t hw)).lst (c.own o2 fun x hx hw => by cases hx; exact d2 (wfoot_Z t hw)) (fits_i64.2 (by omega)) (fits_i64.2 (by omega))
 have hpo : putsOf [e] = l := by show l ++ [] = l; exact List.append_nil _
 refine wp_callW (c_Change M (x := (⟨some a2, 1, 1⟩, [e])) t hn hok (fun e' he hne b hb hz => ?_) (by show T.A.length + 4 * (putsOf [e]).length ≤ _; rw [hpo]; exact hA) (by omega)) fun tg vs h3 hx => ?_
 ·rw [List.mem_singleton.1 he] at hb
  exact dw b hb hz
 ·obtain ⟨rfl, c3, r, T', rfl, R⟩ := hx
  have hr : r = 0 := by
   have hoff := (toksL_le (enc := T.enc) t.cur.bytes).2
   have hplc : Plc (toksL T.enc T.cur.ps).length 0 [e] := ⟨h0, h1, by show t' ≤ _; rw [← els_len]; exact h2, trivial⟩
   have hfe : fitsE T.enc (putsOf [e]) := by rw [hpo]; exact hf
   have hg : 0 ≤ goneE (toksL T.enc T.cur.ps) [e] := by
    have : goneE (toksL T.enc T.cur.ps) [e] = (offs ((toksL T.enc T.cur.ps).take t'.toNat) : Int) - offs ((toksL T.enc T.cur.ps).take f.toNat) := by simp [goneE, e]
    rw [this]
    have hh := offs_take_le ((toksL T.enc T.cur.ps).take t'.toNat) f.toNat
    rw [List.take_take, show min f.toNat t'.toNat = f.toNat by omega] at hh
    omega
   have hz := (sizeL_le T.enc (putsOf [e])).2
   cases R.ref with
   | many h => simp at h
   | place _ h => exact absurd hplc h
   | fit _ _ h => exact absurd hfe h
   | full _ _ _ hfull =>
    have hfull : T.limit < offs (toksL T.enc T.cur.ps) + sizeL T.enc (putsOf [e]) - goneE (toksL T.enc T.cur.ps) [e] := hfull
    rw [hpo] at hfull hz; omega
   | ok => rfl
  subst hr
  have hels : els T.enc T'.cur.ps = one1 (els T.enc T.cur.ps) e := by rw [R.els, if_pos rfl]; rfl
  have hlen : T'.A.length ≤ T.A.length + 4 * (putsOf [e]).length := R.len
  rw [hpo] at hlen
  refine ⟨rfl, (0, ()), rfl, hk h3 T' c3 R.t R.nx hels hlen ?_⟩
  have b1 := blen_state t.cur t.enc
  have b2 := blen_state R.t.cur R.t.enc
  rw [R.nx.enc, hels] at b2
  have b3 := blen_one (enc := T.enc) (E := els T.enc T.cur.ps) (e := e) hf h0 h1
  have b3 : blen T.enc (one1 (els T.enc T.cur.ps) e) ≤ blen T.enc (els T.enc T.cur.ps) + 4 * l.length := b3
  omega
structure BothR (S : Ids) (n : Nat) (h : Heap) (b : Addr) (T : TX) (s : Sl) (k : Nat) : Prop where
 t : TextR S n h T
 ob : Own n 1 h ⟨some b, 2, 2⟩ (Bs.inj bB ((some T.p, s, ()) : BoD))
 at_ : OwnL n .i64 h s (txA T)
 limit : T.limit = 65536
 len : (bytesL T.cur.ps).length ≤ 50000 + 64 * k
 A : T.A.length ≤ 64 * k
 db : ¬ T.Z b.block
 da : ∀ a, s.base = some a → ¬ T.Z a.block ∧ a.block ≠ b.block
def bF (b : Addr) (T : TX) (s : Sl) (i : Nat) : Prop := T.Z i ∨ i = b.block ∨ ∃ a, s.base = some a ∧ a.block = i
variable {n k : Nat} {b : Addr} {T : TX} {s : Sl}
theorem BothR.chg {h' : Heap} {F : Nat → Prop} (o : BothR S n h b T s k) (c : Chg F h h') (hF : ∀ i, bF b T s i → ¬ F i) : BothR S n h' b T s k :=
 ⟨o.t.chg c fun i hi => hF i (.inl hi), c.own o.ob fun x hx => by cases hx; exact hF _ (.inr (.inl rfl)), c.ownL o.at_ fun x hx => hF _ (.inr (.inr ⟨x, hx, rfl⟩)), o.limit, o.len, o.A, o.db, o.da⟩
theorem BothR.ext {h' : Heap} (o : BothR S n h b T s k) (e : Ext h h') : BothR S n h' b T s k := ⟨o.t.ext e, o.ob.ext e, o.at_.ext e, o.limit, o.len, o.A, o.db, o.da⟩
theorem BothR.lo (o : BothR S n h b T s k) : ∀ i, bF b T s i → n ≤ i ∧ i < h.size := by
 rintro i (hi | rfl | ⟨a, ha, rfl⟩)
 ·exact o.t.lo i hi
 ·exact o.ob.lt rfl
 ·exact o.at_.own.lt ha
theorem BothR.few (o : BothR S n h b T s k) : (txA T).length ≤ 50000 + 64 * k := by
 have h2 := (toksL_le (enc := T.enc) o.t.cur.bytes).1
 rw [txA_len, els_len]
 have := o.len
 omega
theorem BothR.c0 {Q : Nat → List Value → Heap → Prop} (o : BothR S n h b T s k) {K : Option Addr → Prog} (hk : wp P (K (some T.p)) h Q) : wp P (grd (someB (some b)) <| grd (someB (some b)) <| .load (.one .ptr) (shiftTo (some b) 0) K) h Q :=
 wp_grd rfl (wp_grd rfl (s_cell (b := .ptr) (some T.p) rfl o.ob.cells rfl hk))
theorem BothR.c1 {Q : Nat → List Value → Heap → Prop} (o : BothR S n h b T s k) {K : Sl → Prog} (hk : wp P (K s) h Q) : wp P (grd (someB (some b)) <| grd (someB (some b)) <| .load (.one .sl) (shiftTo (some b) 1) K) h Q :=
 wp_grd rfl (wp_grd rfl (s_cell (b := .sl) s rfl o.ob.cells rfl hk))
def editA (A : List Int) (x m : Int) (put : List Int) : List Int :=
 A.take (withinF x A.length).toNat ++ plainF put ++ A.drop (withinF x A.length + withinF m (A.length - withinF x A.length)).toNat
theorem c_edited (M : Meth0 P S) {x m : Int} {w : Sl} {l : List Int} (o : BothR S n h b T s k) (hn : n ≤ h.size) (hk : k < 200) (hx : fitsI .i64 x) (hm : fitsI .i64 m) (hw : Lst .i64 h w l) :
  wp P (F_Both_edited S (some b) x m w) h fun tg vs h' => tg = 0 ∧ vs = [.bool true] ∧ Chg (bF b T s) h h' ∧ ∃ T' s', BothR S n h' b T' s' (k + 1) ∧ (∀ i, bF b T' s' i → bF b T s i ∨ h.size ≤ i) ∧ T'.p = T.p ∧ txA T' = editA (txA T) x m l := by
 unfold F_Both_edited
 have hfew := o.few
 have hlo := o.lo
 have lA := o.at_.len
 refine o.c1 ?_
 rw [natI_def, lA]
 have w1 := within_le (x := x) (n := ((txA T).length : Int)) (by omega)
 refine wp_call (c_within hx (by omega) (by omega)) fun ⟨(f : Int), _⟩ h1 e1 hf => ?_
 have hf : f = withinF x (txA T).length := hf
 rw [← hf] at w1
 refine (o.ext e1).c1 ?_
 rw [natI_def, lA]
 have w2 := within_le (x := m) (n := ((txA T).length : Int) - f) (by omega)
 rw [sub_ok (by dsimp only; omega) (by dsimp only; omega)]
 refine wp_call (c_within hm (by dsimp only; omega) (by dsimp only; omega)) fun ⟨(g : Int), _⟩ h2 e2 hg => ?_
 have hg : g = withinF m ((txA T).length - f) := hg
 rw [← hg] at w2
 have e12 := e1.trans e2
 dsimp only
 refine wp_call (c_plain (hw.ext e12)) fun ⟨(p : Sl), _⟩ h3 e3 op => ?_
 have op : OwnL h2.size .i64 h3 p (plainF l) := op
 have hpl := plain_len l
 have e13 := e12.trans e3
 refine (o.ext e13).c0 ?_
 refine wp_call (c_copied op.lst (by omega)) fun ⟨(v : Sl), _⟩ h4 e4 ov => ?_
 have ov : OwnL h3.size .i64 h4 v (plainF l) := ov
 have e14 := e13.trans e4
 have q1 := e12.size; have q3 := e3.size; have q4 := e4.size
 dsimp only
 refine s_ckC (o.ext e14).ob.cells rfl ?_
 refine fun el => ?_
 rw [add_ok (by omega) (by omega)]
 have e5 : Ext h4 (h4.push (.cells [i64v f, i64v (f + g), slv v].toArray el)) := Ext.push ..
 have o5 : Own h4.size 1 (h4.push (.cells [i64v f, i64v (f + g), slv v].toArray el)) ⟨some ⟨h4.size, 0, none⟩, 3, 3⟩ [i64v f, i64v (f + g), slv v] := own_alloc rfl (by decide) (by decide)
 generalize h4.push (.cells [i64v f, i64v (f + g), slv v].toArray el) = h5 at e5 o5 ⊢
 have e15 := e14.trans e5
 have q5 := e15.size
 have o' := o.ext e15
 refine s_ckC o'.ob.cells rfl ?_
 have hA := txA_len T
 refine c_edit M o'.t (by omega) (ov.ext e5) (o5.mono (by omega)) (fun y hy hz => by have := (hlo _ (.inl hz)).2; have := (ov.own.lt hy).1; omega) (fun hz => by have := (hlo _ (.inl hz)).2; dsimp only at this; omega) (by omega) (by omega) (by omega) (plain_fits o.t.enc) (by have := o.A; omega) (by have := o.len; rw [o.limit]; omega) fun h6 T' c6 t6 nx hels hA6 hb6 => ?_
 refine wp_ifB (fun hh => by rw [neI_iff] at hh; exact absurd rfl hh) fun _ => ?_
 have dis : ∀ i, bF b T s i → ¬ T.Z i → ¬ wfoot T i := fun i _ hz hw => hz (wfoot_Z o.t hw)
 have ob6 := c6.own o'.ob fun y hy hw => by cases hy; exact o.db (wfoot_Z o.t hw)
 have at6 := c6.ownL o'.at_ fun y hy hw => (o.da y hy).1 (wfoot_Z o.t hw)
 have op6 := c6.ownL ((op.ext e4).ext e5) fun y hy hw => by have := (hlo _ (.inl (wfoot_Z o.t hw))).2; have := (op.own.lt hy).1; omega
 refine wp_grd rfl (wp_grd rfl (s_cell (b := .sl) s rfl ob6.cells rfl ?_))
 have q6 := c6.1
 obtain ⟨fn, rfl⟩ : ∃ fn : Nat, f = fn := ⟨f.toNat, by omega⟩
 obtain ⟨gn, rfl⟩ : ∃ gn : Nat, g = gn := ⟨g.toNat, by omega⟩
 refine wp_call (c_spliced (f := fn) (t := fn + gn) at6.lst op6.lst (by omega) (by omega) (by omega) (by omega)) fun ⟨(s' : Sl), _⟩ h7 e7 os => ?_
 have os : OwnL h6.size .i64 h7 s' ((txA T).take fn ++ plainF l ++ (txA T).drop (fn + gn)) := os
 dsimp only
 have ob7 := ob6.ext e7
 have q7 := e7.size
 have hA' : txA T' = (txA T).take fn ++ plainF l ++ (txA T).drop (fn + gn) := by
  unfold txA
  rw [nx.enc, hels]
  simp only [List.map_append, List.map_take, List.map_drop, List.map_map]
  rw [show ((fn : Int)).toNat = fn from rfl, show ((fn : Int) + gn).toNat = fn + gn by omega]
  congr 2
  exact List.map_id _
 have hbl := (hlo b.block (.inr (.inl rfl))).2
 refine wp_grd rfl (wp_grd rfl (s_setC' (slv s') ob7 (by show 1 < 2; decide) rfl fun h8 o8 u8 => s_ret ⟨rfl, rfl, ?_, T', s', ?_, ?_, nx.p, ?_⟩))
 ·have c8 : Chg (bF b T s) h5 h8 := ((c6.mono fun i _ hw => .inl (wfoot_Z o.t hw)).ext e7).upd u8 fun y hy _ => by cases hy; exact .inr (.inl rfl)
  exact Chg.pre e15 c8
 ·have n8 : ∀ i, i ≠ b.block → i < h7.size → h8[i]? = h7[i]? := fun i hi hl => u8.2.1 i hl fun y hy e => by cases hy; exact hi e.symm
  have zb : ∀ i, T'.Z i → i ≠ b.block := fun i hi e => by
   rcases nx.zn i hi with hz | hz
   ·exact o.db (e ▸ hz)
   ·omega
  have c78 : Chg (fun i => i = b.block) h7 h8 := Chg.of_upd u8 fun y hy _ => by cases hy; rfl
  refine ⟨(t6.ext e7).chg c78 zb, by rw [← nx.p] at o8; exact o8, ?_, by rw [nx.limit]; exact o.limit, by have := o.len; omega, by have := o.A; omega, fun hz => zb _ hz rfl, fun a ha => ?_⟩
  ·rw [hA']
   exact (c78.ownL os fun y hy e => by have := (os.own.lt hy).1; omega).mono (by omega)
  ·have hl := os.own.lt ha
   exact ⟨fun hz => by have := (t6.lo _ hz).2; omega, by omega⟩
 ·rintro i (hz | rfl | ⟨a, ha, rfl⟩)
  ·rcases nx.zn _ hz with hz | hz
   ·exact .inl (.inl hz)
   ·exact .inr (by omega)
  ·exact .inl (.inr (.inl rfl))
  ·have := (os.own.lt ha).1; exact .inr (by omega)
 ·rw [hA']
  unfold editA
  rw [← hf, ← hg]
  rw [show ((fn : Int)).toNat = fn from rfl, show ((fn : Int) + gn).toNat = fn + gn by omega]
end Go.Sw.Piece

set_option linter.unusedVariables false
set_option linter.unusedSimpArgs false
set_option maxRecDepth 100000
namespace Go.Sw.Piece
open Go.Sw.Any Go.Sw.Codec
open Go.Sw.Tree (iv s_putAll s_newP s_getP s_getT s_putP eqI_self Placed cell_own wp_whileG minI_eq)
variable {P : Program} {S : Ids} {h : Heap} {Q : Nat → List Value → Heap → Prop}
theorem s_wl {b : B} {m j c d : Nat} {w : Addr} {vs : List Value} {x : b.den} {K : b.den → Prog} (o : Own m 1 h ⟨some w, c, d⟩ vs) (hj : vs[j]? = some (b.inj x)) (hk : wp P (K x) h Q) :
  wp P (grd (someB (some w)) <| grd (someB (some w)) <| .load (.one b) (shiftTo (some w) j) K) h Q := wp_grd rfl (wp_grd rfl (s_cell (b := b) x rfl o.cells hj hk))
theorem s_wst {m j c d : Nat} {w : Addr} {vs : List Value} (v : Value) {K : Prog} (o : Own m 1 h ⟨some w, c, d⟩ vs) (hj : j < vs.length) (hf : flat v = true) (hk : ∀ h', Own m 1 h' ⟨some w, c, d⟩ (vs.set j v) → Upd ⟨some w, c, d⟩ h h' → wp P K h' Q) :
  wp P (grd (someB (some w)) <| grd (someB (some w)) <| .store (shiftTo (some w) j) [v] K) h Q := wp_grd rfl (wp_grd rfl (s_setC' v o hj hf hk))
abbrev WD := Sl × Int × Int × Int × Bool × Bool × Unit
abbrev bW : List B := [.sl, .int .i64, .int .i64, .int .i64, .bool, .bool]
abbrev WkO (m : Nat) (h : Heap) (w : Addr) (x : WD) : Prop := Own m 1 h ⟨some w, 6, 6⟩ (Bs.inj bW x)
variable {A : List Int} {m n k N : Nat} {w a : Addr} {ls : Sl} {af : Int}
theorem c_met {x : LnD} (o : WkO m h w (ls, (N : Int), af, (k : Int), false, false, ())) (ho : LnL n h ls (linesL A (nB A + 1))) (hN : N ≤ nB A + 1) (hk : k < N) (hb : N ≤ 1000000001) (hx : Bs.inj b4 x = Bs.inj b4 (lineD A k)) :
  wp P (F_Walk_met S (some w) (k : Int) x) h fun tg vs h' => tg = 0 ∧ vs = [.bool (notB (eqI ((k + 1 : Nat) : Int) af))] ∧ Chg (fun i => i = w.block) h h' ∧ WkO m h' w (ls, (N : Int), af, ((k + 1 : Nat) : Int), eqI ((k + 1 : Nat) : Int) af, false, ()) := by
 unfold F_Walk_met
 refine s_new4 x fun h1 e1 o1 => ?_
 have ow := o.ext e1
 refine bind_bool False ?_ fun bb h2 e2 hbb => ?_
 ·refine s_wl (b := .bool) (x := false) ow rfl (s_ifF (s_wl (b := .int .i64) (x := (k : Int)) ow rfl (s_wl (b := .int .i64) (x := (N : Int)) ow rfl (wp_ifB (fun hc => by rw [geI_iff] at hc; omega) fun _ => s_wl (b := .int .i64) (x := (k : Int)) ow rfl (wp_ifB (fun hc => by rw [neI_iff] at hc; exact absurd rfl hc) fun _ => s_getO (bs := b4) o1 (s_wl (b := .sl) (x := ls) ow rfl (s_wl (b := .int .i64) (x := (k : Int)) ow rfl ?_)))))))
  refine s_ld4 (ho.ext e1) (linesL_at (by omega)) (wp_call (c_line x (lineD A k)) fun ⟨(b : Bool), _⟩ h2 e2 hb => s_ret ⟨rfl, e2, _, rfl, ?_⟩)
  have hb : b = true := hb.2 hx
  rw [hb]
  exact Iff.intro (fun h => by cases h) False.elim
 have hbb : bb = false := by
  cases hx : bb with
  | false => rfl
  | true => exact (hbb.1 hx).elim
 subst hbb
 have e12 := e1.trans e2
 have o2 := o.ext e12
 refine s_ifF (s_wl (b := .int .i64) (x := (k : Int)) o2 rfl ?_)
 have hadd : addI .i64 (k : Int) 1 = ((k + 1 : Nat) : Int) := by rw [add_ok (by omega) (by omega)]; rfl
 rw [hadd]
 refine s_wst (i64v ((k + 1 : Nat) : Int)) o2 (by show 3 < 6; decide) rfl fun h3 o3 u3 => s_wl (b := .int .i64) (x := ((k + 1 : Nat) : Int)) o3 rfl (s_wl (b := .int .i64) (x := af) o3 rfl (s_wst (.bool (eqI ((k + 1 : Nat) : Int) af)) o3 (by show 4 < 6; decide) rfl fun h4 o4 u4 => s_wl (b := .bool) (x := eqI ((k + 1 : Nat) : Int) af) o4 rfl (s_ret ⟨rfl, rfl, ?_, o4⟩)))
 have c3 : Chg (fun i => i = w.block) h2 h3 := Chg.of_upd u3 fun y hy _ => by cases hy; rfl
 exact Chg.pre e12 (c3.upd u4 fun y hy _ => by cases hy; rfl)
theorem c_well {ov : Bool} (o : WkO m h w (ls, (N : Int), af, (k : Int), ov, false, ())) (hk : k = N ∨ (k : Int) = af) : Gives P (F_Walk_well S (some w)) [.one .bool] h fun (y : Bool × Unit) _ => y.1 = true := by
 unfold F_Walk_well Gives
 refine bind_bool True (s_wl (b := .bool) (x := false) o rfl (s_ifT (s_wl (b := .int .i64) (x := (k : Int)) o rfl (s_wl (b := .int .i64) (x := (N : Int)) o rfl (wp_ifB (fun hc => s_ret ⟨rfl, Ext.refl _, true, rfl, Iff.intro (fun _ => trivial) fun _ => rfl⟩) fun hc => s_wl (b := .int .i64) (x := (k : Int)) o rfl (s_wl (b := .int .i64) (x := af) o rfl (s_ret ⟨rfl, Ext.refl _, _, rfl, ?_⟩))))))) fun bb h1 e1 hb => s_ret ⟨rfl, e1, (bb, ()), rfl, hb.2 trivial⟩
 rw [eqI_not] at hc
 rw [eqI_iff]
 exact Iff.intro (fun _ => trivial) fun _ => by rcases hk with hk | hk; exact absurd (by rw [hk]) hc; exact hk
theorem c_walk {it y : Value} {h0 : Heap} {Z : Nat → Prop} {ma : Nat} (itg : IterG P it (nLines A) (AL2 A) Z 0 h0) (hz : Held Z h0 h) (hy : flat y = true)
  (dy : ∀ (k : Int) (x : LnD), Dyn P y (Ts.inj [.one (.int .i64), t4] (k, x, ())) (F_Both_alls_1 S k x (some a))) (oa : Cel ma h a (.pointer (some w))) (o : WkO m h w (ls, (nLines A : Int), af, 0, false, false, ())) (ho : LnL n h ls (linesL A (nB A + 1)))
  (hl : A.length ≤ 1000000000) (ha : a.block ≠ w.block) (hls : ∀ x, ls.base = some x → x.block ≠ w.block) (hzw : ¬ (Z w.block ∧ w.block < h0.size)) :
  DynE P it [y] h fun vs h' => vs = [] ∧ Chg (fun i => i = w.block) h h' ∧ ∃ (k : Nat) (ov : Bool), (k = nLines A ∨ (k : Int) = af) ∧ WkO m h' w (ls, (nLines A : Int), af, (k : Int), ov, false, ()) := by
 have hN := nLines_le A
 have hnB : nB A ≤ A.length := cntE_le _ _
 let J : Nat → Heap → Prop := fun c h' => Chg (fun i => i = w.block) h h' ∧ WkO m h' w (ls, (nLines A : Int), af, (c : Int), false, false, ())
 let F : Heap → Prop := fun h' => Chg (fun i => i = w.block) h h' ∧ ∃ c : Nat, (c : Int) = af ∧ WkO m h' w (ls, (nLines A : Int), af, (c : Int), true, false, ())
 have no : ∀ i, ¬ own h.size 0 i := fun i f => by have := f.1; have := f.2; omega
 refine (itg h y J F hz.1 hz hy (fun c b1 b2 j cc => ⟨j.1.trans cc fun i _ f => (no i f).elim, cc.own j.2 fun x hx => no _⟩) (fun b1 b2 j cc => ⟨j.1.trans cc fun i _ f => (no i f).elim, j.2.elim fun c hc => ⟨c, hc.1, cc.own hc.2 fun x hx => no _⟩⟩) ?_ ⟨Chg.refl _ _, o⟩).mono fun vs h' ⟨hv, s1, _, hend⟩ => ⟨hv, ?_⟩
 ·rintro c hp h1 args hc ⟨cp, op⟩ hps cc _ hz1 e
  have e : args = Ts.inj [.one (.int .i64), t4] (((c : Nat) : Int), lineD A c, ()) := e
  subst e
  have c1 : Chg (fun i => i = w.block) h h1 := cp.trans cc fun i _ f => (no i f).elim
  have o1 := cc.own op fun x hx => no _
  refine (dy _ _ h1 _ ?_).toV
  unfold F_Both_alls_1
  refine s_new4 (lineD A c) fun h2 e2 o2 => ?_
  have oa2 : Cel ma h2 a (.pointer (some w)) := (c1.own oa fun x hx f => by cases hx; exact ha f).ext e2
  refine s_cel (b := .ptr) (x := some w) oa2 (s_getO (bs := b4) o2 ?_)
  have ho2 := (c1.own ho fun x hx f => hls x hx f).ext e2
  refine wp_callW (c_met (x := lineD A c) (o1.ext e2) ho2 (by omega) hc (by omega) rfl) fun tg vs h3 ⟨ht, hv, c3, o3⟩ => ⟨ht, (_, ()), hv, s_ret ⟨rfl, _, rfl, ?_, fun hb => ?_, fun hb => ?_⟩⟩
  ·refine (Held.of_ext e2).trans (Held.of_chg c3 fun i hi hw f => ?_)
   subst f
   rcases hw with hw | hw
   ·exact no _ hw
   ·exact hzw hw
  ·have hb : notB (eqI ((c + 1 : Nat) : Int) af) = true := hb
   rw [notB_iff] at hb
   rw [hb] at o3
   exact ⟨(c1.ext e2).trans c3 fun i _ f => f, o3⟩
  ·have hb : notB (eqI ((c + 1 : Nat) : Int) af) = false := hb
   rw [notB_not] at hb
   rw [hb] at o3
   exact ⟨(c1.ext e2).trans c3 fun i _ f => f, c + 1, eqI_iff.1 hb, o3⟩
 ·rcases hend with ⟨c, o⟩ | ⟨c, k, hk, o⟩
  ·exact ⟨c, _, _, .inl rfl, o⟩
  ·exact ⟨c, k, _, .inr hk, o⟩
end Go.Sw.Piece

set_option linter.unusedVariables false
set_option linter.unusedSimpArgs false
set_option maxRecDepth 100000
namespace Go.Sw.Piece
open Go.Sw.Any Go.Sw.Codec
open Go.Sw.Tree (iv s_putAll s_newP s_getP s_getT s_putP eqI_self Placed cell_own wp_whileG minI_eq)
variable {P : Program} {S : Ids} {h : Heap} {Q : Nat → List Value → Heap → Prop}
structure ClY (P : Program) (S : Ids) : Prop where
 y1 : ∀ (k : Int) (x : LnD) (a : Option Addr), Dyn P (.func (.func S.f_Both_alls_1) #[] #[.pointer a]) (Ts.inj [.one (.int .i64), t4] (k, x, ())) (F_Both_alls_1 S k x a)
 y2 : ∀ (k : Int) (x : LnD) (a : Option Addr), Dyn P (.func (.func S.f_Both_alls_2) #[] #[.pointer a]) (Ts.inj [.one (.int .i64), t4] (k, x, ())) (F_Both_alls_2 S k x a)
 y3 : ∀ (k : Int) (x : LnD) (a b c : Option Addr), Dyn P (.func (.func S.f_Both_alls_3) #[] #[.pointer a, .pointer b, .pointer c]) (Ts.inj [.one (.int .i64), t4] (k, x, ())) (F_Both_alls_3 S k x a b c)
 y4 : ∀ (k : Int) (x : LnD) (a : Option Addr), Dyn P (.func (.func S.f_Both_alls_3_1) #[] #[.pointer a]) (Ts.inj [.one (.int .i64), t4] (k, x, ())) (F_Both_alls_3_1 S k x a)
variable {A : List Int} {n : Nat} {w v a b c : Addr} {ls : Sl}
theorem c_walk2 (Y : ClY P S) {it : Value} {h0 : Heap} {Z : Nat → Prop} {m1 m2 m3 : Nat} (itg : IterG P it (nLines A) (AL2 A) Z 0 h0) (hz : Held Z h0 h)
  (oc : Cel m1 h c it) (oa : Cel m2 h a (.pointer (some w))) (ob : Cel m3 h b (.pointer (some v))) (o : WkO 0 h w (ls, (nLines A : Int), -1, 0, false, false, ())) (o' : WkO 0 h v (ls, (nLines A : Int), -1, 0, false, false, ())) (ho : LnL n h ls (linesL A (nB A + 1)))
  (hl : A.length ≤ 1000000000) (hwv : w.block ≠ v.block) (hcn : c.block ≠ w.block ∧ c.block ≠ v.block) (han : a.block ≠ w.block ∧ a.block ≠ v.block) (hbn : b.block ≠ w.block ∧ b.block ≠ v.block) (hls : ∀ x, ls.base = some x → x.block ≠ w.block ∧ x.block ≠ v.block) (hzw : ∀ i, i = w.block ∨ i = v.block → ¬ (Z i ∧ i < h0.size)) :
  DynE P it [.func (.func S.f_Both_alls_3) #[] #[.pointer (some c), .pointer (some b), .pointer (some a)]] h fun vs h' => vs = [] ∧ Chg (fun i => i = w.block ∨ i = v.block) h h' ∧ WkO 0 h' w (ls, (nLines A : Int), -1, (nLines A : Int), false, false, ()) ∧ ∃ (k : Nat) (ov : Bool), (k = nLines A ∨ (k : Int) = -1) ∧ WkO 0 h' v (ls, (nLines A : Int), -1, (k : Int), ov, false, ()) := by
 have hN := nLines_le A
 have hnB : nB A ≤ A.length := cntE_le _ _
 let J : Nat → Heap → Prop := fun r h' => Chg (fun i => i = w.block ∨ i = v.block) h h' ∧ WkO 0 h' w (ls, (nLines A : Int), -1, (r : Int), false, false, ()) ∧ (r = 0 → WkO 0 h' v (ls, (nLines A : Int), -1, 0, false, false, ())) ∧ (0 < r → ∃ (k : Nat) (ov : Bool), (k = nLines A ∨ (k : Int) = -1) ∧ WkO 0 h' v (ls, (nLines A : Int), -1, (k : Int), ov, false, ()))
 have no : ∀ i, ¬ own h.size 0 i := fun i f => by have := f.1; have := f.2; omega
 refine (itg h _ J (fun _ => False) hz.1 hz rfl (fun r b1 b2 j cc => ⟨j.1.trans cc fun i _ f => (no i f).elim, cc.own j.2.1 fun x hx => no _, fun h => cc.own (j.2.2.1 h) fun x hx => no _, fun h => (j.2.2.2 h).elim fun k ⟨ov, hk, o⟩ => ⟨k, ov, hk, cc.own o fun x hx => no _⟩⟩) (fun _ _ f _ => f) ?_ ⟨Chg.refl _ _, o, fun _ => o', fun h => by omega⟩).mono fun vs h' ⟨hv, s1, _, hend⟩ => ⟨hv, ?_⟩
 ·rintro r hp h1 args hr ⟨cp, op, op0, op1⟩ hps cc _ hz1 e
  have e : args = Ts.inj [.one (.int .i64), t4] (((r : Nat) : Int), lineD A r, ()) := e
  subst e
  have c1 : Chg (fun i => i = w.block ∨ i = v.block) h h1 := cp.trans cc fun i _ f => (no i f).elim
  have o1 := cc.own op fun x hx => no _
  refine (Y.y3 _ _ _ _ _ h1 _ ?_).toV
  unfold F_Both_alls_3
  refine s_new4 (lineD A r) fun h2 e2 o2 => ?_
  have c12 := c1.ext e2
  have kc : ∀ {m : Nat} {x : Addr} {u : Value} {h' : Heap}, Chg (fun i => i = w.block ∨ i = v.block) h h' → x.block ≠ w.block ∧ x.block ≠ v.block → Cel m h x u → Cel m h' x u := fun cg hn o => cg.own o fun y hy f => by cases hy; exact f.elim hn.1 hn.2
  have kl : ∀ {h' : Heap}, Chg (fun i => i = w.block ∨ i = v.block) h h' → LnL n h' ls (linesL A (nB A + 1)) := fun cg => cg.own ho fun y hy f => f.elim (hls y hy).1 (hls y hy).2
  refine wp_bind (fun tag vs h3 => tag = 0 ∧ vs = [] ∧ Chg (fun i => i = v.block) h2 h3 ∧ ∃ (k : Nat) (ov : Bool), (k = nLines A ∨ (k : Int) = -1) ∧ WkO 0 h3 v (ls, (nLines A : Int), -1, (k : Int), ov, false, ())) ?_ ?_
  ·refine wp_ifB (fun hr0 => ?_) fun hr0 => ?_
   ·rw [eqI_iff] at hr0
    have hr0 : r = 0 := by omega
    refine s_cel (b := .any) (x := it) (kc c12 hcn oc) ?_
    have hz2 : Held Z h0 h2 := hz1.trans (Held.of_ext e2)
    refine wp_callv (DynE.mono (c_walk itg hz2 rfl (fun k x => Y.y4 k x _) (kc c12 hbn ob) ((cc.own (op0 hr0) fun x hx => no _).ext e2) (kl c12) hl hbn.2 (fun x hx => (hls x hx).2) (hzw _ (.inr rfl))) fun vs h3 ⟨hv, c3, k, ov, hk, o3⟩ => ⟨(), hv, s_ret ⟨rfl, rfl, c3, k, ov, hk, o3⟩⟩).toV
   ·rw [eqI_not] at hr0
    obtain ⟨k, ov, hk, ok⟩ := op1 (by omega)
    exact s_ret ⟨rfl, rfl, Chg.refl _ _, k, ov, hk, (cc.own ok fun x hx => no _).ext e2⟩
  ·rintro tag vs h3 ⟨rfl, rfl, c3, k, ov, hk, ok⟩
   have c13 : Chg (fun i => i = w.block ∨ i = v.block) h h3 := c12.trans c3 fun i _ f => .inr f
   refine s_tag (s_cast0 (s_cel (b := .ptr) (x := some w) (kc c13 han oa) (s_getO (bs := b4) (c3.own o2 fun x hx f => by cases hx; have := (o'.lt rfl).2; have := c1.1; dsimp only at f; omega) ?_)))
   have ow3 := c3.own (o1.ext e2) fun x hx f => by cases hx; exact hwv f
   refine wp_callW (c_met (x := lineD A r) ow3 (kl c13) (by omega) hr (by omega) rfl) fun tg vs h4 ⟨ht, hv, c4, o4⟩ => ⟨ht, (_, ()), hv, s_ret ⟨rfl, _, rfl, ?_, fun hb => ?_, fun hb => ?_⟩⟩
   ·have c14 : Chg (fun i => i = w.block ∨ i = v.block) h1 h4 := ((Chg.of_ext e2).trans c3 fun i _ f => .inr f).trans c4 fun i _ f => .inl f
    refine Held.of_chg c14 fun i hi hw f => ?_
    rcases hw with hw | hw
    ·exact no _ hw
    ·exact hzw i f hw
   ·have hm : eqI ((r + 1 : Nat) : Int) (-1) = false := eqI_not.2 (by omega)
    rw [hm] at o4
    exact ⟨c13.trans c4 fun i _ f => .inl f, o4, fun h => by omega, fun _ => ⟨k, ov, hk, c4.own ok fun x hx f => by cases hx; exact hwv f.symm⟩⟩
   ·have hm : eqI ((r + 1 : Nat) : Int) (-1) = false := eqI_not.2 (by omega)
    have hb : notB (eqI ((r + 1 : Nat) : Int) (-1)) = false := hb
    rw [hm] at hb
    cases hb
 ·rcases hend with ⟨cg, ow, _, ov⟩ | hf
  ·exact ⟨cg, ow, ov (by omega)⟩
  ·exact hf.elim
end Go.Sw.Piece

set_option linter.unusedVariables false
set_option linter.unusedSimpArgs false
set_option maxRecDepth 100000
namespace Go.Sw.Piece
open Go.Sw.Any Go.Sw.Codec
open Go.Sw.Tree (iv s_putAll s_newP s_getP s_getT s_putP eqI_self Placed cell_own wp_whileG minI_eq)
variable {P : Program} {S : Ids} {h : Heap} {Q : Nat → List Value → Heap → Prop}
abbrev OpD := Int × Int × Int × Int × Sl × Unit
abbrev bO : List B := [.int .i64, .int .i64, .int .i64, .int .i64, .sl]
variable {n k : Nat} {b : Addr} {T : TX} {s : Sl} {o : OpD}
theorem s_newW (x : WD) {K : Addr → Prog} (hk : ∀ h', Ext h h' → WkO h.size h' ⟨h.size, 0, none⟩ x → wp P (K ⟨h.size, 0, none⟩) h' Q) : wp P (.alloc (Bs.inj bW x) K) h Q := s_newO (bs := bW) x (by decide) hk
theorem c_alls (M : Meth0 P S) (C : Cl0 P S) (L : ClL P S) (Y : ClY P S) (B : BothR S n h b T s k) (hk : k ≤ 200) : Gives P (F_Both_alls S (some b) o) [.one .bool] h fun (y : Bool × Unit) _ => y.1 = true := by
 unfold F_Both_alls Gives
 have hfew := B.few
 have hlo := B.lo
 obtain ⟨v1, v2, v3, v4, v5, u⟩ := o
 refine s_newO (bs := bO) ((v1, v2, v3, v4, v5, u) : OpD) (by decide) fun h1 e1 o1 => (B.ext e1).c1 (wp_call (c_refAll (B.ext e1).at_.lst (by omega)) fun ⟨(ls : Sl), (nl : Int), _⟩ h2 e2 ⟨ho, hnl⟩ => ?_)
 have ho : LnL h1.size h2 ls (linesL (txA T) (nB (txA T) + 1)) := ho
 have hnl : nl = nLines (txA T) := hnl
 subst hnl
 have e12 := e1.trans e2
 refine (B.ext e12).c0 (wp_call (c_lAll (B.ext e12).t) fun ⟨(it : Value), _⟩ h3 e3 ⟨ai, hit, oi⟩ => ?_)
 have hit : it = .func (.func S.f_lines_All_1) #[] #[.pointer (some ai)] := hit
 subst hit
 have e13 := e12.trans e3
 have B3 := B.ext e13
 have q1 := e1.size; have q2 := e2.size; have q3 := e3.size
 have la := oi.lt rfl
 have hlsb : ∀ x, ls.base = some x → x.block < h2.size := fun x hx => (ho.lt hx).2
 have itg := iter_lines M C L (Z := fun i => T.Z i ∨ i = ai.block) B3.t (fun i hi => .inl hi) (cell_own oi) (.inr rfl)
 have zlt : ∀ i, (T.Z i ∨ i = ai.block) → i < h3.size := fun i hi => by
  rcases hi with hi | rfl
  ·exact (B3.t.lo i hi).2
  ·exact la.2
 dsimp only
 refine s_newput _ (.func (.func S.f_lines_All_1) #[] #[.pointer (some ai)]) rfl fun h4 e4 o4 => ?_
 have la3 := (o4.lt rfl)
 have q4 := e4.size
 dsimp only at la3
 let it : Value := .func (.func S.f_lines_All_1) #[] #[.pointer (some ai)]
 have hN := nLines_le (txA T)
 have hnB : nB (txA T) ≤ (txA T).length := cntE_le _ _
 refine s_cel (b := .any) (x := it) o4 (wp_grd rfl (s_ifF (s_cell (b := .int .i64) v3 rfl ((o1.ext e2).ext (e3.trans e4)).cells rfl ?_)))
 have ho4 := (ho.ext e3).ext e4
 have l34 : h3.size < h4.size := la3.2
 refine s_newW (ls, (nLines (txA T) : Int), v3, 0, false, false, ()) fun h5 e5 w5 => s_newput _ (.pointer (some ⟨h4.size, 0, none⟩)) rfl fun h6 e6 o6 => s_cel (b := .any) (x := it) (o4.ext (e5.trans e6)) ?_
 have l45 : h4.size < h5.size := (w5.lt rfl).2
 have l56 : h5.size < h6.size := (o6.lt rfl).2
 have e46 := e5.trans e6
 have zw : ∀ {i : Nat}, h3.size ≤ i → ¬ ((T.Z i ∨ i = ai.block) ∧ i < h3.size) := fun hi f => by have := f.2; omega
 refine wp_callv (DynE.mono (c_walk (w := ⟨h4.size, 0, none⟩) itg (Held.of_ext (e4.trans e46)) rfl (fun k x => Y.y1 k x _) o6 (w5.ext e6) (ho4.ext e46) (by omega) (by dsimp only; omega) (fun x hx => by have := hlsb x hx; dsimp only; omega) (zw (by dsimp only; omega))) fun vs h7 ⟨hv, c7, k1, ov1, hk1, w7⟩ => ⟨(), hv, ?_⟩).toV
 have x7 : Ext h4 h7 := Keep.trans e46 (c7.keep (by omega) fun i hi f => by dsimp only at f; omega)
 have o67 : Cel h5.size h7 ⟨h5.size, 0, none⟩ (.pointer (some ⟨h4.size, 0, none⟩)) := c7.own o6 fun x hx f => by cases hx; dsimp only at f; omega
 have q7 := c7.1
 refine s_newW (ls, (nLines (txA T) : Int), -1, 0, false, false, ()) fun h8 e8 w8 => s_newput _ (.pointer (some ⟨h7.size, 0, none⟩)) rfl fun h9 e9 o9 => ?_
 have l78 : h7.size < h8.size := (w8.lt rfl).2
 have l89 : h8.size < h9.size := (o9.lt rfl).2
 have e79 := e8.trans e9
 have x9 := x7.trans e79
 refine s_cel (b := .any) (x := it) (o4.ext x9) ?_
 refine wp_callv (DynE.mono (c_walk (w := ⟨h7.size, 0, none⟩) itg (Held.of_ext (e4.trans x9)) rfl (fun k x => Y.y2 k x _) o9 (w8.ext e9) (ho4.ext x9) (by omega) (by dsimp only; omega) (fun x hx => by have := hlsb x hx; dsimp only; omega) (zw (by dsimp only; omega))) fun vs h10 ⟨hv, c10, k2, ov2, hk2, w10⟩ => ⟨(), hv, ?_⟩).toV
 have y10 : Ext h7 h10 := Keep.trans e79 (c10.keep (by omega) fun i hi f => by dsimp only at f; omega)
 have x10 := x7.trans y10
 have o910 : Cel h8.size h10 ⟨h8.size, 0, none⟩ (.pointer (some ⟨h7.size, 0, none⟩)) := c10.own o9 fun x hx f => by cases hx; dsimp only at f; omega
 have q10 := c10.1
 refine s_newW (ls, (nLines (txA T) : Int), -1, 0, false, false, ()) fun h11 e11 w11 => s_newput _ (.pointer (some ⟨h10.size, 0, none⟩)) rfl fun h12 e12' o12 => ?_
 refine s_newW (ls, (nLines (txA T) : Int), -1, 0, false, false, ()) fun h13 e13' w13 => s_newput _ (.pointer (some ⟨h12.size, 0, none⟩)) rfl fun h14 e14 o14 => ?_
 have l1011 : h10.size < h11.size := (w11.lt rfl).2
 have l1112 : h11.size < h12.size := (o12.lt rfl).2
 have l1213 : h12.size < h13.size := (w13.lt rfl).2
 have l1314 : h13.size < h14.size := (o14.lt rfl).2
 have ea := (e11.trans e12').trans (e13'.trans e14)
 have x14 := x10.trans ea
 refine s_cel (b := .any) (x := it) (o4.ext x14) ?_
 refine wp_callv (DynE.mono (c_walk2 (w := ⟨h10.size, 0, none⟩) (v := ⟨h12.size, 0, none⟩) Y itg (Held.of_ext (e4.trans x14)) (o4.ext x14) (o12.ext (e13'.trans e14)) o14 ((w11.ext (e12'.trans (e13'.trans e14))).mono (Nat.zero_le _)) ((w13.ext e14).mono (Nat.zero_le _)) (ho4.ext x14) (by omega) (by dsimp only; omega) ⟨by dsimp only; omega, by dsimp only; omega⟩ ⟨by dsimp only; omega, by dsimp only; omega⟩ ⟨by dsimp only; omega, by dsimp only; omega⟩ (fun x hx => by have := hlsb x hx; exact ⟨by dsimp only; omega, by dsimp only; omega⟩) fun i hi => zw (by dsimp only at hi; omega)) fun vs h15 ⟨hv, c15, w15, k4, ov4, hk4, v15⟩ => ⟨(), hv, ?_⟩).toV
 have y15 : Ext h10 h15 := Keep.trans ea (c15.keep (by omega) fun i hi f => by dsimp only at f; omega)
 have y7 := y10.trans y15
 have o12' : Cel h11.size h15 ⟨h11.size, 0, none⟩ (.pointer (some ⟨h10.size, 0, none⟩)) := c15.own (o12.ext (e13'.trans e14)) fun x hx f => by cases hx; dsimp only at f; omega
 have o14' : Cel h13.size h15 ⟨h13.size, 0, none⟩ (.pointer (some ⟨h12.size, 0, none⟩)) := c15.own o14 fun x hx f => by cases hx; dsimp only at f; omega
 have xf : Ext h h15 := (e13.trans e4).trans (x10.trans y15)
 refine bind_bool True (s_cel (b := .ptr) (x := some ⟨h4.size, 0, none⟩) (o67.ext y7) (wp_call (c_well (w7.ext y7) hk1) fun ⟨(r : Bool), _⟩ g1 f1 hr => ?_)) fun bb h16 e16 hb => s_ret ⟨rfl, xf.trans e16, (bb, ()), rfl, hb.2 trivial⟩
 have hr : r = true := hr
 subst hr
 refine s_ifT (s_cel (b := .ptr) (x := some ⟨h7.size, 0, none⟩) ((o910.ext y15).ext f1) (wp_call (c_well ((w10.ext y15).ext f1) hk2) fun ⟨(r : Bool), _⟩ g2 f2 hr => ?_))
 have hr : r = true := hr
 subst hr
 have f12 := f1.trans f2
 refine s_ifT (s_cel (b := .ptr) (x := some ⟨h10.size, 0, none⟩) (o12'.ext f12) (wp_call (c_well (w15.ext f12) (.inl rfl)) fun ⟨(r : Bool), _⟩ g3 f3 hr => ?_))
 have hr : r = true := hr
 subst hr
 have f13 := f12.trans f3
 refine s_ifT (s_cel (b := .ptr) (x := some ⟨h12.size, 0, none⟩) (o14'.ext f13) (wp_call (c_well (v15.ext f13) hk4) fun ⟨(r : Bool), _⟩ g4 f4 hr => s_ret ⟨rfl, f13.trans f4, r, rfl, ?_⟩))
 have hr : r = true := hr
 exact ⟨fun _ => trivial, fun _ => hr⟩
end Go.Sw.Piece

set_option linter.unusedVariables false
set_option linter.unusedSimpArgs false
set_option maxRecDepth 100000
namespace Go.Sw.Piece
open Go.Sw.Any Go.Sw.Codec
open Go.Sw.Tree (iv s_putAll s_newP s_getP s_getT s_putP eqI_self Placed cell_own wp_whileG minI_eq)
variable {P : Program} {S : Ids} {h : Heap} {Q : Nat → List Value → Heap → Prop}
variable {n k : Nat} {b : Addr} {T : TX} {s : Sl} {o : OpD}
theorem c_counts (M : Meth0 P S) (C : Cl0 P S) (L : ClL P S) (B : BothR S n h b T s k) (hk : k ≤ 200) : Gives P (F_Both_counts S (some b) o) [.one .bool] h fun (y : Bool × Unit) _ => y.1 = true := by
 unfold F_Both_counts Gives
 have hfew := B.few
 obtain ⟨v1, v2, v3, v4, v5, u⟩ := o
 refine s_newO (bs := bO) ((v1, v2, v3, v4, v5, u) : OpD) (by decide) fun h1 e1 o1 => s_cell (b := .int .i64) v2 rfl o1.cells rfl (wp_ifB (fun _ => ?_) fun _ => wp_ifB (fun _ => ?_) fun _ => ?_)
 ·refine (B.ext e1).c0 ((B.ext e1).c1 (wp_call (c_lCount M C (B.ext e1).t) fun ⟨(x : Int), _⟩ h2 e2 hx => ?_))
  have hx : x = nLines (txA T) := hx
  have e12 := e1.trans e2
  refine s_ckC (B.ext e12).ob.cells rfl (wp_call (c_refCount (B.ext e12).at_.lst (by omega)) fun ⟨(y : Int), _⟩ h3 e3 hy => s_ret ⟨rfl, e12.trans e3, (_, ()), rfl, ?_⟩)
  have hy : y = nLines (txA T) := hy
  exact eqI_iff.2 (hx.trans hy.symm)
 ·refine (B.ext e1).c0 (wp_call (c_lKinds M C L (B.ext e1).t) fun ⟨(x : LnD), _⟩ h2 e2 hx => ?_)
  have hx : x = kindsD (txA T) (nLines (txA T)) := hx
  refine s_newput4 z4 x fun h3 e3 o3 => ?_
  have e13 := (e1.trans e2).trans e3
  refine (B.ext e13).c1 (wp_call (c_refKinds (B.ext e13).at_.lst (by omega)) fun ⟨(y : LnD), _⟩ h4 e4 hy => ?_)
  have hy : y = kindsD (txA T) (nLines (txA T)) := hy
  refine s_newput4 z4 y fun h5 e5 o5 => ?_
  have hxy : y = x := hy.trans hx.symm
  subst hxy
  have c3 := (o3.ext (e4.trans e5)).cells
  have c5 := o5.cells
  refine bind_bool True ?_ fun bb h6 e6 hb => s_ret ⟨rfl, (e13.trans (e4.trans e5)).trans e6, (bb, ()), rfl, hb.2 trivial⟩
  have no : ∀ {x : Int}, ¬ eqI x x = false := fun hh => by rw [eqI_not] at hh; exact hh rfl
  refine s_cell (b := .int .i64) y.1 rfl c3 rfl (s_cell (b := .int .i64) y.1 rfl c5 rfl (wp_ifB (fun _ => ?_) fun hh => absurd hh no))
  refine s_cell (b := .int .i64) y.2.1 rfl c3 rfl (s_cell (b := .int .i64) y.2.1 rfl c5 rfl (wp_ifB (fun _ => ?_) fun hh => absurd hh no))
  refine s_cell (b := .int .i64) y.2.2.1 rfl c3 rfl (s_cell (b := .int .i64) y.2.2.1 rfl c5 rfl (wp_ifB (fun _ => ?_) fun hh => absurd hh no))
  refine s_cell (b := .int .i64) y.2.2.2.1 rfl c3 rfl (s_cell (b := .int .i64) y.2.2.2.1 rfl c5 rfl (s_ret ⟨rfl, Ext.refl _, _, rfl, ?_⟩))
  exact ⟨fun _ => trivial, fun _ => eqI_iff.2 rfl⟩
 ·refine (B.ext e1).c0 (s_cell (b := .int .i64) v3 rfl o1.cells rfl ((B.ext e1).c1 (s_cell (b := .int .i64) v3 rfl o1.cells rfl (wp_call (c_lNative M C (B.ext e1).t) fun ⟨(x : Int), _⟩ h2 e2 hx => ?_))))
  have hx : x = nativeF (txA T) v3 := hx
  have e12 := e1.trans e2
  refine s_ckC (o1.ext e2).cells rfl (s_ckC (B.ext e12).ob.cells rfl (wp_call (c_refNative (B.ext e12).at_.lst (by omega)) fun ⟨(y : Int), _⟩ h3 e3 hy => s_ret ⟨rfl, e12.trans e3, (_, ()), rfl, ?_⟩))
  have hy : y = nativeF (txA T) v3 := hy
  exact eqI_iff.2 (hx.trans hy.symm)
theorem c_ats (M : Meth0 P S) (C : Cl0 P S) (B : BothR S n h b T s k) (hk : k ≤ 200) : Gives P (F_Both_ats S (some b) o) [.one .bool] h fun (y : Bool × Unit) _ => y.1 = true := by
 unfold F_Both_ats Gives
 have hfew := B.few
 obtain ⟨v1, v2, v3, v4, v5, u⟩ := o
 refine s_newO (bs := bO) ((v1, v2, v3, v4, v5, u) : OpD) (by decide) fun h1 e1 o1 => ?_
 refine bind_val (tys := [.one .ptr, .one (.int .i64)]) (fun (x : Option Addr × Int × Unit) h' => ∃ (a : Addr) (m : Nat) (y : LnD × Int × Unit), x.1 = some a ∧ x.2.1 = y.2.1 ∧ Own4 m h' a y.1 ∧ AtR (txA T) v3 y) ?_ fun ⟨(pa : Option Addr), (ea : Int), _⟩ h2 e2 ⟨aa, ma, ya, hpa, hea, oa, ra⟩ => ?_
 ·constructor
  ·refine (B.ext e1).c0 (s_cell (b := .int .i64) v3 rfl o1.cells rfl (wp_call (c_lAt M C (B.ext e1).t) fun y h2 e2 hy => s_new4 z4 fun h3 e3 o3 => ?_))
   have e23 := e2.trans e3
   refine s_ckC (o1.ext e23).cells rfl (s_ckC ((B.ext e1).ext e23).ob.cells rfl (s_sto4 y.1 o3 fun h4 o4 u4 => s_ret ⟨rfl, Upd.extN e23 u4 (by intro z hz; cases hz; exact e2.size), (some _, y.2.1, ()), rfl, _, _, y, rfl, rfl, o4, hy⟩))
  ·refine (B.ext e1).c0 (s_cell (b := .int .i64) v3 rfl o1.cells rfl (s_new4 z4 fun h2 e2 o2 => s_ckC (o1.ext e2).cells rfl (s_ckC ((B.ext e1).ext e2).ob.cells rfl (wp_call (c_lAt M C ((B.ext e1).ext e2).t) fun y h3 e3 hy => s_sto4 y.1 (o2.ext e3) fun h4 o4 u4 => s_ret ⟨rfl, Upd.extN (e2.trans e3) u4 (by intro z hz; cases hz; exact Nat.le_refl _), (some _, y.2.1, ()), rfl, _, _, y, rfl, rfl, o4, hy⟩))))
 have e12 := e1.trans e2
 have B2 := B.ext e12
 refine bind_val (tys := [.one .ptr, .one (.int .i64)]) (fun (x : Option Addr × Int × Unit) h' => ∃ (a : Addr) (m : Nat) (y : LnD × Int × Unit), x.1 = some a ∧ x.2.1 = y.2.1 ∧ Own4 m h' a y.1 ∧ AtR (txA T) v3 y) ?_ fun ⟨(pb : Option Addr), (eb : Int), _⟩ h3 e3 ⟨ab, mb, yb, hpb, heb, ob, rb⟩ => ?_
 ·have o1' := o1.ext e2
  constructor
  ·refine B2.c1 (s_cell (b := .int .i64) v3 rfl o1'.cells rfl (wp_call (c_refAt B2.at_.lst (by omega)) fun y h2 e2 hy => s_new4 z4 fun h3 e3 o3 => ?_))
   have e23 := e2.trans e3
   refine s_ckC (o1'.ext e23).cells rfl (s_ckC (B2.ext e23).ob.cells rfl (s_sto4 y.1 o3 fun h4 o4 u4 => s_ret ⟨rfl, Upd.extN e23 u4 (by intro z hz; cases hz; exact e2.size), (some _, y.2.1, ()), rfl, _, _, y, rfl, rfl, o4, hy⟩))
  ·refine B2.c1 (s_cell (b := .int .i64) v3 rfl o1'.cells rfl (s_new4 z4 fun h2 e2 o2 => s_ckC (o1'.ext e2).cells rfl (s_ckC (B2.ext e2).ob.cells rfl (wp_call (c_refAt (B2.ext e2).at_.lst (by omega)) fun y h3 e3 hy => s_sto4 y.1 (o2.ext e3) fun h4 o4 u4 => s_ret ⟨rfl, Upd.extN (e2.trans e3) u4 (by intro z hz; cases hz; exact Nat.le_refl _), (some _, y.2.1, ()), rfl, _, _, y, rfl, rfl, o4, hy⟩))))
 have hpa : pa = some aa := hpa
 have hpb : pb = some ab := hpb
 have hea : ea = ya.2.1 := hea
 have heb : eb = yb.2.1 := heb
 subst hpa; subst hpb; subst hea; subst heb
 have same : ya.1 = yb.1 ∧ ya.2.1 = yb.2.1 := by
  by_cases hc : 0 ≤ v3 ∧ v3 ≤ nB (txA T)
  ·obtain ⟨a1, a2⟩ := ra.1 hc; obtain ⟨b1, b2⟩ := rb.1 hc
   exact ⟨a1.trans b1.symm, a2.trans b2.symm⟩
  ·obtain ⟨a1, a2⟩ := ra.2 hc; obtain ⟨b1, b2⟩ := rb.2 hc
   exact ⟨a1.trans b1.symm, a2.trans b2.symm⟩
 refine bind_bool True (s_getO (bs := b4) (oa.ext e3) (s_getO (bs := b4) ob (wp_call (c_line ya.1 yb.1) fun ⟨(r : Bool), _⟩ h4 e4 hr => wp_ifB (fun _ => s_ret ⟨rfl, e4, _, rfl, ⟨fun _ => trivial, fun _ => eqI_iff.2 same.2⟩⟩) fun hh => ?_))) fun bb h4 e4 hb => s_ret ⟨rfl, (e12.trans e3).trans e4, (bb, ()), rfl, hb.2 trivial⟩
 have hr : r = true := hr.2 (by rw [same.1])
 have hh : r = false := hh
 rw [hr] at hh; cases hh
theorem c_typeds (M : Meth0 P S) (C : Cl0 P S) (B : BothR S n h b T s k) (hk : k ≤ 200) {l : List Int} (hl : Lst .i64 h o.2.2.2.2.1 l) (hll : l.length ≤ 1073741824) : Gives P (F_Both_typeds S (some b) o) [.one .bool] h fun (y : Bool × Unit) _ => y.1 = true := by
 unfold F_Both_typeds Gives
 have hfew := B.few
 obtain ⟨v1, v2, v3, v4, v5, u⟩ := o
 have hl : Lst .i64 h v5 l := hl
 refine s_newO (bs := bO) ((v1, v2, v3, v4, v5, u) : OpD) (by decide) fun h1 e1 o1 => ?_
 refine (B.ext e1).c0 (s_cell (b := .int .i64) v3 rfl o1.cells rfl (s_cell (b := .sl) v5 rfl o1.cells rfl (s_cell (b := .int .i64) v4 rfl o1.cells rfl (wp_call (c_copied (hl.ext e1) (by omega)) fun ⟨(w : Sl), _⟩ h2 e2 ow => ?_))))
 have ow : OwnL h1.size .i64 h2 w l := ow
 have e12 := e1.trans e2
 have o2 := o1.ext e2
 refine s_ckC o2.cells rfl (s_ckC o2.cells rfl (s_ckC (B.ext e12).ob.cells rfl (wp_call (c_lTyped M C (B.ext e12).t ow.lst hll) fun ⟨(x : Sl), (ex : Int), _⟩ h3 e3 ⟨ox, hex⟩ => ?_)))
 have ox : OwnL h2.size .i64 h3 x (typedF (txA T) v3 v4 l).1 := ox
 have hex : ex = (typedF (txA T) v3 v4 l).2 := hex
 have e13 := e12.trans e3
 have o3 := o2.ext e3
 refine (B.ext e13).c1 (s_cell (b := .int .i64) v3 rfl o3.cells rfl (s_cell (b := .sl) v5 rfl o3.cells rfl (s_cell (b := .int .i64) v4 rfl o3.cells rfl (wp_call (c_refTyped (B.ext e13).at_.lst (by omega) (hl.ext e13) hll) fun ⟨(y : Sl), (ey : Int), _⟩ h4 e4 ⟨oy, hey⟩ => ?_))))
 have oy : OwnL h3.size .i64 h4 y (typedF (txA T) v3 v4 l).1 := oy
 have hey : ey = (typedF (txA T) v3 v4 l).2 := hey
 refine bind_bool True (wp_call (c_same6 (ox.ext e4).lst oy.lst) fun ⟨(r : Bool), _⟩ h5 e5 hr => wp_ifB (fun _ => s_ret ⟨rfl, e5, _, rfl, ⟨fun _ => trivial, fun _ => eqI_iff.2 (hex.trans hey.symm)⟩⟩) fun hh => ?_) fun bb h5 e5 hb => s_ret ⟨rfl, (e13.trans e4).trans e5, (bb, ()), rfl, hb.2 trivial⟩
 have hr : r = decide ((typedF (txA T) v3 v4 l).1 = (typedF (txA T) v3 v4 l).1) := hr
 rw [decide_eq_true rfl] at hr
 have hh : r = false := hh
 rw [hr] at hh; cases hh
theorem c_wholes (M : Meth0 P S) (C : Cl0 P S) (B : BothR S n h b T s k) (hk : k ≤ 200) : Gives P (F_Both_wholes S (some b) o) [.one .bool] h fun (y : Bool × Unit) _ => y.1 = true := by
 unfold F_Both_wholes Gives
 have hfew := B.few
 obtain ⟨v1, v2, v3, v4, v5, u⟩ := o
 refine s_newO (bs := bO) ((v1, v2, v3, v4, v5, u) : OpD) (by decide) fun h1 e1 o1 => ?_
 refine bind_val (tys := [.one .ptr, .one (.int .i64)]) (fun (x : Option Addr × Int × Unit) h' => ∃ (a : Addr) (m : Nat) (y : SpD), x.1 = some a ∧ Own m 1 h' ⟨some a, 3, 3⟩ (Bs.inj b3 y) ∧ (y, x.2.1) = wholeF (txA T) v3 v4) ?_ fun ⟨(pa : Option Addr), (ea : Int), _⟩ h2 e2 ⟨aa, ma, ya, hpa, oa, ra⟩ => ?_
 ·constructor
  ·refine (B.ext e1).c0 (s_cell (b := .int .i64) v3 rfl o1.cells rfl (s_cell (b := .int .i64) v4 rfl o1.cells rfl (wp_call (c_lWhole M C (B.ext e1).t) fun y h2 e2 hy => s_newO (bs := b3) ((0, 0, 0, ()) : SpD) (by decide) fun h3 e3 o3 => ?_)))
   have e23 := e2.trans e3
   have o13 := o1.ext e23
   refine s_ckC o13.cells rfl (s_ckC o13.cells rfl (s_ckC ((B.ext e1).ext e23).ob.cells rfl (s_stoO (bs := b3) y.1 o3 flat3i fun h4 o4 u4 => s_ret ⟨rfl, Upd.extN e23 u4 (by intro z hz; cases hz; exact e2.size), (some _, y.2.1, ()), rfl, _, _, y.1, rfl, o4, hy⟩)))
  ·refine (B.ext e1).c0 (s_cell (b := .int .i64) v3 rfl o1.cells rfl (s_cell (b := .int .i64) v4 rfl o1.cells rfl (s_newO (bs := b3) ((0, 0, 0, ()) : SpD) (by decide) fun h2 e2 o2 => s_ckC (o1.ext e2).cells rfl (s_ckC (o1.ext e2).cells rfl (s_ckC ((B.ext e1).ext e2).ob.cells rfl (wp_call (c_lWhole M C ((B.ext e1).ext e2).t) fun y h3 e3 hy => s_stoO (bs := b3) y.1 (o2.ext e3) flat3i fun h4 o4 u4 => s_ret ⟨rfl, Upd.extN (e2.trans e3) u4 (by intro z hz; cases hz; exact Nat.le_refl _), (some _, y.2.1, ()), rfl, _, _, y.1, rfl, o4, hy⟩))))))
 have e12 := e1.trans e2
 have B2 := B.ext e12
 have o2 := o1.ext e2
 have hpa : pa = some aa := hpa
 subst hpa
 have ra : (ya, ea) = wholeF (txA T) v3 v4 := ra
 refine B2.c1 (s_cell (b := .int .i64) v3 rfl o2.cells rfl (s_cell (b := .int .i64) v4 rfl o2.cells rfl (wp_call (c_refWhole B2.at_.lst (by omega)) fun y h3 e3 hy => ?_)))
 rw [← ra] at hy
 subst hy
 have key : ya.2.2.1 = if ea = 0 then 1 else 0 := by
  unfold wholeF at ra
  split at ra
  ·obtain ⟨r1, r2⟩ := Prod.mk.inj ra; subst r1; subst r2; rfl
  ·obtain ⟨r1, r2⟩ := Prod.mk.inj ra; subst r1; subst r2; rfl
 refine bind_val (tys := [.one (.int .i64)]) (fun (x : Int × Unit) _ => x.1 = ya.2.2.1) (wp_ifB (fun hh => s_ret ⟨rfl, Ext.refl _, (1, ()), rfl, ?_⟩) fun hh => s_ret ⟨rfl, Ext.refl _, (0, ()), rfl, ?_⟩) fun ⟨(f : Int), _⟩ h4 e4 hf => ?_
 ·rw [eqI_iff] at hh; rw [key, if_pos hh]
 ·rw [eqI_not] at hh; rw [key, if_neg hh]
 have hf : f = ya.2.2.1 := hf
 subst hf
 have c4 := (oa.ext (e3.trans e4)).cells
 refine bind_bool True ?_ fun bb h6 e6 hb => s_ret ⟨rfl, (e12.trans (e3.trans e4)).trans e6, (bb, ()), rfl, hb.2 trivial⟩
 have no : ∀ {x : Int}, ¬ eqI x x = false := fun hh => by rw [eqI_not] at hh; exact hh rfl
 refine wp_grd rfl (s_cell (b := .int .i64) ya.1 rfl c4 rfl (wp_ifB (fun _ => ?_) fun hh => absurd hh no))
 refine wp_grd rfl (s_cell (b := .int .i64) ya.2.1 rfl c4 rfl (wp_ifB (fun _ => ?_) fun hh => absurd hh no))
 refine wp_grd rfl (s_cell (b := .int .i64) ya.2.2.1 rfl c4 rfl (wp_ifB (fun _ => s_ret ⟨rfl, Ext.refl _, _, rfl, ⟨fun _ => trivial, fun _ => eqI_iff.2 rfl⟩⟩) fun hh => absurd hh no))
end Go.Sw.Piece

set_option linter.unusedVariables false
set_option linter.unusedSimpArgs false
set_option maxRecDepth 100000
namespace Go.Sw.Piece
open Go.Sw.Any Go.Sw.Codec
open Go.Sw.Tree (iv s_putAll s_newP s_getP s_getT s_putP eqI_self Placed cell_own wp_whileG minI_eq)
variable {P : Program} {S : Ids} {h : Heap} {Q : Nat → List Value → Heap → Prop}
variable {n k : Nat} {b : Addr} {T : TX} {s : Sl} {o : OpD}
theorem BothR.more (B : BothR S n h b T s k) : BothR S n h b T s (k + 1) := ⟨B.t, B.ob, B.at_, B.limit, by have := B.len; omega, by have := B.A; omega, B.db, B.da⟩
def PlayR (S : Ids) (n : Nat) (b : Addr) (T : TX) (s : Sl) (k : Nat) (h h' : Heap) : Prop := Chg (bF b T s) h h' ∧ ∃ T' s', BothR S n h' b T' s' (k + 1) ∧ ∀ i, bF b T' s' i → bF b T s i ∨ h.size ≤ i
theorem PlayR.of_ext {h' : Heap} (B : BothR S n h b T s k) (e : Ext h h') : PlayR S n b T s k h h' := ⟨Chg.of_ext e, T, s, (B.ext e).more, fun i hi => .inl hi⟩
theorem c_played (M : Meth0 P S) (C : Cl0 P S) (L : ClL P S) (Y : ClY P S) {lo hi : Int} (B : BothR S n h b T s k) (hn : n ≤ h.size) (hk : k < 200) {l : List Int} (hl : Lst .i64 h o.2.2.2.2.1 l) (hll : lo ≤ 8 → 8 ≤ hi → l.length ≤ 1073741824) (hx : fitsI .i64 o.2.2.1) (hm : fitsI .i64 o.2.2.2.1) :
  wp P (F_Both_played S (some b) o lo hi) h fun tg vs h' => tg = 0 ∧ vs = [.bool true] ∧ PlayR S n b T s k h h' := by
 unfold F_Both_played
 have hfew := B.few
 have hlo := B.lo
 obtain ⟨v1, v2, v3, v4, v5, u⟩ := o
 have hl : Lst .i64 h v5 l := hl
 have hx : fitsI .i64 v3 := hx
 have hm : fitsI .i64 v4 := hm
 refine s_newO (bs := bO) ((v1, v2, v3, v4, v5, u) : OpD) (by decide) fun h1 e1 o1 => s_cell (b := .int .i64) v2 rfl o1.cells rfl (wp_ifB (fun _ => ?_) fun _ => ?_)
 ·refine s_cell (b := .int .i64) v3 rfl o1.cells rfl (s_cell (b := .int .i64) v4 rfl o1.cells rfl (s_cell (b := .sl) v5 rfl o1.cells rfl ?_))
  have q1 := e1.size
  refine wp_callW (c_edited M (B.ext e1) (by omega) hk hx hm (hl.ext e1)) fun tg vs h2 ⟨ht, hv, c2, T', s', B', hg, _, _⟩ => ⟨ht, (true, ()), hv, s_ret ⟨rfl, rfl, Chg.pre e1 c2, T', s', B', fun i hi => (hg i hi).imp id fun h => by omega⟩⟩
 refine bind_bool (v2 < lo ∨ hi < v2) ?_ fun bb h2 e2 hb => wp_ifB (fun _ => s_ret ⟨rfl, rfl, PlayR.of_ext B (e1.trans e2)⟩) fun hin => ?_
 ·refine s_cell (b := .int .i64) v2 rfl o1.cells rfl (wp_ifB (fun hc => s_ret ⟨rfl, Ext.refl _, true, rfl, Iff.intro (fun _ => .inl (ltI_iff.1 hc)) fun _ => rfl⟩) fun hc => s_cell (b := .int .i64) v2 rfl o1.cells rfl (s_ret ⟨rfl, Ext.refl _, _, rfl, ?_⟩))
  rw [ltI_not] at hc
  rw [gtI_iff]
  exact ⟨fun h => .inr h, fun h => by rcases h with h | h; omega; exact h⟩
 have hin : ¬ (v2 < lo ∨ hi < v2) := fun h => by have hin : bb = false := hin; rw [hb.2 h] at hin; cases hin
 have e12 := e1.trans e2
 have B2 := B.ext e12
 have o2 := o1.ext e2
 have hl2 := hl.ext e12
 have hk' : k ≤ 200 := by omega
 refine wp_bind (fun tag vs h' => Ext h2 h' ∧ (tag = 1 ∧ vs = [.bool true] ∨ tag = 0 ∧ vs = [])) ?_ ?_
 ·have one : ∀ (p : OpD → Prog), Gives P (p (v1, v2, v3, v4, v5, u)) [.one .bool] h2 (fun (y : Bool × Unit) _ => y.1 = true) → wp P (.load (.agg bO) (some ⟨h.size, 0, none⟩) fun (r : OpD) => .call (p (r.1, r.2.1, r.2.2.1, r.2.2.2.1, r.2.2.2.2.1, ())) [.one .bool] fun (r : Bool × Unit) => .ret 1 [.bool r.1]) h2 (fun tag vs h' => Ext h2 h' ∧ (tag = 1 ∧ vs = [.bool true] ∨ tag = 0 ∧ vs = [])) := fun p g =>
   s_getO (bs := bO) o2 (wp_call g fun ⟨(r : Bool), _⟩ h3 e3 hr => s_ret ⟨e3, .inl ⟨rfl, by have hr : r = true := hr; rw [hr]⟩⟩)
  have aC := one (F_Both_counts S (some b)) (c_counts (o := (v1, v2, v3, v4, v5, u)) M C L B2 hk')
  have aA := one (F_Both_ats S (some b)) (c_ats (o := (v1, v2, v3, v4, v5, u)) M C B2 hk')
  have aL := one (F_Both_alls S (some b)) (c_alls (o := (v1, v2, v3, v4, v5, u)) M C L Y B2 hk')
  have aT := fun (h8 : eqI v2 8 = true) => one (F_Both_typeds S (some b)) (c_typeds (o := (v1, v2, v3, v4, v5, u)) M C B2 hk' hl2 (hll (by rw [eqI_iff] at h8; omega) (by rw [eqI_iff] at h8; omega)))
  have aW := one (F_Both_wholes S (some b)) (c_wholes (o := (v1, v2, v3, v4, v5, u)) M C B2 hk')
  have aO : wp P (grd (someB (some b)) <| grd (someB (some b)) <| .load (.one .ptr) (shiftTo (some b) 0) fun (p : Option Addr) => .load (.one (.int .i64)) (shiftTo (some ⟨h.size, 0, none⟩) 2) fun (n182 : Int) => grd (someB (some b)) <| grd (someB (some b)) <| .load (.one .sl) (shiftTo (some b) 1) fun (l183 : Sl) => .load (.one (.int .i64)) (shiftTo (some ⟨h.size, 0, none⟩) 2) fun (n184 : Int) =>
    .call (F_lines_Of S p n182) [.one (.int .i64)] fun (r185 : Int × Unit) => .check (shiftTo (some ⟨h.size, 0, none⟩) 2) [.int .i64 n184] <| .check (shiftTo (some b) 1) [slv l183] <| .call (F_ref6_Of S l183 n184) [.one (.int .i64)] fun (r186 : Int × Unit) => .ret 1 [.bool (eqI r185.1 r186.1)]) h2 (fun tag vs h' => Ext h2 h' ∧ (tag = 1 ∧ vs = [.bool true] ∨ tag = 0 ∧ vs = [])) := by
   refine B2.c0 (s_cell (b := .int .i64) v3 rfl o2.cells rfl (B2.c1 (s_cell (b := .int .i64) v3 rfl o2.cells rfl (wp_call (c_lOf M C B2.t) fun ⟨(x : Int), _⟩ h3 e3 hx => s_ckC (o2.ext e3).cells rfl (s_ckC (B2.ext e3).ob.cells rfl (wp_call (c_refOf (B2.ext e3).at_.lst (by omega)) fun ⟨(y : Int), _⟩ h4 e4 hy => s_ret ⟨e3.trans e4, .inl ⟨rfl, ?_⟩⟩))))))
   have hx : x = _ := hx
   have hy : y = _ := hy
   have : eqI x y = true := eqI_iff.2 (hx.trans hy.symm)
   show [Value.bool (eqI x y)] = _
   rw [this]
  exact s_cell (b := .int .i64) v2 rfl o2.cells rfl (
   wp_ifB (fun _ => wp_ifB (fun _ => aC) fun _ => wp_ifB (fun _ => aA) fun _ => wp_ifB (fun _ => aO) fun _ => wp_ifB (fun _ => aL) fun _ => wp_ifB aT fun _ => wp_ifB (fun _ => aW) fun _ => s_ret ⟨Ext.refl _, .inr ⟨rfl, rfl⟩⟩) fun _ =>
   wp_ifB (fun _ => wp_ifB (fun _ => aC) fun _ => wp_ifB (fun _ => aA) fun _ => wp_ifB (fun _ => aO) fun _ => wp_ifB (fun _ => aL) fun _ => wp_ifB aT fun _ => wp_ifB (fun _ => aW) fun _ => s_ret ⟨Ext.refl _, .inr ⟨rfl, rfl⟩⟩) fun _ =>
   wp_ifB (fun _ => aC) fun _ => wp_ifB (fun _ => aA) fun _ => wp_ifB (fun _ => aO) fun _ => wp_ifB (fun _ => aL) fun _ => wp_ifB aT fun _ => wp_ifB (fun _ => aW) fun _ => s_ret ⟨Ext.refl _, .inr ⟨rfl, rfl⟩⟩)
 ·rintro tag vs h3 ⟨e3, ⟨rfl, rfl⟩ | ⟨rfl, rfl⟩⟩
  ·exact s_tag (wp_cast (tys := [.one .bool]) (true, ()) rfl (s_ret ⟨rfl, rfl, PlayR.of_ext B (e12.trans e3)⟩))
  ·exact s_tagNo rfl (s_tag (s_cast0 (s_ret ⟨rfl, rfl, PlayR.of_ext B (e12.trans e3)⟩)))
end Go.Sw.Piece

set_option linter.unusedVariables false
set_option linter.unusedSimpArgs false
set_option maxRecDepth 100000
namespace Go.Sw.Piece
open Go.Sw.Any Go.Sw.Codec
open Go.Sw.Tree (iv s_putAll s_newP s_getP s_getT s_putP eqI_self Placed cell_own wp_whileG minI_eq)
variable {P : Program} {S : Ids} {h : Heap} {Q : Nat → List Value → Heap → Prop}
abbrev StSh : Sh := .str (.pair (.int .i64) (.pair (.list (.int .u8)) .unit))
abbrev StX := Int × (Sl × List Int) × Unit
abbrev OpSh : Sh := .str (.pair (.int .i64) (.pair (.int .i64) (.pair (.int .i64) (.pair (.int .i64) (.pair (.list (.int .i64)) .unit)))))
abbrev OpX := Int × Int × Int × Int × (Sl × List Int) × Unit
abbrev Scr := Sl × List OpX
structure TwoR (S : Ids) (n : Nat) (h : Heap) (a b : Addr) (T1 : TX) (s1 : Sl) (T2 : TX) (s2 : Sl) (k : Nat) : Prop where
 one : BothR S n h a T1 s1 k
 two : BothR S n h b T2 s2 k
 dis : ∀ i, bF a T1 s1 i → ¬ bF b T2 s2 i
variable {n k : Nat} {a b : Addr} {T1 T2 : TX} {s1 s2 : Sl}
theorem TwoR.swap (t : TwoR S n h a b T1 s1 T2 s2 k) : TwoR S n h b a T2 s2 T1 s1 k := ⟨t.two, t.one, fun i hi hj => t.dis i hj hi⟩
theorem TwoR.ext {h' : Heap} (t : TwoR S n h a b T1 s1 T2 s2 k) (e : Ext h h') : TwoR S n h' a b T1 s1 T2 s2 k := ⟨t.one.ext e, t.two.ext e, t.dis⟩
theorem TwoR.play {h' : Heap} (t : TwoR S n h a b T1 s1 T2 s2 k) (hn : n ≤ h.size) (p : PlayR S n a T1 s1 k h h') : Keep n h h' ∧ ∃ T s, TwoR S n h' a b T s T2 s2 (k + 1) := by
 obtain ⟨c, T, s, B, g⟩ := p
 refine ⟨c.keep hn fun i hi f => by have := (t.one.lo i f).1; omega, T, s, B, (t.two.chg c fun i hi f => t.dis i f hi).more, fun i hi hj => ?_⟩
 rcases g i hi with hi | hi
 ·exact t.dis i hi hj
 ·have := (t.two.lo i hj).2; omega
theorem OpB.both {m : Nat} {l : List Int} {T : TX} {s : Sl} {h' : Heap} {a : Addr} {m' : Nat} (o : OpB S m h l T s) (hn : n ≤ m) (e : Ext h h') (ob : Own m' 1 h' ⟨some a, 2, 2⟩ (Bs.inj bB ((some T.p, s, ()) : BoD))) (hm : n ≤ m') (ha : h.size ≤ a.block) : BothR S n h' a T s 0 :=
 ⟨text_low (o.t.ext e) hn, ob.mono hm, (o.at_.ext e).mono hn, o.limit, by have := o.len; omega, by rw [o.A]; exact Nat.zero_le _, fun hz => by have := (o.t.lo _ hz).2; omega, fun x hx => ⟨o.dis x hx, by have := (o.at_.own.lt hx).2; omega⟩⟩
theorem OpB.lo {m : Nat} {l : List Int} {T : TX} {s : Sl} (o : OpB S m h l T s) {a : Addr} : ∀ i, bF a T s i → m ≤ i ∧ i < h.size ∨ i = a.block := by
 rintro i (hi | rfl | ⟨x, hx, rfl⟩)
 ·exact .inl (o.t.lo i hi)
 ·exact .inr rfl
 ·exact .inl (o.at_.own.lt hx)
theorem op_wt {z : Scr} {w : Nat} (hw : (Sh.list OpSh).wt z ≤ w) {i : Nat} {e : OpX} (he : z.2[i]? = some e) : e.2.2.2.2.1.2.length ≤ w := by
 have h1 : OpSh.wt e ≤ (z.2.map OpSh.wt).sum := sum_mem_le OpSh.wt (List.mem_of_getElem? he)
 have h2 : (z.2.map OpSh.wt).sum + 1 = (Sh.list OpSh).wt z := rfl
 have h3 : e.2.2.2.2.1.2.length ≤ OpSh.wt e := by
  have h4 : (e.2.2.2.2.1.2.map (Sh.int .i64).wt).sum = e.2.2.2.2.1.2.length := by
   generalize e.2.2.2.2.1.2 = l
   induction l with
   | nil => rfl
   | cons x l ih => simp only [List.map_cons, List.sum_cons, ih, List.length_cons]; show 1 + _ = _; omega
  show _ ≤ 1 + (1 + (1 + (1 + (((e.2.2.2.2.1.2.map (Sh.int .i64).wt).sum + 1) + 0)))) + 1
  omega
 omega
theorem c_run (M : Meth0 P S) (C : Cl0 P S) (L : ClL P S) (Y : ClY P S) {x y : StX} {z : Scr} {lo hi : Int} (hx : StSh.ok h x) (hy : StSh.ok h y) (hz : (Sh.list OpSh).ok h z) (wz : lo ≤ 8 → 8 ≤ hi → (Sh.list OpSh).wt z ≤ 1048576) :
  Gives P (F_law6_run S (x.1, x.2.1.1, ()) (y.1, y.2.1.1, ()) z.1 lo hi) [.one .bool] h fun (r : Bool × Unit) _ => r.1 = true := by
 unfold F_law6_run Gives
 have lx := Sh.lst hx.2.1
 have ly := Sh.lst hy.2.1
 have lz := hz.len
 have zb : z.2.length < 2 ^ 63 := by have := hz.2.1; have := hz.2.2.1; omega
 refine s_newO (bs := bS) ((x.1, x.2.1.1, ()) : StaD) (by decide) fun h1 e1 o1 => s_newO (bs := bS) ((y.1, y.2.1.1, ()) : StaD) (by decide) fun h2 e2 o2 => ?_
 have e12 := e1.trans e2
 refine s_getO (bs := bS) (o1.ext e2) (wp_call (c_opened6 M (lx.ext e12)) fun ⟨⟨(p1 : Option Addr), (s1 : Sl), _⟩, (b1 : Bool), _⟩ h3 e3 ⟨hb1, T1, hp1, O1⟩ => ?_)
 have hb1 : b1 = true := hb1
 have hp1 : p1 = some T1.p := hp1
 subst hb1; subst hp1
 have O1 : OpB S h2.size h3 (x.2.1.2.take 50000) T1 s1 := O1
 have e13 := e12.trans e3
 refine s_putO (bs := bB) (z := ((none, ⟨none, 0, 0⟩, ()) : BoD)) ((some T1.p, s1, ()) : BoD) (by decide) flatB2 fun h4 e4 o4 => ?_
 have q1 := e1.size; have q12 := e12.size; have q13 := e13.size; have q3 := e3.size
 have B1 : BothR S h.size h4 ⟨h3.size, 0, none⟩ T1 s1 0 := O1.both q12 e4 o4 q13 (Nat.le_refl _)
 have e14 := e13.trans e4
 have hfew := B1.few
 refine bind_bool False ?_ fun bb h5 e5 hbb => ?_
 ·refine wp_ifB (fun hh => by cases hh) fun _ => s_cell (b := .ptr) (some T1.p) rfl B1.ob.cells rfl (s_cell (b := .sl) s1 rfl B1.ob.cells rfl (wp_call (c_lCount M C B1.t) fun ⟨(c : Int), _⟩ h5 e5 hc => s_ckC (B1.ext e5).ob.cells rfl (wp_call (c_refCount (B1.ext e5).at_.lst (by omega)) fun ⟨(d : Int), _⟩ h6 e6 hd => s_ret ⟨rfl, e5.trans e6, _, rfl, ?_⟩)))
  have hc : c = nLines (txA T1) := hc
  have hd : d = nLines (txA T1) := hd
  rw [neI_iff]
  exact ⟨fun h => h (hc.trans hd.symm), False.elim⟩
 have hbb : bb = false := by
  cases hx : bb with
  | false => rfl
  | true => exact (hbb.1 hx).elim
 subst hbb
 have e15 := e14.trans e5
 refine s_ifF (s_getO (bs := bS) (o2.ext ((e3.trans e4).trans e5)) (wp_call (c_opened6 M (ly.ext e15)) fun ⟨⟨(p2 : Option Addr), (s2 : Sl), _⟩, (b2 : Bool), _⟩ h6 e6 ⟨hb2, T2, hp2, O2⟩ => ?_))
 have hb2 : b2 = true := hb2
 have hp2 : p2 = some T2.p := hp2
 subst hb2; subst hp2
 have O2 : OpB S h5.size h6 (y.2.1.2.take 50000) T2 s2 := O2
 have e16 := e15.trans e6
 refine s_putO (bs := bB) (z := ((none, ⟨none, 0, 0⟩, ()) : BoD)) ((some T2.p, s2, ()) : BoD) (by decide) flatB2 fun h7 e7 o7 => ?_
 have q15 := e15.size; have q16 := e16.size; have q6 := e6.size; have q5 := e5.size
 have B2 : BothR S h.size h7 ⟨h6.size, 0, none⟩ T2 s2 0 := O2.both q15 e7 o7 q16 (Nat.le_refl _)
 have e57 := e6.trans e7
 have TW : TwoR S h.size h7 ⟨h3.size, 0, none⟩ ⟨h6.size, 0, none⟩ T1 s1 T2 s2 0 := ⟨B1.ext (e5.trans e57), B2, fun i hi hj => by
  have h1 := (B1.lo i hi).2
  rcases O2.lo i hj with hj | hj
  ·omega
  ·dsimp only at hj; omega⟩
 have e17 := e16.trans e7
 refine wp_ifB (fun hh => by cases hh) fun _ => ?_
 refine wp_while (fun (r : Int × Unit) h' => ∃ (i : Nat) (T1 : TX) (s1 : Sl) (T2 : TX) (s2 : Sl), i ≤ 200 ∧ i ≤ z.2.length ∧ r.1 = (i : Int) ∧ Ext h h' ∧ TwoR S h.size h' ⟨h3.size, 0, none⟩ ⟨h6.size, 0, none⟩ T1 s1 T2 s2 i) (fun r _ => (200 - r.1).toNat)
  (fun tag vs h' => tag = 2 ∧ vs = [] ∧ Ext h h') ⟨0, T1, s1, T2, s2, Nat.zero_le _, Nat.zero_le _, rfl, e17, TW⟩ ?_ ?_
 ·rintro ⟨(r : Int), u⟩ h8 ⟨i, T1, s1, T2, s2, hi, hil, hr, e8, TW⟩
  dsimp only at hr ⊢
  subst hr
  refine bind_bool (i < z.2.length ∧ i < 200) ?_ fun bb h9 e9 hb => wp_ifB (fun hc => ?_) fun hc => ?_
  ·refine wp_ifB (fun hc => s_ret ⟨rfl, Ext.refl _, _, rfl, ?_⟩) fun hc => s_ret ⟨rfl, Ext.refl _, false, rfl, Iff.intro (fun h => by cases h) fun h => ?_⟩
   ·rw [ltI_iff, natI_def, lz] at hc; rw [ltI_iff]; omega
   ·rw [ltI_not, natI_def, lz] at hc; omega
  ·have hc := hb.1 hc
   have e89 := e8.trans e9
   have q9 := e89.size
   have hz9 := Sh.ok.ext e89 hz
   have TW9 := TW.ext e9
   obtain ⟨e, he⟩ : ∃ e, z.2[i]? = some e := ⟨z.2[i]'hc.1, List.getElem?_eq_getElem hc.1⟩
   have he' : z.2[((i : Nat) : Int).toNat]? = some e := he
   have ok := hz9.el he
   have hw := fun h1 h2 => op_wt (wz h1 h2) he
   refine wp_bind (fun tag vs h' => tag = 0 ∧ vs = [.bool true] ∧ Keep h.size h9 h' ∧ ∃ T1 s1 T2 s2, TwoR S h.size h' ⟨h3.size, 0, none⟩ ⟨h6.size, 0, none⟩ T1 s1 T2 s2 (i + 1)) ?_ ?_
   ·refine s_fieldSh (e := OpSh) (x := z) (i := 0) (b := .int .i64) (z := e.1) hz9 (by omega) he' rfl rfl (wp_ifB (fun _ => ?_) fun _ => ?_)
    ·refine s_atSh (e := OpSh) (x := z) (bs := bO) (z := (e.1, e.2.1, e.2.2.1, e.2.2.2.1, e.2.2.2.2.1.1, ())) hz9 (by omega) he' rfl rfl ?_
     refine wp_callW (c_played M C L Y TW9.one q9 hc.2 (Sh.lst ok.2.2.2.2.1) (fun h1 h2 => by have := hw h1 h2; omega) ok.2.2.1 ok.2.2.2.1) fun tg vs h10 ⟨ht, hv, p⟩ => ⟨ht, (true, ()), hv, ?_⟩
     obtain ⟨kp, T, s, tw⟩ := TW9.play q9 p
     exact s_ret ⟨rfl, rfl, kp, T, s, T2, s2, tw⟩
    ·refine s_atSh (e := OpSh) (x := z) (bs := bO) (z := (e.1, e.2.1, e.2.2.1, e.2.2.2.1, e.2.2.2.2.1.1, ())) hz9 (by omega) he' rfl rfl ?_
     refine wp_callW (c_played M C L Y TW9.two q9 hc.2 (Sh.lst ok.2.2.2.2.1) (fun h1 h2 => by have := hw h1 h2; omega) ok.2.2.1 ok.2.2.2.1) fun tg vs h10 ⟨ht, hv, p⟩ => ⟨ht, (true, ()), hv, ?_⟩
     obtain ⟨kp, T, s, tw⟩ := TW9.swap.play q9 p
     exact s_ret ⟨rfl, rfl, kp, T1, s1, T, s, tw.swap⟩
   ·rintro tag vs h10 ⟨rfl, rfl, kp, T1, s1, T2, s2, tw⟩
    refine s_tag (wp_cast (tys := [.one .bool]) (true, ()) rfl (wp_ifB (fun hh => by cases hh) fun _ => ?_))
    rw [add_ok (by omega) (by omega)]
    exact s_ret ⟨fun _ => ⟨((i : Int) + 1, ()), rfl, ⟨i + 1, T1, s1, T2, s2, by omega, by omega, by dsimp only; omega, Keep.trans e89 kp, tw⟩, by dsimp only; omega⟩, fun hh => absurd rfl hh⟩
  ·exact s_ret ⟨fun hh => absurd hh (by decide), fun _ => ⟨rfl, rfl, e8.trans e9⟩⟩
 ·rintro tag vs h8 ⟨rfl, rfl, e8⟩
  exact s_tag (s_cast0 (s_ret ⟨rfl, e8, (_, ()), rfl, rfl⟩))
end Go.Sw.Piece

set_option linter.unusedVariables false
set_option maxRecDepth 100000
namespace Go.Sw.Piece
open Go.Sw.Any Go.Sw.Codec
variable {P : Program} {S : Ids} {h : Heap}
theorem c_LinesCounts (M : Meth0 P S) (C : Cl0 P S) (L : ClL P S) (Y : ClY P S) {x y : StX} {z : Scr} (hx : StSh.ok h x) (hy : StSh.ok h y) (hz : (Sh.list OpSh).ok h z) :
  Gives P (F_law6_LinesCounts S (x.1, x.2.1.1, ()) (y.1, y.2.1.1, ()) z.1) [.one .bool] h fun (r : Bool × Unit) _ => r.1 = true := by
 unfold F_law6_LinesCounts Gives
 refine s_newO (bs := bS) ((x.1, x.2.1.1, ()) : StaD) (by decide) fun h1 e1 o1 => s_newO (bs := bS) ((y.1, y.2.1.1, ()) : StaD) (by decide) fun h2 e2 o2 => s_getO (bs := bS) (o1.ext e2) (s_getO (bs := bS) o2 ?_)
 have e := e1.trans e2
 exact wp_call (c_run M C L Y (hx.ext e) (hy.ext e) (hz.ext e) (fun _ h => absurd h (by decide))) fun ⟨(r : Bool), _⟩ h3 e3 hr => s_ret ⟨rfl, e.trans e3, (r, ()), rfl, hr⟩
theorem c_LinesAt (M : Meth0 P S) (C : Cl0 P S) (L : ClL P S) (Y : ClY P S) {x y : StX} {z : Scr} (hx : StSh.ok h x) (hy : StSh.ok h y) (hz : (Sh.list OpSh).ok h z) :
  Gives P (F_law6_LinesAt S (x.1, x.2.1.1, ()) (y.1, y.2.1.1, ()) z.1) [.one .bool] h fun (r : Bool × Unit) _ => r.1 = true := by
 unfold F_law6_LinesAt Gives
 refine s_newO (bs := bS) ((x.1, x.2.1.1, ()) : StaD) (by decide) fun h1 e1 o1 => s_newO (bs := bS) ((y.1, y.2.1.1, ()) : StaD) (by decide) fun h2 e2 o2 => s_getO (bs := bS) (o1.ext e2) (s_getO (bs := bS) o2 ?_)
 have e := e1.trans e2
 exact wp_call (c_run M C L Y (hx.ext e) (hy.ext e) (hz.ext e) (fun _ h => absurd h (by decide))) fun ⟨(r : Bool), _⟩ h3 e3 hr => s_ret ⟨rfl, e.trans e3, (r, ()), rfl, hr⟩
theorem c_LinesOf (M : Meth0 P S) (C : Cl0 P S) (L : ClL P S) (Y : ClY P S) {x y : StX} {z : Scr} (hx : StSh.ok h x) (hy : StSh.ok h y) (hz : (Sh.list OpSh).ok h z) :
  Gives P (F_law6_LinesOf S (x.1, x.2.1.1, ()) (y.1, y.2.1.1, ()) z.1) [.one .bool] h fun (r : Bool × Unit) _ => r.1 = true := by
 unfold F_law6_LinesOf Gives
 refine s_newO (bs := bS) ((x.1, x.2.1.1, ()) : StaD) (by decide) fun h1 e1 o1 => s_newO (bs := bS) ((y.1, y.2.1.1, ()) : StaD) (by decide) fun h2 e2 o2 => s_getO (bs := bS) (o1.ext e2) (s_getO (bs := bS) o2 ?_)
 have e := e1.trans e2
 exact wp_call (c_run M C L Y (hx.ext e) (hy.ext e) (hz.ext e) (fun _ h => absurd h (by decide))) fun ⟨(r : Bool), _⟩ h3 e3 hr => s_ret ⟨rfl, e.trans e3, (r, ()), rfl, hr⟩
theorem c_LinesKinds (M : Meth0 P S) (C : Cl0 P S) (L : ClL P S) (Y : ClY P S) {x y : StX} {z : Scr} (hx : StSh.ok h x) (hy : StSh.ok h y) (hz : (Sh.list OpSh).ok h z) :
  Gives P (F_law6_LinesKinds S (x.1, x.2.1.1, ()) (y.1, y.2.1.1, ()) z.1) [.one .bool] h fun (r : Bool × Unit) _ => r.1 = true := by
 unfold F_law6_LinesKinds Gives
 refine s_newO (bs := bS) ((x.1, x.2.1.1, ()) : StaD) (by decide) fun h1 e1 o1 => s_newO (bs := bS) ((y.1, y.2.1.1, ()) : StaD) (by decide) fun h2 e2 o2 => s_getO (bs := bS) (o1.ext e2) (s_getO (bs := bS) o2 ?_)
 have e := e1.trans e2
 exact wp_call (c_run M C L Y (hx.ext e) (hy.ext e) (hz.ext e) (fun _ h => absurd h (by decide))) fun ⟨(r : Bool), _⟩ h3 e3 hr => s_ret ⟨rfl, e.trans e3, (r, ()), rfl, hr⟩
theorem c_LinesGone (M : Meth0 P S) (C : Cl0 P S) (L : ClL P S) (Y : ClY P S) {x y : StX} {z : Scr} (hx : StSh.ok h x) (hy : StSh.ok h y) (hz : (Sh.list OpSh).ok h z) :
  Gives P (F_law6_LinesGone S (x.1, x.2.1.1, ()) (y.1, y.2.1.1, ()) z.1) [.one .bool] h fun (r : Bool × Unit) _ => r.1 = true := by
 unfold F_law6_LinesGone Gives
 refine s_newO (bs := bS) ((x.1, x.2.1.1, ()) : StaD) (by decide) fun h1 e1 o1 => s_newO (bs := bS) ((y.1, y.2.1.1, ()) : StaD) (by decide) fun h2 e2 o2 => s_getO (bs := bS) (o1.ext e2) (s_getO (bs := bS) o2 ?_)
 have e := e1.trans e2
 exact wp_call (c_run M C L Y (hx.ext e) (hy.ext e) (hz.ext e) (fun _ h => absurd h (by decide))) fun ⟨(r : Bool), _⟩ h3 e3 hr => s_ret ⟨rfl, e.trans e3, (r, ()), rfl, hr⟩
theorem c_LinesTyped (M : Meth0 P S) (C : Cl0 P S) (L : ClL P S) (Y : ClY P S) {x y : StX} {z : Scr} (hx : StSh.ok h x) (hy : StSh.ok h y) (hz : (Sh.list OpSh).ok h z) (wz : (Sh.list OpSh).wt z ≤ 1048576) :
  Gives P (F_law6_LinesTyped S (x.1, x.2.1.1, ()) (y.1, y.2.1.1, ()) z.1) [.one .bool] h fun (r : Bool × Unit) _ => r.1 = true := by
 unfold F_law6_LinesTyped Gives
 refine s_newO (bs := bS) ((x.1, x.2.1.1, ()) : StaD) (by decide) fun h1 e1 o1 => s_newO (bs := bS) ((y.1, y.2.1.1, ()) : StaD) (by decide) fun h2 e2 o2 => s_getO (bs := bS) (o1.ext e2) (s_getO (bs := bS) o2 ?_)
 have e := e1.trans e2
 exact wp_call (c_run M C L Y (hx.ext e) (hy.ext e) (hz.ext e) (fun _ _ => wz)) fun ⟨(r : Bool), _⟩ h3 e3 hr => s_ret ⟨rfl, e.trans e3, (r, ()), rfl, hr⟩
theorem c_LinesWhole (M : Meth0 P S) (C : Cl0 P S) (L : ClL P S) (Y : ClY P S) {x y : StX} {z : Scr} (hx : StSh.ok h x) (hy : StSh.ok h y) (hz : (Sh.list OpSh).ok h z) :
  Gives P (F_law6_LinesWhole S (x.1, x.2.1.1, ()) (y.1, y.2.1.1, ()) z.1) [.one .bool] h fun (r : Bool × Unit) _ => r.1 = true := by
 unfold F_law6_LinesWhole Gives
 refine s_newO (bs := bS) ((x.1, x.2.1.1, ()) : StaD) (by decide) fun h1 e1 o1 => s_newO (bs := bS) ((y.1, y.2.1.1, ()) : StaD) (by decide) fun h2 e2 o2 => s_getO (bs := bS) (o1.ext e2) (s_getO (bs := bS) o2 ?_)
 have e := e1.trans e2
 exact wp_call (c_run M C L Y (hx.ext e) (hy.ext e) (hz.ext e) (fun h => absurd h (by decide))) fun ⟨(r : Bool), _⟩ h3 e3 hr => s_ret ⟨rfl, e.trans e3, (r, ()), rfl, hr⟩
theorem c_LinesScript (M : Meth0 P S) (C : Cl0 P S) (L : ClL P S) (Y : ClY P S) {x y : StX} {z : Scr} (hx : StSh.ok h x) (hy : StSh.ok h y) (hz : (Sh.list OpSh).ok h z) (wz : (Sh.list OpSh).wt z ≤ 1048576) :
  Gives P (F_law6_LinesScript S (x.1, x.2.1.1, ()) (y.1, y.2.1.1, ()) z.1) [.one .bool] h fun (r : Bool × Unit) _ => r.1 = true := by
 unfold F_law6_LinesScript Gives
 refine s_newO (bs := bS) ((x.1, x.2.1.1, ()) : StaD) (by decide) fun h1 e1 o1 => s_newO (bs := bS) ((y.1, y.2.1.1, ()) : StaD) (by decide) fun h2 e2 o2 => s_getO (bs := bS) (o1.ext e2) (s_getO (bs := bS) o2 ?_)
 have e := e1.trans e2
 exact wp_call (c_run M C L Y (hx.ext e) (hy.ext e) (hz.ext e) (fun _ _ => wz)) fun ⟨(r : Bool), _⟩ h3 e3 hr => s_ret ⟨rfl, e.trans e3, (r, ()), rfl, hr⟩
end Go.Sw.Piece
