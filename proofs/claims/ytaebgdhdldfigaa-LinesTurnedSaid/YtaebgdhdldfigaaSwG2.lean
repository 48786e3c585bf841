/-
  The laws of chapter 6: the walk over all lines.
-/
import Derived.Test.YtaebgdhdldfigaaSwG1
set_option linter.unusedVariables false
set_option linter.unusedSimpArgs false
set_option maxRecDepth 100000
namespace Go.Sw.Piece
open Go.Sw.Any Go.Sw.Codec
open Go.Sw.Tree (iv s_putAll s_newP s_getP s_getT s_putP eqI_self Placed cell_own wp_whileG minI_eq)
variable {P : Program} {S : Ids} {h : Heap} {Q : Nat → List Value → Heap → Prop}
theorem s_wl {b : B} {m j c d : Nat} {w : Addr} {vs : List Value} {x : b.den} {K : b.den → Prog} (o : Own m 1 h ⟨some w, c, d⟩ vs) (hj : vs[j]? = some (b.inj x)) (hk : wp P (K x) h Q) :
  wp P (grd (someB (some w)) <| grd (someB (some w)) <| .load (.one b) (shiftTo (some w) j) K) h Q := wp_grd rfl (wp_grd rfl (s_cell (b := b) x rfl o.cells hj hk))
theorem s_wst {m j c d : Nat} {w : Addr} {vs : List Value} (v : Value) {K : Prog} (o : Own m 1 h ⟨some w, c, d⟩ vs) (hj : j < vs.length) (hf : flat v = true) (hk : ∀ h', Own m 1 h' ⟨some w, c, d⟩ (vs.set j v) → Upd ⟨some w, c, d⟩ h h' → wp P K h' Q) :
  wp P (grd (someB (some w)) <| grd (someB (some w)) <| .store (shiftTo (some w) j) [v] K) h Q := wp_grd rfl (wp_grd rfl (s_setC' v o hj hf hk))
abbrev WD := Sl × Int × Int × Int × Bool × Bool × Unit
abbrev bW : List B := [.sl, .int .i64, .int .i64, .int .i64, .bool, .bool]
abbrev WkO (m : Nat) (h : Heap) (w : Addr) (x : WD) : Prop := Own m 1 h ⟨some w, 6, 6⟩ (Bs.inj bW x)
variable {A : List Int} {m n k N : Nat} {w a : Addr} {ls : Sl} {af : Int}
theorem c_met {x : LnD} (o : WkO m h w (ls, (N : Int), af, (k : Int), false, false, ())) (ho : LnL n h ls (linesL A (nB A + 1))) (hN : N ≤ nB A + 1) (hk : k < N) (hb : N ≤ 1000000001) (hx : Bs.inj b4 x = Bs.inj b4 (lineD A k)) :
  wp P (F_Walk_met S (some w) (k : Int) x) h fun tg vs h' => tg = 0 ∧ vs = [.bool (notB (eqI ((k + 1 : Nat) : Int) af))] ∧ Chg (fun i => i = w.block) h h' ∧ WkO m h' w (ls, (N : Int), af, ((k + 1 : Nat) : Int), eqI ((k + 1 : Nat) : Int) af, false, ()) := by
 unfold F_Walk_met
 refine s_new4 x fun h1 e1 o1 => ?_
 have ow := o.ext e1
 refine bind_bool False ?_ fun bb h2 e2 hbb => ?_
 ·refine s_wl (b := .bool) (x := false) ow rfl (s_ifF (s_wl (b := .int .i64) (x := (k : Int)) ow rfl (s_wl (b := .int .i64) (x := (N : Int)) ow rfl (wp_ifB (fun hc => by rw [geI_iff] at hc; omega) fun _ => s_wl (b := .int .i64) (x := (k : Int)) ow rfl (wp_ifB (fun hc => by rw [neI_iff] at hc; exact absurd rfl hc) fun _ => s_getO (bs := b4) o1 (s_wl (b := .sl) (x := ls) ow rfl (s_wl (b := .int .i64) (x := (k : Int)) ow rfl ?_)))))))
  refine s_ld4 (ho.ext e1) (linesL_at (by omega)) (wp_call (c_line x (lineD A k)) fun ⟨(b : Bool), _⟩ h2 e2 hb => s_ret ⟨rfl, e2, _, rfl, ?_⟩)
  have hb : b = true := hb.2 hx
  rw [hb]
  exact Iff.intro (fun h => by cases h) False.elim
 have hbb : bb = false := by
  cases hx : bb with
  | false => rfl
  | true => exact (hbb.1 hx).elim
 subst hbb
 have e12 := e1.trans e2
 have o2 := o.ext e12
 refine s_ifF (s_wl (b := .int .i64) (x := (k : Int)) o2 rfl ?_)
 have hadd : addI .i64 (k : Int) 1 = ((k + 1 : Nat) : Int) := by rw [add_ok (by omega) (by omega)]; rfl
 rw [hadd]
 refine s_wst (i64v ((k + 1 : Nat) : Int)) o2 (by show 3 < 6; decide) rfl fun h3 o3 u3 => s_wl (b := .int .i64) (x := ((k + 1 : Nat) : Int)) o3 rfl (s_wl (b := .int .i64) (x := af) o3 rfl (s_wst (.bool (eqI ((k + 1 : Nat) : Int) af)) o3 (by show 4 < 6; decide) rfl fun h4 o4 u4 => s_wl (b := .bool) (x := eqI ((k + 1 : Nat) : Int) af) o4 rfl (s_ret ⟨rfl, rfl, ?_, o4⟩)))
 have c3 : Chg (fun i => i = w.block) h2 h3 := Chg.of_upd u3 fun y hy _ => by cases hy; rfl
 exact Chg.pre e12 (c3.upd u4 fun y hy _ => by cases hy; rfl)
theorem c_well {ov : Bool} (o : WkO m h w (ls, (N : Int), af, (k : Int), ov, false, ())) (hk : k = N ∨ (k : Int) = af) : Gives P (F_Walk_well S (some w)) [.one .bool] h fun (y : Bool × Unit) _ => y.1 = true := by
 unfold F_Walk_well Gives
 refine bind_bool True (s_wl (b := .bool) (x := false) o rfl (s_ifT (s_wl (b := .int .i64) (x := (k : Int)) o rfl (s_wl (b := .int .i64) (x := (N : Int)) o rfl (wp_ifB (fun hc => s_ret ⟨rfl, Ext.refl _, true, rfl, Iff.intro (fun _ => trivial) fun _ => rfl⟩) fun hc => s_wl (b := .int .i64) (x := (k : Int)) o rfl (s_wl (b := .int .i64) (x := af) o rfl (s_ret ⟨rfl, Ext.refl _, _, rfl, ?_⟩))))))) fun bb h1 e1 hb => s_ret ⟨rfl, e1, (bb, ()), rfl, hb.2 trivial⟩
 rw [eqI_not] at hc
 rw [eqI_iff]
 exact Iff.intro (fun _ => trivial) fun _ => by rcases hk with hk | hk; exact absurd (by rw [hk]) hc; exact hk
theorem c_walk {it y : Value} {h0 : Heap} {Z : Nat → Prop} {ma : Nat} (itg : IterG P it (nLines A) (AL2 A) Z 0 h0) (hz : Held Z h0 h) (hy : flat y = true)
  (dy : ∀ (k : Int) (x : LnD), Dyn P y (Ts.inj [.one (.int .i64), t4] (k, x, ())) (F_Both_alls_1 S k x (some a))) (oa : Cel ma h a (.pointer (some w))) (o : WkO m h w (ls, (nLines A : Int), af, 0, false, false, ())) (ho : LnL n h ls (linesL A (nB A + 1)))
  (hl : A.length ≤ 1000000000) (ha : a.block ≠ w.block) (hls : ∀ x, ls.base = some x → x.block ≠ w.block) (hzw : ¬ (Z w.block ∧ w.block < h0.size)) :
  DynE P it [y] h fun vs h' => vs = [] ∧ Chg (fun i => i = w.block) h h' ∧ ∃ (k : Nat) (ov : Bool), (k = nLines A ∨ (k : Int) = af) ∧ WkO m h' w (ls, (nLines A : Int), af, (k : Int), ov, false, ()) := by
 have hN := nLines_le A
 have hnB : nB A ≤ A.length := cntE_le _ _
 let J : Nat → Heap → Prop := fun c h' => Chg (fun i => i = w.block) h h' ∧ WkO m h' w (ls, (nLines A : Int), af, (c : Int), false, false, ())
 let F : Heap → Prop := fun h' => Chg (fun i => i = w.block) h h' ∧ ∃ c : Nat, (c : Int) = af ∧ WkO m h' w (ls, (nLines A : Int), af, (c : Int), true, false, ())
 have no : ∀ i, ¬ own h.size 0 i := fun i f => by have := f.1; have := f.2; omega
 refine (itg h y J F hz.1 hz hy (fun c b1 b2 j cc => ⟨j.1.trans cc fun i _ f => (no i f).elim, cc.own j.2 fun x hx => no _⟩) (fun b1 b2 j cc => ⟨j.1.trans cc fun i _ f => (no i f).elim, j.2.elim fun c hc => ⟨c, hc.1, cc.own hc.2 fun x hx => no _⟩⟩) ?_ ⟨Chg.refl _ _, o⟩).mono fun vs h' ⟨hv, s1, _, hend⟩ => ⟨hv, ?_⟩
 ·rintro c hp h1 args hc ⟨cp, op⟩ hps cc _ hz1 e
  have e : args = Ts.inj [.one (.int .i64), t4] (((c : Nat) : Int), lineD A c, ()) := e
  subst e
  have c1 : Chg (fun i => i = w.block) h h1 := cp.trans cc fun i _ f => (no i f).elim
  have o1 := cc.own op fun x hx => no _
  refine (dy _ _ h1 _ ?_).toV
  unfold F_Both_alls_1
  refine s_new4 (lineD A c) fun h2 e2 o2 => ?_
  have oa2 : Cel ma h2 a (.pointer (some w)) := (c1.own oa fun x hx f => by cases hx; exact ha f).ext e2
  refine s_cel (b := .ptr) (x := some w) oa2 (s_getO (bs := b4) o2 ?_)
  have ho2 := (c1.own ho fun x hx f => hls x hx f).ext e2
  refine wp_callW (c_met (x := lineD A c) (o1.ext e2) ho2 (by omega) hc (by omega) rfl) fun tg vs h3 ⟨ht, hv, c3, o3⟩ => ⟨ht, (_, ()), hv, s_ret ⟨rfl, _, rfl, ?_, fun hb => ?_, fun hb => ?_⟩⟩
  ·refine (Held.of_ext e2).trans (Held.of_chg c3 fun i hi hw f => ?_)
   subst f
   rcases hw with hw | hw
   ·exact no _ hw
   ·exact hzw hw
  ·have hb : notB (eqI ((c + 1 : Nat) : Int) af) = true := hb
   rw [notB_iff] at hb
   rw [hb] at o3
   exact ⟨(c1.ext e2).trans c3 fun i _ f => f, o3⟩
  ·have hb : notB (eqI ((c + 1 : Nat) : Int) af) = false := hb
   rw [notB_not] at hb
   rw [hb] at o3
   exact ⟨(c1.ext e2).trans c3 fun i _ f => f, c + 1, eqI_iff.1 hb, o3⟩
 ·rcases hend with ⟨c, o⟩ | ⟨c, k, hk, o⟩
  ·exact ⟨c, _, _, .inl rfl, o⟩
  ·exact ⟨c, k, _, .inr hk, o⟩
end Go.Sw.Piece

set_option linter.unusedVariables false
set_option linter.unusedSimpArgs false
set_option maxRecDepth 100000
namespace Go.Sw.Piece
open Go.Sw.Any Go.Sw.Codec
open Go.Sw.Tree (iv s_putAll s_newP s_getP s_getT s_putP eqI_self Placed cell_own wp_whileG minI_eq)
variable {P : Program} {S : Ids} {h : Heap} {Q : Nat → List Value → Heap → Prop}
structure ClY (P : Program) (S : Ids) : Prop where
 y1 : ∀ (k : Int) (x : LnD) (a : Option Addr), Dyn P (.func (.func S.f_Both_alls_1) #[] #[.pointer a]) (Ts.inj [.one (.int .i64), t4] (k, x, ())) (F_Both_alls_1 S k x a)
 y2 : ∀ (k : Int) (x : LnD) (a : Option Addr), Dyn P (.func (.func S.f_Both_alls_2) #[] #[.pointer a]) (Ts.inj [.one (.int .i64), t4] (k, x, ())) (F_Both_alls_2 S k x a)
 y3 : ∀ (k : Int) (x : LnD) (a b c : Option Addr), Dyn P (.func (.func S.f_Both_alls_3) #[] #[.pointer a, .pointer b, .pointer c]) (Ts.inj [.one (.int .i64), t4] (k, x, ())) (F_Both_alls_3 S k x a b c)
 y4 : ∀ (k : Int) (x : LnD) (a : Option Addr), Dyn P (.func (.func S.f_Both_alls_3_1) #[] #[.pointer a]) (Ts.inj [.one (.int .i64), t4] (k, x, ())) (F_Both_alls_3_1 S k x a)
variable {A : List Int} {n : Nat} {w v a b c : Addr} {ls : Sl}
end Go.Sw.Piece

set_option linter.unusedVariables false
set_option linter.unusedSimpArgs false
set_option maxRecDepth 100000
namespace Go.Sw.Piece
open Go.Sw.Any Go.Sw.Codec
open Go.Sw.Tree (iv s_putAll s_newP s_getP s_getT s_putP eqI_self Placed cell_own wp_whileG minI_eq)
variable {P : Program} {S : Ids} {h : Heap} {Q : Nat → List Value → Heap → Prop}
abbrev OpD := Int × Int × Int × Int × Sl × Unit
abbrev bO : List B := [.int .i64, .int .i64, .int .i64, .int .i64, .sl]
variable {n k : Nat} {b : Addr} {T : TX} {s : Sl} {o : OpD}
theorem s_newW (x : WD) {K : Addr → Prog} (hk : ∀ h', Ext h h' → WkO h.size h' ⟨h.size, 0, none⟩ x → wp P (K ⟨h.size, 0, none⟩) h' Q) : wp P (.alloc (Bs.inj bW x) K) h Q := s_newO (bs := bW) x (by decide) hk
end Go.Sw.Piece

set_option linter.unusedVariables false
set_option linter.unusedSimpArgs false
set_option maxRecDepth 100000
namespace Go.Sw.Piece
open Go.Sw.Any Go.Sw.Codec
open Go.Sw.Tree (iv s_putAll s_newP s_getP s_getT s_putP eqI_self Placed cell_own wp_whileG minI_eq)
variable {P : Program} {S : Ids} {h : Heap} {Q : Nat → List Value → Heap → Prop}
variable {n k : Nat} {b : Addr} {T : TX} {s : Sl} {o : OpD}
end Go.Sw.Piece

set_option linter.unusedVariables false
set_option linter.unusedSimpArgs false
set_option maxRecDepth 100000
namespace Go.Sw.Piece
open Go.Sw.Any Go.Sw.Codec
open Go.Sw.Tree (iv s_putAll s_newP s_getP s_getT s_putP eqI_self Placed cell_own wp_whileG minI_eq)
variable {P : Program} {S : Ids} {h : Heap} {Q : Nat → List Value → Heap → Prop}
variable {n k : Nat} {b : Addr} {T : TX} {s : Sl} {o : OpD}
end Go.Sw.Piece

set_option linter.unusedVariables false
set_option linter.unusedSimpArgs false
set_option maxRecDepth 100000
namespace Go.Sw.Piece
open Go.Sw.Any Go.Sw.Codec
open Go.Sw.Tree (iv s_putAll s_newP s_getP s_getT s_putP eqI_self Placed cell_own wp_whileG minI_eq)
variable {P : Program} {S : Ids} {h : Heap} {Q : Nat → List Value → Heap → Prop}
abbrev StSh : Sh := .str (.pair (.int .i64) (.pair (.list (.int .u8)) .unit))
abbrev StX := Int × (Sl × List Int) × Unit
abbrev OpSh : Sh := .str (.pair (.int .i64) (.pair (.int .i64) (.pair (.int .i64) (.pair (.int .i64) (.pair (.list (.int .i64)) .unit)))))
abbrev OpX := Int × Int × Int × Int × (Sl × List Int) × Unit
abbrev Scr := Sl × List OpX
structure TwoR (S : Ids) (n : Nat) (h : Heap) (a b : Addr) (T1 : TX) (s1 : Sl) (T2 : TX) (s2 : Sl) (k : Nat) : Prop where
 one : BothR S n h a T1 s1 k
 two : BothR S n h b T2 s2 k
 dis : ∀ i, bF a T1 s1 i → ¬ bF b T2 s2 i
variable {n k : Nat} {a b : Addr} {T1 T2 : TX} {s1 s2 : Sl}
theorem OpB.both {m : Nat} {l : List Int} {T : TX} {s : Sl} {h' : Heap} {a : Addr} {m' : Nat} (o : OpB S m h l T s) (hn : n ≤ m) (e : Ext h h') (ob : Own m' 1 h' ⟨some a, 2, 2⟩ (Bs.inj bB ((some T.p, s, ()) : BoD))) (hm : n ≤ m') (ha : h.size ≤ a.block) : BothR S n h' a T s 0 :=
 ⟨text_low (o.t.ext e) hn, ob.mono hm, (o.at_.ext e).mono hn, o.limit, by have := o.len; omega, by rw [o.A]; exact Nat.zero_le _, fun hz => by have := (o.t.lo _ hz).2; omega, fun x hx => ⟨o.dis x hx, by have := (o.at_.own.lt hx).2; omega⟩⟩
theorem OpB.lo {m : Nat} {l : List Int} {T : TX} {s : Sl} (o : OpB S m h l T s) {a : Addr} : ∀ i, bF a T s i → m ≤ i ∧ i < h.size ∨ i = a.block := by
 rintro i (hi | rfl | ⟨x, hx, rfl⟩)
 ·exact .inl (o.t.lo i hi)
 ·exact .inr rfl
 ·exact .inl (o.at_.own.lt hx)
end Go.Sw.Piece

set_option linter.unusedVariables false
set_option maxRecDepth 100000
namespace Go.Sw.Piece
open Go.Sw.Any Go.Sw.Codec
variable {P : Program} {S : Ids} {h : Heap}
end Go.Sw.Piece

set_option linter.unusedVariables false
set_option linter.unusedSimpArgs false
set_option maxRecDepth 100000
namespace Go.Sw.Piece
open Go.Sw.Any Go.Sw.Codec
def spellF (q : Nat) : List Int := if q = 1 then [10] else if q = 2 then [13, 10] else if q = 3 then [13] else []
structure LineR (A : List Int) (i T N q : Nat) : Prop where
 is : lineD A i = ((startN A i : Int), (T : Int), (N : Int), (q : Int), ())
 st : startN A i ≤ T
 tn : T ≤ N
 nl : N ≤ A.length
 q3 : q ≤ 3
 plain : ∀ j, startN A i ≤ j → j < T → A.getD j 0 ≠ 10 ∧ A.getD j 0 ≠ 13
 spell : (A.drop T).take (N - T) = spellF q
 cr : q = 3 → A.getD N 0 ≠ 10
 of : ∀ j, startN A i ≤ j → j < N → cntE A j = i
 more : i < nB A → startN A (i + 1) = N ∧ q ≠ 0
 last : i = nB A → N = A.length ∧ T = A.length ∧ q = 0
theorem take1 {A : List Int} {i : Nat} (hi : i < A.length) : (A.drop i).take 1 = [A.getD i 0] := by
 rw [List.drop_eq_getElem_cons hi, List.getD_eq_getElem?_getD, List.getElem?_eq_getElem hi]; rfl
theorem not_end {A : List Int} {j : Nat} (h : cntE A (j + 1) = cntE A j) : ¬ isE A j = true := fun he => by
 have := cntE_succ A j
 rw [if_pos he] at this; omega
theorem line_is {A : List Int} {i : Nat} (hi : i ≤ nB A) : ∃ T N q : Nat, LineR A i T N q := by
 obtain ⟨s1, s2⟩ := start_at hi
 by_cases hlt : i < nB A
 ·obtain ⟨_, e1, e2, e3, e4⟩ := end_at hlt
  have sl := start_lt hlt
  have en := isE_is.1 (end_is hlt)
  have same : ∀ j, startN A i ≤ j → j ≤ endN A i - 1 → cntE A j = i := fun j h1 h2 => by
   have a := cntE_mono A h1; have b := cntE_mono A h2; omega
  have plain : ∀ j, startN A i ≤ j → j + 1 ≤ endN A i - 1 → ¬ (A.getD j 0 = 13 ∧ A.getD (j + 1) 0 = 10 ∧ j + 2 = endN A i) → A.getD j 0 ≠ 10 ∧ A.getD j 0 ≠ 13 := fun j h1 h2 h3 => by
   have hn := not_end (A := A) (j := j) (by rw [same j h1 (by omega), same (j + 1) (by omega) h2])
   rw [isE_is] at hn
   refine ⟨fun h => hn (.inl h), fun h => ?_⟩
   by_cases h10 : A.getD (j + 1) 0 = 10
   ·by_cases hj : j + 2 = endN A i
    ·exact h3 ⟨h, h10, hj⟩
    ·exact not_end (A := A) (j := j + 1) (by rw [same (j + 1 + 1) (by omega) (by omega), same (j + 1) (by omega) h2]) (isE_is.2 (.inl h10))
   ·exact hn (.inr ⟨h, h10⟩)
  have is : lineD A i = ((startN A i : Int), ((endN A i - (if brkN A (endN A i) = 2 then 2 else 1) : Nat) : Int), (endN A i : Int), (brkN A (endN A i) : Int), ()) := by unfold lineD; rw [if_pos hlt]
  by_cases h13 : A.getD (endN A i - 1) 0 = 13
  ·have hb : brkN A (endN A i) = 3 := by unfold brkN; rw [if_pos h13]
   rw [hb, if_neg (by decide)] at is
   refine ⟨endN A i - 1, endN A i, 3, is, by omega, by omega, e2, by omega, fun j h1 h2 => plain j h1 (by omega) fun h => ?_, ?_, fun _ => ?_, fun j h1 h2 => same j h1 (by omega), fun _ => ⟨start_succ A i, by decide⟩, fun h => by omega⟩
   ·rw [show endN A i - 1 = j + 1 by omega] at h13
    omega
   ·rw [show endN A i - (endN A i - 1) = 1 by omega, take1 (by omega), h13]; rfl
   ·rcases en with h | h
    ·omega
    ·rw [show endN A i - 1 + 1 = endN A i by omega] at h; exact h.2
  ·have h10 : A.getD (endN A i - 1) 0 = 10 := by rcases en with h | h; exact h; exact absurd h.1 h13
   by_cases h2 : 2 ≤ endN A i ∧ A.getD (endN A i - 2) 0 = 13
   ·have hb : brkN A (endN A i) = 2 := by unfold brkN; rw [if_neg h13, if_pos h2]
    rw [hb, if_pos rfl] at is
    have hcr := crlf_in hlt h2.1 h2.2 h13
    refine ⟨endN A i - 2, endN A i, 2, is, hcr, by omega, e2, by omega, fun j h1 h2 => plain j h1 (by omega) fun h => by omega, ?_, fun h => by omega, fun j h1 h2 => same j h1 (by omega), fun _ => ⟨start_succ A i, by decide⟩, fun h => by omega⟩
    have hx := take1 (A := A) (i := endN A i - 2) (by omega)
    have hy := take1 (A := A) (i := endN A i - 1) (by omega)
    have : (A.drop (endN A i - 2)).take (1 + 1) = (A.drop (endN A i - 2)).take 1 ++ ((A.drop (endN A i - 2)).drop 1).take 1 := List.take_add
    rw [show endN A i - (endN A i - 2) = 1 + 1 by omega, this, hx, List.drop_drop, show endN A i - 2 + 1 = endN A i - 1 by omega, hy, h2.2, h10]; rfl
   ·have hb : brkN A (endN A i) = 1 := by unfold brkN; rw [if_neg h13, if_neg h2]
    rw [hb, if_neg (by decide)] at is
    refine ⟨endN A i - 1, endN A i, 1, is, by omega, by omega, e2, by omega, fun j h1 hj => plain j h1 (by omega) fun h => ?_, ?_, fun h => by omega, fun j h1 h2 => same j h1 (by omega), fun _ => ⟨start_succ A i, by decide⟩, fun h => by omega⟩
    ·exact h2 ⟨by omega, by rw [show endN A i - 2 = j by omega]; exact h.1⟩
    ·rw [show endN A i - (endN A i - 1) = 1 by omega, take1 (by omega), h10]; rfl
 ·have hB : i = nB A := by omega
  have hend : cntE A A.length = i := by rw [hB]; rfl
  have same : ∀ j, startN A i ≤ j → j ≤ A.length → cntE A j = i := fun j h1 h2 => by
   have a := cntE_mono A h1; have b := cntE_mono A h2; omega
  have is : lineD A i = ((startN A i : Int), (A.length : Int), (A.length : Int), ((0 : Nat) : Int), ()) := by unfold lineD; rw [if_neg hlt]; rfl
  refine ⟨A.length, A.length, 0, is, s1, Nat.le_refl _, Nat.le_refl _, by omega, fun j h1 h2 => ?_, by rw [Nat.sub_self]; rfl, fun h => by omega, fun j h1 h2 => same j h1 (by omega), fun h => by omega, fun _ => ⟨rfl, rfl, rfl⟩⟩
  have hn := not_end (A := A) (j := j) (by rw [same j h1 (by omega), same (j + 1) (by omega) (by omega)])
  rw [isE_is] at hn
  refine ⟨fun h => hn (.inl h), fun h => ?_⟩
  by_cases h10 : A.getD (j + 1) 0 = 10
  ·by_cases hj : j + 1 < A.length
   ·exact not_end (A := A) (j := j + 1) (by rw [same (j + 1 + 1) (by omega) (by omega), same (j + 1) (by omega) (by omega)]) (isE_is.2 (.inl h10))
   ·rw [getD_end (show A.length ≤ j + 1 by omega)] at h10; omega
  ·exact hn (.inr ⟨h, h10⟩)
end Go.Sw.Piece

set_option linter.unusedVariables false
set_option linter.unusedSimpArgs false
set_option maxRecDepth 100000
namespace Go.Sw.Piece
open Go.Sw.Any Go.Sw.Codec
open Go.Sw.Tree (iv s_putAll s_newP s_getP s_getT s_putP eqI_self Placed cell_own wp_whileG minI_eq)
variable {P : Program} {S : Ids} {h : Heap} {Q : Nat → List Value → Heap → Prop}
theorem bind_no {m : Prog} {K : Bool × Unit → Prog} {Y : Prog} (hm : wp P m h fun t vs h' => t = 0 ∧ Ext h h' ∧ ∃ b, vs = [.bool b] ∧ (b = true ↔ False)) (hk : ∀ h', Ext h h' → wp P (K (Bool.false, ())) h' Q) : wp P (.bind m fun t vs => ifB (eqN t 0) (.cast [.one .bool] vs K) Y) h Q :=
 bind_bool False hm fun b h' e hb => by
  have : b = false := by
   cases b with
   | false => rfl
   | true => exact (hb.1 rfl).elim
  subst this
  exact hk h' e
theorem f_ret {h0 : Heap} : wp P (.ret 0 [.bool Bool.false]) h0 fun t vs h' => t = 0 ∧ Ext h0 h' ∧ ∃ b, vs = [.bool b] ∧ (b = true ↔ False) := s_ret ⟨rfl, Ext.refl _, false, rfl, Iff.intro (fun h => by cases h) False.elim⟩
theorem f_ret2 {h0 h1 : Heap} {b : Bool} (e : Ext h1 h0) (hb : b = false) : wp P (.ret 0 [.bool b]) h0 fun t vs h' => t = 0 ∧ Ext h1 h' ∧ ∃ b, vs = [.bool b] ∧ (b = true ↔ False) := s_ret ⟨rfl, e, b, rfl, Iff.intro (fun h => by rw [hb] at h; cases h) False.elim⟩
end Go.Sw.Piece

set_option linter.unusedVariables false
set_option linter.unusedSimpArgs false
set_option maxRecDepth 100000
namespace Go.Sw.Piece
open Go.Sw.Any Go.Sw.Codec
open Go.Sw.Tree (iv s_putAll s_newP s_getP s_getT s_putP eqI_self Placed cell_own wp_whileG minI_eq)
variable {P : Program} {S : Ids} {h : Heap} {Q : Nat → List Value → Heap → Prop}
end Go.Sw.Piece

set_option linter.unusedVariables false
set_option linter.unusedSimpArgs false
set_option maxRecDepth 100000
namespace Go.Sw.Piece
open Go.Sw.Any Go.Sw.Codec
open Go.Sw.Tree (iv s_putAll s_newP s_getP s_getT s_putP eqI_self Placed cell_own wp_whileG minI_eq)
variable {P : Program} {S : Ids} {h : Heap} {Q : Nat → List Value → Heap → Prop}
structure ClK (P : Program) (S : Ids) : Prop where
 k1 : ∀ (k : Int) (x : LnD) (a : Option Addr), Dyn P (.func (.func S.f_law6_LinesLater_1) #[] #[.pointer a]) (Ts.inj [.one (.int .i64), t4] (k, x, ())) (F_law6_LinesLater_1 S k x a)
 k2 : ∀ (k : Int) (x : LnD) (a : Option Addr), Dyn P (.func (.func S.f_law6_LinesLater_2) #[] #[.pointer a]) (Ts.inj [.one (.int .i64), t4] (k, x, ())) (F_law6_LinesLater_2 S k x a)
end Go.Sw.Piece

set_option linter.unusedVariables false
set_option linter.unusedSimpArgs false
set_option maxRecDepth 100000
namespace Go.Sw.Piece
open Go.Sw.Any Go.Sw.Codec
theorem isE_cons (a : Int) (l : List Int) (i : Nat) : isE (a :: l) (i + 1) = isE l i := by
 rw [Bool.eq_iff_iff, isE_is, isE_is]
 rfl
theorem cntE_cons (a : Int) (l : List Int) : ∀ n, cntE (a :: l) (n + 1) = (if isE (a :: l) 0 = true then 1 else 0) + cntE l n
 | 0 => by rw [cntE_succ]; show 0 + _ = _ + 0; omega
 | n + 1 => by rw [cntE_succ, cntE_cons a l n, cntE_succ l n, isE_cons]; omega
theorem nB_cons (a : Int) (l : List Int) : nB (a :: l) = (if a = 10 ∨ (a = 13 ∧ l.getD 0 0 ≠ 10) then 1 else 0) + nB l := by
 unfold nB
 rw [List.length_cons, cntE_cons]
 congr 1
 have : isE (a :: l) 0 = true ↔ (a = 10 ∨ (a = 13 ∧ l.getD 0 0 ≠ 10)) := isE_is
 simp only [this]
theorem nB_ahead (X : List Int) {Y Z : List Int} (h : Y.getD 0 0 = Z.getD 0 0) : nB (X ++ Y) + nB Z = nB (X ++ Z) + nB Y := by
 induction X with
 | nil => exact Nat.add_comm _ _
 | cons a X ih =>
  have hh : (X ++ Y).getD 0 0 = (X ++ Z).getD 0 0 := by
   cases X with
   | nil => exact h
   | cons b X => rfl
  rw [List.cons_append, List.cons_append, nB_cons, nB_cons, hh]
  omega
theorem nB_seam (X Y : List Int) : nB (X ++ 13 :: 120 :: 10 :: Y) = nB (X ++ 13 :: 10 :: Y) + 1 := by
 have h := nB_ahead X (Y := 13 :: 120 :: 10 :: Y) (Z := 13 :: 10 :: Y) rfl
 have h1 : nB (13 :: 120 :: 10 :: Y) = nB (13 :: 10 :: Y) + 1 := by
  rw [nB_cons, nB_cons, nB_cons 13 (10 :: Y)]
  simp only [List.getD_cons_zero]
  rw [if_pos (by decide), if_neg (by decide), if_neg (by decide)]
  omega
 omega
end Go.Sw.Piece

set_option linter.unusedVariables false
set_option linter.unusedSimpArgs false
set_option maxRecDepth 100000
namespace Go.Sw.Piece
open Go.Sw.Any Go.Sw.Codec
open Go.Sw.Tree (iv s_putAll s_newP s_getP s_getT s_putP eqI_self Placed cell_own wp_whileG minI_eq)
variable {P : Program} {S : Ids} {h : Heap} {Q : Nat → List Value → Heap → Prop}
theorem brk_sum {A : List Int} : ∀ {n : Nat}, n ≤ nB A → cntK A 1 n + cntK A 2 n + cntK A 3 n = n
 | 0, _ => rfl
 | n + 1, hn => by
  have ih := brk_sum (A := A) (n := n) (by omega)
  obtain ⟨T, N, q, R⟩ := line_is (A := A) (i := n) (by omega)
  have h3 := R.q3
  have h0 := (R.more (by omega)).2
  have hb : (lineD A n).2.2.2.1 = (q : Int) := by rw [R.is]
  unfold cntK
  rw [hb]
  have : q = 1 ∨ q = 2 ∨ q = 3 := by omega
  rcases this with rfl | rfl | rfl
  ·rw [if_pos rfl, if_neg (by decide), if_neg (by decide)]; omega
  ·rw [if_neg (by decide), if_pos rfl, if_neg (by decide)]; omega
  ·rw [if_neg (by decide), if_neg (by decide), if_pos rfl]; omega
theorem brk_all (A : List Int) : cntK A 1 (nLines A) + cntK A 2 (nLines A) + cntK A 3 (nLines A) = nB A := by
 have hN := nLines_le A
 by_cases h : nLines A = nB A
 ·rw [h]; exact brk_sum (Nat.le_refl _)
 ·have h1 : nLines A = nB A + 1 := by omega
  rw [h1]
  have hs := brk_sum (A := A) (Nat.le_refl (nB A))
  obtain ⟨T, N, q, R⟩ := line_is (A := A) (Nat.le_refl _)
  have hq := (R.last rfl).2.2
  have hb : (lineD A (nB A)).2.2.2.1 = 0 := by rw [R.is, hq]; rfl
  unfold cntK
  rw [hb, if_neg (by decide), if_neg (by decide), if_neg (by decide)]
  omega
theorem c_breaks (M : Meth0 P S) (C : Cl0 P S) (L : ClL P S) {n : Nat} {T : TX} (t : TextR S n h T) : Gives P (F_law6_breaks S (some T.p)) [.one (.int .i64)] h fun (y : Int × Unit) _ => y.1 = nB (txA T) := by
 unfold F_law6_breaks Gives
 have hN := nLines_le (txA T)
 have hnB : nB (txA T) ≤ (txA T).length := cntE_le _ _
 have hAl := txA_len T
 have hbig := (t.cur.few t.lim.2).1
 have hel := els_len T.enc T.cur.ps
 refine wp_call (c_lKinds M C L t) fun ⟨(y : LnD), _⟩ h1 e1 hy => ?_
 have hy : y = kindsD (txA T) (nLines (txA T)) := hy
 subst hy
 refine s_newput4 z4 (kindsD (txA T) (nLines (txA T))) fun h2 e2 o2 => ?_
 have hs := brk_all (txA T)
 refine s_cell (b := .int .i64) (cntK (txA T) 1 (nLines (txA T)) : Int) rfl o2.cells rfl (s_cell (b := .int .i64) (cntK (txA T) 2 (nLines (txA T)) : Int) rfl o2.cells rfl (s_cell (b := .int .i64) (cntK (txA T) 3 (nLines (txA T)) : Int) rfl o2.cells rfl (s_ret ⟨rfl, e1.trans e2, (_, ()), rfl, ?_⟩)))
 show addI .i64 (addI .i64 (cntK (txA T) 1 (nLines (txA T)) : Int) (cntK (txA T) 2 (nLines (txA T)) : Int)) (cntK (txA T) 3 (nLines (txA T)) : Int) = _
 rw [add_ok (a := (cntK (txA T) 1 (nLines (txA T)) : Int)) (by omega) (by omega), add_ok (by omega) (by omega)]
 omega
end Go.Sw.Piece

set_option linter.unusedVariables false
set_option linter.unusedSimpArgs false
set_option maxRecDepth 100000
namespace Go.Sw.Piece
open Go.Sw.Any Go.Sw.Codec
open Go.Sw.Tree (iv s_putAll s_newP s_getP s_getT s_putP eqI_self Placed cell_own wp_whileG minI_eq)
variable {P : Program} {S : Ids} {h : Heap} {Q : Nat → List Value → Heap → Prop}
theorem c_lineOf (M : Meth0 P S) (C : Cl0 P S) {n m : Nat} {T : TX} {b : Addr} {s : Sl} {p : Nat} (t : TextR S n h T) (ob : Own m 1 h ⟨some b, 2, 2⟩ (Bs.inj bB ((some T.p, s, ()) : BoD))) (hp : p ≤ (txA T).length) :
  wp P (.both (.load (.one .ptr) (shiftTo (some b) 0) fun (p3269 : Option Addr) => .load (.one .ptr) (shiftTo (some b) 0) fun (p3270 : Option Addr) => .call (F_lines_Of S p3270 (p : Int)) [.one (.int .i64)] fun (r3271 : Int × Unit) => .check (shiftTo (some b) 0) [.pointer p3269] <|
    .call (F_lines_At S p3269 r3271.1) [t4, .one (.int .i64)] fun (r3272 : LnD × Int × Unit) => .alloc (Bs.inj b4 z4) fun (a3273 : Addr) => .check (shiftTo (some b) 0) [.pointer p3270] <| .check (shiftTo (some b) 0) [.pointer p3269] <| .store (some a3273) (Bs.inj b4 r3272.1) <| .ret 0 [.pointer (some a3273), .int .i64 r3272.2.1]) <|
   .both (.load (.one .ptr) (shiftTo (some b) 0) fun (p3274 : Option Addr) => .load (.one .ptr) (shiftTo (some b) 0) fun (p3275 : Option Addr) => .call (F_lines_Of S p3275 (p : Int)) [.one (.int .i64)] fun (r3276 : Int × Unit) => .check (shiftTo (some b) 0) [.pointer p3274] <|
    .alloc (Bs.inj b4 z4) fun (a3277 : Addr) => .check (shiftTo (some b) 0) [.pointer p3275] <| .check (shiftTo (some b) 0) [.pointer p3274] <| .call (F_lines_At S p3274 r3276.1) [t4, .one (.int .i64)] fun (r3278 : LnD × Int × Unit) => .store (some a3277) (Bs.inj b4 r3278.1) <| .ret 0 [.pointer (some a3277), .int .i64 r3278.2.1]) <|
   .load (.one .ptr) (shiftTo (some b) 0) fun (p3279 : Option Addr) => .load (.one .ptr) (shiftTo (some b) 0) fun (p3280 : Option Addr) => .alloc (Bs.inj b4 z4) fun (a3281 : Addr) => .check (shiftTo (some b) 0) [.pointer p3280] <| .check (shiftTo (some b) 0) [.pointer p3279] <|
    .call (F_lines_Of S p3280 (p : Int)) [.one (.int .i64)] fun (r3282 : Int × Unit) => .check (shiftTo (some b) 0) [.pointer p3279] <| .call (F_lines_At S p3279 r3282.1) [t4, .one (.int .i64)] fun (r3283 : LnD × Int × Unit) => .store (some a3281) (Bs.inj b4 r3283.1) <| .ret 0 [.pointer (some a3281), .int .i64 r3283.2.1]) h
   fun tg vs h' => tg = 0 ∧ Ext h h' ∧ ∃ x : Option Addr × Int × Unit, vs = Ts.inj [.one .ptr, .one (.int .i64)] x ∧ ∃ (a : Addr) (m : Nat), x.1 = some a ∧ h.size ≤ m ∧ x.2.1 = 0 ∧ Own4 m h' a (lineD (txA T) (cntE (txA T) p)) := by
 have key : ∀ {z : Int}, z = cntE (txA T) (min (max (p : Int) 0) (txA T).length).toNat → z = (cntE (txA T) p : Int) := fun h => by rw [h, show (min (max (p : Int) 0) (txA T).length).toNat = p by omega]
 have hle : cntE (txA T) p ≤ nB (txA T) := cntE_mono _ hp
 have at_ : ∀ {y : LnD × Int × Unit}, AtR (txA T) (cntE (txA T) p : Int) y → y.1 = lineD (txA T) (cntE (txA T) p) ∧ y.2.1 = 0 := fun hy => hy.1 ⟨by omega, by omega⟩
 have ld : ∀ {h' : Heap} {K : Option Addr → Prog} {R : Nat → List Value → Heap → Prop}, Ext h h' → wp P (K (some T.p)) h' R → wp P (.load (.one .ptr) (shiftTo (some b) 0) K) h' R := fun e hk => s_cell (b := .ptr) (some T.p) rfl (ob.ext e).cells rfl hk
 have ck : ∀ {h' : Heap} {K : Prog} {R : Nat → List Value → Heap → Prop}, Ext h h' → wp P K h' R → wp P (.check (shiftTo (some b) 0) [.pointer (some T.p)] K) h' R := fun e hk => s_ckC (ob.ext e).cells rfl hk
 refine ⟨ld (Ext.refl _) (ld (Ext.refl _) (wp_call (c_lOf M C t) fun ⟨(z : Int), _⟩ h1 e1 hz => ?_)), ld (Ext.refl _) (ld (Ext.refl _) (wp_call (c_lOf M C t) fun ⟨(z : Int), _⟩ h1 e1 hz => ?_)), ld (Ext.refl _) (ld (Ext.refl _) (s_new4 z4 fun h1 e1 o1 => ck e1 (ck e1 (wp_call (c_lOf M C (t.ext e1)) fun ⟨(z : Int), _⟩ h2 e2 hz => ?_))))⟩
 ·have hz : z = (cntE (txA T) p : Int) := key hz
  dsimp only
  rw [hz]
  refine ck e1 (wp_call (c_lAt M C (t.ext e1)) fun y h2 e2 hy => s_new4 z4 fun h3 e3 o3 => ?_)
  have e13 := e1.trans (e2.trans e3)
  obtain ⟨y1, y2⟩ := at_ hy
  refine ck e13 (ck e13 (s_sto4 y.1 o3 fun h4 o4 u4 => s_ret ⟨rfl, Upd.extN e13 u4 (by intro z hz; cases hz; exact (e1.trans e2).size), (some _, y.2.1, ()), rfl, _, _, rfl, (e1.trans e2).size, y2, by rw [← y1]; exact o4⟩))
 ·have hz : z = (cntE (txA T) p : Int) := key hz
  dsimp only
  rw [hz]
  refine ck e1 (s_new4 z4 fun h2 e2 o2 => ?_)
  have e12 := e1.trans e2
  refine ck e12 (ck e12 (wp_call (c_lAt M C (t.ext e12)) fun y h3 e3 hy => ?_))
  obtain ⟨y1, y2⟩ := at_ hy
  exact s_sto4 y.1 (o2.ext e3) fun h4 o4 u4 => s_ret ⟨rfl, Upd.extN (e12.trans e3) u4 (by intro z hz; cases hz; exact e1.size), (some _, y.2.1, ()), rfl, _, _, rfl, e1.size, y2, by rw [← y1]; exact o4⟩
 ·have hz : z = (cntE (txA T) p : Int) := key hz
  dsimp only
  rw [hz]
  have e12 := e1.trans e2
  refine ck e12 (wp_call (c_lAt M C (t.ext e12)) fun y h3 e3 hy => ?_)
  obtain ⟨y1, y2⟩ := at_ hy
  exact s_sto4 y.1 (o1.ext (e2.trans e3)) fun h4 o4 u4 => s_ret ⟨rfl, Upd.extN (e12.trans e3) u4 (by intro z hz; cases hz; exact Nat.le_refl _), (some _, y.2.1, ()), rfl, _, _, rfl, Nat.le_refl _, y2, by rw [← y1]; exact o4⟩
end Go.Sw.Piece

set_option linter.unusedVariables false
set_option linter.unusedSimpArgs false
set_option maxRecDepth 100000
namespace Go.Sw.Piece
open Go.Sw.Any Go.Sw.Codec
variable {P : Program} {S : Ids} {h : Heap} {Q : Nat → List Value → Heap → Prop}
structure EdR (S : Ids) (n : Nat) (h h' : Heap) (T T' : TX) (f t' : Nat) (l : List Int) : Prop where
 chg : Chg (wfoot T) h h'
 t : TextR S n h' T'
 nx : Nxt T T' h.size
 A : txA T' = (txA T).take f ++ l ++ (txA T).drop t'
 ad : T'.A.length ≤ T.A.length + 4 * l.length
 len : (bytesL T'.cur.ps).length ≤ (bytesL T.cur.ps).length + 4 * l.length
theorem s_edit1 (M : Meth0 P S) {n m : Nat} {T : TX} {w : Sl} {l : List Int} {f t' : Nat} {K : Int × Unit → Prog} {h0 : Heap} (t : TextR S n h0 T) (e0 : Ext h0 h) (hn : n ≤ h0.size) (ow : OwnL m .i64 h w l) (hm : h0.size ≤ m) (h1 : f ≤ t') (h2 : t' ≤ (txA T).length) (hf : fitsE T.enc l) (hA : T.A.length + 4 * l.length ≤ 400000000000) (hsm : (bytesL T.cur.ps).length + 4 * l.length ≤ T.limit) (a2 : Addr)
  (o2 : Own m 1 h ⟨some a2, 3, 3⟩ [i64v (f : Int), i64v (t' : Int), slv w]) (hk : ∀ h' T', EdR S n h h' T T' f t' l → wp P (K (0, ())) h' Q) :
  wp P (.call (F_Text_Change S (some T.p) ⟨some a2, 1, 1⟩) [.one (.int .i64)] K) h Q := by
 have lo := t.lo
 have hAl := txA_len T
 refine c_edit M (t.ext e0) (Nat.le_trans hn e0.size) ow o2 (fun x hx hz => by have := (lo _ hz).2; have := (ow.own.lt hx).1; omega) (fun hz => by have := (lo _ hz).2; have := (o2.lt rfl).1; omega) (by omega) (by omega) (by omega) hf hA hsm fun h' T' c t' nx hels hA' hb => hk h' T' ⟨c, t', nx, ?_, hA', hb⟩
 unfold txA
 rw [nx.enc, hels]
 simp only [List.map_append, List.map_take, List.map_drop, List.map_map, Int.toNat_natCast]
 congr 2
 exact List.map_id _
end Go.Sw.Piece

set_option linter.unusedVariables false
set_option linter.unusedSimpArgs false
set_option maxRecDepth 100000
namespace Go.Sw.Piece
open Go.Sw.Any Go.Sw.Codec
variable {P : Program} {S : Ids} {h : Heap} {Q : Nat → List Value → Heap → Prop}
theorem seam_facts (X Y : List Int) : let A := X ++ 13 :: 10 :: Y
  cntE A (X.length + 1) = cntE A X.length ∧ ∃ F : Int, lineD A (cntE A X.length) = (F, (X.length : Int), ((X.length + 2 : Nat) : Int), 2, ()) := by
 intro A
 have g0 : A.getD X.length 0 = 13 := by simp [A, List.getD_eq_getElem?_getD, List.getElem?_append_right]
 have g1 : A.getD (X.length + 1) 0 = 10 := by simp [A, List.getD_eq_getElem?_getD, List.getElem?_append_right]
 have hl : A.length = X.length + (Y.length + 2) := by simp [A]
 have hn : ¬ isE A X.length = true := fun h => by
  rcases isE_is.1 h with h | h
  ·omega
  ·exact h.2 g1
 have he : isE A (X.length + 1) = true := isE_is.2 (.inl g1)
 have hc := notE hn
 obtain ⟨k1, k2⟩ := end_get he (by omega)
 rw [hc] at k1 k2
 refine ⟨hc, (startN A (cntE A X.length) : Int), ?_⟩
 have hb : brkN A (X.length + 1 + 1) = 2 := by
  unfold brkN
  rw [show X.length + 1 + 1 - 1 = X.length + 1 by omega, if_neg (by omega), if_pos ⟨by omega, by rw [show X.length + 1 + 1 - 2 = X.length by omega]; exact g0⟩]
 unfold lineD
 rw [if_pos k2, k1, hb, if_pos rfl, show X.length + 1 + 1 - 2 = X.length by omega]; rfl
end Go.Sw.Piece

set_option linter.unusedVariables false
set_option linter.unusedSimpArgs false
set_option maxRecDepth 100000
namespace Go.Sw.Piece
open Go.Sw.Any Go.Sw.Codec
variable {P : Program} {S : Ids} {h : Heap} {Q : Nat → List Value → Heap → Prop}
structure SmR (S : Ids) (n : Nat) (h : Heap) (b : Addr) (T : TX) (s : Sl) (k : Nat) : Prop where
 t : TextR S n h T
 ob : Own n 1 h ⟨some b, 2, 2⟩ (Bs.inj bB ((some T.p, s, ()) : BoD))
 limit : T.limit = 65536
 len : (bytesL T.cur.ps).length ≤ 50000 + 4 * k
 A : T.A.length ≤ 4 * k
 db : ¬ T.Z b.block
variable {n k : Nat} {b : Addr} {T : TX} {s : Sl}
theorem BothR.sm (o : BothR S n h b T s 0) : SmR S n h b T s 0 := ⟨o.t, o.ob, o.limit, by have := o.len; omega, by have := o.A; omega, o.db⟩
theorem SmR.ext {h' : Heap} (o : SmR S n h b T s k) (e : Ext h h') : SmR S n h' b T s k := ⟨o.t.ext e, o.ob.ext e, o.limit, o.len, o.A, o.db⟩
theorem SmR.few (o : SmR S n h b T s k) : (txA T).length ≤ 50000 + 4 * k := by
 have h2 := (toksL_le (enc := T.enc) o.t.cur.bytes).1
 rw [txA_len, els_len]
 have := o.len
 omega
theorem SmR.ld {K : Option Addr → Prog} (o : SmR S n h b T s k) (hk : wp P (K (some T.p)) h Q) : wp P (.load (.one .ptr) (shiftTo (some b) 0) K) h Q := s_cell (b := .ptr) (some T.p) rfl o.ob.cells rfl hk
theorem SmR.ck {K : Prog} (o : SmR S n h b T s k) (hk : wp P K h Q) : wp P (.check (shiftTo (some b) 0) [.pointer (some T.p)] K) h Q := s_ckC o.ob.cells rfl hk
theorem SmR.edit (M : Meth0 P S) {m : Nat} {w : Sl} {l : List Int} {f t' : Nat} {K : Int × Unit → Prog} {h0 : Heap} (o : SmR S n h0 b T s k) (e0 : Ext h0 h) (hn : n ≤ h0.size) (ow : OwnL m .i64 h w l) (hm : h0.size ≤ m) (h1 : f ≤ t') (h2 : t' ≤ (txA T).length) (hf : fitsE T.enc l) (hk : k + l.length ≤ 3000) (a2 : Addr)
  (o2 : Own m 1 h ⟨some a2, 3, 3⟩ [i64v (f : Int), i64v (t' : Int), slv w])
  (hq : ∀ h' T', Chg T.Z h h' → SmR S n h' b T' s (k + l.length) → T'.p = T.p → T'.enc = T.enc → txA T' = (txA T).take f ++ l ++ (txA T).drop t' → (∀ i, T'.Z i → T.Z i ∨ h.size ≤ i) → wp P (K (0, ())) h' Q) :
  wp P (.call (F_Text_Change S (some T.p) ⟨some a2, 1, 1⟩) [.one (.int .i64)] K) h Q := by
 have hl := o.len
 have hA := o.A
 refine s_edit1 M o.t e0 hn ow hm h1 h2 hf (by omega) (by rw [o.limit]; omega) a2 o2 fun h' T' R => ?_
 have bl := (o.ob.lt rfl).2
 have c : Chg T.Z h h' := R.chg.mono fun i _ hw => wfoot_Z (o.t.ext e0) hw
 refine hq h' T' c ⟨R.t, ?_, by rw [R.nx.limit]; exact o.limit, by have := R.len; omega, by have := R.ad; omega, fun hz => ?_⟩ R.nx.p R.nx.enc R.A fun i hi => R.nx.zn i hi
 ·rw [R.nx.p]
  exact c.own (o.ob.ext e0) fun x hx hw => by cases hx; exact o.db hw
 ·rcases R.nx.zn _ hz with hz | hz
  ·exact o.db hz
  ·have := e0.size; omega
end Go.Sw.Piece

set_option linter.unusedVariables false
set_option linter.unusedSimpArgs false
set_option maxRecDepth 100000
namespace Go.Sw.Piece
open Go.Sw.Any Go.Sw.Codec
def bX : List Int → Int → Nat
 | [], _ => 0
 | a :: X, c => (if a = 10 ∨ (a = 13 ∧ X.getD 0 c ≠ 10) then 1 else 0) + bX X c
theorem getD_app (X Y : List Int) (c : Int) : (X ++ Y).getD 0 c = X.getD 0 (Y.getD 0 c) := by
 cases X with
 | nil => rfl
 | cons a X => rfl
theorem nB_bX (X Y : List Int) : nB (X ++ Y) = bX X (Y.getD 0 0) + nB Y := by
 induction X with
 | nil => simp [bX]
 | cons a X ih => rw [List.cons_append, nB_cons, ih, getD_app, bX]; omega
theorem bX_app (X Z : List Int) (c : Int) : bX (X ++ Z) c = bX X (Z.getD 0 c) + bX Z c := by
 induction X with
 | nil => simp [bX]
 | cons a X ih => rw [List.cons_append, bX, bX, ih, getD_app]; omega
def lastA (X : List Int) : Int := if X.length = 0 then 0 else X.getD (X.length - 1) 0
theorem lastA_app (X : List Int) (w : Int) : lastA (X ++ [w]) = w := by
 unfold lastA
 rw [if_neg (by simp)]
 simp [List.getD_eq_getElem?_getD]
theorem bX_eq (X : List Int) {c d : Int} (hc : c ≠ 10 ∨ lastA X ≠ 13) (hd : d ≠ 10 ∨ lastA X ≠ 13) : bX X c = bX X d := by
 rcases List.eq_nil_or_concat X with rfl | ⟨W, w, rfl⟩
 ·rfl
 ·rw [List.concat_eq_append] at *
  rw [lastA_app] at hc hd
  rw [bX_app, bX_app]
  show bX W w + ((if w = 10 ∨ (w = 13 ∧ c ≠ 10) then 1 else 0) + 0) = bX W w + ((if w = 10 ∨ (w = 13 ∧ d ≠ 10) then 1 else 0) + 0)
  have : (w = 10 ∨ (w = 13 ∧ c ≠ 10)) ↔ (w = 10 ∨ (w = 13 ∧ d ≠ 10)) := by omega
  simp only [this]
theorem lastA_bfr {A : List Int} {p : Nat} (hp : p ≤ A.length) (out : List Int) : bfr A p out = lastA (A.take p ++ out) := by
 unfold bfr lastA
 rw [List.length_append, List.length_take, show min p A.length = p by omega]
 by_cases ho : out.length = 0
 ·have : out = [] := List.length_eq_zero_iff.1 ho
  subst this
  rw [if_pos (show ([] : List Int).length = 0 from rfl), List.append_nil, List.length_nil, Nat.add_zero]
  by_cases h0 : p = 0
  ·rw [if_pos h0, if_pos h0]
  ·rw [if_neg h0, if_neg h0, List.getD_eq_getElem?_getD, List.getD_eq_getElem?_getD, List.getElem?_take, if_pos (by omega)]
 ·rw [if_neg ho, if_neg (by omega), List.getD_eq_getElem?_getD, List.getD_eq_getElem?_getD, List.getElem?_append_right (by rw [List.length_take]; omega), List.length_take]
  congr 2
  omega
def ends (l : List Int) : Nat := (l.filter (fun x => decide (x = 10))).length
def noEnd (l : List Int) : List Int := l.filter fun x => decide (x ≠ 10) && decide (x ≠ 13)
def oneE (x : Int) : Nat := if x = 10 then 1 else 0
theorem ends_app (l m : List Int) : ends (l ++ m) = ends l + ends m := by unfold ends; rw [List.filter_append, List.length_append]
theorem ends_one (x : Int) : ends [x] = oneE x := by
 unfold ends oneE
 by_cases h : x = 10
 ·rw [if_pos h, List.filter_cons_of_pos (by simp [h])]; rfl
 ·rw [if_neg h, List.filter_cons_of_neg (by simp [h])]; rfl
theorem noEnd_app (l m : List Int) : noEnd (l ++ m) = noEnd l ++ noEnd m := List.filter_append ..
def tyOk (l : List Int) : Prop := ∀ x, x ∈ l → x = 10 ∨ (32 ≤ x ∧ x ≤ 95)
theorem ty_step (A X : List Int) (p : Nat) (nat_ : Int) (last : Bool) (x : Int) (hx : x = 10 ∨ (32 ≤ x ∧ x ≤ 95)) :
  bX (X ++ tyP A p nat_ last (lastA X) x) 0 = bX X 0 + oneE x := by
 unfold tyP oneE
 rcases hx with rfl | hx
 ·rw [if_neg (by decide), if_pos rfl]
  have c13 : bX (X ++ [13, 10]) 0 = bX X 0 + 1 := by
   rw [bX_app]
   have : bX X (([13, 10] : List Int).getD 0 0) = bX X 0 := bX_eq X (.inl (by decide)) (.inl (by decide))
   rw [this]; rfl
  split
  ·exact c13
  ·rename_i hm
   unfold endL
   split
   ·rename_i h1
    have hb : lastA X ≠ 13 := fun h => hm (by unfold meltF; rw [decide_eq_true (show nat_ = 1 ∧ lastA X = 13 from ⟨h1, h⟩)]; rfl)
    rw [bX_app]
    have : bX X (([10] : List Int).getD 0 0) = bX X 0 := bX_eq X (.inr hb) (.inl (by decide))
    rw [this]; rfl
   ·split
    ·exact c13
    ·rw [bX_app]
     have : bX X (([13] : List Int).getD 0 0) = bX X 0 := bX_eq X (.inl (by decide)) (.inl (by decide))
     rw [this]; rfl
 ·rw [if_pos (by omega), if_neg (by omega), bX_app]
  have : bX X (([x] : List Int).getD 0 0) = bX X 0 := bX_eq X (.inl (by show x ≠ 10; omega)) (.inl (by decide))
  rw [this]
  show _ + ((if x = 10 ∨ (x = 13 ∧ _) then 1 else 0) + 0) = _
  rw [if_neg (by omega)]
theorem ty_all {A l : List Int} {p : Nat} {nat_ : Int} (hp : p ≤ A.length) (hl : tyOk l) : ∀ i, i ≤ l.length → bX (A.take p ++ tyF A p nat_ l i) 0 = bX (A.take p) 0 + ends (l.take i)
 | 0, _ => by simp [tyF, ends]
 | i + 1, hi => by
  unfold tyF
  rw [← List.append_assoc, lastA_bfr hp, ty_step _ _ _ _ _ _ (hl _ ?_), ty_all hp hl i (by omega), List.take_add_one, List.getElem?_eq_getElem (by omega), ends_app]
  ·have : l.getD i 0 = l[i] := by rw [List.getD_eq_getElem?_getD, List.getElem?_eq_getElem (by omega)]; rfl
   rw [this]
   show _ = _ + (_ + ends [l[i]])
   rw [ends_one]; omega
  ·rw [List.getD_eq_getElem?_getD, List.getElem?_eq_getElem (by omega)]; exact List.getElem_mem _
theorem ty_plain {A l : List Int} {p : Nat} {nat_ : Int} (hl : tyOk l) : ∀ i, i ≤ l.length → noEnd (tyF A p nat_ l i) = noEnd (l.take i)
 | 0, _ => rfl
 | i + 1, hi => by
  unfold tyF
  rw [noEnd_app, ty_plain hl i (by omega), List.take_add_one, List.getElem?_eq_getElem (by omega), noEnd_app]
  have : l.getD i 0 = l[i] := by rw [List.getD_eq_getElem?_getD, List.getElem?_eq_getElem (by omega)]; rfl
  rw [this]
  congr 1
  show _ = noEnd [l[i]]
  unfold tyP endL
  split
  ·rfl
  ·rename_i h
   have h : l[i] = 10 := by omega
   rw [h]
   split
   ·rfl
   ·split
    ·rfl
    ·split <;> rfl
theorem ty_last {A l : List Int} {p : Nat} {nat_ : Int} (hn : 1 ≤ nat_ ∧ nat_ ≤ 3) (hp : p ≤ A.length) (hl : tyOk l) (h0 : l ≠ []) (h10 : A.getD p 0 = 10) : lastA (A.take p ++ tyF A p nat_ l l.length) ≠ 13 := by
 obtain ⟨i, hi⟩ : ∃ i, l.length = i + 1 := ⟨l.length - 1, by have := List.length_pos_iff.2 h0; omega⟩
 have hx := hl (l.getD i 0) (by rw [List.getD_eq_getElem?_getD, List.getElem?_eq_getElem (by omega)]; exact List.getElem_mem _)
 rw [hi]
 unfold tyF
 rw [← List.append_assoc]
 generalize A.take p ++ tyF A p nat_ l i = X
 have c10 : ∀ Y : List Int, lastA (Y ++ [13, 10]) ≠ 13 := fun Y => by
  rw [show Y ++ [13, 10] = (Y ++ [13]) ++ [10] by simp, lastA_app]; decide
 unfold tyP
 split
 ·rw [lastA_app]; omega
 ·split
  ·exact c10 _
  ·rename_i hm
   unfold endL
   split
   ·rw [lastA_app]; decide
   ·split
    ·exact c10 _
    ·rename_i h1 h2
     refine absurd ?_ hm
     unfold meltF
     rw [decide_eq_true (show nat_ = 3 ∧ decide (i + 1 = l.length) = true ∧ A.getD p 0 = 10 from ⟨by omega, decide_eq_true hi.symm, h10⟩), Bool.or_true]
theorem typed_nB {A l : List Int} {p : Nat} {nat_ : Int} (hn : 1 ≤ nat_ ∧ nat_ ≤ 3) (hp : p ≤ A.length) (hl : tyOk l) (hs : ¬ (0 < p ∧ p < A.length ∧ A.getD (p - 1) 0 = 13 ∧ A.getD p 0 = 10)) :
  nB (A.take p ++ tyF A p nat_ l l.length ++ A.drop p) = nB A + ends l := by
 have hd : (A.drop p).getD 0 0 = A.getD p 0 := by rw [List.getD_eq_getElem?_getD, List.getD_eq_getElem?_getD, List.getElem?_drop]; rfl
 have hX : bX (A.take p) (A.getD p 0) = bX (A.take p) 0 := by
  refine bX_eq _ ?_ (.inl (by decide))
  by_cases h10 : A.getD p 0 = 10
  ·right
   have hpl : p < A.length := by
    by_cases h : p < A.length
    ·exact h
    ·rw [List.getD_eq_getElem?_getD, List.getElem?_eq_none (by omega)] at h10; cases h10
   have hb := lastA_bfr hp []
   rw [List.append_nil] at hb
   rw [← hb]
   unfold bfr
   rw [if_pos (show ([] : List Int).length = 0 from rfl)]
   split
   ·decide
   ·exact fun h => hs ⟨by omega, hpl, h, h10⟩
  ·exact .inl h10
 have hA : nB A = bX (A.take p) 0 + nB (A.drop p) := by
  rw [← hX, ← hd, ← nB_bX, List.take_append_drop]
 have hall := ty_all (nat_ := nat_) hp hl l.length (Nat.le_refl _)
 rw [List.take_length] at hall
 rw [nB_bX, hd, hA]
 by_cases h0 : l = []
 ·subst h0
  have : bX (A.take p ++ tyF A p nat_ [] ([] : List Int).length) (A.getD p 0) = bX (A.take p) 0 := by
   show bX (A.take p ++ []) (A.getD p 0) = _
   rw [List.append_nil, hX]
  rw [this]; show _ = _ + 0; omega
 ·have : bX (A.take p ++ tyF A p nat_ l l.length) (A.getD p 0) = bX (A.take p ++ tyF A p nat_ l l.length) 0 := by
   refine bX_eq _ ?_ (.inl (by decide))
   by_cases h10 : A.getD p 0 = 10
   ·exact .inr (ty_last hn hp hl h0 h10)
   ·exact .inl h10
  omega
end Go.Sw.Piece

set_option linter.unusedVariables false
set_option linter.unusedSimpArgs false
set_option maxRecDepth 100000
namespace Go.Sw.Piece
open Go.Sw.Any Go.Sw.Codec
open Go.Sw.Tree (iv s_putAll s_newP s_getP s_getT s_putP eqI_self Placed cell_own wp_whileG minI_eq)
variable {P : Program} {S : Ids} {h : Heap} {Q : Nat → List Value → Heap → Prop}
theorem bind_noC {m : Prog} {K : Bool × Unit → Prog} {Y : Prog} {R : Heap → Prop} (hm : wp P m h fun t vs h' => t = 0 ∧ vs = [.bool false] ∧ R h') (hk : ∀ h', R h' → wp P (K (Bool.false, ())) h' Q) : wp P (.bind m fun t vs => ifB (eqN t 0) (.cast [.one .bool] vs K) Y) h Q :=
 wp_mono m (fun t vs h' ⟨ht, hv, r⟩ => s_exit ht (false, ()) hv (hk h' r)) hm
variable {n k : Nat} {b : Addr} {T : TX} {s : Sl}
theorem s_of (M : Meth0 P S) (C : Cl0 P S) {q : Nat} {K : Int × Unit → Prog} (t : TextR S n h T) (hq : q ≤ (txA T).length) (hk : ∀ h', Ext h h' → wp P (K (((cntE (txA T) q : Nat) : Int), ())) h' Q) : wp P (.call (F_lines_Of S (some T.p) (q : Int)) [.one (.int .i64)] K) h Q :=
 wp_call (c_lOf M C t) fun ⟨(z : Int), _⟩ h1 e1 hz => by
  have hz : z = cntE (txA T) (min (max (q : Int) 0) (txA T).length).toNat := hz
  rw [show (min (max (q : Int) 0) (txA T).length).toNat = q by omega] at hz
  subst hz
  exact hk h1 e1
theorem s_brk (M : Meth0 P S) (C : Cl0 P S) (L : ClL P S) {K : Int × Unit → Prog} (t : TextR S n h T) (hk : ∀ h', Ext h h' → wp P (K (((nB (txA T) : Nat) : Int), ())) h' Q) : wp P (.call (F_law6_breaks S (some T.p)) [.one (.int .i64)] K) h Q :=
 wp_call (c_breaks M C L t) fun ⟨(z : Int), _⟩ h1 e1 hz => by
  have hz : z = nB (txA T) := hz
  subst hz
  exact hk h1 e1
theorem s_newA {vs : List Value} {K : Addr → Prog} (hl : vs.length ≤ 1000) (hk : ∀ h', Ext h h' → Own h.size 1 h' ⟨some ⟨h.size, 0, none⟩, vs.length, vs.length⟩ vs → wp P (K ⟨h.size, 0, none⟩) h' Q) : wp P (.alloc vs K) h Q :=
 fun el => hk _ (Ext.push ..) (own_alloc (by simp) (Nat.le_refl _) (by omega))
theorem one_fits {enc a : Int} (he : known enc) (ha : a = 10 ∨ a = 13 ∨ a = 120) : fitsE enc [a] := by
 intro x hx
 rw [List.mem_singleton.1 hx, fits_iff]
 unfold known at he
 omega
theorem SmR.put1 (M : Meth0 P S) {a : Int} {f : Nat} {K : Int × Unit → Prog} (o : SmR S n h b T s k) (hn : n ≤ h.size) (hf : f ≤ (txA T).length) (ha : a = 10 ∨ a = 13 ∨ a = 120) (hk : k + 1 ≤ 3000)
  (hq : ∀ h' T', Keep n h h' → Chg T.Z h h' → SmR S n h' b T' s (k + 1) → txA T' = (txA T).take f ++ [a] ++ (txA T).drop f → (∀ i, T'.Z i → T.Z i ∨ h.size ≤ i) → wp P (K (0, ())) h' Q) :
  wp P (.alloc [.int .i64 a] fun (a1 : Addr) => .check (shiftTo (some b) 0) [.pointer (some T.p)] <| .alloc [.int .i64 (f : Int), .int .i64 (f : Int), .slice (some a1) 1 1] fun (a2 : Addr) => .check (shiftTo (some b) 0) [.pointer (some T.p)] <| .call (F_Text_Change S (some T.p) ⟨some a2, 1, 1⟩) [.one (.int .i64)] K) h Q := by
 refine s_newA (by simp) fun h1 e1 o1 => (o.ext e1).ck (s_newA (by simp) fun h2 e2 o2 => (o.ext (e1.trans e2)).ck ?_)
 have e12 := e1.trans e2
 have ow : OwnL h.size .i64 h2 ⟨some ⟨h.size, 0, none⟩, 1, 1⟩ [a] := ⟨o1.ext e2, by intro x hx; rw [List.mem_singleton.1 hx, fits_i64]; omega⟩
 refine o.edit M e12 hn ow (Nat.le_refl _) (Nat.le_refl _) hf (one_fits o.t.enc ha) hk _ (o2.mono e1.size) fun h' T' c o' _ _ hA hz => ?_
 exact hq h' T' (Keep.trans (e12.keep hn) (c.keep (Nat.le_trans hn e12.size) fun i hi f => by have := (o.t.lo i f).1; omega)) (Chg.pre e12 c) o' hA fun i hi => (hz i hi).imp id fun g => Nat.le_trans e12.size g
theorem SmR.put1' (M : Meth0 P S) {a : Int} {f : Nat} {K : Int × Unit → Prog} (o : SmR S n h b T s k) (hn : n ≤ h.size) (hf : f ≤ (txA T).length) (ha : a = 10 ∨ a = 13 ∨ a = 120) (hk : k + 1 ≤ 3000)
  (hq : ∀ h' T', Keep n h h' → Chg T.Z h h' → SmR S n h' b T' s (k + 1) → txA T' = (txA T).take f ++ [a] ++ (txA T).drop f → (∀ i, T'.Z i → T.Z i ∨ h.size ≤ i) → wp P (K (0, ())) h' Q) :
  wp P (.alloc [.int .i64 a] fun (a1 : Addr) => .alloc [.int .i64 (f : Int), .int .i64 (f : Int), .slice (some a1) 1 1] fun (a2 : Addr) => .call (F_Text_Change S (some T.p) ⟨some a2, 1, 1⟩) [.one (.int .i64)] K) h Q := by
 refine s_newA (by simp) fun h1 e1 o1 => s_newA (by simp) fun h2 e2 o2 => ?_
 have e12 := e1.trans e2
 have ow : OwnL h.size .i64 h2 ⟨some ⟨h.size, 0, none⟩, 1, 1⟩ [a] := ⟨o1.ext e2, by intro x hx; rw [List.mem_singleton.1 hx, fits_i64]; omega⟩
 refine o.edit M e12 hn ow (Nat.le_refl _) (Nat.le_refl _) hf (one_fits o.t.enc ha) hk _ (o2.mono e1.size) fun h' T' c o' _ _ hA hz => ?_
 exact hq h' T' (Keep.trans (e12.keep hn) (c.keep (Nat.le_trans hn e12.size) fun i hi f => by have := (o.t.lo i f).1; omega)) (Chg.pre e12 c) o' hA fun i hi => (hz i hi).imp id fun g => Nat.le_trans e12.size g
theorem c_LinesSeam (M : Meth0 P S) (C : Cl0 P S) (L : ClL P S) {x : StX} {at_ : Int} (hx : StSh.ok h x) (hat : fitsI .i64 at_) :
  Gives P (F_law6_LinesSeam S (x.1, x.2.1.1, ()) at_) [.one .bool] h fun (r : Bool × Unit) _ => r.1 = true := by
 unfold F_law6_LinesSeam Gives
 have lx := Sh.lst hx.2.1
 refine s_newO (bs := bS) ((x.1, x.2.1.1, ()) : StaD) (by decide) fun h1 e1 o1 => s_getO (bs := bS) o1 (wp_call (c_opened6 M (lx.ext e1)) fun ⟨⟨(p1 : Option Addr), (s1 : Sl), _⟩, (b1 : Bool), _⟩ h2 e2 ⟨hb1, T1, hp1, O1⟩ => ?_)
 have hb1 : b1 = true := hb1
 have hp1 : p1 = some T1.p := hp1
 subst hb1; subst hp1
 have O1 : OpB S h1.size h2 (x.2.1.2.take 50000) T1 s1 := O1
 have e12 := e1.trans e2
 refine s_putO (bs := bB) (z := ((none, ⟨none, 0, 0⟩, ()) : BoD)) ((some T1.p, s1, ()) : BoD) (by decide) flatB2 fun h3 e3 o3 => ?_
 have q1 := e1.size; have q12 := e12.size
 have B1 : BothR S h.size h3 ⟨h2.size, 0, none⟩ T1 s1 0 := O1.both q1 e3 o3 q12 (Nat.le_refl _)
 have e13 := e12.trans e3
 have hN := nLines_le (txA T1)
 refine bind_no (wp_ifB (fun hh => by cases hh) fun _ => s_cell (b := .ptr) (some T1.p) rfl B1.ob.cells rfl (wp_call (c_lCount M C B1.t) fun ⟨(c : Int), _⟩ h4 e4 hc => f_ret2 e4 ?_)) fun h4 e4 => wp_ifB (fun hh => by cases hh) fun _ => ?_
 ·have hc : c = nLines (txA T1) := hc
  subst hc
  rw [ltI_not]; dsimp only; omega
 have B4 := B1.ext e4
 have e04 := e13.trans e4
 have q4 := e04.size
 have hfew := B4.few
 have lA := B4.at_.len
 refine s_cell (b := .sl) s1 rfl B4.ob.cells rfl ?_
 rw [natI_def, lA]
 have w1 := within_le (x := at_) (n := ((txA T1).length : Int)) (by omega)
 refine wp_call (c_within hat (by omega) (by omega)) fun ⟨(z : Int), _⟩ h5 e5 hz => ?_
 have hz : z = withinF at_ (txA T1).length := hz
 rw [← hz] at w1
 obtain ⟨p, rfl⟩ : ∃ p : Nat, z = p := ⟨z.toNat, by omega⟩
 have hp : p ≤ (txA T1).length := by omega
 clear hz
 dsimp only
 have e05 := e04.trans e5
 have q5 := e05.size
 have o5 : SmR S h.size h5 ⟨h2.size, 0, none⟩ T1 s1 0 := (B4.ext e5).sm
 obtain ⟨X, Y, hXY, hXl⟩ : ∃ X Y : List Int, txA T1 = X ++ Y ∧ X.length = p := ⟨(txA T1).take p, (txA T1).drop p, (List.take_append_drop _ _).symm, by rw [List.length_take]; omega⟩
 refine bind_noC (R := fun h' => Ext h h' ∧ ∃ T2, SmR S h.size h' ⟨h2.size, 0, none⟩ T2 s1 2 ∧ txA T2 = X ++ 13 :: 10 :: Y) ?_ ?_
 ·refine o5.ld (o5.put1' M q5 hp (.inl rfl) (by omega) fun h6 T6 k6 c6 o6 A6 _ => wp_ifB (fun hh => by rw [neI_iff] at hh; exact absurd rfl hh) fun _ => ?_)
  have A6 : txA T6 = X ++ 10 :: Y := by rw [A6, hXY, ← hXl, List.take_left', List.drop_left'] <;> simp
  have q6 : h.size ≤ h6.size := Nat.le_trans q5 k6.1
  refine o6.ld (o6.put1' M q6 (by rw [A6, List.length_append]; omega) (.inr (.inl rfl)) (by omega) fun h7 T7 k7 c7 o7 A7 _ => s_ret ⟨rfl, rfl, ?_, T7, o7, ?_⟩)
  ·exact Keep.trans e05 (Keep.trans k6 k7)
  ·rw [A7, A6, ← hXl, List.take_left', List.drop_left'] <;> simp
 rintro h7 ⟨e07, T2, o7, A2⟩
 have q7 := e07.size
 refine wp_ifB (fun hh => by cases hh) fun _ => ?_
 obtain ⟨sf1, F, sf2⟩ := seam_facts X Y
 rw [hXl, ← A2] at sf1 sf2
 have l2 : (txA T2).length = X.length + (Y.length + 2) := by rw [A2, List.length_append]; rfl
 have few2 := o7.few
 refine bind_val (tys := [.one .ptr, .one (.int .i64)]) _ (c_lineOf M C (p := p) o7.t o7.ob (by omega)) fun ⟨(pa : Option Addr), (ea : Int), _⟩ h8 e8 ⟨la, m, hpa, hm, hea, ol⟩ => ?_
 have hpa : pa = some la := hpa
 have hea : ea = 0 := hea
 subst hpa; subst hea
 rw [sf2] at ol
 have o8 := o7.ext e8
 have e08 := e07.trans e8
 have addp1 : addI .i64 (p : Int) 1 = ((p + 1 : Nat) : Int) := by rw [add_ok (by omega) (by omega)]; rfl
 have addp2 : addI .i64 (p : Int) 2 = ((p + 2 : Nat) : Int) := by rw [add_ok (by omega) (by omega)]; rfl
 dsimp only
 rw [addp1, addp2]
 refine bind_no (wp_ifB (fun hh => by rw [neI_iff] at hh; exact absurd rfl hh) fun _ => wp_grd rfl (s_cell (b := .int .i64) (p : Int) rfl ol.cells rfl (wp_ifB (fun hh => by rw [neI_iff] at hh; exact absurd rfl hh) fun _ =>
  wp_grd rfl (s_cell (b := .int .i64) ((p + 2 : Nat) : Int) rfl ol.cells rfl (wp_ifB (fun hh => by rw [neI_iff] at hh; exact absurd rfl hh) fun _ => wp_grd rfl (s_cell (b := .int .i64) (2 : Int) rfl ol.cells rfl (wp_ifB (fun hh => by rw [neI_iff] at hh; exact absurd rfl hh) fun _ => ?_))))))) fun h9 e9 => wp_ifB (fun hh => by cases hh) fun _ => ?_
 ·refine o8.ld (o8.ld (s_of M C o8.t (by omega) fun h9 e9 => (o8.ext e9).ck (s_of M C (o8.ext e9).t (by omega) fun h10 e10 => f_ret2 (e9.trans e10) ?_)))
  rw [neI_not, sf1]
 have o9 := o8.ext e9
 refine o9.ld (s_brk M C L o9.t fun h10 e10 => ?_)
 have o10 := o9.ext e10
 have e010 := (e08.trans e9).trans e10
 have q10 := e010.size
 have ol10 := (ol.ext e9).ext e10
 have lad : ¬ T2.Z la.block := fun hz => by have := (o7.t.lo _ hz).2; have := (ol.lt rfl).1; omega
 have nb2 : nB (txA T2) ≤ (txA T2).length := cntE_le _ _
 have addb : addI .i64 ((nB (txA T2) : Nat) : Int) 1 = ((nB (txA T2) + 1 : Nat) : Int) := by rw [add_ok (by omega) (by omega)]; rfl
 dsimp only
 rw [addb]
 refine bind_noC (R := fun h' => Ext h h' ∧ ∃ T3, SmR S h.size h' ⟨h2.size, 0, none⟩ T3 s1 3 ∧ txA T3 = X ++ 13 :: 120 :: 10 :: Y ∧ Own4 m h' la (F, (p : Int), ((p + 2 : Nat) : Int), 2, ()) ∧ ¬ T3.Z la.block) ?_ ?_
 ·refine o10.ld (o10.put1 M q10 (by omega) (.inr (.inr rfl)) (by omega) fun h11 T3 k11 c11 o11 A3 z11 => wp_ifB (fun hh => by rw [neI_iff] at hh; exact absurd rfl hh) fun _ => ?_)
  have A3 : txA T3 = X ++ 13 :: 120 :: 10 :: Y := by
   rw [A3, A2, ← hXl, show X ++ 13 :: 10 :: Y = (X ++ [13]) ++ 10 :: Y by simp, show X.length + 1 = (X ++ [13]).length by simp, List.take_left', List.drop_left'] <;> simp
  have few3 := o11.few
  have l3 : (txA T3).length = X.length + (Y.length + 3) := by rw [A3, List.length_append]; rfl
  have nb3 : nB (txA T3) ≤ (txA T3).length := cntE_le _ _
  refine o11.ld (s_brk M C L o11.t fun h12 e12' => wp_ifB (fun hh => ?_) fun _ => ?_)
  ·rw [neI_iff] at hh
   exact absurd (by rw [A3, A2, nB_seam]) hh
  have o12 := o11.ext e12'
  refine o12.ld (o12.ld (s_of M C o12.t (by omega) fun h13 e13' => (o12.ext e13').ck (s_of M C (o12.ext e13').t (by omega) fun h14 e14' => ?_)))
  have hcs : cntE (txA T3) (p + 1) = cntE (txA T3) p + 1 := by
   rw [cntE_succ, if_pos]
   refine isE_is.2 (.inr ⟨?_, ?_⟩)
   ·rw [A3, ← hXl]; simp [List.getD_eq_getElem?_getD, List.getElem?_append_right]
   ·rw [A3, ← hXl]; simp [List.getD_eq_getElem?_getD, List.getElem?_append_right]
  have hcl := cntE_le (txA T3) p
  have hb : neI ((cntE (txA T3) (p + 1) : Nat) : Int) (addI .i64 ((cntE (txA T3) p : Nat) : Int) 1) = false := by
   rw [add_ok (by omega) (by omega), neI_not, hcs]; rfl
  dsimp only
  rw [hb]
  have e1114 := (e12'.trans e13').trans e14'
  refine s_ret ⟨rfl, rfl, Keep.trans e010 (Keep.trans k11 (e1114.keep (Nat.le_trans q10 k11.1))), T3, o11.ext e1114, A3, ?_, fun hz => ?_⟩
  ·exact (c11.own ol10 fun x hx f => by cases hx; exact lad f).ext e1114
  ·rcases z11 _ hz with hz | hz
   ·exact lad hz
   ·have := (ol10.lt rfl).2; omega
 rintro h14 ⟨e014, T3, o14, A3, ol14, lad3⟩
 refine wp_ifB (fun hh => by cases hh) fun _ => ?_
 have q14 := e014.size
 have l3 : (txA T3).length = X.length + (Y.length + 3) := by rw [A3, List.length_append]; rfl
 refine o14.ld (s_newA (by simp) fun h15 e15 o15 => o14.edit M e15 q14 (OwnL.nil h14.size .i64 h15) (Nat.le_refl _) (by omega) (by omega) (by intro y hy; cases hy) (by show 3 + 0 ≤ 3000; decide) _ o15 fun h16 T4 c16 o16 _ _ A4 z16 => wp_ifB (fun hh => by rw [neI_iff] at hh; exact absurd rfl hh) fun _ => ?_)
 have A4 : txA T4 = X ++ 13 :: 10 :: Y := by
  rw [A4, A3, ← hXl]
  have e1 : (X ++ 13 :: 120 :: 10 :: Y).take (X.length + 1) = X ++ [13] := by
   rw [show X ++ 13 :: 120 :: 10 :: Y = (X ++ [13]) ++ 120 :: 10 :: Y by simp, List.take_left' (by simp)]
  have e2 : (X ++ 13 :: 120 :: 10 :: Y).drop (X.length + 2) = 10 :: Y := by
   rw [show X ++ 13 :: 120 :: 10 :: Y = (X ++ [13, 120]) ++ 10 :: Y by simp, List.drop_left' (by simp)]
  rw [e1, e2]; simp
 have e016 : Ext h h16 := Keep.trans e014 (Keep.trans (e15.keep q14) (c16.keep (Nat.le_trans q14 e15.size) fun i hi f => by have := (o14.t.lo i f).1; omega))
 have ol16 := c16.own (ol14.ext e15) fun x hx f => by cases hx; exact lad3 f
 have A42 : txA T4 = txA T2 := A4.trans A2.symm
 refine bind_val (tys := [.one .ptr, .one (.int .i64)]) _ (c_lineOf M C (p := p) o16.t o16.ob (by rw [A42]; omega)) fun ⟨(pb : Option Addr), (eb : Int), _⟩ h17 e17 ⟨lb, m', hpb, hm', heb, ob⟩ => ?_
 have hpb : pb = some lb := hpb
 have heb : eb = 0 := heb
 subst hpb; subst heb
 rw [A42, sf2] at ob
 have o17 := o16.ext e17
 have ol17 := ol16.ext e17
 refine bind_bool True ?_ fun bb h18 e18 hbb => s_ret ⟨rfl, e016.trans (e17.trans e18), (bb, ()), rfl, hbb.2 trivial⟩
 refine wp_ifB (fun _ => o17.ld (s_brk M C L o17.t fun h18 e18 => ?_)) fun hh => by rw [eqI_not] at hh; exact absurd rfl hh
 rw [A42]
 have a := ob.ext e18
 have c := ol17.ext e18
 refine wp_ifB (fun _ => ?_) fun hh => by rw [eqI_not] at hh; exact absurd rfl hh
 refine wp_grd rfl (s_cell (b := .int .i64) F rfl a.cells rfl (wp_grd rfl (s_cell (b := .int .i64) F rfl c.cells rfl (wp_ifB (fun _ => ?_) fun hh => by rw [eqI_not] at hh; exact absurd rfl hh))))
 refine wp_grd rfl (s_cell (b := .int .i64) (p : Int) rfl a.cells rfl (wp_grd rfl (s_cell (b := .int .i64) (p : Int) rfl c.cells rfl (wp_ifB (fun _ => ?_) fun hh => by rw [eqI_not] at hh; exact absurd rfl hh))))
 refine wp_grd rfl (s_cell (b := .int .i64) ((p + 2 : Nat) : Int) rfl a.cells rfl (wp_grd rfl (s_cell (b := .int .i64) ((p + 2 : Nat) : Int) rfl c.cells rfl (wp_ifB (fun _ => ?_) fun hh => by rw [eqI_not] at hh; exact absurd rfl hh))))
 refine wp_grd rfl (s_cell (b := .int .i64) (2 : Int) rfl a.cells rfl (wp_grd rfl (s_cell (b := .int .i64) (2 : Int) rfl c.cells rfl (s_ret ⟨rfl, e18, _, rfl, ?_⟩))))
 exact Iff.intro (fun _ => trivial) fun _ => eqI_iff.2 rfl
end Go.Sw.Piece

set_option linter.unusedVariables false
set_option linter.unusedSimpArgs false
set_option maxRecDepth 100000
namespace Go.Sw.Piece
open Go.Sw.Any Go.Sw.Codec
structure CutR (A L : List Int) (f t : Nat) : Prop where
 ft : f ≤ t
 tl : t ≤ A.length
 is : L = A.take f ++ A.drop t
 len : L.length + (t - f) = A.length
 lo : ∀ j, j < f → L.getD j 0 = A.getD j 0
 hi : ∀ j, L.getD (f + j) 0 = A.getD (t + j) 0
 eq : ∀ j, j < f → isE L j = isE A j
theorem cut_of {A : List Int} {f t : Nat} (ft : f ≤ t) (tl : t ≤ A.length) (h : ∀ j, j + 1 = f → ((A.getD j 0 = 10 ∨ (A.getD j 0 = 13 ∧ A.getD t 0 ≠ 10)) ↔ (A.getD j 0 = 10 ∨ (A.getD j 0 = 13 ∧ A.getD (j + 1) 0 ≠ 10)))) : CutR A (A.take f ++ A.drop t) f t := by
 have lo : ∀ j, j < f → (A.take f ++ A.drop t).getD j 0 = A.getD j 0 := fun j hj => by
  rw [List.getD_eq_getElem?_getD, List.getElem?_append_left (by rw [List.length_take]; omega), List.getElem?_take, if_pos hj, ← List.getD_eq_getElem?_getD]
 have hi : ∀ j, (A.take f ++ A.drop t).getD (f + j) 0 = A.getD (t + j) 0 := fun j => by
  rw [List.getD_eq_getElem?_getD, List.getElem?_append_right (by rw [List.length_take]; omega), List.length_take, List.getElem?_drop, show t + (f + j - min f A.length) = t + j by omega, ← List.getD_eq_getElem?_getD]
 refine ⟨ft, tl, rfl, by rw [List.length_append, List.length_take, List.length_drop]; omega, lo, hi, fun j hj => ?_⟩
 rw [Bool.eq_iff_iff, isE_is, isE_is, lo j hj]
 by_cases hjf : j + 1 < f
 ·rw [lo _ hjf]
 ·have hx := hi 0
  rw [Nat.add_zero, Nat.add_zero] at hx
  have he : j + 1 = f := by omega
  rw [← h j he, show (A.take f ++ A.drop t).getD (j + 1) 0 = A.getD t 0 by rw [he]; exact hx]
variable {A L : List Int} {f t : Nat}
theorem CutR.cnt_lo (c : CutR A L f t) : ∀ p, p ≤ f → cntE L p = cntE A p
 | 0, _ => rfl
 | p + 1, hp => by rw [cntE_succ, cntE_succ, c.cnt_lo p (by omega), c.eq p (by omega)]
theorem CutR.e_hi (c : CutR A L f t) (j : Nat) : isE L (f + j) = isE A (t + j) := by
 rw [Bool.eq_iff_iff, isE_is, isE_is, c.hi, show f + j + 1 = f + (j + 1) by omega, c.hi]; rfl
theorem CutR.cnt_hi (c : CutR A L f t) : ∀ j, cntE L (f + j) + cntE A t = cntE A f + cntE A (t + j)
 | 0 => by rw [Nat.add_zero, Nat.add_zero, c.cnt_lo f (Nat.le_refl _)]
 | j + 1 => by
  have h := c.cnt_hi j
  rw [show f + (j + 1) = f + j + 1 by omega, show t + (j + 1) = t + j + 1 by omega, cntE_succ, cntE_succ, c.e_hi]; omega
theorem CutR.nB (c : CutR A L f t) : nB L + cntE A t = cntE A f + Go.Sw.Piece.nB A := by
 have h := c.cnt_hi (A.length - t)
 have h1 := c.len; have h2 := c.tl; have h3 := c.ft
 rw [show f + (A.length - t) = L.length by omega, show t + (A.length - t) = A.length by omega] at h
 exact h
theorem cnt_nB {p : Nat} (hp : p ≤ A.length) : cntE A p ≤ nB A := cntE_mono A hp
theorem CutR.end_lo (c : CutR A L f t) {i : Nat} (hi : i < cntE A f) : endN L i = endN A i ∧ i < Go.Sw.Piece.nB L ∧ i < Go.Sw.Piece.nB A ∧ endN A i ≤ f ∧ 1 ≤ endN A i := by
 have h1 := c.len; have h2 := c.tl; have h3 := c.ft
 have hA : i < Go.Sw.Piece.nB A := Nat.lt_of_lt_of_le hi (cnt_nB (by omega))
 obtain ⟨_, e1, e2, e3, e4⟩ := end_at hA
 have en := end_is hA
 have hx : endN A i ≤ f := by
  by_cases hx : endN A i ≤ f
  ·exact hx
  ·have := cntE_mono A (show f ≤ endN A i - 1 by omega); omega
 have ge := end_get (A := L) (i := endN A i - 1) (by rw [c.eq _ (by omega)]; exact en) (by omega)
 rw [c.cnt_lo _ (by omega), e4] at ge
 exact ⟨by omega, ge.2, hA, hx, e1⟩
theorem CutR.start_lo (c : CutR A L f t) {i : Nat} (hi : i ≤ cntE A f) : startN L i = startN A i := by
 cases i with
 | zero => rfl
 | succ i => rw [start_succ, start_succ]; exact (c.end_lo (by omega)).1
theorem CutR.brk_lo (c : CutR A L f t) {x : Nat} (h1 : 1 ≤ x) (hx : x ≤ f) : brkN L x = brkN A x := by
 unfold brkN
 rw [c.lo (x - 1) (by omega)]
 by_cases h2 : 2 ≤ x
 ·rw [c.lo (x - 2) (by omega)]
 ·rw [if_neg (c := 2 ≤ x ∧ L.getD (x - 2) 0 = 13) (fun h => h2 h.1), if_neg (c := 2 ≤ x ∧ A.getD (x - 2) 0 = 13) (fun h => h2 h.1)]
theorem CutR.line_lo (c : CutR A L f t) {i : Nat} (hi : i < cntE A f) : lineD L i = lineD A i := by
 obtain ⟨h1, h2, h3, h4, h5⟩ := c.end_lo hi
 unfold lineD
 rw [if_pos h2, if_pos h3, h1, c.start_lo (by omega), c.brk_lo h5 h4]
theorem start_line {p : Nat} (h : p = 0 ∨ isE A (p - 1) = true) (hp : p ≤ A.length) : startN A (cntE A p) = p := by
 by_cases h0 : p = 0
 ·subst h0; rfl
 ·have he : isE A (p - 1) = true := by rcases h with h | h; exact absurd h h0; exact h
  have hc := cntE_succ A (p - 1)
  rw [if_pos he, show p - 1 + 1 = p by omega] at hc
  have ge := end_get he (by omega)
  rw [hc, start_succ]; omega
theorem CutR.end_hi (c : CutR A L f t) {i : Nat} (h1 : cntE A t ≤ i) (hi : i < Go.Sw.Piece.nB A) : ∃ j, endN A i = t + j + 1 ∧ endN L (cntE A f + i - cntE A t) = f + j + 1 ∧ cntE A f + i - cntE A t < Go.Sw.Piece.nB L ∧ isE A (t + j) = true := by
 have l1 := c.len; have l2 := c.tl; have l3 := c.ft
 obtain ⟨_, e1, e2, e3, e4⟩ := end_at hi
 have en := end_is hi
 have hx : t ≤ endN A i - 1 := by
  by_cases hx : t ≤ endN A i - 1
  ·exact hx
  ·have := cntE_mono A (show endN A i ≤ t by omega); omega
 obtain ⟨j, hj⟩ : ∃ j, endN A i - 1 = t + j := ⟨endN A i - 1 - t, by omega⟩
 rw [hj] at en e4
 have ge := end_get (A := L) (i := f + j) (by rw [c.e_hi]; exact en) (by omega)
 have hc := c.cnt_hi j
 rw [show cntE L (f + j) = cntE A f + i - cntE A t by omega] at ge
 exact ⟨j, by omega, ge.1, ge.2, en⟩
structure StartR (A : List Int) (f t : Nat) : Prop where
 f0 : f = 0 ∨ isE A (f - 1) = true
 t0 : t = 0 ∨ isE A (t - 1) = true
 seam : ¬ (0 < f ∧ t < A.length ∧ A.getD (f - 1) 0 = 13 ∧ A.getD t 0 = 10)
theorem CutR.start_hi (c : CutR A L f t) (s : StartR A f t) {i : Nat} (h1 : cntE A t ≤ i) (hi : i ≤ Go.Sw.Piece.nB A) : startN L (cntE A f + i - cntE A t) + (t - f) = startN A i := by
 have l1 := c.len; have l2 := c.tl; have l3 := c.ft
 by_cases he : i = cntE A t
 ·subst he
  rw [start_line s.t0 c.tl, show cntE A f + cntE A t - cntE A t = cntE L f by rw [c.cnt_lo f (Nat.le_refl _)]; omega, start_line ?_ (by omega)]
  ·omega
  ·by_cases h0 : f = 0
   ·exact .inl h0
   ·right; rw [c.eq _ (by omega)]; rcases s.f0 with h | h; exact absurd h h0; exact h
 ·obtain ⟨j, e1, e2, _, _⟩ := c.end_hi (i := i - 1) (by omega) (by omega)
  obtain ⟨k, rfl⟩ : ∃ k, i = k + 1 := ⟨i - 1, by omega⟩
  rw [show k + 1 - 1 = k by omega] at e1 e2
  rw [show cntE A f + (k + 1) - cntE A t = cntE A f + k - cntE A t + 1 by omega, start_succ, start_succ]
  omega
theorem CutR.brk_hi (c : CutR A L f t) (s : StartR A f t) {j : Nat} (he : isE A (t + j) = true) (hj : t + j < A.length) : brkN L (f + j + 1) = brkN A (t + j + 1) := by
 unfold brkN
 rw [show f + j + 1 - 1 = f + j by omega, show t + j + 1 - 1 = t + j by omega, c.hi]
 by_cases h13 : A.getD (t + j) 0 = 13
 ·rw [if_pos h13, if_pos h13]
 ·rw [if_neg h13, if_neg h13]
  have h10 : A.getD (t + j) 0 = 10 := by rcases isE_is.1 he with h | h; exact h; exact absurd h.1 h13
  cases j with
  | zero =>
   rw [Nat.add_zero] at h10 hj
   rw [if_neg (c := 2 ≤ f + 0 + 1 ∧ L.getD (f + 0 + 1 - 2) 0 = 13) (fun h => ?_), if_neg (c := 2 ≤ t + 0 + 1 ∧ A.getD (t + 0 + 1 - 2) 0 = 13) (fun h => ?_)]
   ·rw [show t + 0 + 1 - 2 = t - 1 by omega] at h
    rcases s.t0 with h0 | h0
    ·omega
    ·rcases isE_is.1 h0 with h0 | h0
     ·omega
     ·rw [show t - 1 + 1 = t by omega] at h0; exact h0.2 h10
   ·rw [show f + 0 + 1 - 2 = f - 1 by omega, c.lo _ (by omega)] at h
    exact s.seam ⟨by omega, hj, h.2, h10⟩
  | succ j =>
   rw [show f + (j + 1) + 1 - 2 = f + j by omega, show t + (j + 1) + 1 - 2 = t + j by omega, c.hi]
   by_cases h : A.getD (t + j) 0 = 13
   ·rw [if_pos ⟨by omega, h⟩, if_pos ⟨by omega, h⟩]
   ·rw [if_neg fun g => h g.2, if_neg fun g => h g.2]
def sliceD (A : List Int) (l : LnD) : List Int := (A.drop l.1.toNat).take (l.2.1.toNat - l.1.toNat)
def consL (A : List Int) (first last : Int) : Nat → List Int
 | 0 => []
 | n + 1 => consL A first last n ++ (if first ≤ (n : Int) ∧ (n : Int) ≤ last then [] else -9999 :: sliceD A (lineD A n))
theorem consL_succ (A : List Int) (first last : Int) (n : Nat) : consL A first last (n + 1) = consL A first last n ++ (if first ≤ (n : Int) ∧ (n : Int) ≤ last then [] else -9999 :: sliceD A (lineD A n)) := rfl
theorem CutR.slice_lo (c : CutR A L f t) {F T : Nat} (hT : T ≤ f) : (L.drop F).take (T - F) = (A.drop F).take (T - F) := by
 rw [← List.drop_take, ← List.drop_take, c.is, List.take_append_of_le_length (by rw [List.length_take]; have := c.tl; have := c.ft; omega), List.take_take, show min T f = T by omega]
theorem CutR.slice_hi (c : CutR A L f t) {F T F' T' : Nat} (hF : F' + (t - f) = F) (hT : T' + (t - f) = T) (hf : f ≤ F') : (L.drop F').take (T' - F') = (A.drop F).take (T - F) := by
 have h1 := c.ft; have h2 := c.tl
 have : L.drop F' = A.drop F := by
  rw [c.is, List.drop_append, List.length_take, List.drop_of_length_le (by rw [List.length_take]; omega), List.nil_append, List.drop_drop]
  congr 1; omega
 rw [this, show T' - F' = T - F by omega]
theorem CutR.sl_lo (c : CutR A L f t) {i : Nat} (hi : i < cntE A f) : sliceD L (lineD L i) = sliceD A (lineD A i) := by
 obtain ⟨h1, h2, h3, h4, h5⟩ := c.end_lo hi
 rw [c.line_lo hi]
 obtain ⟨T, N, q, R⟩ := line_is (A := A) (i := i) (by omega)
 have hN := (R.more h3).1
 rw [start_succ] at hN
 have := R.tn
 unfold sliceD
 rw [R.is]
 dsimp only
 rw [Int.toNat_natCast, Int.toNat_natCast]
 exact c.slice_lo (by omega)
theorem CutR.sl_hi (c : CutR A L f t) (s : StartR A f t) {i : Nat} (h1 : cntE A t ≤ i) (hi : i ≤ Go.Sw.Piece.nB A) : sliceD L (lineD L (cntE A f + i - cntE A t)) = sliceD A (lineD A i) := by
 have l1 := c.len; have l2 := c.tl; have l3 := c.ft
 have hs := c.start_hi s h1 hi
 have hf : f ≤ startN L (cntE A f + i - cntE A t) := by
  have a := start_line s.t0 c.tl
  have b : startN A (cntE A t) ≤ startN A i := by
   by_cases h : i = cntE A t
   ·rw [h]; exact Nat.le_refl _
   ·have x := start_at (A := A) (i := i) hi
    have y := start_at (A := A) (i := cntE A t) (cnt_nB c.tl)
    exact Nat.le_of_lt (cnt_lt (A := A) (by omega))
  omega
 unfold sliceD lineD
 have hn := c.nB
 by_cases hlt : i < Go.Sw.Piece.nB A
 ·obtain ⟨j, e1, e2, e3, e4⟩ := c.end_hi h1 hlt
  have hj : t + j < A.length := by have := (end_at hlt).2.2.1; omega
  rw [if_pos e3, if_pos hlt, e1, e2, c.brk_hi s e4 hj]
  dsimp only
  rw [Int.toNat_natCast, Int.toNat_natCast, Int.toNat_natCast, Int.toNat_natCast]
  have hst := start_lt hlt
  refine c.slice_hi hs ?_ hf
  have : brkN A (t + j + 1) = 2 → startN A i + 2 ≤ t + j + 1 := fun h => by
   unfold brkN at h
   rw [show t + j + 1 - 1 = t + j by omega] at h
   by_cases h13 : A.getD (t + j) 0 = 13
   ·rw [if_pos h13] at h; omega
   ·rw [if_neg h13] at h
    by_cases h2 : 2 ≤ t + j + 1 ∧ A.getD (t + j + 1 - 2) 0 = 13
    ·have := crlf_in hlt (by omega) (by rw [e1]; exact h2.2) (by rw [e1, show t + j + 1 - 1 = t + j by omega]; exact h13)
     omega
    ·rw [if_neg h2] at h; omega
  split
  ·rename_i hb; have := this hb; omega
  ·omega
 ·have : i = Go.Sw.Piece.nB A := by omega
  subst this
  rw [if_neg (by omega), if_neg (by omega)]
  dsimp only
  rw [Int.toNat_natCast, Int.toNat_natCast, Int.toNat_natCast, Int.toNat_natCast]
  exact c.slice_hi hs (by omega) hf
end Go.Sw.Piece

set_option linter.unusedVariables false
set_option linter.unusedSimpArgs false
set_option maxRecDepth 100000
namespace Go.Sw.Piece
open Go.Sw.Any Go.Sw.Codec
variable {A L : List Int} {f t : Nat}
theorem open_lo : ∀ {n : Nat}, n ≤ nB A → cntK A 0 n = 0
 | 0, _ => rfl
 | n + 1, hn => by
  obtain ⟨T, N, q, R⟩ := line_is (A := A) (i := n) (by omega)
  have h0 := (R.more (by omega)).2
  have hb : (lineD A n).2.2.2.1 = (q : Int) := by rw [R.is]
  unfold cntK
  rw [open_lo (by omega), hb, if_neg (by omega)]
theorem open_all (A : List Int) : cntK A 0 (nLines A) = nLines A - nB A := by
 have hN := nLines_le A
 by_cases h : nLines A = nB A
 ·rw [h, open_lo (Nat.le_refl _), Nat.sub_self]
 ·have h1 : nLines A = nB A + 1 := by omega
  have hb : (lineD A (nB A)).2.2.2.1 = 0 := by unfold lineD; rw [if_neg (by omega)]
  rw [h1]
  unfold cntK
  rw [open_lo (Nat.le_refl _), hb, if_pos (show (0 : Int) = ((0 : Nat) : Int) from rfl)]; omega
theorem cons_all {L : List Int} {n : Nat} {fi la : Int} (h : ∀ i, i < n → (fi ≤ (i : Int) ∧ (i : Int) ≤ la → False) ∧ sliceD L (lineD L i) = sliceD A (lineD A i)) : ∀ {m}, m ≤ n → consL L (-1) (-1) m = consL A fi la m
 | 0, _ => rfl
 | m + 1, hm => by
  rw [consL_succ, consL_succ, cons_all h (by omega), if_neg (c := -1 ≤ ((m : Nat) : Int) ∧ ((m : Nat) : Int) ≤ -1) (by omega), if_neg fun g => (h m (by omega)).1 g, (h m (by omega)).2]
theorem cons_skip {fi la : Nat} : ∀ {k}, k + fi ≤ la + 1 → consL A fi la (fi + k) = consL A fi la fi
 | 0, _ => rfl
 | k + 1, hk => by
  rw [show fi + (k + 1) = fi + k + 1 by omega]
  rw [consL_succ, if_pos (by omega), List.append_nil, cons_skip (by omega)]
theorem cons_skips {fi la n : Nat} (h : fi ≤ n) (hn : n ≤ la + 1) : consL A fi la n = consL A fi la fi := by
 have := cons_skip (A := A) (fi := fi) (la := la) (k := n - fi) (by omega)
 rw [show fi + (n - fi) = n by omega] at this; exact this
theorem cons_hi {L : List Int} {n fi la : Nat} (hfl : fi ≤ la) (h0 : consL L (-1) (-1) fi = consL A fi la (la + 1)) (h : ∀ i, i < n → sliceD L (lineD L (fi + i)) = sliceD A (lineD A (la + 1 + i))) : ∀ {m}, m ≤ n → consL L (-1) (-1) (fi + m) = consL A fi la (la + 1 + m)
 | 0, _ => h0
 | m + 1, hm => by
  rw [show fi + (m + 1) = fi + m + 1 by omega, show la + 1 + (m + 1) = la + 1 + m + 1 by omega]
  rw [consL_succ, consL_succ, cons_hi hfl h0 h (by omega), if_neg (by omega), if_neg (by omega), h m (by omega)]
def LeftR (A L : List Int) (fi la : Nat) (op : Nat) : Prop :=
 (la - fi + 1 = nLines A → L = []) ∧ (la - fi + 1 ≠ nLines A → nLines L = nLines A - (la - fi + 1) ∧ cntK L 0 (nLines L) = op ∧ consL L (-1) (-1) (nLines L) = consL A fi la (nLines A))
def openF (A : List Int) (fi la : Nat) : Nat := if 0 < fi ∧ (lineD A (fi - 1)).1 = (lineD A (fi - 1)).2.1 ∧ la + 1 = nLines A then 0 else cntK A 0 (nLines A)
theorem deleted_law {fi la : Nat} (h1 : fi ≤ la) (h2 : la < nLines A) : ∃ f t : Nat, wholeF A fi la = (((f : Int), (t : Int), 1, ()), 0) ∧ f ≤ t ∧ t ≤ A.length ∧
  (¬ (0 < f ∧ t < A.length ∧ A.getD (f - 1) 0 = 13 ∧ A.getD t 0 = 10) → LeftR A (A.take f ++ A.drop t) fi la (openF A fi la)) := by
 have hN := nLines_le A
 obtain ⟨Ta, Na, qa, Ra⟩ := line_is (A := A) (i := fi) (by omega)
 obtain ⟨T, N, q, R⟩ := line_is (A := A) (i := la) (by omega)
 have sa := start_at (A := A) (i := fi) (by omega)
 have sl := start_at (A := A) (i := la) (by omega)
 have sle : startN A fi ≤ startN A la := by
  by_cases h : fi = la
  ·rw [h]; exact Nat.le_refl _
  ·exact Nat.le_of_lt (cnt_lt (A := A) (by omega))
 have R1 := R.st; have R2 := R.tn; have R3 := R.nl
 have hwn : ¬ ((fi : Int) < 0 ∨ (la : Int) < fi ∨ (nLines A : Int) ≤ la) := by omega
 have fs : fi = 0 ∨ isE A (startN A fi - 1) = true := by
  by_cases h0 : fi = 0
  ·exact .inl h0
  ·obtain ⟨g, rfl⟩ : ∃ g, fi = g + 1 := ⟨fi - 1, by omega⟩
   rw [start_succ]; exact .inr (end_is (by omega))
 have f0 : startN A fi = 0 ∨ isE A (startN A fi - 1) = true := by
  rcases fs with h | h
  ·subst h; exact .inl rfl
  ·exact .inr h
 have fpos : 0 < fi → 0 < startN A fi := fun h => by
  have : cntE A 0 < cntE A (startN A fi) := by rw [sa.2]; exact h
  exact cnt_lt this
 by_cases hb2 : (lineD A la).2.2.2.1 = 0 ∧ 0 < fi ∧ (lineD A (fi - 1)).1 < (lineD A (fi - 1)).2.1
 · -- the last line has no break, the line ahead loses its own
  obtain ⟨hq, hf0, hlt⟩ := hb2
  have hq : q = 0 := by rw [R.is] at hq; dsimp only at hq; omega
  have hla : la = nB A := by
   by_cases h : la < nB A
   ·exact absurd hq (R.more h).2
   ·omega
  obtain ⟨Tp, Np, qp, Rp⟩ := line_is (A := A) (i := fi - 1) (by omega)
  have hNl : N = A.length := (R.last hla).1
  have p1 := Rp.st; have p2 := Rp.tn; have p3 := Rp.nl
  have hlt : startN A (fi - 1) < Tp := by rw [Rp.is] at hlt; dsimp only at hlt; omega
  refine ⟨Tp, A.length, ?_, by omega, Nat.le_refl _, fun _ => ?_⟩
  ·unfold wholeF
   rw [if_neg hwn, show ((fi : Int) - 1).toNat = fi - 1 by omega, Int.toNat_natCast, Int.toNat_natCast, if_pos ⟨by rw [R.is, hq]; rfl, by omega, by rw [Rp.is]; dsimp only; omega⟩, Rp.is, R.is, hNl]
  ·have pl := Rp.plain (Tp - 1) (by omega) (by omega)
   have c : CutR A (A.take Tp ++ A.drop A.length) Tp A.length := cut_of (by omega) (Nat.le_refl _) fun j hj => by
    rw [show Tp - 1 = j by omega] at pl
    exact ⟨fun h => by omega, fun h => by omega⟩
   have hLl := c.len
   generalize hL : A.take Tp ++ A.drop A.length = L at c hLl ⊢
   have hcT : cntE A Tp = fi - 1 := by
    have h := cntE_succ A (Tp - 1)
    have hn : ¬ isE A (Tp - 1) = true := fun h => by rw [isE_is] at h; omega
    rw [if_neg hn, show Tp - 1 + 1 = Tp by omega] at h
    rw [h]; exact Rp.of (Tp - 1) (by omega) (by omega)
   have hnB := c.nB
   have hAll : cntE A A.length = nB A := rfl
   have hLB : nB L = fi - 1 := by omega
   have hst : startN L (fi - 1) = startN A (fi - 1) := c.start_lo (by omega)
   have hLn : nLines L = fi := by
    unfold nLines
    rw [hLB, hst, if_pos (.inr (by omega))]; omega
   have hAn : nLines A = nB A + 1 := by omega
   refine ⟨fun hh => by omega, fun _ => ⟨by omega, ?_, ?_⟩⟩
   ·have ho := open_all L
    have ho' := open_all A
    unfold openF
    rw [if_neg fun h => by rw [Rp.is] at h; dsimp only at h; omega]
    omega
   ·rw [hLn, hAn, cons_skips (by omega) (by omega)]
    refine cons_all (n := fi) (fun i hi => ⟨fun g => by omega, ?_⟩) (Nat.le_refl _)
    by_cases hi' : i < fi - 1
    ·exact c.sl_lo (by omega)
    ·have : i = fi - 1 := by omega
     subst this
     unfold sliceD
     rw [Rp.is]
     have : lineD L (fi - 1) = ((startN A (fi - 1) : Int), (L.length : Int), (L.length : Int), 0, ()) := by unfold lineD; rw [if_neg (by omega), hst]
     rw [this]
     dsimp only
     rw [Int.toNat_natCast, Int.toNat_natCast, Int.toNat_natCast, show L.length = Tp by omega]
     exact c.slice_lo (Nat.le_refl _)
 ·refine ⟨startN A fi, N, ?_, by omega, R3, fun hseam => ?_⟩
  ·unfold wholeF
   rw [if_neg hwn, show ((fi : Int) - 1).toNat = fi - 1 by omega, Int.toNat_natCast, Int.toNat_natCast, if_neg (fun h => hb2 ⟨h.1, by omega, h.2.2⟩), Ra.is, R.is]
  ·have c : CutR A (A.take (startN A fi) ++ A.drop N) (startN A fi) N := cut_of (by omega) R3 fun j hj => by
    have he := f0
    rw [show startN A fi - 1 = j by omega] at he
    have he : isE A j = true := by rcases he with h | h; omega; exact h
    have he := isE_is.1 he
    refine ⟨fun _ => he, fun h => ?_⟩
    rcases h with h | h
    ·exact .inl h
    ·refine .inr ⟨h.1, fun h10 => ?_⟩
     have hNl : N < A.length := by
      by_cases hh : N < A.length
      ·exact hh
      ·rw [getD_end (show A.length ≤ N by omega)] at h10; omega
     exact hseam ⟨by omega, hNl, by rw [show startN A fi - 1 = j by omega]; exact h.1, h10⟩
   have hLl := c.len
   have hLe : (startN A fi = 0 ∧ N = A.length) → A.take (startN A fi) ++ A.drop N = [] := fun ⟨a, b⟩ => by rw [a, b]; simp
   generalize hL : A.take (startN A fi) ++ A.drop N = L at c hLl hLe ⊢
   have hnB := c.nB
   rw [sa.2] at hnB
   have lo : ∀ i, i < fi → (((fi : Nat) : Int) ≤ (i : Int) ∧ (i : Int) ≤ (la : Nat) → False) ∧ sliceD L (lineD L i) = sliceD A (lineD A i) := fun i hi => ⟨fun g => by omega, c.sl_lo (by rw [sa.2]; exact hi)⟩
   have lo' := cons_all (A := A) (L := L) lo (Nat.le_refl fi)
   have hAll : cntE A A.length = nB A := rfl
   have st_fi : startN L fi = startN A fi := c.start_lo (by omega)
   by_cases hla : la < nB A
   · -- the last of them has a break
    have hq := (R.more hla).2
    have hNs := (R.more hla).1
    have hcN : cntE A N = la + 1 := by rw [← hNs]; exact (start_at (A := A) (i := la + 1) (by omega)).2
    have sr : StartR A (startN A fi) N := ⟨f0, .inr (by rw [← hNs, start_succ]; exact end_is hla), hseam⟩
    by_cases hend : la + 1 = nLines A
    · -- nothing behind
     have hn2 := hN.2.2.1 (by omega)
     have hNl : N = A.length := by rw [← hNs, show la + 1 = nB A by omega]; exact hn2.1
     have hLB : nB L = fi := by omega
     refine ⟨fun hh => hLe ⟨by rw [show fi = 0 by omega]; rfl, hNl⟩, fun hh => ?_⟩
     have hf0 : 0 < fi := by omega
     have := fpos hf0
     have hLn : nLines L = fi := by
      unfold nLines
      rw [hLB, st_fi, if_neg (by omega)]
     refine ⟨by omega, ?_, ?_⟩
     ·have ho := open_all L
      have ho' := open_all A
      unfold openF
      split <;> omega
     ·rw [hLn, lo', cons_skips (n := nLines A) (by omega) (by omega)]
    ·have hNl : N < A.length := by
      by_cases hx : la + 1 < nB A
      ·have := start_lt hx
       have := (end_at hx).2.2.1
       omega
      ·have h3 : nLines A = nB A + 1 := by omega
       unfold nLines at h3
       split at h3
       ·rename_i h4
        have h5 := cntE_le A A.length
        rw [show nB A = la + 1 by omega, hNs] at h4
        omega
       ·omega
     have hs := c.start_hi sr (i := nB A) (by omega) (Nat.le_refl _)
     rw [sa.2, hcN] at hs
     have hLn : nLines L = fi + (nLines A - (la + 1)) := by
      have e1 : fi + nB A - (la + 1) = nB L := by omega
      rw [e1] at hs
      unfold nLines
      by_cases h3 : startN A (nB A) < A.length
      ·rw [if_pos (.inr (by omega)), if_pos (.inr h3)]; omega
      ·rw [if_neg (by omega), if_neg (by omega)]; omega
     refine ⟨fun hh => by omega, fun _ => ⟨by omega, ?_, ?_⟩⟩
     ·have ho := open_all L
      have ho' := open_all A
      unfold openF
      rw [if_neg (by omega)]
      omega
     ·rw [hLn]
      have hx := cons_hi (A := A) (L := L) (n := nLines A - (la + 1)) h1 (lo'.trans (cons_skips (A := A) (n := la + 1) (by omega) (Nat.le_refl _)).symm) (fun i hi => ?_) (Nat.le_refl _)
      ·rw [show la + 1 + (nLines A - (la + 1)) = nLines A by omega] at hx; exact hx
      ·have hx := c.sl_hi sr (i := la + 1 + i) (by omega) (by omega)
       rw [sa.2, hcN, show fi + (la + 1 + i) - (la + 1) = fi + i by omega] at hx; exact hx
   · -- the last line of all, and it has no break
    have hla : la = nB A := by omega
    have hNl : N = A.length := (R.last hla).1
    have hq : q = 0 := (R.last hla).2.2
    rw [hNl] at hnB
    have hLB : nB L = fi := by omega
    have hAn : nLines A = nB A + 1 := by omega
    refine ⟨fun hh => hLe ⟨by rw [show fi = 0 by omega]; rfl, hNl⟩, fun hh => ?_⟩
    have hf0 : 0 < fi := by omega
    have := fpos hf0
    have hLn : nLines L = fi := by
     unfold nLines
     rw [hLB, st_fi, if_neg (by omega)]
    obtain ⟨Tp, Np, qp, Rp⟩ := line_is (A := A) (i := fi - 1) (by omega)
    have p1 := Rp.st
    refine ⟨by omega, ?_, ?_⟩
    ·have ho := open_all L
     have hE : (lineD A (fi - 1)).1 = (lineD A (fi - 1)).2.1 := by
      have hn : ¬ (lineD A (fi - 1)).1 < (lineD A (fi - 1)).2.1 := fun h => hb2 ⟨by rw [R.is, hq]; rfl, hf0, h⟩
      rw [Rp.is] at hn ⊢
      dsimp only at hn ⊢
      omega
     unfold openF
     rw [if_pos ⟨hf0, hE, by omega⟩]
     omega
    ·rw [hLn, lo', cons_skips (n := nLines A) (by omega) (by omega)]
end Go.Sw.Piece

set_option linter.unusedVariables false
set_option linter.unusedSimpArgs false
set_option maxRecDepth 100000
namespace Go.Sw.Piece
open Go.Sw.Any Go.Sw.Codec
open Go.Sw.Tree (iv s_putAll s_newP s_getP s_getT s_putP eqI_self Placed cell_own wp_whileG minI_eq)
variable {P : Program} {S : Ids} {h : Heap} {Q : Nat → List Value → Heap → Prop}
theorem c_allT (M : Meth0 P S) (C : Cl0 P S) (L : ClL P S) {p a1 : Addr} {y : Value} {J : Nat → TX → Heap → Prop}
  (hJ : ∀ i T h, J i T h → ∃ n, TextR S n h T ∧ (txA T).length ≤ 66000 ∧ T.p = p ∧ Sw.cell h a1 = some (.pointer (some p))) (hE : ∀ i T h h', J i T h → Ext h h' → J i T h')
  (hY : ∀ i T h, J i T h → i < nLines (txA T) → DynV P y [.int .i64 (i : Int), .agg (Bs.inj b4 (lineD (txA T) i)).toArray] h fun vs h' => vs = [.bool true] ∧ ∃ T', J (i + 1) T' h') {T0 : TX} (h0 : J 0 T0 h) :
  DynE P (.func (.func S.f_lines_All_1) #[] #[.pointer (some a1)]) [y] h fun vs h' => vs = [] ∧ ∃ i T, J i T h' ∧ nLines (txA T) ≤ i := by
 refine L.all y (some a1) h _ ?_
 unfold F_lines_All_1
 refine wp_while (fun (r : Int × Unit) h' => ∃ (i : Nat) (T : TX), r.1 = (i : Int) ∧ i ≤ 70000 ∧ J i T h') (fun r _ => (70000 - r.1).toNat)
  (fun tag vs h' => tag = 1 ∧ vs = [] ∧ ∃ i T, J i T h' ∧ nLines (txA T) ≤ i) ⟨0, T0, rfl, by omega, h0⟩ ?_ ?_
 ·rintro ⟨(r : Int), u⟩ hp ⟨i, T, hr, hi, j⟩
  dsimp only at hr ⊢
  subst hr
  obtain ⟨n, t, hfew, tp, c1⟩ := hJ i T hp j
  have hN := nLines_le (txA T)
  have hnB : nB (txA T) ≤ (txA T).length := cntE_le _ _
  have hAl := txA_len T
  have hbig := (t.cur.few t.lim.2).1
  have hel := els_len T.enc T.cur.ps
  refine wp_load1 (b := .ptr) a1 (some p) rfl c1 ?_
  rw [← tp]
  refine wp_call (c_lAt M C t) fun ⟨(ln : LnD), (er : Int), _⟩ h1 e1 hat => ?_
  have hat : AtR (txA T) (i : Int) (ln, er, ()) := hat
  refine s_newput4 z4 ln fun h2 e2 o2 => s_cell (b := .int .i64) ln.1 rfl o2.cells rfl (s_cell (b := .int .i64) ln.1 rfl o2.cells rfl (s_cell (b := .int .i64) ln.1 rfl o2.cells rfl ?_))
  refine s_newput4 z4 (ln.1, ln.1, ln.1, 0, ()) fun h3 e3 o3 => ?_
  have e13 := e1.trans (e2.trans e3)
  have j3 : J i T h3 := hE i T hp h3 j e13
  have tell : i < nLines (txA T) → ∀ {Q : Nat → List Value → Heap → Prop} {K : Bool × Unit → Prog}, (∀ h4 T', J (i + 1) T' h4 → wp P (K (true, ())) h4 Q) →
    wp P (.callv y [.int .i64 (i : Int), .agg (Bs.inj b4 ln).toArray] [.one .bool] K) h3 Q := fun hlt Q K hk => by
   have hl := (hat.1 ⟨by omega, by omega⟩).1
   have hl : ln = lineD (txA T) i := hl
   refine wp_callv ?_
   rw [hl]
   exact (hY i T h3 j3 hlt).mono fun vs h4 ⟨hv, T', j4⟩ => ⟨(true, ()), hv, hk h4 T' j4⟩
  refine wp_bind (fun tag vs h' => tag = 0 ∧ ∃ b, vs = [.bool b] ∧ (b = false → i < nLines (txA T) ∧ ∃ T', J (i + 1) T' h') ∧ (b = true → nLines (txA T) ≤ i ∧ J i T h')) ?_ ?_
  ·refine wp_ifB (fun hc => s_ret ⟨rfl, true, rfl, (fun h => by cases h), fun _ => ⟨?_, j3⟩⟩) fun hc => ?_
   ·rw [neI_iff] at hc
    by_cases hin : (0 : Int) ≤ i ∧ (i : Int) ≤ nB (txA T)
    ·exact absurd (hat.1 hin).2 hc
    ·omega
   rw [neI_not] at hc
   have hin : (0 : Int) ≤ i ∧ (i : Int) ≤ nB (txA T) := Classical.byContradiction fun h => by
    have := (hat.2 h).2
    have this : er = 2 := this
    have hc : er = 0 := hc
    omega
   have hl : ln = lineD (txA T) i := (hat.1 hin).1
   refine wp_ifB (fun hd => ?_) fun hd => ?_
   ·rw [gtI_iff] at hd
    refine s_getO (bs := b4) ((o2.ext e3)) (s_getO (bs := b4) o3 (wp_ifB (fun he => s_ret ⟨rfl, true, rfl, (fun h => by cases h), fun _ => ⟨?_, j3⟩⟩) fun he => ?_))
    ·simp only [andB_iff, eqI_iff] at he
     obtain ⟨_, h2, _, h4⟩ := he
     by_cases hlt : i < nLines (txA T)
     ·have := told_ne hlt (by omega)
      rw [← hl] at this
      rcases this with h | h
      ·exact absurd h2 h
      ·exact absurd h4 h
     ·omega
    have hlt' : i < nLines (txA T) := by
     by_cases hlt : i < nLines (txA T)
     ·exact hlt
     ·exfalso
      have hiN : nLines (txA T) = nB (txA T) := by omega
      have hiB : i = nB (txA T) := by omega
      have hfin := hN.2.2.1 hiN
      have hl2 : ln = ((startN (txA T) i : Int), ((txA T).length : Int), ((txA T).length : Int), 0, ()) := by rw [hl]; unfold lineD; rw [if_neg (by omega)]
      rw [hiB, hfin.1] at hl2
      subst hl2
      have : andB (eqI ((txA T).length : Int) ((txA T).length : Int)) (andB (eqI ((txA T).length : Int) ((txA T).length : Int)) (andB (eqI ((txA T).length : Int) ((txA T).length : Int)) (eqI (0 : Int) 0))) = false := he
      simp [andB, eqI] at this
    refine s_getO (bs := b4) (o2.ext e3) (tell hlt' fun h4 T' j4 => s_ret ⟨rfl, _, rfl, fun hb => ⟨hlt', T', j4⟩, fun hb => ?_⟩)
    cases hb
   ·rw [gtI_not] at hd
    have hlt : i < nLines (txA T) := by omega
    refine s_getO (bs := b4) (o2.ext e3) (tell hlt fun h4 T' j4 => s_ret ⟨rfl, _, rfl, fun hb => ⟨hlt, T', j4⟩, fun hb => ?_⟩)
    cases hb
  ·rintro tag vs h4 ⟨rfl, b, rfl, hff, htt⟩
   refine s_tag (s_castB (wp_ifB (fun hb => s_ret ⟨fun hh => absurd hh (by decide), fun _ => ⟨rfl, rfl, i, T, (htt hb).2, (htt hb).1⟩⟩) fun hb => ?_))
   obtain ⟨hlt, T', j4⟩ := hff hb
   rw [add_ok (by omega) (by omega)]
   exact s_ret ⟨fun _ => ⟨((i : Int) + 1, ()), rfl, ⟨i + 1, T', by dsimp only; omega, by omega, j4⟩, by dsimp only; omega⟩, fun hh => absurd rfl hh⟩
 ·rintro tag vs h1 ⟨rfl, rfl, hend⟩
  exact s_tag (s_cast0 (s_ret ⟨rfl, rfl, hend⟩))
end Go.Sw.Piece

set_option linter.unusedVariables false
set_option linter.unusedSimpArgs false
set_option maxRecDepth 100000
namespace Go.Sw
variable {P : Program} {h : Heap} {Q : Nat → List Value → Heap → Prop}
end Go.Sw

set_option linter.unusedVariables false
set_option linter.unusedSimpArgs false
set_option maxRecDepth 100000
namespace Go.Sw.Piece
open Go.Sw.Any Go.Sw.Codec
open Go.Sw.Tree (iv s_putAll s_newP s_getP s_getT s_putP eqI_self Placed cell_own wp_whileG minI_eq)
variable {P : Program} {S : Ids} {h : Heap} {Q : Nat → List Value → Heap → Prop}
def tl1 (x : Int) : Int := if x ≠ 10 then 32 + x % 64 else x
def inF (l : List Int) : List Int := (l.take 16).map tl1
theorem tl1_ok (x : Int) : tl1 x = 10 ∨ (32 ≤ tl1 x ∧ tl1 x ≤ 95) := by unfold tl1; split <;> omega
theorem in_ok (l : List Int) : tyOk (inF l) := by
 intro x hx
 obtain ⟨y, _, rfl⟩ := List.mem_map.1 hx
 exact tl1_ok y
theorem in_len (l : List Int) : (inF l).length ≤ 16 := by unfold inF; rw [List.length_map, List.length_take]; omega
theorem ends_le (l : List Int) : ends l ≤ l.length := by unfold ends; exact List.length_filter_le ..
theorem ty_mem {A l : List Int} {p : Nat} {nat_ : Int} (hl : tyOk l) : ∀ i, i ≤ l.length → ∀ x, x ∈ tyF A p nat_ l i → x = 10 ∨ x = 13 ∨ (32 ≤ x ∧ x ≤ 95)
 | 0, _, x, hx => by cases hx
 | i + 1, hi, x, hx => by
  unfold tyF at hx
  rcases List.mem_append.1 hx with hx | hx
  ·exact ty_mem hl i (by omega) x hx
  ·have hy := hl (l.getD i 0) (by rw [List.getD_eq_getElem?_getD, List.getElem?_eq_getElem (by omega)]; exact List.getElem_mem _)
   have h1310 : x ∈ ([13, 10] : List Int) → x = 10 ∨ x = 13 ∨ (32 ≤ x ∧ x ≤ 95) := fun h => by simp at h; omega
   unfold tyP endL at hx
   split at hx
   ·rw [List.mem_singleton] at hx; omega
   ·split at hx
    ·exact h1310 hx
    ·split at hx
     ·rw [List.mem_singleton] at hx; omega
     ·split at hx
      ·exact h1310 hx
      ·rw [List.mem_singleton] at hx; omega
def keep1 (x : Int) : List Int := if x ≠ 10 ∧ x ≠ 13 then [x] else []
theorem noEnd_one (x : Int) : noEnd [x] = keep1 x := by
 unfold noEnd keep1
 by_cases h : x ≠ 10 ∧ x ≠ 13
 ·rw [if_pos h, List.filter_cons_of_pos (by simp [h.1, h.2])]; rfl
 ·rw [if_neg h, List.filter_cons_of_neg (by simp; omega)]; rfl
theorem noEnd_take {l : List Int} {i : Nat} (hi : i < l.length) : noEnd (l.take (i + 1)) = noEnd (l.take i) ++ keep1 (l.getD i 0) := by
 rw [List.take_add_one, List.getElem?_eq_getElem hi, noEnd_app, List.getD_eq_getElem?_getD, List.getElem?_eq_getElem hi]
 show _ ++ noEnd [l[i]] = _
 rw [noEnd_one]; rfl
theorem noEnd_len (l : List Int) : (noEnd l).length ≤ l.length := by unfold noEnd; exact List.length_filter_le ..
theorem ends_take {l : List Int} {i : Nat} (hi : i < l.length) : ends (l.take (i + 1)) = ends (l.take i) + oneE (l.getD i 0) := by
 rw [List.take_add_one, List.getElem?_eq_getElem hi, ends_app, List.getD_eq_getElem?_getD, List.getElem?_eq_getElem hi]
 show _ + ends [l[i]] = _
 rw [ends_one]; rfl
theorem in_at {l : List Int} {i : Nat} (hi : i < l.length) (h16 : i < 16) : (inF l).getD i 0 = tl1 (l.getD i 0) ∧ i < (inF l).length := by
 have hl : i < (inF l).length := by unfold inF; rw [List.length_map, List.length_take]; omega
 refine ⟨?_, hl⟩
 unfold inF
 rw [List.getD_eq_getElem?_getD, List.getElem?_map, List.getElem?_take, if_pos h16, List.getD_eq_getElem?_getD, List.getElem?_eq_getElem hi]; rfl
theorem oneE_no {x : Int} (h : x ≠ 10) : oneE (tl1 x) = 0 := by unfold oneE tl1; rw [if_pos h, if_neg (by omega)]
theorem oneE_yes {x : Int} (h : x = 10) : oneE (tl1 x) = 1 := by subst h; rfl
theorem partL_all (A : List Int) {m : Int} (hm : (A.length : Int) ≤ m) : partL A 0 m = A := by
 unfold partL
 rw [show (min m (A.length : Int)).toNat = A.length by omega, show (max (0 : Int) 0).toNat = 0 by decide, List.take_length, List.drop_zero]
theorem c_LinesGrow (M : Meth0 P S) (C : Cl0 P S) (L : ClL P S) {x : StX} {at_ nat_ : Int} {w : Sl} {l : List Int} (hx : StSh.ok h x) (hat : fitsI .i64 at_) (hw : Lst .i64 h w l) (hna : fitsI .i64 nat_) :
  Gives P (F_law6_LinesGrow S (x.1, x.2.1.1, ()) at_ w nat_) [.one .bool] h fun (r : Bool × Unit) _ => r.1 = true := by
 unfold F_law6_LinesGrow Gives
 have lx := Sh.lst hx.2.1
 have lw := hw.len
 refine s_newO (bs := bS) ((x.1, x.2.1.1, ()) : StaD) (by decide) fun h1 e1 o1 => s_getO (bs := bS) o1 (wp_call (c_opened6 M (lx.ext e1)) fun ⟨⟨(p1 : Option Addr), (s1 : Sl), _⟩, (b1 : Bool), _⟩ h2 e2 ⟨hb1, T1, hp1, O1⟩ => ?_)
 have hb1 : b1 = true := hb1
 have hp1 : p1 = some T1.p := hp1
 subst hb1; subst hp1
 have O1 : OpB S h1.size h2 (x.2.1.2.take 50000) T1 s1 := O1
 have e12 := e1.trans e2
 refine s_putO (bs := bB) (z := ((none, ⟨none, 0, 0⟩, ()) : BoD)) ((some T1.p, s1, ()) : BoD) (by decide) flatB2 fun h3 e3 o3 => ?_
 have q1 := e1.size; have q12 := e12.size
 have B1 : BothR S h.size h3 ⟨h2.size, 0, none⟩ T1 s1 0 := O1.both q1 e3 o3 q12 (Nat.le_refl _)
 have e13 := e12.trans e3
 have hN := nLines_le (txA T1)
 refine bind_no (wp_ifB (fun hh => by cases hh) fun _ => s_cell (b := .ptr) (some T1.p) rfl B1.ob.cells rfl (wp_call (c_lCount M C B1.t) fun ⟨(c : Int), _⟩ h4 e4 hc => f_ret2 e4 ?_)) fun h4 e4 => wp_ifB (fun hh => by cases hh) fun _ => ?_
 ·have hc : c = nLines (txA T1) := hc
  subst hc
  rw [ltI_not]; dsimp only; omega
 have B4 := B1.ext e4
 have e04 := e13.trans e4
 have q4 := e04.size
 have hfew := B4.few
 have lA := B4.at_.len
 have nbA : nB (txA T1) ≤ (txA T1).length := cntE_le _ _
 refine s_cell (b := .sl) s1 rfl B4.ob.cells rfl ?_
 rw [natI_def, lA]
 have w1 := within_le (x := at_) (n := ((txA T1).length : Int)) (by omega)
 refine wp_call (c_within hat (by omega) (by omega)) fun ⟨(z : Int), _⟩ h5 e5 hz => ?_
 have hz : z = withinF at_ (txA T1).length := hz
 rw [← hz] at w1
 obtain ⟨p, rfl⟩ : ∃ p : Nat, z = p := ⟨z.toNat, by omega⟩
 have hp : p ≤ (txA T1).length := by omega
 clear hz
 dsimp only
 have e05 := e04.trans e5
 have B5 := B4.ext e5
 have ls5 := B5.at_.lst
 refine bind_bool (0 < p ∧ p < (txA T1).length ∧ (txA T1).getD (p - 1) 0 = 13 ∧ (txA T1).getD p 0 = 10) ?_ fun bb h6 e6 hb => wp_ifB (fun hc => s_ret ⟨rfl, e05.trans e6, (_, ()), rfl, rfl⟩) fun hc => ?_
 ·refine wp_ifB (fun ha => ?_) fun ha => s_ret ⟨rfl, Ext.refl _, false, rfl, Iff.intro (fun h => by cases h) fun h => by rw [gtI_not] at ha; omega⟩
  rw [gtI_iff] at ha
  refine s_cell (b := .sl) s1 rfl B5.ob.cells rfl (wp_ifB (fun hb => ?_) fun hb => s_ret ⟨rfl, Ext.refl _, false, rfl, Iff.intro (fun h => by cases h) fun h => by rw [ltI_not, natI_def, lA] at hb; omega⟩)
  rw [ltI_iff, natI_def, lA] at hb
  refine s_cell (b := .sl) s1 rfl B5.ob.cells rfl ?_
  rw [sub_ok (by omega) (by omega)]
  refine s_at ls5 (by omega) (by omega) fun _ => ?_
  rw [show ((p : Int) - 1).toNat = p - 1 by omega]
  refine wp_ifB (fun hd => ?_) fun hd => s_ret ⟨rfl, Ext.refl _, false, rfl, Iff.intro (fun h => by cases h) fun h => by rw [eqI_not] at hd; exact absurd h.2.2.1 hd⟩
  rw [eqI_iff] at hd
  refine s_cell (b := .sl) s1 rfl B5.ob.cells rfl (s_at ls5 (by omega) (by omega) fun _ => s_ret ⟨rfl, Ext.refl _, _, rfl, ?_⟩)
  rw [Int.toNat_natCast, eqI_iff]
  exact ⟨fun h => ⟨by omega, by omega, hd, h⟩, fun h => h.2.2.2⟩
 have hseam : ¬ (0 < p ∧ p < (txA T1).length ∧ (txA T1).getD (p - 1) 0 = 13 ∧ (txA T1).getD p 0 = 10) := fun hh => by have hc : bb = false := hc; rw [hb.2 hh] at hc; cases hc
 have e06 := e05.trans e6
 refine wp_call (c_within (n := 2) hna (by decide) (by decide)) fun ⟨(z : Int), _⟩ h7 e7 hz => ?_
 have w2 := within_le (x := nat_) (n := 2) (by decide)
 have hz : z = withinF nat_ 2 := hz
 rw [← hz] at w2
 clear hz
 have e07 := e06.trans e7
 have q7 := e07.size
 have hil := in_len l
 refine wp_while (fun (r : Sl × Int × Int × Unit) h' => ∃ i : Nat, i ≤ 16 ∧ i ≤ l.length ∧ r.2.2.1 = (i : Int) ∧ r.2.1 = (ends ((inF l).take i) : Nat) ∧ Ext h7 h' ∧ OwnL h7.size .i64 h' r.1 ((inF l).take i)) (fun r _ => (16 - r.2.2.1).toNat)
  (fun tag vs h' => tag = 2 ∧ ∃ r : Sl, vs = [slv r, i64v (ends (inF l) : Nat)] ∧ Ext h7 h' ∧ OwnL h7.size .i64 h' r (inF l)) ⟨0, by omega, Nat.zero_le _, rfl, rfl, Ext.refl _, OwnL.nil _ _ _⟩ ?_ ?_
 ·rintro ⟨(r : Sl), (en : Int), (i' : Int), u⟩ h8 ⟨i, hi16, hil', hi', hen, e8, o8⟩
  dsimp only at hi' hen o8 ⊢
  subst hi'; subst hen
  have q8 := e8.size
  have hel := ends_le ((inF l).take i)
  rw [List.length_take] at hel
  refine bind_bool (i < l.length ∧ i < 16) ?_ fun bb h9 e9 hb => wp_ifB (fun hc => ?_) fun hc => ?_
  ·refine wp_ifB (fun hc => s_ret ⟨rfl, Ext.refl _, _, rfl, ?_⟩) fun hc => s_ret ⟨rfl, Ext.refl _, false, rfl, Iff.intro (fun h => by cases h) fun h => ?_⟩
   ·rw [ltI_iff, natI_def, lw] at hc; rw [ltI_iff]; omega
   ·rw [ltI_not, natI_def, lw] at hc; omega
  ·have hc := hb.1 hc
   have e89 := e8.trans e9
   obtain ⟨ha, hb⟩ := in_at hc.1 hc.2
   refine s_at (hw.ext (e07.trans e89)) (by omega) (by omega) fun hfx => ?_
   rw [Int.toNat_natCast] at hfx ⊢
   refine bind_val (tys := [.one (.int .i64), .one (.int .i64)]) (fun (y : Int × Int × Unit) _ => y.1 = (ends ((inF l).take (i + 1)) : Nat) ∧ y.2.1 = tl1 (l.getD i 0)) ?_ fun ⟨(y1 : Int), (y2 : Int), _⟩ h10 e10 ⟨hy1, hy2⟩ => ?_
   ·rw [ends_take hb, ha]
    refine wp_ifB (fun hd => s_ret ⟨rfl, Ext.refl _, (_, _, ()), rfl, ?_, ?_⟩) fun hd => s_ret ⟨rfl, Ext.refl _, (_, _, ()), rfl, ?_, ?_⟩
    ·rw [neI_iff] at hd
     show ((ends ((inF l).take i) : Nat) : Int) = _
     have := oneE_no hd
     rw [this]; rfl
    ·rw [neI_iff] at hd
     unfold tl1
     rw [if_pos hd]
     show addI .i64 32 (andI .i64 (l.getD i 0) 63) = _
     have hm : andI .i64 (l.getD i 0) 63 = l.getD i 0 % 64 := and_mask64 (l.getD i 0) 6 (by decide)
     rw [hm, add_ok (by omega) (by omega)]
    ·rw [neI_not] at hd
     have := oneE_yes hd
     rw [this]
     show addI .i64 ((ends ((inF l).take i) : Nat) : Int) 1 = _
     rw [add_ok (by omega) (by omega)]; rfl
    ·rw [neI_not] at hd
     unfold tl1; rw [if_neg (fun h => h hd)]; rfl
   ·have hy1 : y1 = (ends ((inF l).take (i + 1)) : Nat) := hy1
    have hy2 : y2 = tl1 (l.getD i 0) := hy2
    have hr := tl1_ok (l.getD i 0)
    rw [← hy2] at hr
    have e910 := e9.trans e10
    refine s_push ((o8.ext e910)) (by have := e910.size; omega) (by rw [fits_i64]; omega) (by rw [List.length_take]; omega) (by rw [List.length_take]; omega) fun r2 h11 k11 o11 _ _ => ?_
    dsimp only
    rw [add_ok (by omega) (by omega)]
    refine s_ret ⟨fun _ => ⟨(r2, y1, (i : Int) + 1, ()), rfl, ⟨i + 1, by omega, by omega, by dsimp only; omega, hy1, Keep.trans (e8.trans e910) k11, ?_⟩, by dsimp only; omega⟩, fun hh => absurd rfl hh⟩
    rw [List.take_add_one, List.getElem?_eq_getElem hb]
    have : (inF l)[i] = y2 := by rw [hy2, ← ha, List.getD_eq_getElem?_getD, List.getElem?_eq_getElem hb]; rfl
    rw [this]; exact o11
  ·have hc : ¬ (i < l.length ∧ i < 16) := fun h => by have hc : bb = false := hc; rw [hb.2 h] at hc; cases hc
   have : (inF l).take i = inF l := List.take_of_length_le (by unfold inF; rw [List.length_map, List.length_take]; omega)
   rw [this] at o8
   refine s_ret ⟨fun hh => absurd hh (by decide), fun _ => ⟨rfl, r, ?_, e8.trans e9, o8.ext e9⟩⟩
   rw [this]
 rintro tag vs h8 ⟨rfl, i8, rfl, e8, oi⟩
 refine s_tag (wp_cast (tys := [.one .sl, .one (.int .i64)]) (i8, ((ends (inF l) : Nat) : Int), ()) rfl ?_)
 have e08 := e07.trans e8
 have q8 := e08.size
 have B8 := ((B5.ext e6).ext e7).ext e8
 have o8 : SmR S h.size h8 ⟨h2.size, 0, none⟩ T1 s1 0 := B8.sm
 have hyp := in_ok l
 generalize inF l = I at *
 have hIe := ends_le I
 refine o8.ld (s_brk M C L o8.t fun h9 e9 => ?_)
 have o9 := o8.ext e9
 refine o9.ld (wp_call (c_copied (oi.ext e9).lst (by omega)) fun ⟨(c1 : Sl), _⟩ h10 e10 oc => ?_)
 have oc : OwnL h9.size .i64 h10 c1 I := oc
 have o10 := o9.ext e10
 dsimp only
 rw [add_ok (a := 1) (by omega) (by omega)]
 refine o10.ck (wp_call (c_lTyped M C o10.t oc.lst (by omega)) fun ⟨(t1 : Sl), (et : Int), _⟩ h11 e11 ⟨ot, het⟩ => ?_)
 have hty : typedF (txA T1) (p : Int) (1 + z) I = (tyF (txA T1) p (1 + z) I I.length, 0) := by
  unfold typedF
  rw [if_neg (by omega), if_neg (by omega)]; rfl
 have ot : OwnL h10.size .i64 h11 t1 (typedF (txA T1) (p : Int) (1 + z) I).1 := ot
 have het : et = (typedF (txA T1) (p : Int) (1 + z) I).2 := het
 rw [hty] at ot het
 dsimp only at ot het
 subst het
 have tl := tyF_len (txA T1) p (1 + z) I I.length
 have tm := ty_mem (A := txA T1) (p := p) (nat_ := 1 + z) hyp I.length (Nat.le_refl _)
 have tn := typed_nB (A := txA T1) (p := p) (nat_ := 1 + z) (by omega) hp hyp hseam
 have tp := ty_plain (A := txA T1) (p := p) (nat_ := 1 + z) hyp I.length (Nat.le_refl _)
 rw [List.take_length] at tp
 generalize tyF (txA T1) p (1 + z) I I.length = U at *
 have lt := ot.len
 have li := oi.len
 have e911 := (e9.trans e10).trans e11
 have B11 := B8.ext e911
 have o11 := o10.ext e11
 refine bind_no (wp_ifB (fun hh => by rw [neI_iff] at hh; exact absurd rfl hh) fun _ => wp_ifB (fun hh => by rw [ltI_iff, natI_def, natI_def, lt, li] at hh; omega) fun _ => wp_ifB (fun hh => ?_) fun _ => ?_) fun h12 e12' => wp_ifB (fun hh => by cases hh) fun _ => ?_
 ·rw [gtI_iff, natI_def, natI_def, lt, li, mul_ok (by omega) (by omega)] at hh; omega
 ·refine s_cell (b := .ptr) (some T1.p) rfl B11.ob.cells rfl (s_cell (b := .sl) s1 rfl B11.ob.cells rfl (s_cell (b := .sl) s1 rfl B11.ob.cells rfl ?_))
  have hns : natI s1.len = ((txA T1).length : Int) := by rw [natI_def, lA]
  rw [hns]
  refine wp_call (c_Atoms M C B11.t (fits_i64.2 (by omega))) fun ⟨(v : Sl), _⟩ h12 e12' ov => ?_
  have ov : OwnL h11.size .i64 h12 v ((cutL (els T1.enc T1.cur.ps) 0 ((txA T1).length : Int)).map (·.1)) := ov
  rw [part_map] at ov
  have ov : OwnL h11.size .i64 h12 v (partL (txA T1) 0 ((txA T1).length : Int)) := ov
  rw [partL_all _ (Int.le_refl _)] at ov
  refine s_ckC (B11.ext e12').ob.cells rfl (wp_call (c_same6 ov.lst (B11.ext e12').at_.lst) fun ⟨(r : Bool), _⟩ h13 e13' hr => f_ret2 (e12'.trans e13') ?_)
  have hr : r = decide (txA T1 = txA T1) := hr
  rw [hr, decide_eq_true rfl]; rfl
 have o12 := o11.ext e12'
 refine o12.ld (wp_call (c_copied (ot.ext e12').lst (by omega)) fun ⟨(c2 : Sl), _⟩ h13 e13' oc2 => ?_)
 have oc2 : OwnL h12.size .i64 h13 c2 U := oc2
 refine (o12.ext e13').ck (s_newA (by simp) fun h14 e14 o14 => (o12.ext (e13'.trans e14)).ck ?_)
 have e012 := (e08.trans e911).trans e12'
 have q12' := e012.size
 have e1214 := e13'.trans e14
 refine o12.edit M e1214 q12' (oc2.ext e14) (Nat.le_refl _) (Nat.le_refl _) hp ?_ (by omega) _ (o14.mono e13'.size) fun h15 T4 c15 o15 _ _ A4 _ => wp_ifB (fun hh => by rw [neI_iff] at hh; exact absurd rfl hh) fun _ => ?_
 ·intro y hy
  have := tm y hy
  have he : known T1.enc := o12.t.enc
  unfold known at he
  rw [fits_iff]; omega
 have e015 : Ext h h15 := Keep.trans (e012.trans e1214) (c15.keep (Nat.le_trans q12' e1214.size) fun i hi f => by have := (o12.t.lo i f).1; omega)
 have zlo : ∀ i, T1.Z i → i < h5.size := fun i hi => (B5.t.lo _ hi).2
 have q57 := (e6.trans e7).size
 have oi15 : OwnL h7.size .i64 h15 i8 I := c15.ownL ((oi.ext (e911.trans e12')).ext e1214) fun x hx f => by have := zlo _ f; have := (oi.own.lt hx).1; omega
 have ot15 : OwnL h10.size .i64 h15 t1 U := c15.ownL ((ot.ext e12').ext e1214) fun x hx f => by have := zlo _ f; have := (ot.own.lt hx).1; have := (e8.trans (e9.trans e10)).size; omega
 have nb4 : nB (txA T4) = nB (txA T1) + ends I := by rw [A4]; exact tn
 refine o15.ld (s_brk M C L o15.t fun h16 e16 => wp_ifB (fun hh => ?_) fun _ => ?_)
 ·rw [neI_iff, nb4, add_ok (by omega) (by omega)] at hh
  exact absurd rfl hh
 have e016 := e015.trans e16
 have ot16 := (ot15.ext e16).lst
 have oi16 := (oi15.ext e16).lst
 refine wp_while (fun (r : Sl × Int × Unit) h' => ∃ i : Nat, i ≤ U.length ∧ r.2.1 = (i : Int) ∧ Ext h16 h' ∧ OwnL h16.size .i64 h' r.1 (noEnd (U.take i))) (fun r _ => (U.length - r.2.1).toNat)
  (fun tag vs h' => tag = 4 ∧ ∃ r : Sl, vs = [slv r] ∧ Ext h16 h' ∧ OwnL h16.size .i64 h' r (noEnd U)) ⟨0, Nat.zero_le _, rfl, Ext.refl _, OwnL.nil _ _ _⟩ ?_ ?_
 ·rintro ⟨(r : Sl), (i' : Int), u⟩ h17 ⟨i, hi, hi', e17, o17⟩
  dsimp only at hi' o17 ⊢
  subst hi'
  have q17 := e17.size
  refine wp_ifB (fun hc => ?_) fun hc => ?_
  ·rw [ltI_iff, natI_def, lt] at hc
   have hci : i < U.length := by omega
   have hnt := noEnd_len (U.take i)
   rw [List.length_take] at hnt
   refine wp_bind (fun tag vs h' => tag = 0 ∧ ∃ r2 : Sl, vs = [slv r2] ∧ Ext h16 h' ∧ OwnL h16.size .i64 h' r2 (noEnd (U.take (i + 1)))) ?_ ?_
   ·rw [noEnd_take hci]
    refine bind_bool (U.getD i 0 ≠ 10 ∧ U.getD i 0 ≠ 13) ?_ fun bb h18 e18 hb => wp_ifB (fun hd => ?_) fun hd => ?_
    ·refine s_at (ot16.ext e17) (by omega) hc fun _ => ?_
     rw [Int.toNat_natCast]
     refine wp_ifB (fun hd => s_at (ot16.ext e17) (by omega) hc fun _ => s_ret ⟨rfl, Ext.refl _, _, rfl, ?_⟩) fun hd => s_ret ⟨rfl, Ext.refl _, false, rfl, Iff.intro (fun h => by cases h) fun h => ?_⟩
     ·rw [neI_iff] at hd
      rw [Int.toNat_natCast, neI_iff]
      exact ⟨fun h => ⟨hd, h⟩, fun h => h.2⟩
     ·rw [neI_not] at hd; exact absurd hd h.1
    ·have hd := hb.1 hd
     have e1718 := e17.trans e18
     refine s_at (ot16.ext e1718) (by omega) hc fun hfx => ?_
     rw [Int.toNat_natCast] at hfx ⊢
     refine s_push (o17.ext e18) e1718.size hfx (by omega) (by omega) fun r2 h19 k19 o19 _ _ => s_ret ⟨rfl, r2, rfl, Keep.trans e1718 k19, ?_⟩
     unfold keep1
     rw [if_pos hd]; exact o19
    ·refine s_ret ⟨rfl, r, rfl, e17.trans e18, ?_⟩
     unfold keep1
     rw [if_neg (fun h => by have hd : bb = false := hd; rw [hb.2 h] at hd; cases hd), List.append_nil]
     exact o17.ext e18
   ·rintro tag vs h18 ⟨rfl, r2, rfl, e18, o18⟩
    refine s_tag (wp_cast (tys := [.one .sl]) (r2, ()) rfl ?_)
    rw [add_ok (by omega) (by omega)]
    exact s_ret ⟨fun _ => ⟨(r2, (i : Int) + 1, ()), rfl, ⟨i + 1, hci, by dsimp only; omega, e18, o18⟩, by dsimp only; omega⟩, fun hh => absurd rfl hh⟩
  ·rw [ltI_not, natI_def, lt] at hc
   rw [List.take_of_length_le (by omega)] at o17
   exact s_ret ⟨fun hh => absurd hh (by decide), fun _ => ⟨rfl, r, rfl, e17, o17⟩⟩
 rintro tag vs h17 ⟨rfl, r7, rfl, e17, or7⟩
 refine s_tag (wp_cast (tys := [.one .sl]) (r7, ()) rfl ?_)
 have oi17 := oi16.ext e17
 refine wp_while (fun (r : Sl × Int × Unit) h' => ∃ i : Nat, i ≤ I.length ∧ r.2.1 = (i : Int) ∧ Ext h17 h' ∧ OwnL h17.size .i64 h' r.1 (noEnd (I.take i))) (fun r _ => (I.length - r.2.1).toNat)
  (fun tag vs h' => tag = 6 ∧ ∃ r : Sl, vs = [slv r] ∧ Ext h17 h' ∧ OwnL h17.size .i64 h' r (noEnd I)) ⟨0, Nat.zero_le _, rfl, Ext.refl _, OwnL.nil _ _ _⟩ ?_ ?_
 ·rintro ⟨(r : Sl), (i' : Int), u⟩ h18 ⟨i, hi, hi', e18, o18⟩
  dsimp only at hi' o18 ⊢
  subst hi'
  have q18 := e18.size
  refine wp_ifB (fun hc => ?_) fun hc => ?_
  ·rw [ltI_iff, natI_def, li] at hc
   have hci : i < I.length := by omega
   have hnt := noEnd_len (I.take i)
   rw [List.length_take] at hnt
   have hok := hyp (I.getD i 0) (by rw [List.getD_eq_getElem?_getD, List.getElem?_eq_getElem hci]; exact List.getElem_mem _)
   refine wp_bind (fun tag vs h' => tag = 0 ∧ ∃ r2 : Sl, vs = [slv r2] ∧ Ext h17 h' ∧ OwnL h17.size .i64 h' r2 (noEnd (I.take (i + 1)))) ?_ ?_
   ·rw [noEnd_take hci]
    refine s_at (oi17.ext e18) (by omega) hc fun _ => ?_
    rw [Int.toNat_natCast]
    refine wp_ifB (fun hd => s_at (oi17.ext e18) (by omega) hc fun hfx => ?_) fun hd => s_ret ⟨rfl, r, rfl, e18, ?_⟩
    ·rw [neI_iff] at hd
     rw [Int.toNat_natCast] at hfx ⊢
     refine s_push o18 q18 hfx (by omega) (by omega) fun r2 h19 k19 o19 _ _ => s_ret ⟨rfl, r2, rfl, Keep.trans e18 k19, ?_⟩
     unfold keep1
     rw [if_pos ⟨hd, by omega⟩]; exact o19
    ·rw [neI_not] at hd
     unfold keep1
     rw [if_neg fun h => h.1 hd, List.append_nil]; exact o18
   ·rintro tag vs h19 ⟨rfl, r2, rfl, e19, o19⟩
    refine s_tag (wp_cast (tys := [.one .sl]) (r2, ()) rfl ?_)
    rw [add_ok (by omega) (by omega)]
    exact s_ret ⟨fun _ => ⟨(r2, (i : Int) + 1, ()), rfl, ⟨i + 1, hci, by dsimp only; omega, e19, o19⟩, by dsimp only; omega⟩, fun hh => absurd rfl hh⟩
  ·rw [ltI_not, natI_def, li] at hc
   rw [List.take_of_length_le (by omega)] at o18
   exact s_ret ⟨fun hh => absurd hh (by decide), fun _ => ⟨rfl, r, rfl, e18, o18⟩⟩
 rintro tag vs h18 ⟨rfl, r8, rfl, e18, or8⟩
 refine s_tag (wp_cast (tys := [.one .sl]) (r8, ()) rfl (wp_call (c_same6 (or7.ext e18).lst or8.lst) fun ⟨(r : Bool), _⟩ h19 e19 hr => s_ret ⟨rfl, (e016.trans e17).trans (e18.trans e19), (r, ()), rfl, ?_⟩))
 have hr : r = decide (noEnd U = noEnd I) := hr
 rw [hr, tp, decide_eq_true rfl]
end Go.Sw.Piece

set_option linter.unusedVariables false
set_option linter.unusedSimpArgs false
set_option maxRecDepth 100000
namespace Go.Sw.Piece
open Go.Sw.Any Go.Sw.Codec
open Go.Sw.Tree (iv s_putAll s_newP s_getP s_getT s_putP eqI_self Placed cell_own wp_whileG minI_eq)
variable {P : Program} {S : Ids} {h : Heap} {Q : Nat → List Value → Heap → Prop}
theorem slice_len (A : List Int) (l : LnD) : (sliceD A l).length ≤ A.length := by unfold sliceD; rw [List.length_take, List.length_drop]; omega
theorem cons_len (A : List Int) (first last : Int) : ∀ n, (consL A first last n).length ≤ n * (A.length + 1)
 | 0 => Nat.zero_le _
 | n + 1 => by
  have h1 := cons_len A first last n
  have h2 := slice_len A (lineD A n)
  rw [consL_succ, List.length_append, Nat.succ_mul]
  split
  ·rw [List.length_nil]; omega
  ·rw [List.length_cons]; omega
theorem take_next {A : List Int} {F j : Nat} (hj : F + j < A.length) : (A.drop F).take (j + 1) = (A.drop F).take j ++ [A.getD (F + j) 0] := by
 rw [List.take_add_one, List.getElem?_drop, List.getD_eq_getElem?_getD, List.getElem?_eq_getElem hj]; rfl
theorem c_contents (M : Meth0 P S) (C : Cl0 P S) {n0 n : Nat} {T : TX} {s : Sl} {first last : Int} (t : TextR S n0 h T) (ha : Lst .i64 h s (txA T)) (hn : n ≤ nLines (txA T)) (hfew : (txA T).length ≤ 66000) :
  Gives P (F_law6_contents S (some T.p) s (n : Int) first last) [.one .sl] h fun (y : Sl × Unit) h' => OwnL h.size .i64 h' y.1 (consL (txA T) first last n) := by
 unfold F_law6_contents Gives
 have la := ha.len
 have hN := nLines_le (txA T)
 have hnB : nB (txA T) ≤ (txA T).length := cntE_le _ _
 have hAl := txA_len T
 have hbig := (t.cur.few t.lim.2).1
 have hel := els_len T.enc T.cur.ps
 have room : ∀ {i : Nat}, i ≤ n → (consL (txA T) first last i).length ≤ 70000 * 70000 := fun {i} hi => Nat.le_trans (cons_len _ _ _ _) (Nat.mul_le_mul (by omega) (by omega))
 refine wp_while (fun (r : Sl × Int × Unit) h' => ∃ i : Nat, i ≤ n ∧ r.2.1 = (i : Int) ∧ Ext h h' ∧ OwnL h.size .i64 h' r.1 (consL (txA T) first last i)) (fun r _ => (n - r.2.1).toNat)
  (fun tag vs h' => tag = 2 ∧ ∃ r : Sl, vs = [slv r] ∧ Ext h h' ∧ OwnL h.size .i64 h' r (consL (txA T) first last n)) ⟨0, Nat.zero_le _, rfl, Ext.refl _, OwnL.nil _ _ _⟩ ?_ ?_
 ·rintro ⟨(r : Sl), (i' : Int), u⟩ h1 ⟨i, hi, hi', e1, o1⟩
  dsimp only at hi' o1 ⊢
  subst hi'
  refine wp_ifB (fun hc => ?_) fun hc => ?_
  ·rw [ltI_iff] at hc
   have hin : i < n := by omega
   have hrm := room hi
   refine wp_bind (fun tag vs h' => tag = 0 ∧ ∃ r2 : Sl, vs = [slv r2] ∧ Ext h h' ∧ OwnL h.size .i64 h' r2 (consL (txA T) first last (i + 1))) ?_ ?_
   ·refine wp_call (c_lAt M C (t.ext e1)) fun ⟨(ln : LnD), (er : Int), _⟩ h2 e2 hat => ?_
    have hat : AtR (txA T) (i : Int) (ln, er, ()) := hat
    obtain ⟨h1a, h1b⟩ := hat.1 ⟨by omega, by omega⟩
    have h1a : ln = lineD (txA T) i := h1a
    have h1b : er = 0 := h1b
    obtain ⟨TT, NN, q, R⟩ := line_is (A := txA T) (i := i) (by omega)
    have r1 := R.st; have r2' := R.tn; have r3 := R.nl
    subst h1b
    have hcs : consL (txA T) first last (i + 1) = consL (txA T) first last i ++ (if first ≤ (i : Int) ∧ (i : Int) ≤ last then [] else -9999 :: ((txA T).drop (startN (txA T) i)).take (TT - startN (txA T) i)) := by rw [consL_succ, R.is]; rfl
    have h1c : ln = ((startN (txA T) i : Int), (TT : Int), (NN : Int), (q : Int), ()) := h1a.trans R.is
    rw [hcs]
    subst h1c
    clear hcs hat h1a
    generalize startN (txA T) i = F at *
    refine s_newput4 z4 ((F : Int), (TT : Int), (NN : Int), (q : Int), ()) fun h3 e3 o3 => ?_
    have e13 := (e1.trans e2).trans e3
    refine bind_bool (first ≤ (i : Int) ∧ (i : Int) ≤ last) ?_ fun bb h4 e4 hb => wp_ifB (fun hd => ?_) fun hd => ?_
    ·refine wp_ifB (fun hd => s_ret ⟨rfl, Ext.refl _, _, rfl, ?_⟩) fun hd => s_ret ⟨rfl, Ext.refl _, false, rfl, Iff.intro (fun h => by cases h) fun h => ?_⟩
     ·rw [geI_iff] at hd
      rw [leI_iff]
      exact ⟨fun h => ⟨hd, h⟩, fun h => h.2⟩
     ·rw [geI_not] at hd; omega
    ·rw [if_pos (hb.1 hd), List.append_nil]
     exact s_ret ⟨rfl, r, rfl, e13.trans e4, o1.ext ((e2.trans e3).trans e4)⟩
    ·have hd : ¬ (first ≤ (i : Int) ∧ (i : Int) ≤ last) := fun h => by have hd : bb = false := hd; rw [hb.2 h] at hd; cases hd
     rw [if_neg hd]
     have e14 := e13.trans e4
     have q4 := e14.size
     refine s_push (o1.ext ((e2.trans e3).trans e4)) q4 (by rw [fits_i64]; omega) (by omega) (by omega) fun r2 h5 k5 o5 u5 hb5 => ?_
     have e15 : Ext h h5 := Keep.trans e14 k5
     have q15 := e15.size
     have o35 : Own4 h2.size h5 ⟨h2.size, 0, none⟩ ((F : Int), (TT : Int), (NN : Int), (q : Int), ()) := (o3.ext e4).keep fun x hx => by
      cases hx
      refine u5.2.1 _ (Nat.lt_of_lt_of_le (o3.lt rfl).2 e4.size) fun y hy hne => ?_
      have := (o1.own.lt hy).2
      have := e2.size
      dsimp only at hne; omega
     refine bind_no (wp_ifB (fun hh => by rw [neI_iff] at hh; exact absurd rfl hh) fun _ => s_cell (b := .int .i64) (F : Int) rfl o35.cells rfl (wp_ifB (fun hh => by rw [ltI_iff] at hh; omega) fun _ => s_cell (b := .int .i64) (TT : Int) rfl o35.cells rfl (f_ret2 (Ext.refl _) ?_))) fun h6 e6 => wp_ifB (fun hh => by cases hh) fun _ => ?_
     ·rw [gtI_not, natI_def, la]; omega
     have o36 := o35.ext e6
     have e16 := e15.trans e6
     refine s_cell (b := .int .i64) (F : Int) rfl o36.cells rfl ?_
     have l2 : (consL (txA T) first last i ++ [-9999]).length ≤ 70000 * 70000 + 1 := by rw [List.length_append]; exact Nat.add_le_add_right hrm 1
     refine wp_while (fun (r : Sl × Int × Unit) h' => ∃ j : Nat, F + j ≤ TT ∧ r.2.1 = ((F + j : Nat) : Int) ∧ Ext h h' ∧ Own4 h2.size h' ⟨h2.size, 0, none⟩ ((F : Int), (TT : Int), (NN : Int), (q : Int), ()) ∧ OwnL h.size .i64 h' r.1 ((consL (txA T) first last i ++ [-9999]) ++ ((txA T).drop F).take j) ∧ (∀ x, r.1.base = some x → x.block ≠ h2.size)) (fun r _ => (TT - r.2.1).toNat)
      (fun tag vs h' => tag = 4 ∧ ∃ r : Sl, vs = [slv r] ∧ Ext h h' ∧ OwnL h.size .i64 h' r ((consL (txA T) first last i ++ [-9999]) ++ ((txA T).drop F).take (TT - F))) ⟨0, by omega, rfl, e16, o36, by simpa using o5.ext e6, fun x hx e => ?_⟩ ?_ ?_
     ·rcases hb5 x hx with hx | hx
      ·have := (o1.own.lt hx).2; have := e2.size; omega
      ·have : h2.size < h3.size := (o3.lt rfl).2; have := e4.size; omega
     ·rintro ⟨(ra : Sl), (k' : Int), u⟩ h7 ⟨j, hj, hk', e7, o7, ol7, hne⟩
      dsimp only at hk' ol7 hne ⊢
      subst hk'
      refine s_cell (b := .int .i64) (TT : Int) rfl o7.cells rfl (wp_ifB (fun hg => ?_) fun hg => ?_)
      ·rw [ltI_iff] at hg
       have hjA : F + j < (txA T).length := by omega
       refine s_at (ha.ext e7) (by omega) (by omega) fun hfx => ?_
       rw [Int.toNat_natCast] at hfx ⊢
       have hll : ((consL (txA T) first last i ++ [-9999]) ++ ((txA T).drop F).take j).length ≤ 70000 * 70000 + 70001 := by rw [List.length_append, List.length_take, List.length_drop]; omega
       refine s_push ol7 e7.size hfx (by omega) (by omega) fun r3 h8 k8 o8 u8 hb8 => ?_
       rw [add_ok (by omega) (by omega)]
       refine s_ret ⟨fun _ => ⟨(r3, ((F + j : Nat) : Int) + 1, ()), rfl, ⟨j + 1, by omega, by dsimp only; omega, Keep.trans e7 k8, ?_, ?_, fun x hx e => ?_⟩, by dsimp only; omega⟩, fun hh => absurd rfl hh⟩
       ·exact o7.keep fun x hx => by
         cases hx
         exact u8.2.1 _ (o7.lt rfl).2 fun y hy hne' => hne y hy hne'
       ·rw [take_next hjA, ← List.append_assoc]; exact o8
       ·rcases hb8 x hx with hx | hx
        ·exact hne x hx e
        ·have : h2.size < h7.size := (o7.lt rfl).2; omega
      ·rw [ltI_not] at hg
       rw [show j = TT - F by omega] at ol7
       exact s_ret ⟨fun hh => absurd hh (by decide), fun _ => ⟨rfl, ra, rfl, e7, ol7⟩⟩
     ·rintro tag vs h7 ⟨rfl, ra, rfl, e7, ol7⟩
      refine s_tag (wp_cast (tys := [.one .sl]) (ra, ()) rfl (s_ret ⟨rfl, ra, rfl, e7, ?_⟩))
      rw [List.append_assoc] at ol7
      exact ol7
   ·rintro tag vs h2 ⟨rfl, r2, rfl, e2, o2⟩
    refine s_tag (wp_cast (tys := [.one .sl]) (r2, ()) rfl ?_)
    rw [add_ok (by omega) (by omega)]
    exact s_ret ⟨fun _ => ⟨(r2, (i : Int) + 1, ()), rfl, ⟨i + 1, hin, by dsimp only; omega, e2, o2⟩, by dsimp only; omega⟩, fun hh => absurd rfl hh⟩
  ·rw [ltI_not] at hc
   have : i = n := by omega
   subst this
   exact s_ret ⟨fun hh => absurd hh (by decide), fun _ => ⟨rfl, r, rfl, e1, o1⟩⟩
 ·rintro tag vs h1 ⟨rfl, r, rfl, e1, o1⟩
  exact s_tag (wp_cast (tys := [.one .sl]) (r, ()) rfl (s_ret ⟨rfl, e1, (r, ()), rfl, o1⟩))
end Go.Sw.Piece

set_option linter.unusedVariables false
set_option linter.unusedSimpArgs false
set_option maxRecDepth 100000
namespace Go.Sw.Piece
open Go.Sw.Any Go.Sw.Codec
open Go.Sw.Tree (iv s_putAll s_newP s_getP s_getT s_putP eqI_self Placed cell_own wp_whileG minI_eq)
variable {P : Program} {S : Ids} {h : Heap} {Q : Nat → List Value → Heap → Prop}
theorem nLines_nil : nLines [] = 1 := rfl
theorem c_LinesDeleted (M : Meth0 P S) (C : Cl0 P S) (L : ClL P S) {x : StX} {first last : Int} (hx : StSh.ok h x) (hfi : fitsI .i64 first) (hla : fitsI .i64 last) :
  Gives P (F_law6_LinesDeleted S (x.1, x.2.1.1, ()) first last) [.one .bool] h fun (r : Bool × Unit) _ => r.1 = true := by
 unfold F_law6_LinesDeleted Gives
 have lx := Sh.lst hx.2.1
 refine s_newO (bs := bS) ((x.1, x.2.1.1, ()) : StaD) (by decide) fun h1 e1 o1 => s_getO (bs := bS) o1 (wp_call (c_opened6 M (lx.ext e1)) fun ⟨⟨(p1 : Option Addr), (s1 : Sl), _⟩, (b1 : Bool), _⟩ h2 e2 ⟨hb1, T1, hp1, O1⟩ => ?_)
 have hb1 : b1 = true := hb1
 have hp1 : p1 = some T1.p := hp1
 subst hb1; subst hp1
 have O1 : OpB S h1.size h2 (x.2.1.2.take 50000) T1 s1 := O1
 have e12 := e1.trans e2
 refine s_putO (bs := bB) (z := ((none, ⟨none, 0, 0⟩, ()) : BoD)) ((some T1.p, s1, ()) : BoD) (by decide) flatB2 fun h3 e3 o3 => ?_
 have q1 := e1.size; have q12 := e12.size
 have B1 : BothR S h.size h3 ⟨h2.size, 0, none⟩ T1 s1 0 := O1.both q1 e3 o3 q12 (Nat.le_refl _)
 have e13 := e12.trans e3
 have hN := nLines_le (txA T1)
 have nbA : nB (txA T1) ≤ (txA T1).length := cntE_le _ _
 have hfew := B1.few
 have lA := B1.at_.len
 refine wp_ifB (fun hh => by cases hh) fun _ => s_cell (b := .ptr) (some T1.p) rfl B1.ob.cells rfl (wp_call (c_lCount M C B1.t) fun ⟨(c : Int), _⟩ h4 e4 hc => ?_)
 have hc : c = nLines (txA T1) := hc
 subst hc
 have B4 := B1.ext e4
 refine bind_no (wp_ifB (fun hh => by rw [ltI_iff] at hh; dsimp only at hh; omega) fun _ => s_cell (b := .sl) s1 rfl B4.ob.cells rfl (f_ret2 (Ext.refl _) ?_)) fun h5 e5 => wp_ifB (fun hh => by cases hh) fun _ => ?_
 ·rw [natI_def, lA, add_ok (by omega) (by omega), gtI_not]; dsimp only; omega
 have e05 := (e13.trans e4).trans e5
 have subN : subI .i64 ((nLines (txA T1) : Nat) : Int) 1 = ((nLines (txA T1) : Nat) : Int) - 1 := sub_ok (by omega) (by omega)
 dsimp only
 rw [subN]
 have w1 := within_le (x := first) (n := ((nLines (txA T1) : Nat) : Int) - 1) (by omega)
 refine wp_call (c_within hfi (by omega) (by omega)) fun ⟨(z : Int), _⟩ h6 e6 hz => ?_
 have hz : z = withinF first (((nLines (txA T1) : Nat) : Int) - 1) := hz
 rw [← hz] at w1
 obtain ⟨fi, rfl⟩ : ∃ p : Nat, z = p := ⟨z.toNat, by omega⟩
 clear hz
 have subF : subI .i64 (((nLines (txA T1) : Nat) : Int) - 1) (fi : Int) = ((nLines (txA T1) : Nat) : Int) - 1 - fi := sub_ok (by omega) (by omega)
 dsimp only
 rw [subF]
 have w2 := within_le (x := last) (n := ((nLines (txA T1) : Nat) : Int) - 1 - fi) (by omega)
 refine wp_call (c_within hla (by omega) (by omega)) fun ⟨(z : Int), _⟩ h7 e7 hz => ?_
 have hz : z = withinF last (((nLines (txA T1) : Nat) : Int) - 1 - fi) := hz
 rw [← hz] at w2
 obtain ⟨la, hlaz⟩ : ∃ p : Nat, (fi : Int) + z = p := ⟨((fi : Int) + z).toNat, by omega⟩
 clear hz
 have addL : addI .i64 (fi : Int) z = (la : Int) := by rw [add_ok (by omega) (by omega)]; exact hlaz
 have subK : addI .i64 (subI .i64 (la : Int) (fi : Int)) 1 = ((la - fi + 1 : Nat) : Int) := by rw [sub_ok (by omega) (by omega), add_ok (by omega) (by omega)]; omega
 dsimp only
 rw [addL, subK]
 have h_fl : fi ≤ la := by omega
 have h_ln : la < nLines (txA T1) := by omega
 clear w2 hlaz
 obtain ⟨f, t, hwf, hft, htl, hleft⟩ := deleted_law (A := txA T1) h_fl h_ln
 have e07 := (e05.trans e6).trans e7
 have q7 := e07.size
 have B7 := ((B4.ext e5).ext e6).ext e7
 refine s_cell (b := .ptr) (some T1.p) rfl B7.ob.cells rfl (wp_call (c_lWhole M C B7.t) fun ⟨(y : SpD), (ye : Int), _⟩ h8 e8 hy => ?_)
 have hy : (y, ye) = wholeF (txA T1) (fi : Int) (la : Int) := hy
 rw [hwf] at hy
 obtain ⟨rfl, rfl⟩ := Prod.mk.inj hy
 refine s_putO (bs := b3) (z := ((0, 0, 0, ()) : SpD)) (((f : Int), (t : Int), 1, ()) : SpD) (by decide) flat3i fun h9 e9 o9 => ?_
 have B9 := (B7.ext e8).ext e9
 have ls9 := B9.at_.lst
 have e09 := (e07.trans e8).trans e9
 refine bind_no (wp_ifB (fun hh => by rw [neI_iff] at hh; exact absurd rfl hh) fun _ => s_cell (b := .int .i64) (1 : Int) rfl o9.cells rfl (wp_ifB (fun hh => by rw [neI_iff] at hh; exact absurd rfl hh) fun _ => s_cell (b := .int .i64) (f : Int) rfl o9.cells rfl (wp_ifB (fun hh => by rw [ltI_iff] at hh; omega) fun _ =>
  s_cell (b := .int .i64) (t : Int) rfl o9.cells rfl (s_cell (b := .int .i64) (f : Int) rfl o9.cells rfl (wp_ifB (fun hh => by rw [ltI_iff] at hh; omega) fun _ => s_cell (b := .int .i64) (t : Int) rfl o9.cells rfl (s_cell (b := .sl) s1 rfl B9.ob.cells rfl (f_ret2 (Ext.refl _) ?_))))))) fun h10 e10 => wp_ifB (fun hh => by cases hh) fun _ => ?_
 ·rw [gtI_not, natI_def, lA]; omega
 have B10 := B9.ext e10
 have o10 := o9.ext e10
 have ls10 := B10.at_.lst
 have e010 := e09.trans e10
 refine bind_bool (0 < f ∧ t < (txA T1).length ∧ (txA T1).getD (f - 1) 0 = 13 ∧ (txA T1).getD t 0 = 10) ?_ fun bb h11 e11 hb => wp_ifB (fun hc => s_ret ⟨rfl, e010.trans e11, (_, ()), rfl, rfl⟩) fun hc => ?_
 ·refine s_cell (b := .int .i64) (f : Int) rfl o10.cells rfl (wp_ifB (fun ha => ?_) fun ha => s_ret ⟨rfl, Ext.refl _, false, rfl, Iff.intro (fun h => by cases h) fun h => by rw [gtI_not] at ha; omega⟩)
  rw [gtI_iff] at ha
  refine s_cell (b := .int .i64) (t : Int) rfl o10.cells rfl (s_cell (b := .sl) s1 rfl B10.ob.cells rfl (wp_ifB (fun hb => ?_) fun hb => s_ret ⟨rfl, Ext.refl _, false, rfl, Iff.intro (fun h => by cases h) fun h => by rw [ltI_not, natI_def, lA] at hb; omega⟩))
  rw [ltI_iff, natI_def, lA] at hb
  refine s_cell (b := .sl) s1 rfl B10.ob.cells rfl (s_cell (b := .int .i64) (f : Int) rfl o10.cells rfl ?_)
  rw [sub_ok (by omega) (by omega)]
  refine s_at ls10 (by omega) (by omega) fun _ => ?_
  rw [show ((f : Int) - 1).toNat = f - 1 by omega]
  refine wp_ifB (fun hd => ?_) fun hd => s_ret ⟨rfl, Ext.refl _, false, rfl, Iff.intro (fun h => by cases h) fun h => by rw [eqI_not] at hd; exact absurd h.2.2.1 hd⟩
  rw [eqI_iff] at hd
  refine s_cell (b := .sl) s1 rfl B10.ob.cells rfl (s_cell (b := .int .i64) (t : Int) rfl o10.cells rfl (s_at ls10 (by omega) (by omega) fun _ => s_ret ⟨rfl, Ext.refl _, _, rfl, ?_⟩))
  rw [Int.toNat_natCast, eqI_iff]
  exact ⟨fun h => ⟨by omega, by omega, hd, h⟩, fun h => h.2.2.2⟩
 have hseam : ¬ (0 < f ∧ t < (txA T1).length ∧ (txA T1).getD (f - 1) 0 = 13 ∧ (txA T1).getD t 0 = 10) := fun hh => by have hc : bb = false := hc; rw [hb.2 hh] at hc; cases hc
 have hL := hleft hseam
 clear hleft
 have B11 := B10.ext e11
 have e011 := e010.trans e11
 refine s_cell (b := .ptr) (some T1.p) rfl B11.ob.cells rfl (wp_call (c_lKinds M C L B11.t) fun ⟨(ky : LnD), _⟩ h12 e12' hk => ?_)
 have hk : ky = kindsD (txA T1) (nLines (txA T1)) := hk
 subst hk
 refine s_newput4 z4 (kindsD (txA T1) (nLines (txA T1))) fun h13 e13' ok => ?_
 have B13 := (B11.ext e12').ext e13'
 have e013 := (e011.trans e12').trans e13'
 refine s_cell (b := .ptr) (some T1.p) rfl B13.ob.cells rfl ?_
 rw [sub_ok (a := (fi : Int)) (by omega) (by omega)]
 refine wp_call (c_lAt M C B13.t) fun ⟨(ln : LnD), (er : Int), _⟩ h14 e14 hat => ?_
 have hat : AtR (txA T1) ((fi : Int) - 1) (ln, er, ()) := hat
 refine s_newput4 z4 ln fun h15 e15 oln => ?_
 have e015 := (e013.trans e14).trans e15
 have q15 := e015.size
 have B15 := (B13.ext e14).ext e15
 have ok15 := (ok.ext e14).ext e15
 have hopen : (er = 0 ∧ ln.1 = ln.2.1 ∧ (la : Int) = ((nLines (txA T1) : Nat) : Int) - 1) ↔ (0 < fi ∧ (lineD (txA T1) (fi - 1)).1 = (lineD (txA T1) (fi - 1)).2.1 ∧ la + 1 = nLines (txA T1)) := by
  by_cases h0 : 0 < fi
  ·obtain ⟨a, b⟩ := hat.1 ⟨by omega, by omega⟩
   have a : ln = lineD (txA T1) ((fi : Int) - 1).toNat := a
   have b : er = 0 := b
   rw [show ((fi : Int) - 1).toNat = fi - 1 by omega] at a
   rw [← a]
   exact ⟨fun ⟨_, y, z⟩ => ⟨h0, y, by omega⟩, fun ⟨_, y, z⟩ => ⟨b, y, by omega⟩⟩
  ·have b : er = 2 := (hat.2 fun h => by omega).2
   exact ⟨fun h => by omega, fun h => absurd h.1 h0⟩
 refine wp_bind (fun tag vs h' => tag = 0 ∧ vs = [] ∧ Ext h h' ∧ BothR S h.size h' ⟨h2.size, 0, none⟩ T1 s1 0 ∧ Own 0 1 h' ⟨some ⟨h8.size, 0, none⟩, 3, 3⟩ (Bs.inj b3 (((f : Int), (t : Int), 1, ()) : SpD)) ∧ ∃ k1 k2 k3 : Int, Own4 h12.size h' ⟨h12.size, 0, none⟩ ((openF (txA T1) fi la : Nat), k1, k2, k3, ())) ?_ ?_
 ·refine bind_bool (er = 0 ∧ ln.1 = ln.2.1 ∧ (la : Int) = ((nLines (txA T1) : Nat) : Int) - 1) ?_ fun bb h16 e16 hbb => wp_ifB (fun hd => ?_) fun hd => ?_
  ·refine wp_ifB (fun hd => ?_) fun hd => s_ret ⟨rfl, Ext.refl _, false, rfl, Iff.intro (fun h => by cases h) fun h => by rw [eqI_not] at hd; exact absurd h.1 hd⟩
   rw [eqI_iff] at hd
   refine s_cell (b := .int .i64) ln.1 rfl oln.cells rfl (s_cell (b := .int .i64) ln.2.1 rfl oln.cells rfl (wp_ifB (fun hg => s_ret ⟨rfl, Ext.refl _, _, rfl, ?_⟩) fun hg => s_ret ⟨rfl, Ext.refl _, false, rfl, Iff.intro (fun h => by cases h) fun h => by rw [eqI_not] at hg; exact absurd h.2.1 hg⟩))
   rw [eqI_iff] at hg
   rw [eqI_iff]
   exact ⟨fun h => ⟨hd, hg, h⟩, fun h => h.2.2⟩
  ·have hd := hopen.1 (hbb.1 hd)
   have B16 := B15.ext e16
   have e1016 := ((((e10.trans e11).trans e12').trans e13').trans (e14.trans e15)).trans e16
   have lk := (ok.lt rfl).2
   have l9 := (o9.lt rfl)
   have qq := ((e9.trans e10).trans (e11.trans e12')).size
   refine s_setC' (i64v 0) (ok15.ext e16) (by show 0 < 4; decide) rfl fun h17 o17 u17 => s_ret ⟨rfl, rfl, ?_, ?_, ?_, ((cntK (txA T1) 1 (nLines (txA T1)) : Nat) : Int), ((cntK (txA T1) 2 (nLines (txA T1)) : Nat) : Int), ((cntK (txA T1) 3 (nLines (txA T1)) : Nat) : Int), ?_⟩
   ·exact Upd.extN (e015.trans e16) u17 (by intro z hz; cases hz; exact ((e011.trans e12').size))
   ·refine B16.chg (Chg.of_upd (F := fun i => i = h12.size) u17 fun x hx _ => by cases hx; rfl) fun i hi e => ?_
    have := (B11.lo i hi).2
    have := e12'.size; omega
   ·refine ((o9.ext e1016).keep fun x hx => ?_).mono (Nat.zero_le _)
    cases hx
    exact u17.2.1 _ (Nat.lt_of_lt_of_le l9.2 e1016.size) fun y hy e => by cases hy; have := l9.2; have := ((e10.trans e11).trans e12').size; dsimp only at e this; omega
   ·have : openF (txA T1) fi la = 0 := by unfold openF; rw [if_pos hd]
    rw [this]; exact o17
  ·have hd : ¬ (0 < fi ∧ (lineD (txA T1) (fi - 1)).1 = (lineD (txA T1) (fi - 1)).2.1 ∧ la + 1 = nLines (txA T1)) := fun h => by have hd : bb = false := hd; rw [hbb.2 (hopen.2 h)] at hd; cases hd
   have e1016 := ((((e10.trans e11).trans e12').trans e13').trans (e14.trans e15)).trans e16
   refine s_ret ⟨rfl, rfl, e015.trans e16, B15.ext e16, (o9.ext e1016).mono (Nat.zero_le _), ((cntK (txA T1) 1 (nLines (txA T1)) : Nat) : Int), ((cntK (txA T1) 2 (nLines (txA T1)) : Nat) : Int), ((cntK (txA T1) 3 (nLines (txA T1)) : Nat) : Int), ?_⟩
   have : openF (txA T1) fi la = cntK (txA T1) 0 (nLines (txA T1)) := by unfold openF; rw [if_neg hd]
   rw [this]
   exact ok15.ext e16
 rintro tag vs h16 ⟨rfl, rfl, e016, B16, o16, k1, k2, k3, ok16⟩
 refine s_tag (s_cast0 ?_)
 have q16 := e016.size
 refine s_cell (b := .ptr) (some T1.p) rfl B16.ob.cells rfl (s_cell (b := .sl) s1 rfl B16.ob.cells rfl (wp_call (c_contents M C B16.t B16.at_.lst (Nat.le_refl _) (by omega)) fun ⟨(cw : Sl), _⟩ h17 e17 ow => ?_))
 have ow : OwnL h16.size .i64 h17 cw (consL (txA T1) (fi : Int) (la : Int) (nLines (txA T1))) := ow
 have B17 := B16.ext e17
 have o17 := o16.ext e17
 have e017 := e016.trans e17
 have q17 := e017.size
 refine s_cell (b := .ptr) (some T1.p) rfl B17.ob.cells rfl (s_cell (b := .int .i64) (f : Int) rfl o17.cells rfl (s_cell (b := .int .i64) (t : Int) rfl o17.cells rfl ?_))
 have sm := B17.sm
 refine s_newA (by simp) fun h18 e18 o18 => sm.edit M e18 q17 (OwnL.nil h17.size .i64 h18) (Nat.le_refl _) hft htl (by intro y hy; cases hy) (by show 0 + 0 ≤ 3000; decide) _ o18 fun h19 T4 c19 sm19 _ _ A4 _ => wp_ifB (fun hh => by rw [neI_iff] at hh; exact absurd rfl hh) fun _ => ?_
 have A4 : txA T4 = (txA T1).take f ++ (txA T1).drop t := by rw [A4, List.append_nil]
 have zlo : ∀ i, T1.Z i → i < h2.size := fun i hi => (O1.t.lo _ hi).2
 have e019 : Ext h h19 := Keep.trans (e017.trans e18) (c19.keep (Nat.le_trans q17 e18.size) fun i hi g => by have := (B17.t.lo i g).1; omega)
 have q28 : h2.size ≤ h8.size := ((((((e3.trans e4).trans e5).trans e6).trans e7).trans e8)).size
 have q812 : h8.size ≤ h12.size := (((e9.trans e10).trans e11).trans e12').size
 have o19 := c19.own (o17.ext e18) fun x hx g => by cases hx; have := zlo _ g; dsimp only at this; omega
 have ok19 := c19.own ((ok16.ext e17).ext e18) fun x hx g => by cases hx; have := zlo _ g; dsimp only at this; omega
 have q1216 : h12.size ≤ h16.size := by have := (ok16.lt rfl).2; dsimp only at this; omega
 have ow19 : OwnL h16.size .i64 h19 cw (consL (txA T1) (fi : Int) (la : Int) (nLines (txA T1))) := c19.ownL (ow.ext e18) fun x hx g => by have := zlo _ g; have := (ow.own.lt hx).1; omega
 have at19 := c19.ownL (B17.at_.ext e18) fun x hx g => (B17.da x hx).1 g
 refine s_cell (b := .sl) s1 rfl sm19.ob.cells rfl (s_cell (b := .int .i64) (f : Int) rfl o19.cells rfl (s_cell (b := .int .i64) (t : Int) rfl o19.cells rfl ?_))
 refine wp_call (c_spliced (f := f) (t := t) (p := ⟨none, 0, 0⟩) (put := []) at19.lst (Lst.nil (by decide)) (by omega) (by decide) (by omega) htl) fun ⟨(sl : Sl), _⟩ h20 e20 os => ?_
 have os : OwnL h19.size .i64 h20 sl ((txA T1).take f ++ [] ++ (txA T1).drop t) := os
 rw [List.append_nil, ← A4] at os
 have lL := os.len
 have sm20 := sm19.ext e20
 have few4 : (txA T4).length ≤ 50000 + 4 * 0 := sm20.few
 have hNL := nLines_le (txA T4)
 have nbL : nB (txA T4) ≤ (txA T4).length := cntE_le _ _
 rw [← A4] at hL
 refine sm20.ld ?_
 rw [natI_def, lL, add_ok (a := ((txA T4).length : Int)) (by omega) (by omega)]
 refine wp_call (c_Atoms M C sm20.t (fits_i64.2 (by omega))) fun ⟨(v : Sl), _⟩ h21 e21 ov => ?_
 have ov : OwnL h20.size .i64 h21 v ((cutL (els T4.enc T4.cur.ps) 0 ((txA T4).length + 1 : Int)).map (·.1)) := ov
 rw [part_map] at ov
 have ov : OwnL h20.size .i64 h21 v (partL (txA T4) 0 ((txA T4).length + 1 : Int)) := ov
 rw [partL_all _ (by omega)] at ov
 refine wp_call (c_same6 ov.lst (os.ext e21).lst) fun ⟨(r : Bool), _⟩ h22 e22 hr => ?_
 have hr : r = decide (txA T4 = txA T4) := hr
 have hr : r = true := by rw [hr, decide_eq_true rfl]
 subst hr
 refine wp_ifB (fun hh => by cases hh) fun _ => ?_
 have e2022 := e21.trans e22
 have sm22 := sm20.ext e2022
 refine sm22.ld (wp_call (c_lCount M C sm22.t) fun ⟨(c : Int), _⟩ h23 e23 hc => ?_)
 have hc : c = nLines (txA T4) := hc
 subst hc
 have e2023 := e2022.trans e23
 have e023 := (e019.trans e20).trans e2023
 refine wp_ifB (fun hg => ?_) fun hg => ?_
 ·rw [eqI_iff] at hg
  have hnil := hL.1 (by omega)
  refine bind_bool True (wp_ifB (fun _ => s_ret ⟨rfl, Ext.refl _, _, rfl, Iff.intro (fun _ => trivial) fun _ => ?_⟩) fun hh => ?_) fun bb h24 e24 hbb => s_ret ⟨rfl, e023.trans e24, (bb, ()), rfl, hbb.2 trivial⟩
  ·rw [eqI_iff, hnil, nLines_nil]; rfl
  ·rw [eqI_not, hnil] at hh; exact absurd rfl hh
 ·rw [eqI_not] at hg
  obtain ⟨g1, g2, g3⟩ := hL.2 (by omega)
  have sm23 := sm22.ext e23
  refine sm23.ld (wp_call (c_lKinds M C L sm23.t) fun ⟨(ky : LnD), _⟩ h24 e24 hk => ?_)
  have hk : ky = kindsD (txA T4) (nLines (txA T4)) := hk
  subst hk
  refine s_newput4 z4 (kindsD (txA T4) (nLines (txA T4))) fun h25 e25 ok25 => ?_
  have e2025 := (e2023.trans e24).trans e25
  have e025 := (e019.trans e20).trans e2025
  have sm25 := sm20.ext e2025
  have okk := (ok19.ext e20).ext e2025
  refine bind_bool True ?_ fun bb h26 e26 hbb => s_ret ⟨rfl, e025.trans e26, (bb, ()), rfl, hbb.2 trivial⟩
  refine wp_ifB (fun _ => ?_) fun hh => ?_
  ·refine s_cell (b := .int .i64) ((cntK (txA T4) 0 (nLines (txA T4)) : Nat) : Int) rfl ok25.cells rfl (s_cell (b := .int .i64) ((openF (txA T1) fi la : Nat) : Int) rfl okk.cells rfl (wp_ifB (fun _ => ?_) fun hh => ?_))
   ·refine sm25.ld (wp_call (c_contents M C sm25.t (os.ext e2025).lst (Nat.le_refl _) (by omega)) fun ⟨(cw2 : Sl), _⟩ h26 e26 ow2 => ?_)
    have ow2 : OwnL h25.size .i64 h26 cw2 (consL (txA T4) (-1) (-1) (nLines (txA T4))) := ow2
    refine wp_call (c_same6 ow2.lst (((ow19.ext e20).ext e2025).ext e26).lst) fun ⟨(r : Bool), _⟩ h27 e27 hr => s_ret ⟨rfl, e26.trans e27, _, rfl, Iff.intro (fun _ => trivial) fun _ => ?_⟩
    have hr : r = decide (consL (txA T4) (-1) (-1) (nLines (txA T4)) = consL (txA T1) (fi : Int) (la : Int) (nLines (txA T1))) := hr
    rw [hr]; exact decide_eq_true g3
   ·rw [eqI_not, g2] at hh; exact absurd rfl hh
  ·rw [eqI_not, sub_ok (by omega) (by omega)] at hh
   exact absurd (by dsimp only; omega) hh
end Go.Sw.Piece

set_option linter.unusedVariables false
set_option linter.unusedSimpArgs false
set_option maxRecDepth 100000
namespace Go.Sw.Piece
open Go.Sw.Any Go.Sw.Codec
open Go.Sw.Tree (iv s_putAll s_newP s_getP s_getT s_putP eqI_self Placed cell_own wp_whileG minI_eq)
variable {P : Program} {S : Ids} {h : Heap} {Q : Nat → List Value → Heap → Prop}
structure TuC where
 (aa as_ aw at_ an ag ai : Nat)
 b : Addr
 atv : Nat
 (scr ls : Sl)
 A1 : List Int
structure TuR (S : Ids) (n : Nat) (c : TuC) (h : Heap) (T : TX) (s : Sl) (k kn told : Nat) : Prop where
 B : BothR S n h c.b T s k
 ca : Cel 0 h ⟨c.aa, 0, none⟩ (i64v c.atv)
 cs : Cel 0 h ⟨c.as_, 0, none⟩ (slv c.scr)
 cw : Cel 0 h ⟨c.aw, 0, none⟩ (slv c.ls)
 ct : Cel 0 h ⟨c.at_, 0, none⟩ (i64v told)
 cn : Cel 0 h ⟨c.an, 0, none⟩ (i64v kn)
 cg : Cel 0 h ⟨c.ag, 0, none⟩ (.bool true)
 ci : Cel 0 h ⟨c.ai, 0, none⟩ (.pointer (some T.p))
 hl : LnL 0 h c.ls (linesL c.A1 (nB c.A1 + 1))
 ord : c.aa < c.as_ ∧ c.as_ < c.b.block ∧ c.b.block < c.aw ∧ c.aw < c.at_ ∧ c.at_ < c.an ∧ c.an < c.ag ∧ c.ag < c.ai
 lsb : ∀ x, c.ls.base = some x → c.b.block < x.block ∧ x.block < c.aw
 far : ∀ i, bF c.b T s i → i ≠ c.aa ∧ i ≠ c.as_ ∧ i ≠ c.aw ∧ i ≠ c.at_ ∧ i ≠ c.an ∧ i ≠ c.ag ∧ i ≠ c.ai ∧ ∀ x, c.ls.base = some x → i ≠ x.block
variable {n k kn told : Nat} {c : TuC} {T : TX} {s : Sl}
theorem TuR.ext {h' : Heap} (u : TuR S n c h T s k kn told) (e : Ext h h') : TuR S n c h' T s k kn told :=
 ⟨u.B.ext e, u.ca.ext e, u.cs.ext e, u.cw.ext e, u.ct.ext e, u.cn.ext e, u.cg.ext e, u.ci.ext e, u.hl.ext e, u.ord, u.lsb, u.far⟩
theorem TuR.sett {h' : Heap} {v : Nat} (u : TuR S n c h T s k kn told) (o : Cel 0 h' ⟨c.at_, 0, none⟩ (i64v v)) (w : Upd ⟨some ⟨c.at_, 0, none⟩, 1, 1⟩ h h') : TuR S n c h' T s k kn v := by
 have g : Chg (fun i => i = c.at_) h h' := Chg.of_upd w fun x hx _ => by cases hx; rfl
 have od := u.ord
 exact ⟨u.B.chg g fun i hi e => (u.far i hi).2.2.2.1 e, g.own u.ca fun x hx e => by cases hx; dsimp only at e; omega, g.own u.cs fun x hx e => by cases hx; dsimp only at e; omega, g.own u.cw fun x hx e => by cases hx; dsimp only at e; omega, o,
  g.own u.cn fun x hx e => by cases hx; dsimp only at e; omega, g.own u.cg fun x hx e => by cases hx; dsimp only at e; omega, g.own u.ci fun x hx e => by cases hx; dsimp only at e; omega, g.own u.hl fun x hx e => by have := u.lsb x hx; omega, u.ord, u.lsb, u.far⟩
theorem TuR.setn {h' : Heap} {v : Nat} (u : TuR S n c h T s k kn told) (o : Cel 0 h' ⟨c.an, 0, none⟩ (i64v v)) (w : Upd ⟨some ⟨c.an, 0, none⟩, 1, 1⟩ h h') : TuR S n c h' T s k v told := by
 have g : Chg (fun i => i = c.an) h h' := Chg.of_upd w fun x hx _ => by cases hx; rfl
 have od := u.ord
 exact ⟨u.B.chg g fun i hi e => (u.far i hi).2.2.2.2.1 e, g.own u.ca fun x hx e => by cases hx; dsimp only at e; omega, g.own u.cs fun x hx e => by cases hx; dsimp only at e; omega, g.own u.cw fun x hx e => by cases hx; dsimp only at e; omega, g.own u.ct fun x hx e => by cases hx; dsimp only at e; omega,
  o, g.own u.cg fun x hx e => by cases hx; dsimp only at e; omega, g.own u.ci fun x hx e => by cases hx; dsimp only at e; omega, g.own u.hl fun x hx e => by have := u.lsb x hx; omega, u.ord, u.lsb, u.far⟩
theorem TuR.setg {h' : Heap} (u : TuR S n c h T s k kn told) (o : Cel 0 h' ⟨c.ag, 0, none⟩ (.bool true)) (w : Upd ⟨some ⟨c.ag, 0, none⟩, 1, 1⟩ h h') : TuR S n c h' T s k kn told := by
 have g : Chg (fun i => i = c.ag) h h' := Chg.of_upd w fun x hx _ => by cases hx; rfl
 have od := u.ord
 exact ⟨u.B.chg g fun i hi e => (u.far i hi).2.2.2.2.2.1 e, g.own u.ca fun x hx e => by cases hx; dsimp only at e; omega, g.own u.cs fun x hx e => by cases hx; dsimp only at e; omega, g.own u.cw fun x hx e => by cases hx; dsimp only at e; omega, g.own u.ct fun x hx e => by cases hx; dsimp only at e; omega,
  g.own u.cn fun x hx e => by cases hx; dsimp only at e; omega, o, g.own u.ci fun x hx e => by cases hx; dsimp only at e; omega, g.own u.hl fun x hx e => by have := u.lsb x hx; omega, u.ord, u.lsb, u.far⟩
theorem TuR.edit {h' : Heap} {T' : TX} {s' : Sl} (u : TuR S n c h T s k kn told) (g : Chg (bF c.b T s) h h') (B : BothR S n h' c.b T' s' (k + 1)) (hg : ∀ i, bF c.b T' s' i → bF c.b T s i ∨ h.size ≤ i) (hp : T'.p = T.p) : TuR S n c h' T' s' (k + 1) kn told := by
 have ci' : Cel 0 h' ⟨c.ai, 0, none⟩ (.pointer (some T'.p)) := by rw [hp]; exact g.own u.ci fun x hx e => by cases hx; exact (u.far _ e).2.2.2.2.2.2.1 rfl
 refine ⟨B, g.own u.ca fun x hx e => ?_, g.own u.cs fun x hx e => ?_, g.own u.cw fun x hx e => ?_, g.own u.ct fun x hx e => ?_, g.own u.cn fun x hx e => ?_, g.own u.cg fun x hx e => ?_, ci', g.own u.hl fun x hx e => ?_, u.ord, u.lsb, fun i hi => ?_⟩
 ·cases hx; exact (u.far _ e).1 rfl
 ·cases hx; exact (u.far _ e).2.1 rfl
 ·cases hx; exact (u.far _ e).2.2.1 rfl
 ·cases hx; exact (u.far _ e).2.2.2.1 rfl
 ·cases hx; exact (u.far _ e).2.2.2.2.1 rfl
 ·cases hx; exact (u.far _ e).2.2.2.2.2.1 rfl
 ·exact (u.far _ e).2.2.2.2.2.2.2 x hx rfl
 ·rcases hg i hi with f | f
  ·exact u.far i f
  ·have l1 : c.aa < h.size := (u.ca.lt rfl).2
   have l2 : c.as_ < h.size := (u.cs.lt rfl).2
   have l3 : c.aw < h.size := (u.cw.lt rfl).2
   have l4 : c.at_ < h.size := (u.ct.lt rfl).2
   have l5 : c.an < h.size := (u.cn.lt rfl).2
   have l6 : c.ag < h.size := (u.cg.lt rfl).2
   have l7 : c.ai < h.size := (u.ci.lt rfl).2
   exact ⟨by omega, by omega, by omega, by omega, by omega, by omega, by omega, fun x hx => by have := (u.lsb x hx).2; omega⟩
theorem c_turned (M : Meth0 P S) {h0 : Heap} {z : Scr} (u : TuR S h0.size c h T s k k told) (hz : (Sh.list OpSh).ok h0 z) (hscr : c.scr = z.1) (e0 : Ext h0 h) (hk : k ≤ 12) (ht : told ≤ 70000) (hat : told ≤ c.atv → txA T = c.A1 ∧ told ≤ nB c.A1) (hav : c.atv ≤ 70000) (n0 : h0.size ≤ c.at_) :
  wp P (F_law6_LinesTurned_1 S (told : Int) (lineD (txA T) told) (some ⟨c.at_, 0, none⟩) (some ⟨c.aa, 0, none⟩) (some ⟨c.aw, 0, none⟩) (some ⟨c.ag, 0, none⟩) (some ⟨c.an, 0, none⟩) (some ⟨c.as_, 0, none⟩) (some c.b)) h
   fun tg vs h' => tg = 0 ∧ vs = [.bool true] ∧ Ext h0 h' ∧ ∃ T' s' k', k' ≤ 12 ∧ TuR S h0.size c h' T' s' k' k' (told + 1) ∧ T'.p = T.p ∧ (told + 1 ≤ c.atv → txA T' = c.A1) := by
 unfold F_law6_LinesTurned_1
 have lz := hz.len
 have zb : z.2.length < 2 ^ 63 := by have := hz.2.1; have := hz.2.2.1; omega
 have n1 : h0.size ≤ c.an := by have := u.ord; omega
 have n2 : h0.size ≤ c.ag := by have := u.ord; omega
 refine s_new4 (lineD (txA T) told) fun h1 e1 o1 => ?_
 have u1 := u.ext e1
 have e01 := e0.trans e1
 refine bind_val (tys := []) (fun _ _ => True) ?_ fun _ h2 e2 _ => ?_
 ·refine bind_no ?_ fun h2 e2 => wp_ifB (fun hh => by cases hh) fun _ => s_ret ⟨rfl, e2, (), rfl, trivial⟩
  refine s_cel (b := .int .i64) (x := (told : Int)) u1.ct (s_cel (b := .int .i64) (x := (c.atv : Int)) u1.ca (wp_ifB (fun hc => ?_) fun hc => f_ret))
  rw [leI_iff] at hc
  obtain ⟨hA, hnb⟩ := hat (by omega)
  refine s_cel (b := .int .i64) (x := (told : Int)) u1.ct (wp_ifB (fun hh => by rw [neI_iff] at hh; exact absurd rfl hh) fun _ => s_getO (bs := b4) o1 (s_cel (b := .sl) (x := c.ls) u1.cw (s_cel (b := .int .i64) (x := (told : Int)) u1.ct ?_)))
  refine s_ld4 u1.hl (linesL_at (by omega)) (wp_call (c_line (lineD (txA T) told) (lineD c.A1 told)) fun ⟨(r : Bool), _⟩ h2 e2 hr => f_ret2 e2 ?_)
  have hr : r = true := hr.2 (by rw [hA])
  rw [hr]; rfl
 have u2 := u1.ext e2
 have e02 := e01.trans e2
 refine wp_bind (fun tag vs h' => tag = 0 ∧ vs = [] ∧ Ext h0 h' ∧ ∃ T' s' k', k' ≤ 12 ∧ TuR S h0.size c h' T' s' k' k' told ∧ T'.p = T.p ∧ (told + 1 ≤ c.atv → txA T' = c.A1)) ?_ ?_
 ·refine bind_bool (c.atv ≤ told ∧ k < z.2.length ∧ k < 12) ?_ fun bb h3 e3 hb => wp_ifB (fun hc => ?_) fun hc => s_ret ⟨rfl, rfl, e02.trans e3, T, s, k, hk, u2.ext e3, rfl, fun hh => (hat (by omega)).1⟩
  ·refine s_cel (b := .bool) (x := true) u2.cg (s_ifT (s_cel (b := .int .i64) (x := (told : Int)) u2.ct (s_cel (b := .int .i64) (x := (c.atv : Int)) u2.ca (wp_ifB (fun hc => ?_) fun hc => s_ret ⟨rfl, Ext.refl _, false, rfl, Iff.intro (fun h => by cases h) fun h => by rw [geI_not] at hc; omega⟩))))
   rw [geI_iff] at hc
   refine s_cel (b := .int .i64) (x := (k : Int)) u2.cn (s_cel (b := .sl) (x := c.scr) u2.cs (wp_ifB (fun hd => s_cel (b := .int .i64) (x := (k : Int)) u2.cn (s_ret ⟨rfl, Ext.refl _, _, rfl, ?_⟩)) fun hd => s_ret ⟨rfl, Ext.refl _, false, rfl, Iff.intro (fun h => by cases h) fun h => by rw [ltI_not, natI_def, hscr, lz] at hd; omega⟩))
   rw [ltI_iff, natI_def, hscr, lz] at hd
   rw [ltI_iff]; omega
  have hc := hb.1 hc
  have u3 := u2.ext e3
  have e03 := e02.trans e3
  obtain ⟨e, he⟩ : ∃ e, z.2[k]? = some e := ⟨z.2[k]'hc.2.1, List.getElem?_eq_getElem hc.2.1⟩
  have he' : z.2[((k : Nat) : Int).toNat]? = some e := he
  refine s_cel (b := .sl) (x := c.scr) u3.cs (s_cel (b := .int .i64) (x := (k : Int)) u3.cn ?_)
  rw [hscr]
  refine s_atSh (e := OpSh) (x := z) (bs := bO) (z := (e.1, e.2.1, e.2.2.1, e.2.2.2.1, e.2.2.2.2.1.1, ())) (Sh.ok.ext e03 hz) (by omega) he' rfl rfl ?_
  refine s_putO (bs := bO) (z := ((0, 0, 0, 0, ⟨none, 0, 0⟩, ()) : OpD)) ((e.1, e.2.1, e.2.2.1, e.2.2.2.1, e.2.2.2.2.1.1, ()) : OpD) (by decide) (by intro v hv; simp [Bs.inj] at hv; rcases hv with rfl | rfl | rfl | rfl | rfl <;> rfl) fun h4 e4 o4 => ?_
  have e04 := e03.trans e4
  have q4 := e04.size
  have ok := (Sh.ok.ext e04 hz).el he
  have u4 := u3.ext e4
  refine s_cell (b := .int .i64) e.2.2.1 rfl o4.cells rfl (s_cell (b := .int .i64) e.2.2.2.1 rfl o4.cells rfl (s_cell (b := .sl) e.2.2.2.2.1.1 rfl o4.cells rfl ?_))
  refine wp_callW (c_edited M u4.B q4 (by omega) ok.2.2.1 ok.2.2.2.1 (Sh.lst ok.2.2.2.2.1)) fun tg vs h5 ⟨ht, hv, c5, T', s', B', hg, hpp, _⟩ => ⟨ht, (true, ()), hv, ?_⟩
  have u5 := u4.edit c5 B' hg hpp
  have e05 : Ext h0 h5 := Keep.trans e04 (c5.keep q4 fun j hj f => by have := (u4.B.lo j f).1; omega)
  refine s_celput (.bool true) u5.cg rfl fun h6 o6 w6 => ?_
  have u6 := u5.setg o6 w6
  have e06 : Ext h0 h6 := Upd.extN e05 w6 (by intro y hy; cases hy; exact n2)
  refine s_cel (b := .int .i64) (x := (k : Int)) u6.cn ?_
  rw [add_ok (by omega) (by omega)]
  refine s_celput (i64v ((k + 1 : Nat) : Int)) u6.cn rfl fun h7 o7 w7 => s_ret ⟨rfl, rfl, Upd.extN e06 w7 (by intro y hy; cases hy; exact n1), T', s', k + 1, by omega, u6.setn o7 w7, hpp, fun hh => by omega⟩
 rintro tag vs h3 ⟨rfl, rfl, e03, T', s', k', hk', u3, hp', hA'⟩
 refine s_tag (s_cast0 (s_cel (b := .int .i64) (x := (told : Int)) u3.ct ?_))
 rw [add_ok (by omega) (by omega)]
 refine s_celput (i64v ((told + 1 : Nat) : Int)) u3.ct rfl fun h4 o4 w4 => ?_
 have u4 := u3.sett o4 w4
 have e04 : Ext h0 h4 := Upd.extN e03 w4 (by intro y hy; cases hy; exact n0)
 refine wp_bind (fun tag vs h' => tag = 0 ∧ vs = [] ∧ Ext h0 h' ∧ TuR S h0.size c h' T' s' k' k' (told + 1)) ?_ ?_
 ·refine s_cel (b := .bool) (x := true) u4.cg (s_ifT (s_cel (b := .int .i64) (x := ((told + 1 : Nat) : Int)) u4.ct ?_))
  have : leI ((told + 1 : Nat) : Int) 1000000 = true := by rw [leI_iff]; omega
  rw [this]
  exact s_celput (.bool true) u4.cg rfl fun h5 o5 w5 => s_ret ⟨rfl, rfl, Upd.extN e04 w5 (by intro y hy; cases hy; exact n2), u4.setg o5 w5⟩
 rintro tag vs h5 ⟨rfl, rfl, e05, u5⟩
 exact s_tag (s_cast0 (s_cel (b := .bool) (x := true) u5.cg (s_ret ⟨rfl, rfl, e05, T', s', k', hk', u5, hp', hA'⟩)))
end Go.Sw.Piece

set_option linter.unusedVariables false
set_option linter.unusedSimpArgs false
set_option maxRecDepth 100000
namespace Go.Sw.Piece
open Go.Sw.Any Go.Sw.Codec
open Go.Sw.Tree (iv s_putAll s_newP s_getP s_getT s_putP eqI_self Placed cell_own wp_whileG minI_eq)
variable {P : Program} {S : Ids} {h : Heap} {Q : Nat → List Value → Heap → Prop}
structure ClT (P : Program) (S : Ids) : Prop where
 t1 : ∀ (k : Int) (x : LnD) (a b c d e f g : Option Addr), Dyn P (.func (.func S.f_law6_LinesTurned_1) #[] #[.pointer a, .pointer b, .pointer c, .pointer d, .pointer e, .pointer f, .pointer g]) (Ts.inj [.one (.int .i64), t4] (k, x, ())) (F_law6_LinesTurned_1 S k x a b c d e f g)
 t2 : ∀ (k : Int) (x : LnD) (a : Option Addr), Dyn P (.func (.func S.f_law6_LinesTurned_2) #[] #[.pointer a]) (Ts.inj [.one (.int .i64), t4] (k, x, ())) (F_law6_LinesTurned_2 S k x a)
theorem c_LinesTurned (M : Meth0 P S) (C : Cl0 P S) (L : ClL P S) (Y : ClT P S) {x : StX} {at_ : Int} {z : Scr} (hx : StSh.ok h x) (hat : fitsI .i64 at_) (hz : (Sh.list OpSh).ok h z) :
  Gives P (F_law6_LinesTurned S (x.1, x.2.1.1, ()) at_ z.1) [.one .bool] h fun (r : Bool × Unit) _ => r.1 = true := by
 unfold F_law6_LinesTurned Gives
 have lx := Sh.lst hx.2.1
 refine s_newO (bs := bS) ((x.1, x.2.1.1, ()) : StaD) (by decide) fun h1 e1 o1 => s_newA (by simp) fun h2 e2 o2 => s_newA (by simp) fun h3 e3 o3 => ?_
 have o2 : Cel h1.size h2 ⟨h1.size, 0, none⟩ (i64v at_) := o2
 have o3 : Cel h2.size h3 ⟨h2.size, 0, none⟩ (slv z.1) := o3
 have e13 := (e1.trans e2).trans e3
 refine s_getO (bs := bS) (o1.ext (e2.trans e3)) (wp_call (c_opened6 M (lx.ext e13)) fun ⟨⟨(p1 : Option Addr), (s1 : Sl), _⟩, (b1 : Bool), _⟩ h4 e4 ⟨hb1, T1, hp1, O1⟩ => ?_)
 have hb1 : b1 = true := hb1
 have hp1 : p1 = some T1.p := hp1
 subst hb1; subst hp1
 have O1 : OpB S h3.size h4 (x.2.1.2.take 50000) T1 s1 := O1
 have e14 := e13.trans e4
 refine s_putO (bs := bB) (z := ((none, ⟨none, 0, 0⟩, ()) : BoD)) ((some T1.p, s1, ()) : BoD) (by decide) flatB2 fun h5 e5 o5 => ?_
 have q13 := e13.size; have q14 := e14.size
 have B5 : BothR S h.size h5 ⟨h4.size, 0, none⟩ T1 s1 0 := O1.both q13 e5 o5 q14 (Nat.le_refl _)
 have e15 := e14.trans e5
 have hN := nLines_le (txA T1)
 have hnB : nB (txA T1) ≤ (txA T1).length := cntE_le _ _
 have hfew := B5.few
 refine bind_no (wp_ifB (fun hh => by cases hh) fun _ => s_cell (b := .ptr) (some T1.p) rfl B5.ob.cells rfl (wp_call (c_lCount M C B5.t) fun ⟨(c : Int), _⟩ h6 e6 hc => f_ret2 e6 ?_)) fun h6 e6 => wp_ifB (fun hh => by cases hh) fun _ => ?_
 ·have hc : c = nLines (txA T1) := hc
  subst hc
  rw [ltI_not]; dsimp only; omega
 have B6 := B5.ext e6
 have e16 := e15.trans e6
 refine s_cell (b := .sl) s1 rfl B6.ob.cells rfl (wp_call (c_refAll B6.at_.lst (by omega)) fun ⟨(ls : Sl), (nl : Int), _⟩ h7 e7 ⟨hls, hnl⟩ => ?_)
 have hls : LnL h6.size h7 ls (linesL (txA T1) (nB (txA T1) + 1)) := hls
 have hnl : nl = nLines (txA T1) := hnl
 subst hnl
 refine s_newput (.slice none 0 0) (slv ls) rfl fun h8 e8 o8 => ?_
 have e18 := (e16.trans e7).trans e8
 have e28 := ((((e3.trans e4).trans e5).trans e6).trans e7).trans e8
 refine s_cel (b := .int .i64) (x := at_) (o2.ext e28) ?_
 dsimp only
 rw [sub_ok (by omega) (by omega)]
 have w1 := within_le (x := at_) (n := ((nLines (txA T1) : Nat) : Int) - 1) (by omega)
 refine wp_call (c_within hat (by omega) (by omega)) fun ⟨(av : Int), _⟩ h9 e9 hav => ?_
 have hav : av = withinF at_ (((nLines (txA T1) : Nat) : Int) - 1) := hav
 rw [← hav] at w1
 obtain ⟨av, rfl⟩ : ∃ p : Nat, av = p := ⟨av.toNat, by omega⟩
 clear hav
 have l12 : h1.size < h2.size := (o2.lt rfl).2
 have l23 : h2.size < h3.size := (o3.lt rfl).2
 have l34 := e4.size
 have l45 : h4.size < h5.size := (o5.lt rfl).2
 have l56 := e6.size
 have l67 := e7.size
 have l78 : h7.size < h8.size := (o8.lt rfl).2
 have l89 := e9.size
 have q1 := e1.size
 refine s_celput (i64v (av : Int)) (o2.ext (e28.trans e9)) rfl fun h10 oa10 u10 => ?_
 have g10 : Chg (fun i => i = h1.size) h9 h10 := Chg.of_upd u10 fun y hy _ => by cases hy; rfl
 have l910 := g10.1
 have e110 : Ext h h10 := Upd.extN (e18.trans e9) u10 (by intro y hy; cases hy; exact q1)
 have zlo : ∀ i, bF ⟨h4.size, 0, none⟩ T1 s1 i → h3.size ≤ i ∧ i ≤ h4.size := fun i hi => by
  rcases O1.lo i hi with hi | hi
  ·omega
  ·dsimp only at hi; omega
 have B10 : BothR S h.size h10 ⟨h4.size, 0, none⟩ T1 s1 0 := (((B6.ext e7).ext e8).ext e9).chg g10 fun i hi e => by have := zlo i hi; omega
 have os10 : Cel h2.size h10 ⟨h2.size, 0, none⟩ (slv z.1) := g10.own (o3.ext ((((((e4.trans e5).trans e6).trans e7).trans e8)).trans e9)) fun y hy e => by cases hy; dsimp only at e; omega
 have ow10 : Cel h7.size h10 ⟨h7.size, 0, none⟩ (slv ls) := g10.own (o8.ext e9) fun y hy e => by cases hy; dsimp only at e; omega
 have lsb : ∀ y, ls.base = some y → h6.size ≤ y.block ∧ y.block < h7.size := fun y hy => hls.lt hy
 have hl10 : LnL h6.size h10 ls (linesL (txA T1) (nB (txA T1) + 1)) := g10.own (hls.ext (e8.trans e9)) fun y hy e => by have := lsb y hy; omega
 refine s_newput (i64v 0) (i64v 0) rfl fun h11 e11 o11 => s_newput (i64v 0) (i64v 0) rfl fun h12 e12 o12 => s_newput (.bool false) (.bool true) rfl fun h13 e13' o13 => ?_
 have e1013 := (e11.trans e12).trans e13'
 refine s_cell (b := .ptr) (some T1.p) rfl (B10.ext e1013).ob.cells rfl (wp_call (c_lAll (B10.ext e1013).t) fun ⟨(it1 : Value), _⟩ h14 e14' ⟨a1, hit1, oi⟩ => ?_)
 have hit1 : it1 = .func (.func S.f_lines_All_1) #[] #[.pointer (some a1)] := hit1
 subst hit1
 have oi : Cel h13.size h14 a1 (.pointer (some T1.p)) := oi
 obtain ⟨ai, ao, asp⟩ := a1
 obtain ⟨rfl, rfl, _⟩ : ao = 0 ∧ asp = none ∧ True := ⟨oi.2.2.2.1, oi.2.2.2.2.1, trivial⟩
 have e1014 := e1013.trans e14'
 have l1011 : h10.size < h11.size := (o11.lt rfl).2
 have l1112 : h11.size < h12.size := (o12.lt rfl).2
 have l1213 : h12.size < h13.size := (o13.lt rfl).2
 have lai : h13.size ≤ ai ∧ ai < h14.size := oi.lt rfl
 have e114 := e110.trans e1014
 let c : TuC := ⟨h1.size, h2.size, h7.size, h10.size, h11.size, h12.size, ai, ⟨h4.size, 0, none⟩, av, z.1, ls, txA T1⟩
 have u14 : TuR S h.size c h14 T1 s1 0 0 0 := by
  refine ⟨B10.ext e1014, (oa10.ext e1014).mono (Nat.zero_le _), (os10.ext e1014).mono (Nat.zero_le _), (ow10.ext e1014).mono (Nat.zero_le _), (o11.ext ((e12.trans e13').trans e14')).mono (Nat.zero_le _), (o12.ext (e13'.trans e14')).mono (Nat.zero_le _), (o13.ext e14').mono (Nat.zero_le _), oi.mono (Nat.zero_le _), (hl10.ext e1014).mono (Nat.zero_le _), ?_, fun y hy => ?_, fun i hi => ?_⟩
  ·show h1.size < h2.size ∧ h2.size < h4.size ∧ h4.size < h7.size ∧ h7.size < h10.size ∧ h10.size < h11.size ∧ h11.size < h12.size ∧ h12.size < ai
   omega
  ·have := lsb y hy
   show h4.size < y.block ∧ y.block < h7.size
   omega
  ·have := zlo i hi
   show i ≠ h1.size ∧ i ≠ h2.size ∧ i ≠ h7.size ∧ i ≠ h10.size ∧ i ≠ h11.size ∧ i ≠ h12.size ∧ i ≠ ai ∧ ∀ y, ls.base = some y → i ≠ y.block
   exact ⟨by omega, by omega, by omega, by omega, by omega, by omega, by omega, fun y hy => by have := lsb y hy; omega⟩
 refine wp_grd rfl (wp_ifB (fun hh => by cases hh) fun _ => ?_)
 let J : Nat → TX → Heap → Prop := fun i T h' => ∃ s k, k ≤ 12 ∧ TuR S h.size c h' T s k k i ∧ Ext h h' ∧ (i ≤ av → txA T = txA T1) ∧ T.p = T1.p
 refine wp_callv (DynE.mono (c_allT M C L (p := T1.p) (a1 := ⟨ai, 0, none⟩) (J := J) ?_ ?_ ?_ (T0 := T1) ⟨s1, 0, by omega, u14, e114, fun _ => rfl, rfl⟩) fun vs h15 ⟨hv, i, T, ⟨s, k, hk, u15, e115, hA, hp⟩, hi⟩ => ⟨(), hv, ?_⟩).toV
 ·rintro i T h' ⟨s, k, hk, u, e, hA, hp⟩
  have := u.B.few
  refine ⟨_, u.B.t, by omega, hp, ?_⟩
  have := cell_own u.ci
  rw [← hp]; exact this
 ·rintro i T h' h'' ⟨s, k, hk, u, e, hA, hp⟩ e'
  exact ⟨s, k, hk, u.ext e', e.trans e', hA, hp⟩
 ·rintro i T h' ⟨s, k, hk, u, e, hA, hp⟩ hi
  have hfew' := u.B.few
  have hN' := nLines_le (txA T)
  have hnB' : nB (txA T) ≤ (txA T).length := cntE_le _ _
  refine (Y.t1 (i : Int) (lineD (txA T) i) (some ⟨h10.size, 0, none⟩) (some ⟨h1.size, 0, none⟩) (some ⟨h7.size, 0, none⟩) (some ⟨h12.size, 0, none⟩) (some ⟨h11.size, 0, none⟩) (some ⟨h2.size, 0, none⟩) (some ⟨h4.size, 0, none⟩) h' _ ?_).toV
  refine wp_mono _ (fun tg vs h'' ⟨ht, hv, e', T', s', k', hk', u', hp', hA'⟩ => ⟨ht, hv, T', s', k', hk', u', e', hA', hp'.trans hp⟩) (c_turned M u hz rfl e hk (by omega) (fun hh => ⟨hA hh, ?_⟩) (show av ≤ 70000 by omega) (show h.size ≤ h10.size from e110.size))
  have : txA T = txA T1 := hA hh
  show i ≤ nB (txA T1)
  rw [← this]; omega
 have hiav : av < i := by
  by_cases hh : i ≤ av
  ·rw [hA hh] at hi; omega
  ·omega
 have B15 := u15.B
 have hfew' := B15.few
 have hN' := nLines_le (txA T)
 have hnB' : nB (txA T) ≤ (txA T).length := cntE_le _ _
 refine bind_no (s_cel (b := .bool) (x := true) u15.cg (wp_ifB (fun hh => by cases hh) fun _ => s_cel (b := .int .i64) (x := (i : Int)) u15.ct (s_cel (b := .int .i64) (x := (av : Int)) u15.ca (f_ret2 (Ext.refl _) ?_)))) fun h16 e16' => wp_ifB (fun hh => by cases hh) fun _ => ?_
 ·rw [leI_not]; omega
 have u16 := u15.ext e16'
 have B16 := u16.B
 have e116 := e115.trans e16'
 refine s_cell (b := .sl) s rfl B16.ob.cells rfl (wp_call (c_refAll B16.at_.lst (by omega)) fun ⟨(l2 : Sl), (n2 : Int), _⟩ h17 e17 ⟨ho, hn2⟩ => ?_)
 have ho : LnL h16.size h17 l2 (linesL (txA T) (nB (txA T) + 1)) := ho
 have hn2 : n2 = nLines (txA T) := hn2
 subst hn2
 have u17 := u16.ext e17
 refine s_celput (slv l2) u17.cw rfl fun h18 o18 w18 => ?_
 have g18 : Chg (fun i => i = h7.size) h17 h18 := Chg.of_upd w18 fun y hy _ => by cases hy; rfl
 have B18 : BothR S h.size h18 ⟨h4.size, 0, none⟩ T s k := u17.B.chg g18 fun i hi e => (u17.far i hi).2.2.1 e
 have hq7 : h7.size < h16.size := (u16.cw.lt rfl).2
 have ho18 : LnL h16.size h18 l2 (linesL (txA T) (nB (txA T) + 1)) := g18.own ho fun y hy e => by have := (ho.lt hy).1; omega
 have q07 : h.size ≤ h7.size := (e16.trans e7).size
 have e118 : Ext h h18 := Upd.extN (e116.trans e17) w18 (by intro y hy; cases hy; exact q07)
 have q1718 := g18.1
 refine s_cel (b := .sl) (x := l2) o18 (s_newW (l2, (nLines (txA T) : Int), -1, 0, false, false, ()) fun h19 e19 w19 => s_newput _ (.pointer (some ⟨h18.size, 0, none⟩)) rfl fun h20 e20 o20 => ?_)
 have B20 := (B18.ext e19).ext e20
 refine s_cell (b := .ptr) (some T.p) rfl B20.ob.cells rfl (wp_call (c_lAll B20.t) fun ⟨(it2 : Value), _⟩ h21 e21 ⟨a2, hit2, oi2⟩ => ?_)
 have hit2 : it2 = .func (.func S.f_lines_All_1) #[] #[.pointer (some a2)] := hit2
 subst hit2
 have oi2 : Cel h20.size h21 a2 (.pointer (some T.p)) := oi2
 have B21 := B20.ext e21
 have itg := iter_lines M C L (Z := fun i => T.Z i ∨ i = a2.block) B21.t (fun i hi => .inl hi) (cell_own oi2) (.inr rfl)
 have l1819 : h18.size < h19.size := (w19.lt rfl).2
 have l1920 : h19.size < h20.size := (o20.lt rfl).2
 have la2 : h20.size ≤ a2.block := (oi2.lt rfl).1
 have e2021 := e20.trans e21
 have l2b : ∀ y, l2.base = some y → y.block < h17.size := fun y hy => (ho.lt hy).2
 refine wp_callv (DynE.mono (c_walk (w := ⟨h18.size, 0, none⟩) itg (Held.refl _ _) rfl (fun k x => Y.t2 k x _) (o20.ext e21) (w19.ext e2021) ((ho18.ext e19).ext e2021) (by omega) (by dsimp only; omega) (fun y hy => by have := l2b y hy; dsimp only; omega) (fun f => by
  rcases f.1 with f | f
  ·have := (B18.t.lo _ f).2; dsimp only at this; omega
  ·dsimp only at f; omega)) fun vs h22 ⟨hv, c22, k1, ov1, hk1, w22⟩ => ⟨(), hv, ?_⟩).toV
 have e121 := (e118.trans e19).trans e2021
 have e122 : Ext h h22 := Keep.trans e121 (c22.keep e121.size fun i hi f => by have := e118.size; dsimp only at f; omega)
 have o22 : Cel h19.size h22 ⟨h19.size, 0, none⟩ (.pointer (some ⟨h18.size, 0, none⟩)) := c22.own (o20.ext e21) fun y hy f => by cases hy; dsimp only at f; omega
 have B22 : BothR S h.size h22 ⟨h4.size, 0, none⟩ T s k := B21.chg c22 fun i hi f => by have := (B18.lo i hi).2; dsimp only at f; omega
 have lA := B22.at_.len
 refine bind_bool True ?_ fun bb h23 e23 hbb => s_ret ⟨rfl, e122.trans e23, (bb, ()), rfl, hbb.2 trivial⟩
 refine s_cel (b := .ptr) (x := some ⟨h18.size, 0, none⟩) o22 (wp_call (c_well w22 hk1) fun ⟨(r : Bool), _⟩ h23 e23 hr => ?_)
 have hr : r = true := hr
 subst hr
 have B23 := B22.ext e23
 refine s_ifT (s_cell (b := .ptr) (some T.p) rfl B23.ob.cells rfl (s_cell (b := .sl) s rfl B23.ob.cells rfl (s_cell (b := .sl) s rfl B23.ob.cells rfl ?_)))
 have hns : addI .i64 (natI s.len) 1 = ((txA T).length : Int) + 1 := by rw [natI_def, lA, add_ok (by omega) (by omega)]
 rw [hns]
 refine wp_call (c_Atoms M C B23.t (fits_i64.2 (by omega))) fun ⟨(v : Sl), _⟩ h24 e24 ov => ?_
 have ov : OwnL h23.size .i64 h24 v ((cutL (els T.enc T.cur.ps) 0 ((txA T).length + 1 : Int)).map (·.1)) := ov
 rw [part_map] at ov
 have ov : OwnL h23.size .i64 h24 v (partL (txA T) 0 ((txA T).length + 1 : Int)) := ov
 rw [partL_all _ (by omega)] at ov
 refine s_ckC (B23.ext e24).ob.cells rfl (wp_call (c_same6 ov.lst (B23.ext e24).at_.lst) fun ⟨(r : Bool), _⟩ h25 e25 hr => s_ret ⟨rfl, (e23.trans e24).trans e25, _, rfl, Iff.intro (fun _ => trivial) fun _ => ?_⟩)
 have hr : r = decide (txA T = txA T) := hr
 rw [hr]; exact decide_eq_true rfl
end Go.Sw.Piece
