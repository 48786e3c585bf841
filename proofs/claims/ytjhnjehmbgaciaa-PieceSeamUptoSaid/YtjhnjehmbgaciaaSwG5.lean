/-
  The laws of chapter 5: good: what is produced meanwhile.
-/
import Derived.Test.YtjhnjehmbgaciaaSwG4
import Derived.Test.YtjhnjehmbgaciaaSwCD
set_option linter.unusedVariables false
set_option linter.unusedSimpArgs false
set_option maxRecDepth 100000
namespace Go.Sw.Piece
open Go.Sw.Any Go.Sw.Codec
open Go.Sw.Tree (iv s_putAll s_newP s_getP s_getT s_putP eqI_self Placed cell_own cell_upd1 wp_whileG minI_eq)
variable {P : Program} {S : Ids} {h : Heap} {Q : Nat → List Value → Heap → Prop}

/-! ### Two lists that grow side by side -/
structure GI (F : Nat → Prop) (hz : Heap) (n a3 : Nat) (h : Heap) (sA sT : Sl) (LA LT : List Int) : Prop where
  held : Held F hz h
  fz : ∀ i, F i → i < hz.size ∧ i ≠ a3 ∧ (∀ a, sA.base = some a → a.block ≠ i) ∧ ∀ a, sT.base = some a → a.block ≠ i
  o3 : Own 0 1 h ⟨some (at0 a3), 3, 3⟩ [slv sA, slv sT, .slice none 0 0]
  la : OwnL n .i64 h sA LA
  lt : OwnL n .i64 h sT LT
  ne : ∀ a b, sA.base = some a → sT.base = some b → a.block ≠ b.block
  an : a3 < n
  nh : n ≤ h.size
variable {F : Nat → Prop} {hz : Heap} {n a3 : Nat} {sA sT : Sl} {LA LT : List Int}
theorem GI.ext {h' : Heap} (g : GI F hz n a3 h sA sT LA LT) (e : Ext h h') : GI F hz n a3 h' sA sT LA LT :=
  ⟨g.held.trans (Held.of_ext e), g.fz, g.o3.ext e, g.la.ext e, g.lt.ext e, g.ne, g.an, Nat.le_trans g.nh e.size⟩
end Go.Sw.Piece

set_option linter.unusedVariables false
set_option linter.unusedSimpArgs false
set_option maxRecDepth 100000
namespace Go.Sw.Piece
open Go.Sw.Any Go.Sw.Codec
open Go.Sw.Tree (iv s_putAll s_newP s_getP s_getT s_putP eqI_self Placed cell_own cell_upd1 wp_whileG minI_eq)
variable {P : Program} {S : Ids} {h : Heap} {Q : Nat → List Value → Heap → Prop}
variable {F : Nat → Prop} {hz : Heap} {n a3 : Nat} {sA sT : Sl} {LA LT : List Int}

abbrev SE := Sl × Sl × Sl × Unit
/-- Three lists that show these atoms, tags and bytes. -/
structure ShowR (m : Nat) (h : Heap) (enc : Int) (q : SE) (E : List El) : Prop where
  a : OwnL m .i64 h q.1 (E.map (·.1))
  t : OwnL m .i64 h q.2.1 (E.map (·.2))
  b : OwnL m .u8 h q.2.2.1 ((E.map (·.1)).flatMap (putF enc))
theorem ShowR.ext {m : Nat} {h' : Heap} {enc : Int} {q : SE} {E : List El} (s : ShowR m h enc q E) (e : Ext h h') : ShowR m h' enc q E := ⟨s.a.ext e, s.t.ext e, s.b.ext e⟩
theorem ShowR.chg {G : Nat → Prop} {m : Nat} {h' : Heap} {enc : Int} {q : SE} {E : List El} (s : ShowR m h enc q E) (c : Chg G h h') (hG : ∀ i, m ≤ i → i < h.size → ¬ G i ∨ (∀ a, q.1.base = some a → a.block ≠ i) ∧ (∀ a, q.2.1.base = some a → a.block ≠ i) ∧ ∀ a, q.2.2.1.base = some a → a.block ≠ i) : ShowR m h' enc q E :=
  ⟨c.ownL s.a fun x hx g => (hG _ (s.a.own.lt hx).1 (s.a.own.lt hx).2).elim (fun h => h g) fun h => h.1 x hx rfl,
   c.ownL s.t fun x hx g => (hG _ (s.t.own.lt hx).1 (s.t.own.lt hx).2).elim (fun h => h g) fun h => h.2.1 x hx rfl,
   c.ownL s.b fun x hx g => (hG _ (s.b.own.lt hx).1 (s.b.own.lt hx).2).elim (fun h => h g) fun h => h.2.2 x hx rfl⟩
/-- The blocks of its lists. -/
def inS (q : SE) (i : Nat) : Prop := (∃ a, q.1.base = some a ∧ a.block = i) ∨ (∃ a, q.2.1.base = some a ∧ a.block = i) ∨ ∃ a, q.2.2.1.base = some a ∧ a.block = i
theorem ShowR.in {m i : Nat} {enc : Int} {q : SE} {E : List El} (s : ShowR m h enc q E) (hi : inS q i) : m ≤ i ∧ i < h.size := by
  rcases hi with ⟨a, ha, rfl⟩ | ⟨a, ha, rfl⟩ | ⟨a, ha, rfl⟩
  · exact s.a.own.lt ha
  · exact s.t.own.lt ha
  · exact s.b.own.lt ha

end Go.Sw.Piece

set_option linter.unusedVariables false
set_option linter.unusedSimpArgs false
set_option maxRecDepth 100000
namespace Go.Sw.Piece
open Go.Sw.Any Go.Sw.Codec
open Go.Sw.Tree (iv s_putAll s_newP s_getP s_getT s_putP eqI_self Placed cell_own cell_upd1 wp_whileG minI_eq)
variable {P : Program} {S : Ids} {h : Heap} {Q : Nat → List Value → Heap → Prop}

theorem s_ldEs {x : Edss} {y : Eds} {i : Nat} {K : Sl → Prog} (ok : EdssSh.ok h x) (hy : x.2[i]? = some y) (hk : wp P (K y.1) h Q) :
    wp P (grd (andB (someB x.1.base) (inB (i : Int) x.1.len)) <| .load (.one .sl) (shiftTo x.1.base (mulN (toN (i : Int)) 1)) K) h Q := by
  obtain ⟨a, ea, ca, _⟩ := ok.2.2.2 i y hy
  have hlt := (List.getElem?_eq_some_iff.1 hy).1
  have xlen := ok.len
  refine wp_grd (andB_iff.2 ⟨by simp [someB, ea], inB_is.2 ⟨by omega, by omega⟩⟩) ?_
  rw [ea, shiftTo_some, mulN_def, toN_def, Int.toNat_natCast]
  exact wp_load1 (b := .sl) _ y.1 rfl (by have := cells_iff.1 ca 0 _ rfl; rw [add_zero'] at this; exact this) hk
end Go.Sw.Piece

set_option linter.unusedVariables false
set_option linter.unusedSimpArgs false
set_option maxRecDepth 100000
namespace Go.Sw.Piece
open Go.Sw.Any Go.Sw.Codec
open Go.Sw.Tree (iv s_putAll s_newP s_getP s_getT s_putP eqI_self Placed cell_own cell_upd1 wp_whileG minI_eq)
variable {P : Program} {S : Ids} {h : Heap} {Q : Nat → List Value → Heap → Prop}

/-! ### Two lists of an object that grow side by side -/
structure RI (h0 : Heap) (n a : Nat) (enc limit : Int) (h : Heap) (sA sT : Sl) (LA LT : List Int) : Prop where
  k : Ext h0 h
  o : Own h0.size 1 h ⟨some (at0 a), 5, 5⟩ [i64v enc, i64v limit, slv sA, slv sT, .slice none 0 0]
  la : OwnL n .i64 h sA LA
  lt : OwnL n .i64 h sT LT
  ne : ∀ a b, sA.base = some a → sT.base = some b → a.block ≠ b.block
  an : a < n
  nh : n ≤ h.size
variable {h0 : Heap} {n a : Nat} {enc limit : Int} {sA sT : Sl} {LA LT : List Int}
theorem RI.ext {h' : Heap} (g : RI h0 n a enc limit h sA sT LA LT) (e : Ext h h') : RI h0 n a enc limit h' sA sT LA LT :=
  ⟨g.k.trans e, g.o.ext e, g.la.ext e, g.lt.ext e, g.ne, g.an, Nat.le_trans g.nh e.size⟩
/-! ### The document's text in memory -/
structure RX where
  b : Nat
  enc : Int
  limit : Int
  sa : Sl
  st : Sl
  sk : Sl
  E : List El
  K : List (Sl × Sl × List El)
  Z : Nat → Prop
/-- Lists that show these atoms and tags. -/
def Shows (n : Nat) (h : Heap) (k : Sl × Sl × List El) : Prop := OwnL n .i64 h k.1 (k.2.2.map (·.1)) ∧ OwnL n .i64 h k.2.1 (k.2.2.map (·.2))
/-- Their blocks. -/
def inK (k : Sl × Sl × List El) (i : Nat) : Prop := (∃ a, k.1.base = some a ∧ a.block = i) ∨ ∃ a, k.2.1.base = some a ∧ a.block = i
structure RefT (n : Nat) (h : Heap) (R : RX) : Prop where
  enc : known R.enc
  lim : 0 ≤ R.limit ∧ R.limit ≤ 65536
  ob : Own n 1 h ⟨some (at0 R.b), 5, 5⟩ [i64v R.enc, i64v R.limit, slv R.sa, slv R.st, slv R.sk]
  cur : Shows n h (R.sa, R.st, R.E)
  sk : Own n 2 h R.sk (R.K.flatMap fun k => [slv k.1, slv k.2.1])
  kept : ∀ k, k ∈ R.K → Shows n h k
  zb : R.Z R.b
  zc : ∀ i, inK (R.sa, R.st, R.E) i → R.Z i ∧ i ≠ R.b ∧ ∀ a, R.sk.base = some a → a.block ≠ i
  zk : ∀ k, k ∈ R.K → ∀ i, inK k i → R.Z i ∧ i ≠ R.b ∧ ∀ a, R.sk.base = some a → a.block ≠ i
  zs : ∀ a, R.sk.base = some a → R.Z a.block ∧ a.block ≠ R.b
  lo : ∀ i, R.Z i → n ≤ i ∧ i < h.size
  fit : ∀ a, a ∈ R.E.map (·.1) → 0 < sizeF R.enc a
theorem Shows.chg {F : Nat → Prop} {h' : Heap} {k : Sl × Sl × List El} (s : Shows n h k) (c : Chg F h h') (hF : ∀ i, inK k i → ¬ F i) : Shows n h' k :=
  ⟨c.ownL s.1 fun y hy => hF _ (.inl ⟨y, hy, rfl⟩), c.ownL s.2 fun y hy => hF _ (.inr ⟨y, hy, rfl⟩)⟩
theorem RefT.chg {F : Nat → Prop} {h' : Heap} {R : RX} (r : RefT n h R) (c : Chg F h h') (hF : ∀ i, R.Z i → ¬ F i) : RefT n h' R where
  enc := r.enc
  lim := r.lim
  ob := c.own r.ob fun y hy => by cases hy; exact hF _ r.zb
  cur := r.cur.chg c fun i hi => hF _ (r.zc i hi).1
  sk := c.own r.sk fun y hy => hF _ (r.zs y hy).1
  kept := fun k hk => (r.kept k hk).chg c fun i hi => hF _ (r.zk k hk i hi).1
  zb := r.zb
  zc := r.zc
  zk := r.zk
  zs := r.zs
  lo := fun i hi => ⟨(r.lo i hi).1, Nat.lt_of_lt_of_le (r.lo i hi).2 c.1⟩
  fit := r.fit
theorem RefT.ext {h' : Heap} {R : RX} (r : RefT n h R) (e : Ext h h') : RefT n h' R := r.chg (Chg.of_ext (F := fun _ => False) e) fun _ _ x => x
theorem RefT.mono {m : Nat} {R : RX} (r : RefT n h R) (hm : m ≤ n) : RefT m h R :=
  ⟨r.enc, r.lim, r.ob.mono hm, ⟨r.cur.1.mono hm, r.cur.2.mono hm⟩, r.sk.mono hm, fun k hk => ⟨(r.kept k hk).1.mono hm, (r.kept k hk).2.mono hm⟩, r.zb, r.zc, r.zk, r.zs, fun i hi => ⟨Nat.le_trans hm (r.lo i hi).1, (r.lo i hi).2⟩, r.fit⟩

inductive ROpenR (h0 h : Heap) (enc limit : Int) (l : List Int) : Option Addr → Int → Prop where
  | enc : ¬ known enc → ROpenR h0 h enc limit l none 10
  | arg : known enc → ¬ (0 ≤ limit ∧ limit ≤ 65536) → ROpenR h0 h enc limit l none 1
  | full : known enc → 0 ≤ limit ∧ limit ≤ 65536 → limit < l.length → ROpenR h0 h enc limit l none 50
  | ok (R : RX) : known enc → 0 ≤ limit ∧ limit ≤ 65536 → l.length ≤ limit → RefT h0.size h R → R.enc = enc → R.limit = limit → R.K = [] → R.E = elsF 0 0 (toks enc l) → (∀ i, R.Z i → h0.size ≤ i) → ROpenR h0 h enc limit l (some (at0 R.b)) 0

end Go.Sw.Piece

set_option linter.unusedVariables false
set_option linter.unusedSimpArgs false
set_option maxRecDepth 100000
namespace Go.Sw.Piece
open Go.Sw.Any Go.Sw.Codec
open Go.Sw.Tree (iv s_putAll s_newP s_getP s_getT s_putP eqI_self Placed cell_own cell_upd1 wp_whileG minI_eq)
variable {P : Program} {S : Ids} {h : Heap} {Q : Nat → List Value → Heap → Prop}

/-! ### Arrays in objects -/
/-! ### Bytes with marks behind them -/
/-! ### A text and the document's text -/
structure PairR (S : Ids) (n : Nat) (h : Heap) (T : TX) (R : RX) : Prop where
  t : TextR S n h T
  r : RefT n h R
  enc : R.enc = T.enc
  limit : R.limit = T.limit
  E : R.E = els T.enc T.cur.ps
  sm : (bytesL T.cur.ps).length ≤ T.limit
  far : ∀ i, T.Z i → ¬ R.Z i
def PairO (S : Ids) (n : Nat) (h : Heap) : Option TX → Option RX → Prop
  | none, none => True
  | some T, some R => PairR S n h T R
  | _, _ => False
def pZ (t : Option TX) (r : Option RX) (i : Nat) : Prop := (∃ T, t = some T ∧ T.Z i) ∨ ∃ R, r = some R ∧ R.Z i
theorem PairO.chg {n : Nat} {F : Nat → Prop} {h' : Heap} {t : Option TX} {r : Option RX} (o : PairO S n h t r) (c : Chg F h h') (hF : ∀ i, pZ t r i → ¬ F i) : PairO S n h' t r := by
  cases t with
  | none => cases r with
    | none => trivial
    | some R => exact o
  | some T => cases r with
    | none => exact o
    | some R => exact ⟨o.t.chg c fun i hi => hF i (.inl ⟨T, rfl, hi⟩), o.r.chg c fun i hi => hF i (.inr ⟨R, rfl, hi⟩), o.enc, o.limit, o.E, o.sm, o.far⟩
theorem PairO.ext {n : Nat} {h' : Heap} {t : Option TX} {r : Option RX} (o : PairO S n h t r) (e : Ext h h') : PairO S n h' t r := o.chg (Chg.of_ext (F := fun _ => False) e) fun _ _ f => f
theorem PairO.in {n i : Nat} {t : Option TX} {r : Option RX} (o : PairO S n h t r) (hi : pZ t r i) : n ≤ i ∧ i < h.size := by
  cases t with
  | none => cases r with
    | none => rcases hi with ⟨T, hT, _⟩ | ⟨R, hR, _⟩
              · cases hT
              · cases hR
    | some R => exact o.elim
  | some T => cases r with
    | none => exact o.elim
    | some R =>
      rcases hi with ⟨T', hT, hz⟩ | ⟨R', hR, hz⟩
      · cases hT; exact o.t.lo i hz
      · cases hR; exact o.r.lo i hz
theorem TextR.mono {m n : Nat} {T : TX} (t : TextR S n h T) (hm : m ≤ n) : TextR S m h T :=
  ⟨t.enc, t.lim, t.ob.mono hm, t.ad.mono hm, t.adp, t.adk, t.cur, t.kept, t.zp, t.za, fun i hi => ⟨Nat.le_trans hm (t.lo i hi).1, (t.lo i hi).2⟩⟩
end Go.Sw.Piece

set_option linter.unusedVariables false
set_option linter.unusedSimpArgs false
set_option maxRecDepth 100000
namespace Go.Sw.Piece
open Go.Sw.Any Go.Sw.Codec
open Go.Sw.Tree (iv s_putAll s_newP s_getP s_getT s_putP eqI_self Placed cell_own cell_upd1 wp_whileG minI_eq)
variable {P : Program} {S : Ids} {h : Heap} {Q : Nat → List Value → Heap → Prop}

theorem PairR.few {n : Nat} {T : TX} {R : RX} (pr : PairR S n h T R) : R.E.length ≤ 65536 := by
  have h1 := (toksL_le (enc := T.enc) pr.t.cur.bytes).1
  have h2 := pr.sm; have h3 := pr.t.lim.2
  rw [pr.E, els_len]; omega
end Go.Sw.Piece

set_option linter.unusedVariables false
set_option linter.unusedSimpArgs false
set_option maxRecDepth 100000
namespace Go.Sw.Piece
open Go.Sw.Any Go.Sw.Codec
open Go.Sw.Tree (iv s_putAll s_newP s_getP s_getT s_putP eqI_self Placed cell_own cell_upd1 wp_whileG minI_eq)
variable {P : Program} {S : Ids} {h : Heap} {Q : Nat → List Value → Heap → Prop}

/-! ### Where breaks end -/
def isE (A : List Int) (i : Nat) : Bool := decide (A.getD i 0 = 10 ∨ (A.getD i 0 = 13 ∧ A.getD (i + 1) 0 ≠ 10))
/-- How many breaks end among the first n atoms. -/
def cntE (A : List Int) : Nat → Nat
  | 0 => 0
  | n + 1 => cntE A n + if isE A n = true then 1 else 0
theorem cntE_succ (A : List Int) (n : Nat) : cntE A (n + 1) = cntE A n + if isE A n = true then 1 else 0 := rfl
def seam (A : List Int) (n : Nat) : Nat := if 1 ≤ n ∧ A.getD (n - 1) 0 = 13 ∧ A.getD n 0 = 10 then 1 else 0
theorem cntE_mono (A : List Int) {m n : Nat} (h : m ≤ n) : cntE A m ≤ cntE A n := by
  induction n with
  | zero => rw [show m = 0 by omega]; exact Nat.le_refl _
  | succ n ih =>
    by_cases e : m = n + 1
    · rw [e]; exact Nat.le_refl _
    · have := ih (by omega); rw [cntE_succ]; omega
theorem getD_end {A : List Int} {i : Nat} (h : A.length ≤ i) : A.getD i 0 = 0 := by rw [List.getD_eq_getElem?_getD, List.getElem?_eq_none h]; rfl
theorem cntE_le (A : List Int) (n : Nat) : cntE A n ≤ n := by
  induction n with
  | zero => exact Nat.le_refl _
  | succ n ih => rw [cntE_succ]; split <;> omega
theorem seam_end (A : List Int) : seam A A.length = 0 := by unfold seam; rw [getD_end (Nat.le_refl _), if_neg (by omega)]
/-- The breaks of the first n, were they all. -/
abbrev rawE (A : List Int) (n : Nat) : Nat := cntE A n + seam A n
theorem rawE_succ (A : List Int) (n : Nat) : rawE A (n + 1) = cntE A n + if A.getD n 0 = 10 ∨ A.getD n 0 = 13 then 1 else 0 := by
  unfold rawE seam
  rw [cntE_succ, Nat.add_sub_cancel]
  unfold isE
  generalize A.getD n 0 = a
  generalize A.getD (n + 1) 0 = b
  by_cases h1 : a = 10
  · subst h1; simp
  · by_cases h2 : a = 13
    · subst h2
      by_cases h3 : b = 10 <;> simp [h3]
    · simp [h1, h2]
theorem raw_is {ts : List (Int × Int)} : ∀ n, n ≤ ts.length → (sumT (ts.take n)).2.2.1 = rawE (ts.map (·.1)) n ∧ (sumT (ts.take n)).2.2.2.2.1 = decide (1 ≤ n ∧ (ts.map (·.1)).getD (n - 1) 0 = 13) ∧ (sumT (ts.take n)).1 = n
  | 0, _ => ⟨rfl, by simp; rfl, rfl⟩
  | n + 1, hn => by
    obtain ⟨i1, i2, i3⟩ := raw_is (ts := ts) n (by omega)
    obtain ⟨t, ht⟩ : ∃ t, ts[n]? = some t := ⟨ts[n]'(by omega), List.getElem?_eq_getElem (by omega)⟩
    have htk : ts.take (n + 1) = ts.take n ++ [t] := by rw [List.take_add_one, ht]; rfl
    have ha : (ts.map (·.1)).getD n 0 = t.1 := by rw [List.getD_eq_getElem?_getD, List.getElem?_map, ht]; rfl
    rw [htk, sumT_snoc, rawE_succ, ha]
    generalize sumT (ts.take n) = s at i1 i2 i3
    unfold addS
    by_cases h0 : n = 0
    · subst h0
      have i3 : s.1 = 0 := i3
      rw [if_pos i3]
      refine ⟨?_, ?_, rfl⟩
      · show (if t.1 = 10 ∨ t.1 = 13 then (1 : Int) else 0) = _
        by_cases h : t.1 = 10 ∨ t.1 = 13
        · rw [if_pos h, if_pos h]; rfl
        · rw [if_neg h, if_neg h]; rfl
      · show decide (t.1 = 13) = _
        rw [Nat.add_sub_cancel, ha]; simp
    · rw [if_neg (by omega), if_neg (show (oneS t).1 ≠ 0 by show (1 : Int) ≠ 0; decide)]
      refine ⟨?_, ?_, by show s.1 + 1 = _; omega⟩
      · show s.2.2.1 + (if t.1 = 10 ∨ t.1 = 13 then (1 : Int) else 0) - brk s (oneS t) = _
        have hbr : brk s (oneS t) = (seam (ts.map (·.1)) n : Int) := by
          unfold brk seam
          rw [i2, ha]
          show (if decide (1 ≤ n ∧ (ts.map (·.1)).getD (n - 1) 0 = 13) = true ∧ decide (t.1 = 10) = true then (1 : Int) else 0) = _
          by_cases h : 1 ≤ n ∧ (ts.map (·.1)).getD (n - 1) 0 = 13 ∧ t.1 = 10
          · rw [if_pos h, if_pos ⟨decide_eq_true ⟨h.1, h.2.1⟩, decide_eq_true h.2.2⟩]; rfl
          · rw [if_neg h, if_neg (fun k => h ⟨(of_decide_eq_true k.1).1, (of_decide_eq_true k.1).2, of_decide_eq_true k.2⟩)]; rfl
        rw [hbr, i1]
        unfold rawE
        by_cases h : t.1 = 10 ∨ t.1 = 13
        · rw [if_pos h, if_pos h]; omega
        · rw [if_neg h, if_neg h]; omega
      · show decide (t.1 = 13) = _
        rw [Nat.add_sub_cancel, ha]; simp
/-- The place behind the k-th break. -/
def SeekP (A : List Int) (k : Int) (y : Int) : Prop := ∃ m : Nat, y = m ∧ 1 ≤ m ∧ m ≤ A.length ∧ (cntE A m : Int) = k ∧ (cntE A (m - 1) : Int) + 1 = k
theorem SeekP.fn {A : List Int} {k y y' : Int} (h : SeekP A k y) (h' : SeekP A k y') : y = y' := by
  obtain ⟨m, rfl, a, b, c, d⟩ := h
  obtain ⟨m', rfl, a', b', c', d'⟩ := h'
  by_cases h1 : m < m'
  · have := cntE_mono A (m := m) (n := m' - 1) (by omega); omega
  · by_cases h2 : m' < m
    · have := cntE_mono A (m := m') (n := m - 1) (by omega); omega
    · omega
theorem seek_fin {A : List Int} {k : Int} {n : Nat} (h1 : 1 ≤ n) (hn : n ≤ A.length) (hk : k ≤ rawE A n) (hlt : (rawE A (n - 1) : Int) < k) : SeekP A k (if A.getD (n - 1) 0 = 13 ∧ A.getD n 0 = 10 then (n : Int) + 1 else n) := by
  obtain ⟨q, rfl⟩ : ∃ q, n = q + 1 := ⟨n - 1, by omega⟩
  rw [rawE_succ] at hk
  rw [Nat.add_sub_cancel] at hlt ⊢
  unfold rawE at hlt
  have hin : A.getD q 0 = 10 ∨ A.getD q 0 = 13 := by
    by_cases h : A.getD q 0 = 10 ∨ A.getD q 0 = 13
    · exact h
    · rw [if_neg h] at hk; omega
  rw [if_pos hin] at hk
  have hq : (cntE A q : Int) + 1 = k := by omega
  by_cases hs : A.getD q 0 = 13 ∧ A.getD (q + 1) 0 = 10
  · rw [if_pos hs]
    have he : isE A q = false := decide_eq_false fun h => by rcases h with h | h <;> omega
    have he2 : isE A (q + 1) = true := decide_eq_true (.inl hs.2)
    have c1 : cntE A (q + 1) = cntE A q := by rw [cntE_succ, he]; simp
    have c2 : cntE A (q + 2) = cntE A (q + 1) + 1 := by rw [cntE_succ, he2]; simp
    have hl : q + 2 ≤ A.length := by
      by_cases h : q + 1 < A.length
      · omega
      · have := hs.2; rw [getD_end (by omega)] at this; omega
    exact ⟨q + 2, by omega, by omega, hl, by omega, by show (cntE A (q + 1) : Int) + 1 = k; omega⟩
  · rw [if_neg hs]
    have he : isE A q = true := by
      unfold isE
      rw [decide_eq_true_iff]
      rcases hin with h | h
      · exact .inl h
      · exact .inr ⟨h, fun h2 => hs ⟨h, h2⟩⟩
    have c1 : cntE A (q + 1) = cntE A q + 1 := by rw [cntE_succ, he]; simp
    exact ⟨q + 1, by omega, by omega, hn, by omega, by rw [Nat.add_sub_cancel]; exact hq⟩

/-! ### The text's -/
theorem cut_one (E : List El) (n : Nat) (hE : E.length ≤ 1099511627776) : (cutL E (n : Int) ((n : Int) + 1)).map (fun x : El => x.1) = ((E.map (·.1)).drop n).take 1 := by
  unfold cutL
  rw [show (max (n : Int) 0).toNat = n by omega]
  by_cases h : n < E.length
  · rw [show (min ((n : Int) + 1) (E.length : Int)).toNat = n + 1 by omega, List.drop_take, Nat.add_sub_cancel_left, List.map_take, List.map_drop]
  · rw [List.drop_eq_nil_of_le (by rw [List.length_take]; omega), List.drop_eq_nil_of_le (by rw [List.length_map]; omega)]; rfl
theorem els_atoms (enc : Int) (ps : List Pc) : (els enc ps).map (fun x : El => x.1) = (toksL enc ps).map (·.1) := els_fst enc ps

theorem c_Breaks (M : Meth0 P S) (C : Cl P S) {n : Nat} {T : TX} {at_ : Int} (t : TextR S n h T) (hat : fitsI .i64 at_) :
    Gives P (F_Text_Breaks S (some T.p) at_) [.one (.int .i64)] h fun (y : Int × Unit) _ => y.1 = cntE ((els T.enc T.cur.ps).map (·.1)) (min (max at_ 0) (els T.enc T.cur.ps).length).toNat := by
  unfold F_Text_Breaks Gives
  have hf := t.cur.few t.lim.2
  have hEl := els_len T.enc T.cur.ps
  have hat := fits_i64.1 hat
  rw [els_atoms]
  have ri := fun n (hn : n ≤ (toksL T.enc T.cur.ps).length) => raw_is (ts := toksL T.enc T.cur.ps) n hn
  generalize hA : (toksL T.enc T.cur.ps).map (fun x : Int × Int => x.1) = A at ri ⊢
  have hAl : A.length = (els T.enc T.cur.ps).length := by rw [← hA, List.length_map, hEl]
  refine wp_ifB (fun hc => ?_) fun hc => ?_
  · rw [leI_iff] at hc
    refine s_ret ⟨rfl, Ext.refl _, (0, ()), rfl, ?_⟩
    show (0 : Int) = _
    rw [show (min (max at_ 0) (els T.enc T.cur.ps).length).toNat = 0 by omega]; rfl
  rw [leI_not] at hc
  refine wp_call (c_Len t) fun ⟨(L : Int), _⟩ h1 e1 hL => ?_
  have hL : L = (els T.enc T.cur.ps).length := hL
  subst hL
  have t1 := t.ext e1
  refine wp_ifB (fun hd => ?_) fun hd => ?_
  · rw [geI_iff] at hd
    dsimp only at hd
    refine s_root t1 (wp_call (c_TSum t1) fun x h2 e2 hx => s_ret ⟨rfl, e1.trans e2, (_, ()), rfl, ?_⟩)
    have hx : x.1 = _ := hx
    show x.1.2.2.1 = _
    rw [hx, show (min (max at_ 0) (els T.enc T.cur.ps).length).toNat = A.length by omega]
    have := (ri (toksL T.enc T.cur.ps).length (Nat.le_refl _)).1
    rw [List.take_length, ← hEl, ← hAl] at this
    rw [this]
    unfold rawE
    rw [seam_end]; rfl
  rw [geI_not] at hd
  dsimp only at hd
  refine wp_call (c_ahead M t1 (by omega) (by rw [← hEl]; omega)) fun ⟨(s : Sums), _⟩ h2 e2 hs => ?_
  have hs : s = sumT ((toksL T.enc T.cur.ps).take at_.toNat) := hs
  obtain ⟨r1, r2, r3⟩ := ri at_.toNat (by omega)
  rw [← hs] at r1 r2 r3
  refine s_putO (bs := SB) (z := zS) s (by decide) (flatS _) fun h3 e3 o3 => ?_
  have t3 := (t1.ext e2).ext e3
  refine bind_bool (A.getD (at_.toNat - 1) 0 = 13 ∧ A.getD at_.toNat 0 = 10) ?_ fun bb h4 e4 hb4 => ?_
  · refine wp_load1 (b := .bool) _ s.2.2.2.2.1 rfl (cells_iff.1 o3.cells 4 _ rfl) (wp_ifB (fun hx => ?_) fun hx => ?_)
    · rw [r2] at hx
      have hx := of_decide_eq_true hx
      have hadd : addI .i64 at_ 1 = at_ + 1 := add_ok (by omega) (by omega)
      rw [hadd]
      refine wp_call (c_Atoms M C (from_ := at_) t3 (fits_i64.2 (by omega))) fun ⟨(sa : Sl), _⟩ h4 e4 oa => ?_
      have oa : OwnL h3.size .i64 h4 sa ((cutL (els T.enc T.cur.ps) at_ (at_ + 1)).map (·.1)) := oa
      have hcut := cut_one (els T.enc T.cur.ps) at_.toNat (by omega)
      rw [show ((at_.toNat : Nat) : Int) = at_ by omega, els_atoms, hA] at hcut
      rw [hcut] at oa
      have hlt : at_.toNat < A.length := by omega
      have hone : (A.drop at_.toNat).take 1 = [A.getD at_.toNat 0] := by
        rw [List.drop_eq_getElem_cons hlt, List.getD_eq_getElem?_getD, List.getElem?_eq_getElem hlt]; rfl
      rw [hone] at oa
      dsimp only
      refine s_at0 oa.lst (n := 0) (by simp) fun _ => s_ret ⟨rfl, e4, _, rfl, ?_⟩
      show eqI (A.getD at_.toNat 0) 10 = true ↔ _
      rw [eqI_iff]
      exact ⟨fun h => ⟨hx.2, h⟩, fun h => h.2⟩
    · rw [r2] at hx
      have hx := of_decide_eq_false hx
      exact s_ret ⟨rfl, Ext.refl _, false, rfl, Iff.intro (fun h => by cases h) fun h => absurd ⟨by omega, h.1⟩ hx⟩
  have o4 := o3.ext e4
  have e04 := ((e1.trans e2).trans e3).trans e4
  have hmin : (min (max at_ 0) (els T.enc T.cur.ps).length).toNat = at_.toNat := by omega
  rw [hmin]
  have hcl := cntE_le A at_.toNat
  refine wp_ifB (fun hx => ?_) fun hx => ?_
  · have hx := hb4.1 hx
    have hs1 : seam A at_.toNat = 1 := by unfold seam; rw [if_pos ⟨by omega, hx⟩]
    refine wp_load1 (b := .int .i64) _ s.2.2.1 rfl (cells_iff.1 o4.cells 2 _ rfl) ?_
    rw [r1]
    unfold rawE
    rw [hs1, sub_ok (by omega) (by omega)]
    exact s_ret ⟨rfl, e04, (_, ()), rfl, by show (((cntE A at_.toNat + 1 : Nat) : Int) - 1) = _; omega⟩
  · have hx : ¬ (A.getD (at_.toNat - 1) 0 = 13 ∧ A.getD at_.toNat 0 = 10) := fun h => by rw [hb4.2 h] at hx; cases hx
    have hs1 : seam A at_.toNat = 0 := by unfold seam; rw [if_neg fun h => hx h.2]
    refine wp_load1 (b := .int .i64) _ s.2.2.1 rfl (cells_iff.1 o4.cells 2 _ rfl) (s_ret ⟨rfl, e04, (_, ()), rfl, ?_⟩)
    show s.2.2.1 = _
    rw [r1]; unfold rawE; rw [hs1]; rfl

theorem c_Seek (M : Meth0 P S) (C : Cl P S) {n : Nat} {T : TX} {k : Int} (t : TextR S n h T) :
    Gives P (F_Text_Seek S (some T.p) k) [.one (.int .i64)] h fun (y : Int × Unit) _ => (k = 0 → y.1 = 0) ∧ ((k < 0 ∨ (cntE ((els T.enc T.cur.ps).map (·.1)) (els T.enc T.cur.ps).length : Int) < k) → y.1 = -1) ∧ (0 < k → k ≤ cntE ((els T.enc T.cur.ps).map (·.1)) (els T.enc T.cur.ps).length → SeekP ((els T.enc T.cur.ps).map (·.1)) k y.1) := by
  unfold F_Text_Seek Gives
  have hf := t.cur.few t.lim.2
  have hEl := els_len T.enc T.cur.ps
  rw [els_atoms]
  have ri := fun n (hn : n ≤ (toksL T.enc T.cur.ps).length) => raw_is (ts := toksL T.enc T.cur.ps) n hn
  have okt : okT (toksL T.enc T.cur.ps) := okT_toksL t.cur.bytes
  generalize hA : (toksL T.enc T.cur.ps).map (fun x : Int × Int => x.1) = A at ri ⊢
  have hAl : A.length = (toksL T.enc T.cur.ps).length := by rw [← hA, List.length_map]
  have hAE : (els T.enc T.cur.ps).length = A.length := by rw [hEl, hAl]
  rw [hAE]
  have hcnt := cntE_le A A.length
  refine wp_ifB (fun hc => ?_) fun hc => ?_
  · rw [eqI_iff] at hc
    exact s_ret ⟨rfl, Ext.refl _, (0, ()), rfl, fun _ => rfl, fun h => by omega, fun h => by omega⟩
  rw [eqI_not] at hc
  have O := part_ok S T.Z (P := P)
  have hrl : ((sumT (toksL T.enc T.cur.ps)).2.2.1 : Int) = cntE A A.length := by
    have := (ri (toksL T.enc T.cur.ps).length (Nat.le_refl _)).1
    rw [List.take_length, ← hAl] at this
    rw [this]; unfold rawE; rw [seam_end]; rfl
  refine bind_bool (k < 0 ∨ (cntE A A.length : Int) < k) ?_ fun bb h1 e1 hb1 => wp_ifB (fun hx => ?_) fun hx => ?_
  · refine wp_ifB (fun hd => s_ret ⟨rfl, Ext.refl _, true, rfl, Iff.intro (fun _ => .inl (ltI_iff.1 hd)) fun _ => rfl⟩) fun hd => s_root t (wp_call (c_TSum t) fun x h1 e1 hx => s_ret ⟨rfl, e1, _, rfl, ?_⟩)
    rw [ltI_not] at hd
    have hx : x.1 = _ := hx
    rw [gtI_iff, hx, hrl]
    omega
  · have := hb1.1 hx
    exact s_ret ⟨rfl, e1, (-1, ()), rfl, fun h => absurd h hc, fun _ => rfl, fun h h2 => by omega⟩
  have hk : 0 < k ∧ k ≤ (cntE A A.length : Int) := by
    have : ¬ (k < 0 ∨ (cntE A A.length : Int) < k) := fun h => by rw [hb1.2 h] at hx; cases hx
    omega
  have t1 := t.ext e1
  refine s_root t1 (wp_call (R := fun (x : Int × Unit) _ => Any.Found (part S T.Z) T.cur.t.list (Int.ofNat 1) k x.1) (c_Find O t1.cur.nd t1.cur.wf (t1.cur.room t1.lim.2)) fun ⟨(f : Int), _⟩ h2 e2 hx => ?_)
  have t2 := t1.ext e2
  have hlenP : T.cur.t.list.length = T.cur.ps.length := by rw [t.cur.ls, List.length_map]
  have key : ∀ i, keyS (sumPs (T.cur.t.list.take i)) (Int.ofNat 1) = rawE A (toksL T.enc (T.cur.ps.take i)).length := fun i => by
    rw [t.cur.ls, ← List.map_take, sum_ps fun q hq => t.cur.pcs q (List.mem_of_mem_take hq)]
    have hpre : toksL T.enc (T.cur.ps.take i) = (toksL T.enc T.cur.ps).take (toksL T.enc (T.cur.ps.take i)).length := by
      have : toksL T.enc T.cur.ps = toksL T.enc (T.cur.ps.take i) ++ toksL T.enc (T.cur.ps.drop i) := by unfold toksL; rw [← List.flatMap_append, List.take_append_drop]
      rw [this, List.take_left' rfl]
    have h1 := (ri _ (toksL_take_le T.cur.ps i)).1
    rw [← hpre] at h1
    exact h1
  have hx : (f = 0 ∧ k ≤ 0) ∨ (1 ≤ f ∧ f ≤ T.cur.t.list.length ∧ k ≤ keyS (sumPs (T.cur.t.list.take f.toNat)) (Int.ofNat 1) ∧ keyS (sumPs (T.cur.t.list.take (f.toNat - 1))) (Int.ofNat 1) < k) ∨ (f = T.cur.t.list.length + 1 ∧ keyS (sumPs T.cur.t.list) (Int.ofNat 1) < k) := hx
  have kall : keyS (sumPs T.cur.t.list) (Int.ofNat 1) = cntE A A.length := by
    have := key T.cur.ps.length
    rw [List.take_of_length_le (by omega), List.take_of_length_le (Nat.le_refl _), ← hAl] at this
    rw [this]; unfold rawE; rw [seam_end]; rfl
  rw [key, key, kall, hlenP] at hx
  obtain ⟨f1, f2, f3, f4⟩ : 1 ≤ f ∧ f ≤ T.cur.ps.length ∧ k ≤ rawE A (toksL T.enc (T.cur.ps.take f.toNat)).length ∧ (rawE A (toksL T.enc (T.cur.ps.take (f.toNat - 1))).length : Int) < k := by
    rcases hx with h | h | h
    · omega
    · exact h
    · omega
  obtain ⟨i, rfl⟩ : ∃ i : Nat, f = (i : Int) + 1 := ⟨f.toNat - 1, by omega⟩
  rw [show ((i : Int) + 1).toNat = i + 1 by omega] at f3 f4
  rw [Nat.add_sub_cancel] at f4
  have hil : i < T.cur.ps.length := by omega
  obtain ⟨q, hq⟩ : ∃ q, T.cur.ps[i]? = some q := ⟨T.cur.ps[i]'hil, List.getElem?_eq_getElem hil⟩
  have hqm := List.mem_of_getElem? hq
  have hpsl : T.cur.ps.length ≤ 1099511627776 := by
    have h1 := W_len O T.cur.t.list; have h2 := Nat.le_trans h1 hf.2; rw [← hlenP]; exact h2
  have hsub : subI .i64 ((i : Int) + 1) 1 = (i : Int) := by rw [sub_ok (by omega) (by omega)]; omega
  dsimp only
  rw [hsub]
  refine s_root t2 (wp_call (R := fun (x : Sums × Unit) _ => x.1 = sumPs (T.cur.t.list.take ((i : Int)).toNat)) (c_Upto' O t2.cur.nd t2.cur.wf (t2.cur.room t2.lim.2)) fun ⟨(s : Sums), _⟩ h3 e3 hs => ?_)
  have hs : s = sumT (toksL T.enc (T.cur.ps.take i)) := by
    have hs : s = _ := hs
    rw [hs, Int.toNat_natCast, t.cur.ls, ← List.map_take, sum_ps fun q hq => t.cur.pcs q (List.mem_of_mem_take hq)]
  subst hs
  dsimp only
  refine s_putO (bs := SB) (z := zS) (sumT (toksL T.enc (T.cur.ps.take i))) (by decide) (flatS _) fun h4 e4 o4 => ?_
  have t4 := (t2.ext e3).ext e4
  have hx4 : T.cur.t.list[((i : Int)).toNat]? = some q.1 := by rw [Int.toNat_natCast, t.cur.ls, List.getElem?_map, hq]; rfl
  refine s_root t4 (wp_call (R := fun (y : Part × Bool × Unit) _ => y.1 = q.1 ∧ y.2.1 = true) (c_At O t4.cur.nd t4.cur.wf (Nat.le_of_lt (t4.cur.room t4.lim.2)) (by omega) hx4) fun ⟨(y : Part), (ok : Bool), _⟩ h5 e5 ⟨hy, hok⟩ => ?_)
  have hy : y = q.1 := hy
  subst hy
  dsimp only
  refine s_newO (bs := PB) zP (by decide) fun h6 e6 o6 => s_stoO (bs := PB) q.1 o6 (flatP _) fun h7 o7 u7 => ?_
  have e57 : Ext h4 h7 := Upd.extN (e5.trans e6) u7 (by intro x hx; cases hx; have := e5.size; dsimp only; omega)
  have t7 := t4.ext e57
  have q34 : h3.size < h4.size := (o4.lt rfl).2
  have o47 : Own h3.size 1 h7 ⟨some ⟨h3.size, 0, none⟩, 5, 5⟩ (Bs.inj SB (sumT (toksL T.enc (T.cur.ps.take i)))) := o4.ext e57
  have e07 := (((e1.trans e2).trans e3).trans e4).trans e57
  have pc := t7.cur.pcs q hqm
  -- the atoms of that piece, one by one
  generalize hn0 : (toksL T.enc (T.cur.ps.take i)).length = n0 at f4
  have hsucc := toksL_succ (enc := T.enc) hq
  have hn1 : (toksL T.enc (T.cur.ps.take (i + 1))).length = n0 + (toks T.enc q.2).length := by rw [hsucc, List.length_append, hn0]
  rw [hn1] at f3
  have hall : toksL T.enc T.cur.ps = toksL T.enc (T.cur.ps.take i) ++ (toks T.enc q.2 ++ toksL T.enc (T.cur.ps.drop (i + 1))) := by
    rw [← List.append_assoc, ← hsucc]
    unfold toksL; rw [← List.flatMap_append, List.take_append_drop]
  have hle1 : n0 + (toks T.enc q.2).length ≤ (toksL T.enc T.cur.ps).length := by rw [hall, List.length_append, List.length_append, hn0]; omega
  have htk : ∀ j, j ≤ (toks T.enc q.2).length → (toksL T.enc T.cur.ps).take (n0 + j) = toksL T.enc (T.cur.ps.take i) ++ (toks T.enc q.2).take j := fun j hj => by
    rw [hall, List.take_append, List.take_of_length_le (by omega), hn0, Nat.add_sub_cancel_left, List.take_append_of_le_length hj]
  have hby : isBytes q.2 := pc.bytes
  have tl := toks_len (enc := T.enc) hby
  have hof := toks_offs (enc := T.enc) hby
  have hqlen := pc.lst.len
  have hqle := pc.len
  refine wp_whileG (G := Nat) (fun j (r : Int × Unit) h' => j ≤ (toks T.enc q.2).length ∧ r.1 = offs ((toks T.enc q.2).take j) ∧ (1 ≤ j → (rawE A (n0 + j - 1) : Int) < k) ∧ Ext h3 h' ∧ Ext h h' ∧ TextR S n h' T ∧ Own h3.size 1 h' ⟨some ⟨h3.size, 0, none⟩, 5, 5⟩ (Bs.inj SB (sumT ((toksL T.enc T.cur.ps).take (n0 + j)))) ∧ Own h5.size 1 h' ⟨some ⟨h5.size, 0, none⟩, 7, 7⟩ (Bs.inj PB q.1)) (fun j => (toks T.enc q.2).length - j)
    (fun tag vs h' => tag = 3 ∧ vs = [] ∧ ∃ N : Nat, 1 ≤ N ∧ N ≤ (toksL T.enc T.cur.ps).length ∧ k ≤ rawE A N ∧ (rawE A (N - 1) : Int) < k ∧ Ext h h' ∧ TextR S n h' T ∧ Own h3.size 1 h' ⟨some ⟨h3.size, 0, none⟩, 5, 5⟩ (Bs.inj SB (sumT ((toksL T.enc T.cur.ps).take N))))
    0 ⟨Nat.zero_le _, rfl, fun h => by omega, e4.trans e57, e07, t7, by rw [htk 0 (Nat.zero_le _), List.take_zero, List.append_nil]; exact o47, o7⟩ ?_ ?_
  · rintro j ⟨(r : Int), u⟩ h8 ⟨hj, hr, hprev, e8, e08, t8, o8, p8⟩
    dsimp only at hr ⊢
    subst hr
    obtain ⟨rj1, rj2, rj3⟩ := ri (n0 + j) (by omega)
    have hto := toks_at (enc := T.enc) hby j hj
    have hsp : offs (toks T.enc q.2) = offs ((toks T.enc q.2).take j) + offs ((toks T.enc q.2).drop j) := by rw [← offs_append, List.take_append_drop]
    refine bind_bool (offs ((toks T.enc q.2).take j) < q.2.length ∧ (rawE A (n0 + j) : Int) < k) ?_ fun bb h9 e9 hb9 => wp_ifB (fun hx => ?_) fun hx => ?_
    · refine wp_load1 (b := .sl) _ q.1.1 rfl (cells_iff.1 p8.cells 0 _ rfl) (wp_ifB (fun hd => ?_) fun hd => s_ret ⟨rfl, Ext.refl _, false, rfl, Iff.intro (fun h => by cases h) fun h => ?_⟩)
      · rw [ltI_iff, natI_def, hqlen] at hd
        refine wp_load1 (b := .int .i64) _ _ rfl (cells_iff.1 o8.cells 2 _ rfl) (s_ret ⟨rfl, Ext.refl _, _, rfl, ?_⟩)
        rw [ltI_iff, rj1]
        exact ⟨fun h => ⟨by omega, h⟩, fun h => h.2⟩
      · rw [ltI_not, natI_def, hqlen] at hd
        omega
    · obtain ⟨c1, c2⟩ := hb9.1 hx
      have t9 := t8.ext e9
      have o9 := o8.ext e9; have p9 := p8.ext e9
      have hjl : j < (toks T.enc q.2).length := by
        by_cases h : j < (toks T.enc q.2).length
        · exact h
        · rw [List.drop_eq_nil_of_le (by omega), offs_nil] at hsp; omega
      obtain ⟨tt, htt⟩ : ∃ tt, (toks T.enc q.2)[j]? = some tt := ⟨(toks T.enc q.2)[j]'hjl, List.getElem?_eq_getElem hjl⟩
      have hdl : 0 < (q.2.drop (offs ((toks T.enc q.2).take j))).length := by rw [List.length_drop]; omega
      have hft : firstF T.enc (q.2.drop (offs ((toks T.enc q.2).take j))) = tt := by
        have h1 := toks_cons (enc := T.enc) (hby.drop (offs ((toks T.enc q.2).take j))) hdl
        rw [hto.2, List.drop_eq_getElem_cons hjl, (List.getElem?_eq_some_iff.1 htt).2] at h1
        exact (List.cons.inj h1).1.symm
      have hts := toks_size (enc := T.enc) hby tt (List.mem_of_getElem? htt)
      have hoff : offs ((toks T.enc q.2).take (j + 1)) = offs ((toks T.enc q.2).take j) + tt.2.toNat := by rw [List.take_add_one, htt, offs_append]; simp [offs]
      have hsn : (toksL T.enc T.cur.ps).take (n0 + (j + 1)) = (toksL T.enc T.cur.ps).take (n0 + j) ++ [tt] := by
        rw [htk (j + 1) hjl, htk j hj, List.append_assoc]; congr 1
        rw [List.take_add_one, htt]; rfl
      refine s_enc t9 (wp_load1 (b := .sl) _ q.1.1 rfl (cells_iff.1 p9.cells 0 _ rfl) (wp_call (c_Next M (t9.cur.pcs q hqm).lst) fun ⟨(y1 : Int), (y2 : Int), _⟩ h10 e10 hy => ?_))
      have hy : y1 = tt.1 ∧ y2 = tt.2 := by
        rcases hy with ⟨hn, _, _⟩ | ⟨_, _, _, hy⟩
        · rcases hn with h | h | h
          · exact absurd t.enc h
          · omega
          · omega
        · rw [Int.toNat_natCast, hft] at hy
          exact ⟨congrArg Prod.fst hy, congrArg Prod.snd hy⟩
      obtain ⟨rfl, rfl⟩ := hy
      dsimp only
      refine s_getO (bs := SB) (o9.ext e10) (wp_call c_single fun ⟨(o : Sums), _⟩ h11 e11 ho => ?_)
      have ho : o = oneS (tt.1, tt.2) := ho
      subst ho
      dsimp only
      refine s_ckO (bs := SB) ((o9.ext e10).ext e11) (wp_call (c_Add (VS.sumT (okt.take (n0 + j))) (VS.one hts) (by rw [List.length_take]; omega)) fun ⟨(o : Sums), _⟩ h12 e12 ho => ?_)
      have ho : o = _ := ho
      subst ho
      have e812 := ((e9.trans e10).trans e11).trans e12
      refine s_stoO (bs := SB) (addS (sumT ((toksL T.enc T.cur.ps).take (n0 + j))) (oneS (tt.1, tt.2))) (o8.ext e812) (flatS _) fun h13 o13 u13 => ?_
      have c13 : Chg (fun i => i = h3.size) h12 h13 := upd_chg u13
      have e813 : Ext h3 h13 := Upd.extN (e8.trans e812) u13 (by intro z hz; cases hz; exact Nat.le_refl _)
      have q03 : h.size ≤ h3.size := ((e1.trans e2).trans e3).size
      have e013 : Ext h h13 := Upd.extN (e08.trans e812) u13 (by intro z hz; cases hz; exact q03)
      have nz : ∀ i, T.Z i → i < h3.size := fun i hi => by have := (t.lo i hi).2; omega
      have t13 := (t8.ext e812).chg c13 fun i hi (f : i = h3.size) => by have := nz i hi; omega
      have p13 := ob_upd (p8.ext e812) u13 (by have : h3.size < h4.size := q34; have := e5.size; show h3.size ≠ h5.size; omega)
      rw [← sumT_snoc, ← hsn] at o13
      rw [add_ok (by omega) (by omega)]
      exact s_ret ⟨fun _ => ⟨j + 1, (((offs ((toks T.enc q.2).take j) : Nat) : Int) + tt.2, ()), rfl, ⟨hjl, by dsimp only; omega, fun _ => by rw [show n0 + (j + 1) - 1 = n0 + j by omega]; exact c2, e813, e013, t13, o13, p13⟩, by omega⟩, fun hh => absurd rfl hh⟩
    · have hno : ¬ (offs ((toks T.enc q.2).take j) < q.2.length ∧ (rawE A (n0 + j) : Int) < k) := fun h => by rw [hb9.2 h] at hx; cases hx
      have hge : k ≤ rawE A (n0 + j) := by
        by_cases h : (rawE A (n0 + j) : Int) < k
        · have h2 : ¬ offs ((toks T.enc q.2).take j) < q.2.length := fun h3 => hno ⟨h3, h⟩
          have hjl : j = (toks T.enc q.2).length := by
            by_cases h4 : j < (toks T.enc q.2).length
            · obtain ⟨tt, htt⟩ : ∃ tt, (toks T.enc q.2)[j]? = some tt := ⟨(toks T.enc q.2)[j]'h4, List.getElem?_eq_getElem h4⟩
              have hts := toks_size (enc := T.enc) hby tt (List.mem_of_getElem? htt)
              rw [List.drop_eq_getElem_cons h4, (List.getElem?_eq_some_iff.1 htt).2, offs_cons] at hsp
              omega
            · omega
          subst hjl; omega
        · omega
      have hj1 : 1 ≤ j := by
        by_cases h : 1 ≤ j
        · exact h
        · rw [show j = 0 by omega, Nat.add_zero] at hge; omega
      exact s_ret ⟨fun hh => absurd hh (by decide), fun _ => ⟨rfl, rfl, n0 + j, by omega, by omega, hge, hprev hj1, e08.trans e9, t8.ext e9, o8.ext e9⟩⟩
  · rintro tag vs h8 ⟨rfl, rfl, N, hN1, hN2, hN3, hN4, e08, t8, o8⟩
    obtain ⟨r1, r2, r3⟩ := ri N hN2
    have hfin := seek_fin hN1 (by omega) hN3 hN4
    refine s_tag (s_cast0 (wp_load1 (b := .int .i64) _ _ rfl (cells_iff.1 o8.cells 0 _ rfl) (wp_load1 (b := .int .i64) _ _ rfl (cells_iff.1 o8.cells 0 _ rfl) ?_)))
    rw [r3, add_ok (by omega) (by omega)]
    refine wp_call (c_Atoms M C (from_ := (N : Int)) t8 (fits_i64.2 (by omega))) fun ⟨(sa : Sl), _⟩ h9 e9 oa => ?_
    have oa : OwnL h8.size .i64 h9 sa ((cutL (els T.enc T.cur.ps) N ((N : Int) + 1)).map (·.1)) := oa
    have hcut := cut_one (els T.enc T.cur.ps) N (by omega)
    rw [els_atoms, hA] at hcut
    rw [hcut] at oa
    have hsl := oa.len
    rw [List.length_take, List.length_drop] at hsl
    have o9 := o8.ext e9
    refine bind_bool (A.getD (N - 1) 0 = 13 ∧ A.getD N 0 = 10) ?_ fun bb h10 e10 hb10 => ?_
    · refine wp_load1 (b := .bool) _ _ rfl (cells_iff.1 o9.cells 4 _ rfl) (wp_ifB (fun hx => ?_) fun hx => ?_)
      · rw [r2] at hx
        have hx := of_decide_eq_true hx
        refine wp_ifB (fun hy => ?_) fun hy => s_ret ⟨rfl, Ext.refl _, false, rfl, Iff.intro (fun h => by cases h) fun h => ?_⟩
        · rw [eqI_iff, natI_def] at hy
          dsimp only at hy
          have hlt : N < A.length := by omega
          have hone : (A.drop N).take 1 = [A.getD N 0] := by
            rw [List.drop_eq_getElem_cons hlt, List.getD_eq_getElem?_getD, List.getElem?_eq_getElem hlt]; rfl
          rw [hone] at oa
          refine s_at0 oa.lst (n := 0) (by simp) fun _ => s_ret ⟨rfl, Ext.refl _, _, rfl, ?_⟩
          show eqI (A.getD N 0) 10 = true ↔ _
          rw [eqI_iff]
          exact ⟨fun h => ⟨hx.2, h⟩, fun h => h.2⟩
        · rw [eqI_not, natI_def] at hy
          dsimp only at hy
          have := h.2
          rw [getD_end (by omega)] at this
          omega
      · rw [r2] at hx
        have hx := of_decide_eq_false hx
        exact s_ret ⟨rfl, Ext.refl _, false, rfl, Iff.intro (fun h => by cases h) fun h => absurd ⟨by omega, h.1⟩ hx⟩
    have o10 := o9.ext e10
    refine wp_ifB (fun hx => ?_) fun hx => ?_
    · rw [if_pos (hb10.1 hx)] at hfin
      refine wp_load1 (b := .int .i64) _ _ rfl (cells_iff.1 o10.cells 0 _ rfl) ?_
      rw [r3, add_ok (by omega) (by omega)]
      exact s_ret ⟨rfl, (e08.trans e9).trans e10, ((N : Int) + 1, ()), rfl, fun h => absurd h hc, fun h => by omega, fun _ _ => hfin⟩
    · rw [if_neg (fun h => by rw [hb10.2 h] at hx; cases hx)] at hfin
      refine wp_load1 (b := .int .i64) _ _ rfl (cells_iff.1 o10.cells 0 _ rfl) ?_
      rw [r3]
      exact s_ret ⟨rfl, (e08.trans e9).trans e10, ((N : Int), ()), rfl, fun h => absurd h hc, fun h => by omega, fun _ _ => hfin⟩
end Go.Sw.Piece

set_option linter.unusedVariables false
set_option linter.unusedSimpArgs false
set_option maxRecDepth 100000
namespace Go.Sw.Piece
open Go.Sw.Any Go.Sw.Codec
open Go.Sw.Tree (iv s_putAll s_newP s_getP s_getT s_putP eqI_self Placed cell_own cell_upd1 wp_whileG minI_eq)
variable {P : Program} {S : Ids} {h : Heap} {Q : Nat → List Value → Heap → Prop}

/-- The places behind breaks, rising. -/
def endsUp (A : List Int) : Nat → List Int
  | 0 => []
  | n + 1 => endsUp A n ++ if isE A n = true then [((n + 1 : Nat) : Int)] else []
theorem ends_succ (A : List Int) (n : Nat) : endsUp A (n + 1) = endsUp A n ++ if isE A n = true then [((n + 1 : Nat) : Int)] else [] := rfl
theorem ends_len (A : List Int) (n : Nat) : (endsUp A n).length = cntE A n := by
  induction n with
  | zero => rfl
  | succ n ih => rw [ends_succ, cntE_succ, List.length_append, ih]; split <;> rfl
theorem ends_get {A : List Int} {m : Nat} (he : isE A m = true) : ∀ {n : Nat}, m < n → (endsUp A n)[cntE A m]? = some ((m + 1 : Nat) : Int)
  | n + 1, hn => by
    rw [ends_succ]
    by_cases h : m = n
    · subst h
      rw [he, if_pos rfl, List.getElem?_append_right (by rw [ends_len]; exact Nat.le_refl _), ends_len, Nat.sub_self]; rfl
    · have ih := ends_get he (n := n) (by omega)
      rw [List.getElem?_append_left (List.getElem?_eq_some_iff.1 ih).1]; exact ih
theorem ends_at {A : List Int} : ∀ {n j : Nat}, j < cntE A n → ∃ p : Nat, (endsUp A n)[j]? = some (p : Int) ∧ 1 ≤ p ∧ p ≤ n ∧ cntE A p = j + 1 ∧ cntE A (p - 1) = j
  | 0, j, hj => by simp [cntE] at hj
  | n + 1, j, hj => by
    rw [ends_succ]
    by_cases h : j < cntE A n
    · obtain ⟨p, h1, h2, h3, h4, h5⟩ := ends_at (A := A) h
      exact ⟨p, by rw [List.getElem?_append_left (List.getElem?_eq_some_iff.1 h1).1]; exact h1, h2, by omega, h4, h5⟩
    · rw [cntE_succ] at hj
      by_cases he : isE A n = true
      · rw [if_pos he] at hj
        have hjn : j = cntE A n := by omega
        refine ⟨n + 1, ?_, by omega, Nat.le_refl _, by rw [cntE_succ, if_pos he]; omega, by rw [Nat.add_sub_cancel]; omega⟩
        rw [if_pos he, List.getElem?_append_right (by rw [ends_len]; omega), ends_len, hjn, Nat.sub_self]; rfl
      · rw [if_neg he] at hj; omega
abbrev endsDn (A : List Int) : List Int := (endsUp A A.length).reverse
theorem dn_len (A : List Int) : (endsDn A).length = cntE A A.length := by rw [List.length_reverse, ends_len]
theorem dn_at {A : List Int} {k : Nat} (h1 : 1 ≤ k) (h2 : k ≤ cntE A A.length) : SeekP A k ((endsDn A).getD (cntE A A.length - k) 0) := by
  obtain ⟨p, g1, g2, g3, g4, g5⟩ := ends_at (A := A) (n := A.length) (j := k - 1) (by omega)
  have : (endsDn A)[cntE A A.length - k]? = some (p : Int) := by
    rw [List.getElem?_reverse (by rw [ends_len]; omega), ends_len, show cntE A A.length - 1 - (cntE A A.length - k) = k - 1 by omega]; exact g1
  rw [List.getD_eq_getElem?_getD, this]
  exact ⟨p, rfl, g2, g3, by omega, by omega⟩

theorem c_ends {s : Sl} {A : List Int} (ha : Lst .i64 h s A) (hl : A.length ≤ 1073741824) : Gives P (F_law5_ends S s) [.one .sl] h fun (y : Sl × Unit) h' => OwnL h.size .i64 h' y.1 (endsDn A) := by
  unfold F_law5_ends Gives
  have hla := ha.len
  have hsub : subI .i64 (natI s.len) 1 = ((A.length : Nat) : Int) - 1 := by rw [natI_def, hla, sub_ok (by omega) (by omega)]
  rw [hsub]
  refine wp_while (fun (r : Sl × Int × Unit) h' => ∃ m : Nat, m ≤ A.length ∧ r.2.1 = (m : Int) - 1 ∧ Ext h h' ∧ OwnL h.size .i64 h' r.1 ((endsUp A A.length).drop (cntE A m)).reverse) (fun r _ => (r.2.1 + 1).toNat)
    (fun tag vs h' => tag = 2 ∧ ∃ r : Sl, vs = [slv r] ∧ Ext h h' ∧ OwnL h.size .i64 h' r (endsDn A)) ⟨A.length, Nat.le_refl _, rfl, Ext.refl _, by rw [← ends_len, List.drop_length]; exact OwnL.nil _ _ _⟩ ?_ ?_
  · rintro ⟨(r : Sl), (i : Int), u⟩ h1 ⟨m, hm, hi, e1, o1⟩
    dsimp only at hi o1 ⊢
    subst hi
    refine wp_ifB (fun hc => ?_) fun hc => ?_
    · rw [geI_iff] at hc
      obtain ⟨q, rfl⟩ : ∃ q, m = q + 1 := ⟨m - 1, by omega⟩
      have hq : ((q + 1 : Nat) : Int) - 1 = (q : Int) := by omega
      rw [hq]
      have ha1 := ha.ext e1
      have hqn : ((q : Int)).toNat = q := Int.toNat_natCast q
      refine wp_bind (fun tag vs h' => tag = 0 ∧ ∃ r' : Sl, vs = [slv r'] ∧ Ext h h' ∧ OwnL h.size .i64 h' r' ((endsUp A A.length).drop (cntE A q)).reverse) ?_ ?_
      · refine bind_bool (isE A q = true) ?_ fun bb h2 e2 hb2 => wp_ifB (fun hx => ?_) fun hx => ?_
        · have hie : isE A q = true ↔ (A.getD q 0 = 10 ∨ (A.getD q 0 = 13 ∧ A.getD (q + 1) 0 ≠ 10)) := decide_eq_true_iff
          rw [hie]
          refine s_at ha1 (by omega) (by omega) fun _ => ?_
          rw [hqn]
          refine wp_ifB (fun hx => s_ret ⟨rfl, Ext.refl _, true, rfl, Iff.intro (fun _ => .inl (eqI_iff.1 hx)) fun _ => rfl⟩) fun hx => s_at ha1 (by omega) (by omega) fun _ => ?_
          rw [eqI_not] at hx
          rw [hqn]
          refine wp_ifB (fun hy => ?_) fun hy => s_ret ⟨rfl, Ext.refl _, false, rfl, Iff.intro (fun h => by cases h) fun h => ?_⟩
          · rw [eqI_iff] at hy
            have hadd : addI .i64 (q : Int) 1 = ((q + 1 : Nat) : Int) := by rw [add_ok (by omega) (by omega)]; rfl
            rw [hadd]
            refine wp_ifB (fun hz => ?_) fun hz => s_ret ⟨rfl, Ext.refl _, true, rfl, Iff.intro (fun _ => .inr ⟨hy, ?_⟩) fun _ => rfl⟩
            · rw [ltI_iff, natI_def, hla] at hz
              refine s_at ha1 (by omega) (by omega) fun _ => s_ret ⟨rfl, Ext.refl _, _, rfl, ?_⟩
              rw [notB_iff, eqI_not, Int.toNat_natCast]
              exact ⟨fun h => .inr ⟨hy, h⟩, fun h => h.elim (fun h => absurd h hx) fun h => h.2⟩
            · rw [ltI_not, natI_def, hla] at hz
              rw [getD_end (by omega)]; decide
          · rw [eqI_not] at hy
            rcases h with h | h
            · exact absurd h hx
            · exact absurd h.1 hy
        · have hx := hb2.1 hx
          have hge := ends_get hx (n := A.length) (by omega)
          have hlt := (List.getElem?_eq_some_iff.1 hge).1
          have hdr : (endsUp A A.length).drop (cntE A q) = ((q + 1 : Nat) : Int) :: (endsUp A A.length).drop (cntE A (q + 1)) := by
            rw [List.drop_eq_getElem_cons hlt, (List.getElem?_eq_some_iff.1 hge).2, cntE_succ, if_pos hx]
          rw [hdr, List.reverse_cons]
          have hadd : addI .i64 (q : Int) 1 = ((q + 1 : Nat) : Int) := by rw [add_ok (by omega) (by omega)]; rfl
          rw [hadd]
          refine s_allocL (k := .i64) [((q + 1 : Nat) : Int)] (by intro z hz; rw [List.mem_singleton.1 hz]; exact fits_i64.2 (by omega)) (by simp) fun h3 e3 o3 => ?_
          have e13 := e2.trans e3
          have hle : ((endsUp A A.length).drop (cntE A (q + 1))).reverse.length ≤ 1073741824 := by rw [List.length_reverse, List.length_drop, ends_len]; have := cntE_le A A.length; omega
          refine s_append (o1.ext e13) (by have := (e1.trans e13).size; omega) o3.lst (by rw [List.length_singleton]; omega) (by rw [List.length_singleton]; omega) fun r' h4 k4 o4 _ _ => s_ret ⟨rfl, r', rfl, Keep.trans (e1.trans e13) k4, o4⟩
        · have hx : ¬ isE A q = true := fun h => by rw [hb2.2 h] at hx; cases hx
          rw [cntE_succ, if_neg hx, Nat.add_zero] at o1
          exact s_ret ⟨rfl, r, rfl, e1.trans e2, o1.ext e2⟩
      · rintro tag vs h2 ⟨rfl, r', rfl, e2, o2⟩
        refine s_tag (wp_cast (tys := [.one .sl]) (r', ()) rfl ?_)
        rw [sub_ok (by omega) (by omega)]
        exact s_ret ⟨fun _ => ⟨(r', (q : Int) - 1, ()), rfl, ⟨q, by omega, rfl, e2, o2⟩, by dsimp only; omega⟩, fun hh => absurd rfl hh⟩
    · rw [geI_not] at hc
      have : m = 0 := by omega
      subst this
      exact s_ret ⟨fun hh => absurd hh (by decide), fun _ => ⟨rfl, r, rfl, e1, o1⟩⟩
  · rintro tag vs h1 ⟨rfl, r, rfl, e1, o1⟩
    exact s_tag (wp_cast (tys := [.one .sl]) (r, ()) rfl (s_ret ⟨rfl, e1, (r, ()), rfl, o1⟩))

theorem s_ckAt {k : IntKind} {s : Sl} {l : List Int} {i : Nat} {v : Int} {K : Prog} (hr : Lst k h s l) (hi : i < l.length) (hv : v = l.getD i 0) (hk : wp P K h Q) : wp P (.check (shiftTo s.base (mulN (toN (i : Int)) 1)) [.int k v] K) h Q := by
  obtain ⟨b, eb, cb⟩ := hr.rd.at hi
  subst hv
  rw [eb, shiftTo_some, mulN_def, toN_def, Int.toNat_natCast, Nat.mul_one]
  exact ⟨⟨b.add i, rfl, cells_iff.2 fun j v hj => by
    match j, hj with
    | 0, hj => simp at hj; subst hj; rw [add_zero']; exact cb
    | j + 1, hj => simp at hj⟩, hk⟩

theorem c_PieceSeam (M : Meth0 P S) (C : Cl P S) {enc : Int} {sl sp : Sl} {l ps : List Int} {x : Edss} (hl : Lst .u8 h sl l) (hx : EdssSh.ok h x) (wx : EdssSh.wt x ≤ 1048576) (hp : Lst .i64 h sp ps) :
    Gives P (F_law5_PieceSeam S enc sl x.1 sp) [.one .bool] h fun (y : Bool × Unit) _ => y.1 = true := by
  unfold F_law5_PieceSeam Gives
  obtain ⟨w1, w2, w3⟩ := edss_wt wx
  have hlp := hp.len
  have hpb := hp.bound
  refine wp_call (c_able M) fun ⟨(ab : Bool), _⟩ h1 e1 hab => ?_
  have hab : ab = true := hab
  subst hab
  refine s_ifF (wp_call (c_known5 (hl.ext e1)) fun ⟨(kn : Bool), _⟩ h2 e2 hkn => ?_)
  have hkn : kn = true ↔ known enc ∧ l.length ≤ 65536 := hkn
  dsimp only
  refine wp_ifB (fun hc => s_ret ⟨rfl, e1.trans e2, (true, ()), rfl, rfl⟩) fun hc => ?_
  rw [notB_not] at hc
  obtain ⟨he, hll⟩ := hkn.1 hc
  have e02 := e1.trans e2
  refine wp_call (c_opened M he (hl.ext e02) hll) fun ⟨(p : Option Addr), _⟩ h3 e3 ⟨T0, hpT, O⟩ => ?_
  have hpT : p = some T0.p := hpT
  subst hpT
  have e03 := e02.trans e3
  have t3 := O.low (h0 := h) e02.size
  refine bind_bool False ?_ fun bb h4 e4 hb4 => wp_ifB (fun hx => (hb4.1 hx).elim) fun _ => ?_
  · refine s_ifF (wp_call (c_Bytes C t3) fun ⟨(sb : Sl), _⟩ h4 e4 ob => ?_)
    have ob : OwnL h3.size .u8 h4 sb (bytesL T0.cur.ps) := ob
    refine wp_call (c_same5B ob.lst (hl.ext (e03.trans e4))) fun ⟨(bb : Bool), _⟩ h5 e5 hb5 => s_ret ⟨rfl, e4.trans e5, _, rfl, ?_⟩
    have hb5 : bb = decide (bytesL T0.cur.ps = l) := hb5
    rw [O.bytes, decide_eq_true rfl] at hb5
    rw [hb5]
    exact Iff.intro (fun h => by cases h) False.elim
  have e04 := e03.trans e4
  have t4 := t3.ext e4
  have z0 : ∀ i, T0.Z i → h.size ≤ i := fun i hi => (t4.lo i hi).1
  refine wp_whileG (G := Nat × TX) (fun g (r : Int × Unit) h' => r.1 = g.1 ∧ g.1 ≤ x.2.length + 1 ∧ On S h.size T0 h4 (4 * ((x.2.take g.1).map fun y : Eds => (putsOf y.2).length).sum) h' g.2) (fun g => x.2.length + 1 - g.1)
    (fun tag vs h' => tag = 2 ∧ vs = [] ∧ Keep h.size h h') (0, T0) ⟨rfl, Nat.zero_le _, ⟨t4, Nxt.refl _ _, Chg.refl _ _, by rw [O.A]; exact Nat.zero_le _, by rw [O.bytes, O.li]; omega⟩⟩ ?_ ?_
  · rintro ⟨i, T⟩ ⟨(r : Int), u⟩ h5 ⟨hr, hi, on⟩
    dsimp only at hr hi on ⊢
    subst hr
    have hs := sum_take_le (fun y : Eds => (putsOf y.2).length) x.2 i
    have k5 : Keep h.size h h5 := Keep.trans e04 (on.keep z0 e04.size)
    have xlen := (hx.ext k5).len
    refine wp_ifB (fun hc => ?_) fun hc => s_ret ⟨fun hh => absurd hh (by decide), fun _ => ⟨rfl, rfl, k5⟩⟩
    rw [leI_iff, natI_def, xlen] at hc
    have hpp : T0.p = T.p := on.nx.p.symm
    rw [hpp]
    have few : (els T.enc T.cur.ps).length ≤ 65536 := by
      have h1 := (toksL_le (enc := T.enc) on.t.cur.bytes).1
      have h2 := on.sm; have h3 := on.t.lim.2
      rw [els_len]; omega
    have hEl : ((els T.enc T.cur.ps).map (fun x : El => x.1)).length = (els T.enc T.cur.ps).length := List.length_map _
    refine wp_bind (fun tag vs h' => tag = 0 ∧ vs = [] ∧ ∃ T', On S h.size T0 h4 (4 * ((x.2.take (i + 1)).map fun y : Eds => (putsOf y.2).length).sum) h' T') ?_ ?_
    · refine wp_call (c_Len on.t) fun ⟨(L : Int), _⟩ h6 e6 hL => ?_
      have hL : L = (els T.enc T.cur.ps).length := hL
      subst hL
      have hfit : fitsI .i64 ((els T.enc T.cur.ps).length : Int) := fits_i64.2 (by omega)
      refine wp_call (c_Atoms M C (from_ := Int.ofNat 0) (on.t.ext e6) hfit) fun ⟨(sa : Sl), _⟩ h7 e7 oa => ?_
      have oa : OwnL h6.size .i64 h7 sa ((cutL (els T.enc T.cur.ps) 0 ((els T.enc T.cur.ps).length : Int)).map (·.1)) := oa
      rw [cutL_all] at oa
      -- the same places, by Breaks and by Seek
      have cB := fun (h' : Heap) (a : Int) (e : Ext h5 h') (hf : fitsI .i64 a) => c_Breaks (P := P) M C (at_ := a) (on.t.ext e) hf
      have cS := fun (h' : Heap) (k : Int) (e : Ext h5 h') => c_Seek (P := P) M C (k := k) (on.t.ext e)
      rw [← hEl] at cB cS
      have hAl : ((els T.enc T.cur.ps).map (fun x : El => x.1)).length ≤ 65536 := by rw [hEl]; exact few
      rw [← hEl] at hfit
      generalize hA : (els T.enc T.cur.ps).map (fun x : El => x.1) = A at oa cB cS hEl hAl hfit
      refine wp_call (c_ends oa.lst (by omega)) fun ⟨(sF : Sl), _⟩ h8 e8 oF => ?_
      have oF : OwnL h7.size .i64 h8 sF (endsDn A) := oF
      have hFl := oF.len
      rw [dn_len] at hFl
      have e58 := (e6.trans e7).trans e8
      have hcl := cntE_le A A.length
      refine bind_bool False ?_ fun bb h9 e9 hb9 => wp_ifB (fun hx => (hb9.1 hx).elim) fun _ => ?_
      · refine wp_call (c_Len (on.t.ext e58)) fun ⟨(L : Int), _⟩ h9 e9 hL => ?_
        have hL : L = (els T.enc T.cur.ps).length := hL
        rw [← hEl] at hL
        subst hL
        have e59 := e58.trans e9
        refine wp_call (cB h9 _ e59 hfit) fun ⟨(b : Int), _⟩ h10 e10 hb => ?_
        have hb : b = cntE A (min (max (A.length : Int) 0) A.length).toNat := hb
        rw [show (min (max (A.length : Int) 0) A.length).toNat = A.length by omega] at hb
        refine s_neF (by rw [natI_def, hFl]; exact hb) (wp_call (cS h10 _ (e59.trans e10)) fun ⟨(s0 : Int), _⟩ h11 e11 hs0 => s_neF (hs0.1 rfl) (wp_call (cS h11 _ ((e59.trans e10).trans e11)) fun ⟨(s1 : Int), _⟩ h12 e12 hs1 => s_neF (hs1.2.1 (.inr (by rw [natI_def, hFl, add_ok (by omega) (by omega)]; omega))) (wp_call (cS h12 _ (((e59.trans e10).trans e11).trans e12)) fun ⟨(s2 : Int), _⟩ h13 e13 hs2 => s_ret ⟨rfl, (((e9.trans e10).trans e11).trans e12).trans e13, _, rfl, ?_⟩)))
        have hs2 : s2 = -1 := hs2.2.1 (.inl (by decide))
        rw [hs2, neI_iff]
        exact Iff.intro (fun h => absurd rfl h) False.elim
      have e59 := e58.trans e9
      have oF9 := oF.ext e9
      have dl : (endsDn A).length = cntE A A.length := dn_len A
      refine wp_while (fun (q : Int × Unit) h' => ∃ j : Nat, j ≤ ps.length ∧ q.1 = j ∧ Ext h9 h') (fun q _ => (ps.length - q.1).toNat) (fun tag vs h' => tag = 4 ∧ vs = [] ∧ Ext h9 h') ⟨0, Nat.zero_le _, rfl, Ext.refl _⟩ ?_ ?_
      · rintro ⟨(q : Int), u⟩ h10 ⟨j, hj, hq, e10⟩
        dsimp only at hq ⊢
        subst hq
        refine wp_ifB (fun hc => ?_) fun hc => s_ret ⟨fun hh => absurd hh (by decide), fun _ => ⟨rfl, rfl, e10⟩⟩
        rw [ltI_iff, natI_def, hlp] at hc
        have e510 := e59.trans e10
        have lp : ∀ {h'}, Ext h5 h' → Lst .i64 h' sp ps := fun e => hp.ext (Keep.trans k5 (e.keep k5.size))
        have oF10 := oF9.ext e10
        have hjn : ((j : Int)).toNat = j := Int.toNat_natCast j
        refine s_at (lp e510) (by omega) (by omega) fun hfa => ?_
        rw [hjn] at hfa ⊢
        generalize hga : ps.getD j 0 = a at hfa ⊢
        refine wp_call (cB h10 a e510 hfa) fun ⟨(b : Int), _⟩ h11 e11 hb => ?_
        have hb : b = cntE A (min (max a 0) A.length).toNat := hb
        generalize hcc : (min (max a 0) (A.length : Int)).toNat = c at hb
        generalize hkk : cntE A c = kk at hb
        subst hb
        have hcm := cntE_mono A (m := c) (n := A.length) (by omega)
        rw [hkk] at hcm
        have oF11 := oF10.ext e11
        have e511 := e510.trans e11
        have idx1 : 1 ≤ kk → subI .i64 (natI sF.len) (kk : Int) = ((cntE A A.length - kk : Nat) : Int) := fun h => by rw [natI_def, hFl, sub_ok (by omega) (by omega)]; omega
        have idx2 : kk < cntE A A.length → subI .i64 (subI .i64 (natI sF.len) (kk : Int)) 1 = ((cntE A A.length - (kk + 1) : Nat) : Int) := fun h => by rw [natI_def, hFl, sub_ok (a := ((cntE A A.length : Nat) : Int)) (by omega) (by omega), sub_ok (by omega) (by omega)]; omega
        dsimp only
        have later : kk < cntE A A.length → a < (endsDn A).getD (cntE A A.length - (kk + 1)) 0 := fun h => by
          obtain ⟨m, hm, g1, g2, g3, g4⟩ := dn_at (A := A) (k := kk + 1) (by omega) (by omega)
          rw [hm]
          have : c < m := by
            by_cases h3 : c < m
            · exact h3
            · have := cntE_mono A (m := m) (n := c) (by omega); omega
          omega
        refine bind_bool False ?_ fun bb h12 e12 hb12 => wp_ifB (fun hx => (hb12.1 hx).elim) fun _ => ?_
        · have tailp : wp P (ifB (ltI (kk : Int) (natI sF.len)) (grd (andB (someB sF.base) (inB (subI .i64 (subI .i64 (natI sF.len) (kk : Int)) 1) sF.len)) <| .load (.one (.int .i64)) (shiftTo sF.base (mulN (toN (subI .i64 (subI .i64 (natI sF.len) (kk : Int)) 1)) 1)) fun (n1 : Int) =>
              grd (andB (someB sp.base) (inB (j : Int) sp.len)) <| .load (.one (.int .i64)) (shiftTo sp.base (mulN (toN (j : Int)) 1)) fun (n2 : Int) => .ret 0 [.bool (leI n1 n2)]) <| .ret 0 [.bool Bool.false]) h11 fun t vs h' => t = 0 ∧ Ext h11 h' ∧ ∃ b, vs = [.bool b] ∧ (b = true ↔ False) := by
            refine wp_ifB (fun hy => ?_) fun hy => s_ret ⟨rfl, Ext.refl _, false, rfl, Iff.intro (fun h => by cases h) False.elim⟩
            rw [ltI_iff, natI_def, hFl] at hy
            rw [idx2 (by omega)]
            refine s_at oF11.lst (by omega) (by rw [dl]; omega) fun _ => s_at (lp e511) (by omega) (by omega) fun _ => s_ret ⟨rfl, Ext.refl _, _, rfl, ?_⟩
            rw [hjn, hga, Int.toNat_natCast, leI_iff]
            have := later (by omega)
            exact Iff.intro (fun h => by omega) False.elim
          refine wp_ifB (fun hy => by rw [ltI_iff] at hy; omega) fun _ => wp_ifB (fun hy => by rw [gtI_iff, natI_def, hFl] at hy; omega) fun _ => wp_ifB (fun hy => ?_) fun _ => tailp
          rw [gtI_iff] at hy
          rw [idx1 (by omega)]
          refine s_at oF11.lst (by omega) (by rw [dl]; omega) fun _ => s_at (lp e511) (by omega) (by omega) fun _ => wp_ifB (fun hz => ?_) fun _ => by rw [idx1 (by omega)] at tailp; exact tailp
          exfalso
          rw [hjn, hga, Int.toNat_natCast, gtI_iff] at hz
          obtain ⟨m, hm, g1, g2, g3, g4⟩ := dn_at (A := A) (k := kk) (by omega) (by omega)
          rw [hm] at hz
          have : m ≤ c := by
            by_cases h3 : m ≤ c
            · exact h3
            · have := cntE_mono A (m := c) (n := m - 1) (by omega); omega
          have hc0 : 0 < c := by
            by_cases h0 : 0 < c
            · exact h0
            · rw [show c = 0 by omega] at hkk; have : (0 : Nat) = kk := hkk; omega
          omega
        have e512 := e511.trans e12
        have oF12 := oF11.ext e12
        have bs : ∀ {h'}, Ext h5 h' → 0 < kk → wp P (.call (F_Text_Seek S (some T.p) (kk : Int)) [.one (.int .i64)] fun (r65 : Int × Unit) => .call (F_Text_Breaks S (some T.p) r65.1) [.one (.int .i64)] fun (r66 : Int × Unit) => .ret 0 [.bool (neI r66.1 (kk : Int))]) h' fun t vs h'' => t = 0 ∧ Ext h' h'' ∧ ∃ b, vs = [.bool b] ∧ (b = true ↔ False) := fun {h'} e hk => by
          refine wp_call (cS h' _ e) fun ⟨(y : Int), _⟩ h13 e13 hy => ?_
          obtain ⟨m, hm, g1, g2, g3, g4⟩ := hy.2.2 (by omega) (by omega)
          have hm : y = m := hm
          subst hm
          refine wp_call (cB h13 _ (e.trans e13) (fits_i64.2 (by omega))) fun ⟨(b : Int), _⟩ h14 e14 hb => s_ret ⟨rfl, e13.trans e14, _, rfl, ?_⟩
          have hb : b = cntE A (min (max (m : Int) 0) A.length).toNat := hb
          rw [show (min (max (m : Int) 0) (A.length : Int)).toNat = m by omega] at hb
          rw [hb, neI_iff]
          exact Iff.intro (fun h => h (by omega)) False.elim
        refine bind_bool False ?_ fun bb h13 e13 hb13 => wp_ifB (fun hx => (hb13.1 hx).elim) fun _ => ?_
        · refine wp_ifB (fun hy => ?_) fun hy => wp_ifB (fun hy2 => by rw [hy2] at hy; cases hy) fun _ => s_ret ⟨rfl, Ext.refl _, false, rfl, Iff.intro (fun h => by cases h) False.elim⟩
          have hy' : 0 < kk := by rw [gtI_iff] at hy; omega
          rw [idx1 (by omega)]
          refine s_at oF12.lst (by omega) (by rw [dl]; omega) fun _ => ?_
          rw [Int.toNat_natCast]
          refine wp_call (cS h12 _ e512) fun ⟨(y : Int), _⟩ h13 e13 hyy => s_ckAt (oF12.ext e13).lst (by rw [dl]; omega) rfl (s_neF ((hyy.2.2 (by omega) (by omega)).fn (dn_at (by omega) (by omega))) (wp_ifB (fun _ => ?_) fun hn => by rw [hy] at hn; cases hn))
          exact wp_mono _ (fun t vs h' ⟨a1, a2, a3⟩ => ⟨a1, e13.trans a2, a3⟩) (bs (e512.trans e13) hy')
        rw [add_ok (by omega) (by omega)]
        exact s_ret ⟨fun _ => ⟨((j : Int) + 1, ()), rfl, ⟨j + 1, by omega, by dsimp only; omega, ((e10.trans e11).trans e12).trans e13⟩, by dsimp only; omega⟩, fun hh => absurd rfl hh⟩
      · rintro tag vs h10 ⟨rfl, rfl, e10⟩
        have on10 := on.ext (e59.trans e10)
        have k10 : Keep h.size h h10 := Keep.trans e04 (on10.keep z0 e04.size)
        refine s_tag (s_cast0 (wp_ifB (fun hy => ?_) fun hy => ?_))
        · rw [ltI_iff, natI_def, xlen] at hy
          obtain ⟨y, hyy⟩ : ∃ y, x.2[i]? = some y := ⟨x.2[i]'(by omega), List.getElem?_eq_getElem (by omega)⟩
          obtain ⟨w4, w5⟩ := w3 y (List.mem_of_getElem? hyy)
          have hs2 := sum_take (fun y : Eds => (putsOf y.2).length) hyy
          have hs3 := sum_take_le (fun y : Eds => (putsOf y.2).length) x.2 (i + 1)
          refine s_ldEs (hx.ext k10) hyy (wp_callW (c_change M (x := y) on10 k10.size (fun h' k => (hx.ext (Keep.trans k10 k)).el hyy) (by omega) (fun e he => by have := w5 e he; omega) (by omega)) fun tag vs h11 ⟨ht, r, T2, hv, on11, _⟩ => ⟨ht, (r, true, ()), hv, s_ret ⟨rfl, rfl, T2, on11.more (by rw [hs2]; omega)⟩⟩)
        · rw [ltI_not, natI_def, xlen] at hy
          refine s_ret ⟨rfl, rfl, T, ?_⟩
          rw [List.take_of_length_le (by omega)]
          rw [List.take_of_length_le (by omega)] at on10
          exact on10
    · rintro tag vs h6 ⟨rfl, rfl, T2, on2⟩
      refine s_skip (by decide) (s_tag (s_cast0 ?_))
      rw [add_ok (by omega) (by omega)]
      exact s_ret ⟨fun _ => ⟨(i + 1, T2), ((i : Int) + 1, ()), rfl, ⟨by dsimp only; omega, by dsimp only; omega, on2⟩, by dsimp only; omega⟩, fun hh => absurd rfl hh⟩
  · rintro tag vs h5 ⟨rfl, rfl, k5⟩
    exact s_tag (s_cast0 (s_ret ⟨rfl, k5, (true, ()), rfl, rfl⟩))
end Go.Sw.Piece
