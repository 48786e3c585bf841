/-
  Tree: sums of runs; the functions Measure, Add, Key and the document's own.
-/
import Derived.Test.YteoloieadjeneaaSwFtree
import Derived.Test.YteoloieadjeneaaSwU3
set_option linter.unusedVariables false
set_option linter.unusedSimpArgs false
set_option maxRecDepth 100000
namespace Go.Sw
variable {P : Program} {h : Heap} {Q : Nat → List Value → Heap → Prop}

theorem Lst.cells {k : IntKind} {a : Addr} {n m : Nat} {l : List Int} (hr : Lst k h ⟨some a, n, m⟩ l) : Cells h a (l.map (.int k)) :=
  cells_iff.2 fun j v hj => by obtain ⟨a', e, c⟩ := hr.rd.2 j v hj; cases e; exact c
theorem s_loadX {k : IntKind} {a : Addr} {n m : Nat} {l : List Int} {K : Int → Prog} {j : Nat} {x : Int} (hr : Lst k h ⟨some a, n, m⟩ l) (hj : l[j]? = some x) (hk : wp P (K x) h Q) :
    wp P (.load (.one (.int k)) (shiftTo (some a) j) K) h Q := by
  have h1 := (List.getElem?_eq_some_iff.1 hj).1
  have : l.getD j 0 = x := by rw [List.getD_eq_getElem?_getD, hj]; rfl
  refine s_loadL hr h1 ?_
  rw [this]; exact hk
theorem s_load4 {k : IntKind} {p : Option Addr} {a : Addr} {n m : Nat} {x y z w : Int} {K : (Int × Int × Int × Int × Unit) → Prog} (hp : p = some a) (hr : Lst k h ⟨some a, n, m⟩ [x, y, z, w]) (hk : wp P (K (x, y, z, w, ())) h Q) :
    wp P (.load (.agg [.int k, .int k, .int k, .int k]) p K) h Q := ⟨a, hp, (x, y, z, w, ()), hr.cells, hk⟩
theorem s_check4 {k : IntKind} {a : Addr} {n m : Nat} {x y z w : Int} {K : Prog} (hr : Lst k h ⟨some a, n, m⟩ [x, y, z, w]) (hk : wp P K h Q) :
    wp P (.check (some a) [.int k x, .int k y, .int k z, .int k w] K) h Q := ⟨⟨a, rfl, hr.cells⟩, hk⟩
theorem Upd.extN {s : Sl} {h0 h h' : Heap} (e : Ext h0 h) (u : Upd s h h') (hb : ∀ a, s.base = some a → h0.size ≤ a.block) : Ext h0 h' :=
  Keep.trans e (Upd.ext_of u hb e.size)
theorem OwnL.base {n : Nat} {k : IntKind} {h : Heap} {s : Sl} {l : List Int} (ho : OwnL n k h s l) : ∀ a, s.base = some a → n ≤ a.block := fun a ha => (ho.own.lt ha).1

theorem OwnL.obj_upd {n c d c' d' : Nat} {k : IntKind} {h h' : Heap} {a b : Addr} {l : List Int} (o : OwnL n k h ⟨some a, c, d⟩ l) (u : Upd ⟨some b, c', d'⟩ h h') (hne : b.block ≠ a.block) : OwnL n k h' ⟨some a, c, d⟩ l :=
  o.upd u (by intro x y hx hy; cases hx; cases hy; exact hne)
theorem two_getD (l : List (Int × Int)) : ∀ j, (l.flatMap fun r => [r.1, r.2])[2 * j]? = l[j]?.map (·.1) ∧ (l.flatMap fun r => [r.1, r.2])[2 * j + 1]? = l[j]?.map (·.2) := by
  induction l with
  | nil => intro j; simp
  | cons r l ih =>
    intro j
    cases j with
    | zero => simp
    | succ j => have := ih j; simpa [Nat.mul_add] using this

end Go.Sw

namespace Go.Sw.Tree
variable {P : Program} {S : Ids} {h : Heap} {Q : Nat → List Value → Heap → Prop}

abbrev R2 := Int × Int × Unit
abbrev R4 := Int × Int × Int × Int × Unit
def l4 (s : R4) : List Int := [s.1, s.2.1, s.2.2.1, s.2.2.2.1]
def zero4 : R4 := (0, 0, 0, 0, ())
def measure (r : Int × Int) : R4 := if r.2 ≤ 0 then zero4 else (min r.2 1048576, 1, r.1, r.1, ())
def add (s o : R4) : R4 := if s.2.1 = 0 then o else if o.2.1 = 0 then s else
  (s.1 + o.1, s.2.1 + o.2.1 - (if s.2.2.2.1 = o.2.2.1 then 1 else 0), s.2.2.1, o.2.2.2.1, ())
def key (s : R4) (k : Int) : Int := if k = 0 then s.1 else if k = 1 then s.2.1 else 0
def sum (l : List (Int × Int)) : R4 := l.foldl (fun s r => add s (measure r)) zero4

/-- A sum of at most n runs. -/
structure V (n : Nat) (s : R4) : Prop where
  a0 : 0 ≤ s.1
  a1 : s.1 ≤ 1048576 * (n : Int)
  b0 : 0 ≤ s.2.1
  b1 : s.2.1 ≤ (n : Int)
  z : s.2.1 = 0 → s = zero4
  p : s.2.1 ≠ 0 → 0 < s.1
  f : fitsI .i64 s.2.2.1
  g : fitsI .i64 s.2.2.2.1

theorem V.zero (n : Nat) : V n zero4 := ⟨by simp [zero4], by simp [zero4]; omega, by simp [zero4], by simp [zero4], fun _ => rfl, fun h => absurd rfl h, fits_zero _, fits_zero _⟩
theorem V.mono {n m : Nat} {s : R4} (v : V n s) (h : n ≤ m) : V m s := ⟨v.a0, by have := v.a1; omega, v.b0, by have := v.b1; omega, v.z, v.p, v.f, v.g⟩
theorem V.measure {r : Int × Int} (h1 : fitsI .i64 r.1) : V 1 (measure r) := by
  unfold Tree.measure
  split
  · exact V.zero 1
  · refine ⟨?_, ?_, ?_, ?_, ?_, ?_, h1, h1⟩ <;> simp <;> omega
theorem V.add {n m : Nat} {s o : R4} (v : V n s) (w : V m o) : V (n + m) (add s o) := by
  obtain ⟨s1, s2, s3, s4, u⟩ := s
  obtain ⟨o1, o2, o3, o4, u'⟩ := o
  unfold Tree.add
  dsimp only
  split
  · exact w.mono (by omega)
  · split
    · exact v.mono (by omega)
    · obtain ⟨v1, v2, v3, v4, _, v5, v6, v7⟩ := v
      obtain ⟨w1, w2, w3, w4, _, w5, w6, w7⟩ := w
      dsimp only at *
      have := v5 (by assumption)
      have := w5 (by assumption)
      refine ⟨?_, ?_, ?_, ?_, ?_, ?_, v6, w7⟩ <;> dsimp only <;> first | omega | (split <;> omega) | skip
theorem add_zero4 {n : Nat} {s : R4} (v : V n s) : add s zero4 = s := by
  unfold add
  split
  · rename_i hz; exact (v.z hz).symm
  · exact if_pos rfl
theorem zero4_add (s : R4) : add zero4 s = s := if_pos rfl
theorem add_ne {s o : R4} (hs : s.2.1 ≠ 0) (ho : o.2.1 ≠ 0) : add s o = (s.1 + o.1, s.2.1 + o.2.1 - (if s.2.2.2.1 = o.2.2.1 then 1 else 0), s.2.2.1, o.2.2.2.1, ()) := by
  unfold add; rw [if_neg hs, if_neg ho]
theorem add_pos {n m : Nat} {s o : R4} (v : V n s) (w : V m o) (hs : s.2.1 ≠ 0) : (add s o).2.1 ≠ 0 := by
  unfold add
  rw [if_neg hs]
  split
  · exact hs
  · have := v.b0; have := w.b0
    dsimp only
    split <;> omega
theorem add_assoc4 {n m k : Nat} {x y z : R4} (v : V n x) (w : V m y) (t : V k z) : add (add x y) z = add x (add y z) := by
  by_cases hx : x.2.1 = 0
  · rw [v.z hx, zero4_add, zero4_add]
  by_cases hy : y.2.1 = 0
  · rw [w.z hy, zero4_add, add_zero4 v]
  by_cases hz : z.2.1 = 0
  · rw [t.z hz, add_zero4 (v.add w), add_zero4 w]
  have h1 := add_pos v w hx
  have h2 := add_pos w t hy
  rw [add_ne h1 hz, add_ne hx h2, add_ne hx hy, add_ne hy hz]
  dsimp only
  congr 1
  · omega
  · congr 1
    split <;> split <;> omega

theorem V.fold {l : List (Int × Int)} (hl : ∀ r, r ∈ l → fitsI .i64 r.1 ∧ fitsI .i64 r.2) : ∀ {n : Nat} {s : R4}, V n s → V (n + l.length) (l.foldl (fun s r => Tree.add s (Tree.measure r)) s) := by
  induction l with
  | nil => intro n s v; exact v
  | cons r l ih =>
    intro n s v
    have := ih (fun x hx => hl x (List.mem_cons_of_mem _ hx)) (v.add (V.measure (hl r (List.mem_cons_self ..)).1))
    exact this.mono (by simp; omega)
theorem V.sum {l : List (Int × Int)} (hl : ∀ r, r ∈ l → fitsI .i64 r.1 ∧ fitsI .i64 r.2) : V l.length (sum l) := (V.fold hl (V.zero 0)).mono (by omega)
theorem fold_add {l : List (Int × Int)} (hl : ∀ r, r ∈ l → fitsI .i64 r.1 ∧ fitsI .i64 r.2) : ∀ {n m : Nat} {s o : R4}, V n s → V m o →
    l.foldl (fun s r => add s (measure r)) (add s o) = add s (l.foldl (fun s r => add s (measure r)) o) := by
  induction l with
  | nil => intros; rfl
  | cons r l ih =>
    intro n m s o v w
    have hr := V.measure (hl r (List.mem_cons_self ..)).1
    simp only [List.foldl_cons]
    rw [add_assoc4 v w hr]
    exact ih (fun x hx => hl x (List.mem_cons_of_mem _ hx)) v (w.add hr)
theorem sum_append {l m : List (Int × Int)} (hl : ∀ r, r ∈ l → fitsI .i64 r.1 ∧ fitsI .i64 r.2) (hm : ∀ r, r ∈ m → fitsI .i64 r.1 ∧ fitsI .i64 r.2) : sum (l ++ m) = add (sum l) (sum m) := by
  unfold sum
  rw [List.foldl_append]
  have := fold_add hm (V.sum hl) (V.zero 0)
  rw [add_zero4 (V.sum hl)] at this
  exact this
theorem sum_snoc (l : List (Int × Int)) (r : Int × Int) : sum (l ++ [r]) = add (sum l) (measure r) := by unfold sum; rw [List.foldl_append]; rfl
theorem key_mono {n m : Nat} {s o : R4} (v : V n s) (w : V m o) (k : Int) : key s k ≤ key (add s o) k := by
  unfold key add
  have := v.b0; have := w.b0; have := v.a0; have := w.a0
  by_cases hs : s.2.1 = 0
  · rw [if_pos hs, v.z hs]; simp only [zero4]
    split; · omega
    split <;> omega
  · rw [if_neg hs]
    split
    · split
      · omega
      · dsimp only; omega
    · split
      · split
        · omega
        · dsimp only; split <;> omega
      · omega

end Go.Sw.Tree
