/-
  Tree: sums of runs; the functions Measure, Add, Key and the document's own.
-/
import Derived.Test.YteoloieadjeneaaSwFtree
import Derived.Test.YteoloieadjeneaaSwU3
import Derived.Test.YteoloieadjeneaaSwZ3
import Derived.ChangeSame
set_option linter.unusedVariables false
set_option linter.unusedSimpArgs false
set_option maxRecDepth 100000
namespace Go.Sw
variable {P : Program} {h : Heap} {Q : Nat → List Value → Heap → Prop}

theorem Lst.cells {k : IntKind} {a : Addr} {n m : Nat} {l : List Int} (hr : Lst k h ⟨some a, n, m⟩ l) : Cells h a (l.map (.int k)) :=
  cells_iff.2 fun j v hj => by obtain ⟨a', e, c⟩ := hr.rd.2 j v hj; cases e; exact c
theorem s_loadX {k : IntKind} {a : Addr} {n m : Nat} {l : List Int} {K : Int → Prog} {j : Nat} {x : Int} (hr : Lst k h ⟨some a, n, m⟩ l) (hj : l[j]? = some x) (hk : wp P (K x) h Q) :
    wp P (.load (.one (.int k)) (shiftTo (some a) j) K) h Q := by
  have h1 := (List.getElem?_eq_some_iff.1 hj).1
  have : l.getD j 0 = x := by rw [List.getD_eq_getElem?_getD, hj]; rfl
  refine s_loadL hr h1 ?_
  rw [this]; exact hk
theorem s_load4 {k : IntKind} {p : Option Addr} {a : Addr} {n m : Nat} {x y z w : Int} {K : (Int × Int × Int × Int × Unit) → Prog} (hp : p = some a) (hr : Lst k h ⟨some a, n, m⟩ [x, y, z, w]) (hk : wp P (K (x, y, z, w, ())) h Q) :
    wp P (.load (.agg [.int k, .int k, .int k, .int k]) p K) h Q := ⟨a, hp, (x, y, z, w, ()), hr.cells, hk⟩
theorem s_check4 {k : IntKind} {a : Addr} {n m : Nat} {x y z w : Int} {K : Prog} (hr : Lst k h ⟨some a, n, m⟩ [x, y, z, w]) (hk : wp P K h Q) :
    wp P (.check (some a) [.int k x, .int k y, .int k z, .int k w] K) h Q := ⟨⟨a, rfl, hr.cells⟩, hk⟩
theorem Upd.extN {s : Sl} {h0 h h' : Heap} (e : Ext h0 h) (u : Upd s h h') (hb : ∀ a, s.base = some a → h0.size ≤ a.block) : Ext h0 h' :=
  Keep.trans e (Upd.ext_of u hb e.size)
theorem OwnL.base {n : Nat} {k : IntKind} {h : Heap} {s : Sl} {l : List Int} (ho : OwnL n k h s l) : ∀ a, s.base = some a → n ≤ a.block := fun a ha => (ho.own.lt ha).1

theorem OwnL.obj_upd {n c d c' d' : Nat} {k : IntKind} {h h' : Heap} {a b : Addr} {l : List Int} (o : OwnL n k h ⟨some a, c, d⟩ l) (u : Upd ⟨some b, c', d'⟩ h h') (hne : b.block ≠ a.block) : OwnL n k h' ⟨some a, c, d⟩ l :=
  o.upd u (by intro x y hx hy; cases hx; cases hy; exact hne)
theorem two_getD (l : List (Int × Int)) : ∀ j, (l.flatMap fun r => [r.1, r.2])[2 * j]? = l[j]?.map (·.1) ∧ (l.flatMap fun r => [r.1, r.2])[2 * j + 1]? = l[j]?.map (·.2) := by
  induction l with
  | nil => intro j; simp
  | cons r l ih =>
    intro j
    cases j with
    | zero => simp
    | succ j => have := ih j; simpa [Nat.mul_add] using this

end Go.Sw

namespace Go.Sw.Tree
variable {P : Program} {S : Ids} {h : Heap} {Q : Nat → List Value → Heap → Prop}

abbrev R2 := Int × Int × Unit
abbrev R4 := Int × Int × Int × Int × Unit
def l4 (s : R4) : List Int := [s.1, s.2.1, s.2.2.1, s.2.2.2.1]
def zero4 : R4 := (0, 0, 0, 0, ())
def measure (r : Int × Int) : R4 := if r.2 ≤ 0 then zero4 else (min r.2 1048576, 1, r.1, r.1, ())
def add (s o : R4) : R4 := if s.2.1 = 0 then o else if o.2.1 = 0 then s else
  (s.1 + o.1, s.2.1 + o.2.1 - (if s.2.2.2.1 = o.2.2.1 then 1 else 0), s.2.2.1, o.2.2.2.1, ())
def key (s : R4) (k : Int) : Int := if k = 0 then s.1 else if k = 1 then s.2.1 else 0
def sum (l : List (Int × Int)) : R4 := l.foldl (fun s r => add s (measure r)) zero4

/-- A sum of at most n runs. -/
structure V (n : Nat) (s : R4) : Prop where
  a0 : 0 ≤ s.1
  a1 : s.1 ≤ 1048576 * (n : Int)
  b0 : 0 ≤ s.2.1
  b1 : s.2.1 ≤ (n : Int)
  z : s.2.1 = 0 → s = zero4
  p : s.2.1 ≠ 0 → 0 < s.1
  f : fitsI .i64 s.2.2.1
  g : fitsI .i64 s.2.2.2.1

theorem V.zero (n : Nat) : V n zero4 := ⟨by simp [zero4], by simp [zero4]; omega, by simp [zero4], by simp [zero4], fun _ => rfl, fun h => absurd rfl h, fits_zero _, fits_zero _⟩
theorem V.mono {n m : Nat} {s : R4} (v : V n s) (h : n ≤ m) : V m s := ⟨v.a0, by have := v.a1; omega, v.b0, by have := v.b1; omega, v.z, v.p, v.f, v.g⟩
theorem V.measure {r : Int × Int} (h1 : fitsI .i64 r.1) : V 1 (measure r) := by
  unfold Tree.measure
  split
  · exact V.zero 1
  · refine ⟨?_, ?_, ?_, ?_, ?_, ?_, h1, h1⟩ <;> simp <;> omega
theorem V.add {n m : Nat} {s o : R4} (v : V n s) (w : V m o) : V (n + m) (add s o) := by
  obtain ⟨s1, s2, s3, s4, u⟩ := s
  obtain ⟨o1, o2, o3, o4, u'⟩ := o
  unfold Tree.add
  dsimp only
  split
  · exact w.mono (by omega)
  · split
    · exact v.mono (by omega)
    · obtain ⟨v1, v2, v3, v4, _, v5, v6, v7⟩ := v
      obtain ⟨w1, w2, w3, w4, _, w5, w6, w7⟩ := w
      dsimp only at *
      have := v5 (by assumption)
      have := w5 (by assumption)
      refine ⟨?_, ?_, ?_, ?_, ?_, ?_, v6, w7⟩ <;> dsimp only <;> first | omega | (split <;> omega) | skip
theorem add_zero4 {n : Nat} {s : R4} (v : V n s) : add s zero4 = s := by
  unfold add
  split
  · rename_i hz; exact (v.z hz).symm
  · exact if_pos rfl
theorem zero4_add (s : R4) : add zero4 s = s := if_pos rfl
theorem add_ne {s o : R4} (hs : s.2.1 ≠ 0) (ho : o.2.1 ≠ 0) : add s o = (s.1 + o.1, s.2.1 + o.2.1 - (if s.2.2.2.1 = o.2.2.1 then 1 else 0), s.2.2.1, o.2.2.2.1, ()) := by
  unfold add; rw [if_neg hs, if_neg ho]
theorem add_pos {n m : Nat} {s o : R4} (v : V n s) (w : V m o) (hs : s.2.1 ≠ 0) : (add s o).2.1 ≠ 0 := by
  unfold add
  rw [if_neg hs]
  split
  · exact hs
  · have := v.b0; have := w.b0
    dsimp only
    split <;> omega
theorem add_assoc4 {n m k : Nat} {x y z : R4} (v : V n x) (w : V m y) (t : V k z) : add (add x y) z = add x (add y z) := by
  by_cases hx : x.2.1 = 0
  · rw [v.z hx, zero4_add, zero4_add]
  by_cases hy : y.2.1 = 0
  · rw [w.z hy, zero4_add, add_zero4 v]
  by_cases hz : z.2.1 = 0
  · rw [t.z hz, add_zero4 (v.add w), add_zero4 w]
  have h1 := add_pos v w hx
  have h2 := add_pos w t hy
  rw [add_ne h1 hz, add_ne hx h2, add_ne hx hy, add_ne hy hz]
  dsimp only
  congr 1
  · omega
  · congr 1
    split <;> split <;> omega

theorem V.fold {l : List (Int × Int)} (hl : ∀ r, r ∈ l → fitsI .i64 r.1 ∧ fitsI .i64 r.2) : ∀ {n : Nat} {s : R4}, V n s → V (n + l.length) (l.foldl (fun s r => Tree.add s (Tree.measure r)) s) := by
  induction l with
  | nil => intro n s v; exact v
  | cons r l ih =>
    intro n s v
    have := ih (fun x hx => hl x (List.mem_cons_of_mem _ hx)) (v.add (V.measure (hl r (List.mem_cons_self ..)).1))
    exact this.mono (by simp; omega)
theorem V.sum {l : List (Int × Int)} (hl : ∀ r, r ∈ l → fitsI .i64 r.1 ∧ fitsI .i64 r.2) : V l.length (sum l) := (V.fold hl (V.zero 0)).mono (by omega)
theorem fold_add {l : List (Int × Int)} (hl : ∀ r, r ∈ l → fitsI .i64 r.1 ∧ fitsI .i64 r.2) : ∀ {n m : Nat} {s o : R4}, V n s → V m o →
    l.foldl (fun s r => add s (measure r)) (add s o) = add s (l.foldl (fun s r => add s (measure r)) o) := by
  induction l with
  | nil => intros; rfl
  | cons r l ih =>
    intro n m s o v w
    have hr := V.measure (hl r (List.mem_cons_self ..)).1
    simp only [List.foldl_cons]
    rw [add_assoc4 v w hr]
    exact ih (fun x hx => hl x (List.mem_cons_of_mem _ hx)) v (w.add hr)
theorem sum_append {l m : List (Int × Int)} (hl : ∀ r, r ∈ l → fitsI .i64 r.1 ∧ fitsI .i64 r.2) (hm : ∀ r, r ∈ m → fitsI .i64 r.1 ∧ fitsI .i64 r.2) : sum (l ++ m) = add (sum l) (sum m) := by
  unfold sum
  rw [List.foldl_append]
  have := fold_add hm (V.sum hl) (V.zero 0)
  rw [add_zero4 (V.sum hl)] at this
  exact this
theorem sum_snoc (l : List (Int × Int)) (r : Int × Int) : sum (l ++ [r]) = add (sum l) (measure r) := by unfold sum; rw [List.foldl_append]; rfl
theorem key_mono {n m : Nat} {s o : R4} (v : V n s) (w : V m o) (k : Int) : key s k ≤ key (add s o) k := by
  unfold key add
  have := v.b0; have := w.b0; have := v.a0; have := w.a0
  by_cases hs : s.2.1 = 0
  · rw [if_pos hs, v.z hs]; simp only [zero4]
    split; · omega
    split <;> omega
  · rw [if_neg hs]
    split
    · split
      · omega
      · dsimp only; omega
    · split
      · split
        · omega
        · dsimp only; split <;> omega
      · omega

end Go.Sw.Tree

set_option linter.unusedVariables false
set_option linter.unusedSimpArgs false
set_option maxRecDepth 100000
namespace Go.Sw.Tree
variable {P : Program} {S : Ids} {h : Heap} {Q : Nat → List Value → Heap → Prop}

abbrev A4 : Ty := .agg [.int .i64, .int .i64, .int .i64, .int .i64]
abbrev obj (n : Nat) (h : Heap) (a : Addr) (s : R4) : Prop := OwnL n .i64 h ⟨some a, 4, 4⟩ [s.1, s.2.1, s.2.2.1, s.2.2.2.1]

theorem fits4 {s : R4} (h1 : fitsI .i64 s.1) (h2 : fitsI .i64 s.2.1) (h3 : fitsI .i64 s.2.2.1) (h4 : fitsI .i64 s.2.2.2.1) : ∀ x, x ∈ [s.1, s.2.1, s.2.2.1, s.2.2.2.1] → fitsI .i64 x := by
  intro x hx
  simp only [List.mem_cons, List.not_mem_nil, or_false] at hx
  rcases hx with rfl | rfl | rfl | rfl <;> assumption
theorem V.fits {n : Nat} {s : R4} (v : V n s) (hn : n ≤ 4398046511104) : ∀ x, x ∈ [s.1, s.2.1, s.2.2.1, s.2.2.2.1] → fitsI .i64 x := by
  have := v.a0; have := v.a1; have := v.b0; have := v.b1
  exact fits4 (fits_i64.2 ⟨by omega, by omega⟩) (fits_i64.2 ⟨by omega, by omega⟩) v.f v.g

/-- A new object of four numbers. -/
theorem s_new4 (s : R4) {K : Addr → Prog} (hf : ∀ x, x ∈ [s.1, s.2.1, s.2.2.1, s.2.2.2.1] → fitsI .i64 x) (hk : ∀ h', Ext h h' → obj h.size h' ⟨h.size, 0, none⟩ s → wp P (K ⟨h.size, 0, none⟩) h' Q) :
    wp P (.alloc [.int .i64 s.1, .int .i64 s.2.1, .int .i64 s.2.2.1, .int .i64 s.2.2.2.1] K) h Q := s_allocL [s.1, s.2.1, s.2.2.1, s.2.2.2.1] hf (by simp) hk
theorem s_zero4 {K : Addr → Prog} (hk : ∀ h', Ext h h' → obj h.size h' ⟨h.size, 0, none⟩ zero4 → wp P (K ⟨h.size, 0, none⟩) h' Q) :
    wp P (.alloc [.int .i64 0, .int .i64 0, .int .i64 0, .int .i64 0] K) h Q := s_new4 zero4 (V.fits (V.zero 0) (by decide)) hk
/-- A new object of two numbers. -/
theorem s_new2 (x y : Int) {K : Addr → Prog} (hx : fitsI .i64 x) (hy : fitsI .i64 y) (hk : ∀ h', Ext h h' → OwnL h.size .i64 h' ⟨some ⟨h.size, 0, none⟩, 2, 2⟩ [x, y] → wp P (K ⟨h.size, 0, none⟩) h' Q) :
    wp P (.alloc [.int .i64 x, .int .i64 y] K) h Q :=
  s_allocL [x, y] (by intro z hz; simp only [List.mem_cons, List.not_mem_nil, or_false] at hz; rcases hz with rfl | rfl <;> assumption) (by simp) hk
theorem s_store4 {n : Nat} {a : Addr} {t : R4} (s : R4) {K : Prog} (ho : obj n h a t) (hf : ∀ x, x ∈ [s.1, s.2.1, s.2.2.1, s.2.2.2.1] → fitsI .i64 x)
    (hk : ∀ h', obj n h' a s → Upd ⟨some a, 4, 4⟩ h h' → wp P K h' Q) : wp P (.store (some a) [.int .i64 s.1, .int .i64 s.2.1, .int .i64 s.2.2.1, .int .i64 s.2.2.2.1] K) h Q :=
  s_storeL (l := [t.1, t.2.1, t.2.2.1, t.2.2.2.1]) [s.1, s.2.1, s.2.2.1, s.2.2.2.1] ho rfl hf fun h' o u _ => hk h' o u
theorem s_get4 {n : Nat} {p : Option Addr} {a : Addr} {s : R4} {K : R4 → Prog} (hp : p = some a) (ho : obj n h a s) (hk : wp P (K s) h Q) : wp P (.load A4 p K) h Q :=
  s_load4 hp ho.lst hk
theorem s_same4 {n : Nat} {a : Addr} {s : R4} {K : Prog} (ho : obj n h a s) (hk : wp P K h Q) : wp P (.check (some a) [.int .i64 s.1, .int .i64 s.2.1, .int .i64 s.2.2.1, .int .i64 s.2.2.2.1] K) h Q :=
  s_check4 ho.lst hk
/-- An answer that is kept in an object, and told. -/
theorem s_tell4 {n : Nat} {a : Addr} {t : R4} (s : R4) {R : Ts.den [A4] → Heap → Prop} {h0 : Heap} (ho : obj n h a t) (hn : h0.size ≤ n) (hf : ∀ x, x ∈ [s.1, s.2.1, s.2.2.1, s.2.2.2.1] → fitsI .i64 x) (e : Ext h0 h) (hr : ∀ h', Ext h0 h' → R (s, ()) h') :
    wp P (.store (some a) [.int .i64 s.1, .int .i64 s.2.1, .int .i64 s.2.2.1, .int .i64 s.2.2.2.1] <| .load A4 (some a) fun r => .ret 0 [.agg #[.int .i64 r.1, .int .i64 r.2.1, .int .i64 r.2.2.1, .int .i64 r.2.2.2.1]]) h
      fun t vs h' => t = 0 ∧ Ext h0 h' ∧ ∃ x, vs = Ts.inj [A4] x ∧ R x h' := by
  refine s_store4 s ho hf fun h' o u => s_get4 rfl o (s_ret ?_)
  have ex := Upd.extN e u fun a ha => Nat.le_trans hn (ho.base a ha)
  exact ⟨rfl, ex, (s, ()), rfl, hr h' ex⟩

theorem minI_eq (a b : Int) : minI a b = min a b := by unfold minI; split <;> omega

theorem c_Measure {r : R2} (h1 : fitsI .i64 r.1) (h2 : fitsI .i64 r.2.1) : Gives P (F_Run_Measure S r) [A4] h fun (x : R4 × Unit) _ => x.1 = measure (r.1, r.2.1) := by
  obtain ⟨(k : Int), (n : Int), u⟩ := r
  dsimp only at h1 h2 ⊢
  have hv : V 1 (measure (k, n)) := V.measure h1
  have hf := hv.fits (by decide)
  unfold F_Run_Measure Gives
  refine s_new2 k n h1 h2 fun h1' e1 o1 => s_zero4 fun h2' e2 o2 => ?_
  have e := e1.trans e2
  have l1 := (o1.ext e2).lst
  refine s_loadX l1 (x := n) rfl (wp_ifB (fun hc => ?_) fun hc => ?_)
  · rw [leI_iff] at hc
    refine s_tell4 zero4 o2 e1.size (V.fits (V.zero 0) (by decide)) e fun h' _ => ?_
    unfold measure; rw [if_pos hc]
  · rw [leI_not] at hc
    refine s_loadX l1 (x := n) rfl (s_loadX l1 (x := k) rfl (s_loadX l1 (x := k) rfl ?_))
    have hm : measure (k, n) = (minI n 1048576, 1, k, k, ()) := by unfold measure; rw [if_neg (by dsimp only; omega)]; dsimp only; rw [minI_eq]
    rw [hm] at hf
    refine s_tell4 (minI n 1048576, 1, k, k, ()) o2 e1.size hf e fun h' _ => ?_
    rw [hm]

theorem c_Add {n m : Nat} {s o : R4} (v : V n s) (w : V m o) (hn : n + m ≤ 4398046511104) : Gives P (F_Runs_Add S s o) [A4] h fun (x : R4 × Unit) _ => x.1 = add s o := by
  have fs := v.fits (by omega)
  have fo := w.fits (by omega)
  have fa := (v.add w).fits hn
  have := v.a0; have := v.a1; have := v.b0; have := v.b1; have := w.a0; have := w.a1; have := w.b0; have := w.b1
  unfold F_Runs_Add Gives
  refine s_new4 s fs fun h1 e1 o1 => s_new4 o fo fun h2 e2 o2 => s_zero4 fun h3 e3 o3 => ?_
  have o1 := o1.ext (e2.trans e3)
  have o2 := o2.ext e3
  have e := e1.trans (e2.trans e3)
  have hn3 := Nat.le_trans e1.size e2.size
  refine s_loadX o1.lst (x := s.2.1) rfl (wp_ifB (fun hc => ?_) fun hc => ?_)
  · rw [eqI_iff] at hc
    refine s_get4 rfl o2 (s_tell4 o o3 hn3 fo e fun h' _ => ?_)
    unfold add; rw [if_pos hc]
  · rw [eqI_not] at hc
    refine s_loadX o2.lst (x := o.2.1) rfl (wp_ifB (fun hd => ?_) fun hd => ?_)
    · rw [eqI_iff] at hd
      refine s_get4 rfl o1 (s_tell4 s o3 hn3 fs e fun h' _ => ?_)
      unfold add; rw [if_neg hc, if_pos hd]
    · rw [eqI_not] at hd
      refine bind_val (tys := [.one (.int .i64)]) (fun (x : Int × Unit) _ => x.1 = if s.2.2.2.1 = o.2.2.1 then 1 else 0) ?_ fun x h4 e4 hx => ?_
      · refine s_loadX o1.lst (x := s.2.2.2.1) rfl (s_loadX o2.lst (x := o.2.2.1) rfl (wp_ifB (fun hm => ?_) fun hm => ?_))
        · rw [eqI_iff] at hm
          exact s_ret ⟨rfl, Ext.refl _, (1, ()), rfl, by rw [if_pos hm]⟩
        · rw [eqI_not] at hm
          exact s_ret ⟨rfl, Ext.refl _, (0, ()), rfl, by rw [if_neg hm]⟩
      · have o1 := o1.ext e4
        have o2 := o2.ext e4
        obtain ⟨(x : Int), u⟩ := x
        dsimp only at hx ⊢
        refine s_loadX o1.lst (x := s.1) rfl (s_loadX o2.lst (x := o.1) rfl (s_loadX o1.lst (x := s.2.1) rfl (s_loadX o2.lst (x := o.2.1) rfl (s_loadX o1.lst (x := s.2.2.1) rfl (s_loadX o2.lst (x := o.2.2.2.1) rfl ?_)))))
        rw [hx, add_ok (a := s.1) (by omega) (by omega), add_ok (a := s.2.1) (by omega) (by omega), sub_ok (by split <;> omega) (by split <;> omega)]
        have ha := add_ne hc hd
        rw [ha] at fa ⊢
        exact s_tell4 (s.1 + o.1, s.2.1 + o.2.1 - (if s.2.2.2.1 = o.2.2.1 then 1 else 0), s.2.2.1, o.2.2.2.1, ()) (o3.ext e4) hn3 fa (e.trans e4) fun h' _ => rfl

theorem c_Key {n : Nat} {s : R4} {k : Int} (v : V n s) (hn : n ≤ 4398046511104) : Gives P (F_Runs_Key S s k) [.one (.int .i64)] h fun (x : Int × Unit) _ => x.1 = key s k := by
  unfold F_Runs_Key Gives
  refine s_new4 s (v.fits hn) fun h1 e1 o1 => wp_ifB (fun hc => ?_) fun hc => ?_
  · rw [eqI_iff] at hc
    exact s_loadX o1.lst (x := s.1) rfl (s_ret ⟨rfl, e1, (s.1, ()), rfl, by unfold key; rw [if_pos hc]⟩)
  · rw [eqI_not] at hc
    refine wp_ifB (fun hd => ?_) fun hd => ?_
    · rw [eqI_iff] at hd
      exact s_loadX o1.lst (x := s.2.1) rfl (s_ret ⟨rfl, e1, (s.2.1, ()), rfl, by unfold key; rw [if_neg hc, if_pos hd]⟩)
    · rw [eqI_not] at hd
      exact s_ret ⟨rfl, e1, (0, ()), rfl, by unfold key; rw [if_neg hc, if_neg hd]⟩
theorem c_refKey {n : Nat} {s : R4} {k : Int} (v : V n s) (hn : n ≤ 4398046511104) : Gives P (F_ref4_Key S s k) [.one (.int .i64)] h fun (x : Int × Unit) _ => x.1 = key s k := c_Key (S := S) v hn

theorem c_sameRuns {n : Nat} {s : R4} (v : V n s) (hn : n ≤ 4398046511104) : Gives P (F_law4_sameRuns S s s) [.one .bool] h fun (x : Bool × Unit) _ => x.1 = true := by
  unfold F_law4_sameRuns Gives
  refine s_new4 s (v.fits hn) fun h1 e1 o1 => s_new4 s (v.fits hn) fun h2 e2 o2 => ?_
  have l1 := (o1.ext e2).lst
  have l2 := o2.lst
  have hq : ∀ x, eqI x x = true := fun x => eqI_iff.2 rfl
  refine bind_val (tys := [.one .bool]) (fun (x : Bool × Unit) _ => x.1 = true) ?_ fun x h4 e4 hx => s_ret ⟨rfl, (e1.trans e2).trans e4, (x.1, ()), rfl, hx⟩
  refine s_loadX l1 (x := s.1) rfl (s_loadX l2 (x := s.1) rfl ?_)
  rw [hq]
  refine s_ifT (s_loadX l1 (x := s.2.1) rfl (s_loadX l2 (x := s.2.1) rfl ?_))
  rw [hq]
  refine s_ifT (s_loadX l1 (x := s.2.2.1) rfl (s_loadX l2 (x := s.2.2.1) rfl ?_))
  rw [hq]
  refine s_ifT (s_loadX l1 (x := s.2.2.2.1) rfl (s_loadX l2 (x := s.2.2.2.1) rfl ?_))
  rw [hq]
  exact s_ret ⟨rfl, Ext.refl _, (true, ()), rfl, rfl⟩

theorem c_behind {n : Nat} {s : R4} {r : R2} (v : V n s) (h1 : fitsI .i64 r.1) (h2 : fitsI .i64 r.2.1) (hn : n + 1 ≤ 4398046511104) :
    Gives P (F_ref4_behind S s r) [A4] h fun (x : R4 × Unit) _ => x.1 = add s (measure (r.1, r.2.1)) := by
  obtain ⟨(k : Int), (m : Int), u⟩ := r
  dsimp only at h1 h2 ⊢
  have fs := v.fits (by omega)
  have fa := (v.add (V.measure (r := (k, m)) h1)).fits hn
  have := v.a0; have := v.a1; have := v.b0; have := v.b1
  unfold F_ref4_behind Gives
  refine s_new4 s fs fun h1' e1 o1 => s_new2 k m h1 h2 fun h2' e2 o2 => s_zero4 fun h3 e3 o3 => ?_
  have lt1' := (o1.own.lt rfl).2
  have lt2' := (o2.own.lt rfl).2
  have o1 := o1.ext (e2.trans e3)
  have o2 := o2.ext e3
  have e := e1.trans (e2.trans e3)
  have hs1 := e1.size; have hs2 := e2.size
  have hn3 := Nat.le_trans e1.size e2.size
  have b1 := (o1.own.lt rfl).2
  have b2 := (o2.own.lt rfl).1
  have lt1 : h.size < h1'.size := lt1'
  have lt2 : h1'.size < h2'.size := lt2'
  dsimp only at b1 b2
  refine s_loadX o2.lst (x := m) rfl (wp_ifB (fun hc => ?_) fun hc => ?_)
  · rw [leI_iff] at hc
    refine s_get4 rfl o1 (s_tell4 s o3 hn3 fs e fun h' _ => ?_)
    unfold measure; rw [if_pos hc, add_zero4 v]
  · rw [leI_not] at hc
    have hm : measure (k, m) = (min m 1048576, 1, k, k, ()) := by unfold measure; rw [if_neg (by dsimp only; omega)]
    rw [hm] at fa ⊢
    refine wp_bind (fun t vs h' => t = 0 ∧ vs = [] ∧ Ext h h' ∧ ∃ q : R4, obj h.size h' ⟨h.size, 0, none⟩ q ∧ OwnL h1'.size .i64 h' ⟨some ⟨h1'.size, 0, none⟩, 2, 2⟩ [k, m] ∧ obj h2'.size h' ⟨h2'.size, 0, none⟩ zero4 ∧
      q.1 = s.1 ∧ (q.1 + min m 1048576, q.2.1, q.2.2.1, k, ()) = add s (min m 1048576, 1, k, k, ())) ?_ ?_
    · refine s_loadX o1.lst (x := s.1) rfl (wp_ifB (fun hd => ?_) fun hd => ?_)
      · rw [eqI_iff] at hd
        have hz : s = zero4 := v.z (by have := v.p; omega)
        subst hz
        refine s_loadX o2.lst (x := k) rfl (s_setA o1 (by simp) h1 fun h4 o1 u1 _ => s_setA o1 (by simp) (fits_i64.2 ⟨by omega, by omega⟩) fun h5 o1 u2 _ => s_ret ?_)
        have o2 := (o2.obj_upd u1 (by dsimp only; omega)).obj_upd u2 (by dsimp only; omega)
        have o3 := (o3.obj_upd u1 (by dsimp only; omega)).obj_upd u2 (by dsimp only; omega)
        have e := Upd.extN (Upd.extN e u1 (by intro a ha; cases ha; exact Nat.le_refl _)) u2 (by intro a ha; cases ha; exact Nat.le_refl _)
        refine ⟨rfl, rfl, e, (0, 1, k, 0, ()), o1, o2, o3, rfl, ?_⟩
        rw [zero4_add]; simp
      · rw [eqI_not] at hd
        have hs : s.2.1 ≠ 0 := fun hz => hd (by rw [v.z hz]; rfl)
        refine s_loadX o2.lst (x := k) rfl (s_loadX o1.lst (x := s.2.2.2.1) rfl (wp_ifB (fun hx => ?_) fun hx => ?_))
        · rw [neI_iff] at hx
          refine s_loadX o1.lst (x := s.2.1) rfl ?_
          rw [add_ok (by omega) (by omega)]
          refine s_setA o1 (by simp) (fits_i64.2 ⟨by omega, by omega⟩) fun h4 o1 u1 _ => s_ret ?_
          have o2 := o2.obj_upd u1 (by dsimp only; omega)
          have o3 := o3.obj_upd u1 (by dsimp only; omega)
          have e := Upd.extN e u1 (by intro a ha; cases ha; exact Nat.le_refl _)
          refine ⟨rfl, rfl, e, (s.1, s.2.1 + 1, s.2.2.1, s.2.2.2.1, ()), o1, o2, o3, rfl, ?_⟩
          rw [add_ne hs (by simp)]
          dsimp only
          rw [if_neg (fun e => hx e.symm)]; simp
        · rw [neI_not] at hx
          refine s_ret ⟨rfl, rfl, e, s, o1, o2, o3, rfl, ?_⟩
          rw [add_ne hs (by simp)]
          dsimp only
          rw [if_pos hx.symm]; simp
    · rintro t vs h4 ⟨rfl, rfl, e, q, o1, o2, o3, hq1, hq⟩
      have hqq : ∀ x, x ∈ [q.1 + min m 1048576, q.2.1, q.2.2.1, k] → fitsI .i64 x := by
        rw [← hq] at fa; exact fa
      refine s_tag (s_cast0 (s_loadX o2.lst (x := k) rfl (s_setA o1 (by simp) h1 fun h5 o1 u1 _ => ?_)))
      have o2 := o2.obj_upd u1 (by dsimp only; omega)
      have o3 := o3.obj_upd u1 (by dsimp only; omega)
      have e := Upd.extN e u1 (by intro a ha; cases ha; exact Nat.le_refl _)
      refine wp_bind (fun t vs h' => t = 0 ∧ vs = [] ∧ Ext h h' ∧ obj h.size h' ⟨h.size, 0, none⟩ (q.1 + min m 1048576, q.2.1, q.2.2.1, k, ()) ∧ obj h2'.size h' ⟨h2'.size, 0, none⟩ zero4) ?_ ?_
      · refine s_loadX o2.lst (x := m) rfl (wp_ifB (fun hx => ?_) fun hx => ?_)
        · rw [gtI_iff] at hx
          refine s_loadX o1.lst (x := q.1) rfl ?_
          rw [add_ok (by omega) (by omega)]
          have hmin : min m 1048576 = 1048576 := by omega
          rw [hmin] at hqq ⊢
          refine s_setA o1 (by simp) (hqq _ (List.mem_cons_self ..)) fun h6 o1 u1 _ => s_ret ?_
          exact ⟨rfl, rfl, Upd.extN e u1 (by intro a ha; cases ha; exact Nat.le_refl _), o1, o3.obj_upd u1 (by dsimp only; omega)⟩
        · rw [gtI_not] at hx
          refine s_loadX o1.lst (x := q.1) rfl (s_loadX o2.lst (x := m) rfl ?_)
          rw [add_ok (by omega) (by omega)]
          have hmin : min m 1048576 = m := by omega
          rw [hmin] at hqq ⊢
          refine s_setA o1 (by simp) (hqq _ (List.mem_cons_self ..)) fun h6 o1 u1 _ => s_ret ?_
          exact ⟨rfl, rfl, Upd.extN e u1 (by intro a ha; cases ha; exact Nat.le_refl _), o1, o3.obj_upd u1 (by dsimp only; omega)⟩
      · rintro t vs h6 ⟨rfl, rfl, e, o1, o3⟩
        refine s_tag (s_cast0 (s_get4 rfl o1 (s_tell4 (q.1 + min m 1048576, q.2.1, q.2.2.1, k, ()) o3 hn3 hqq e fun h' _ => hq)))
end Go.Sw.Tree

set_option linter.unusedVariables false
set_option linter.unusedSimpArgs false
set_option maxRecDepth 100000
namespace Go.Sw.Tree
variable {P : Program} {S : Ids} {h : Heap} {Q : Nat → List Value → Heap → Prop}

def cR (l : List (Int × Int)) : List Value := l.flatMap fun r => [.int .i64 r.1, .int .i64 r.2]
theorem cR_len (l : List (Int × Int)) : (cR l).length = l.length * 2 := by
  unfold cR
  induction l with
  | nil => rfl
  | cons r l ih => rw [List.flatMap_cons, List.length_append, ih]; simp; omega
theorem cR_at (l : List (Int × Int)) : ∀ j r, l[j]? = some r → (cR l)[j * 2]? = some (.int .i64 r.1) ∧ (cR l)[j * 2 + 1]? = some (.int .i64 r.2) := by
  unfold cR
  induction l with
  | nil => intro j r h; simp at h
  | cons x l ih =>
    intro j r h
    cases j with
    | zero => simp at h; subst h; simp
    | succ j => have := ih j r (by simpa using h); simpa [Nat.add_mul] using this
theorem cR_append (l m : List (Int × Int)) : cR (l ++ m) = cR l ++ cR m := by simp [cR]
theorem cR_flat (l : List (Int × Int)) : ∀ v ∈ cR l, flat v = true := by
  intro v hv
  obtain ⟨r, _, hr⟩ := List.mem_flatMap.1 hv
  simp only [List.mem_cons, List.not_mem_nil, or_false] at hr
  rcases hr with rfl | rfl <;> rfl

def wfR (l : List (Int × Int)) : Prop := ∀ r, r ∈ l → fitsI .i64 r.1 ∧ fitsI .i64 r.2
theorem wfR.append {l m : List (Int × Int)} (a : wfR l) (b : wfR m) : wfR (l ++ m) := fun r hr => (List.mem_append.1 hr).elim (a r) (b r)
theorem wfR.take {l : List (Int × Int)} (a : wfR l) (n : Nat) : wfR (l.take n) := fun r hr => a r (List.mem_of_mem_take hr)
theorem wfR.get {l : List (Int × Int)} (a : wfR l) {j : Nat} {r : Int × Int} (hj : l[j]? = some r) : fitsI .i64 r.1 ∧ fitsI .i64 r.2 := a r (List.mem_of_getElem? hj)

structure Runs (h : Heap) (s : Sl) (l : List (Int × Int)) : Prop where
  rd : Rd 2 h s (cR l)
  cap : s.len ≤ s.cap
  max : s.cap < 2 ^ 63
  wf : wfR l
structure OwnR (n : Nat) (h : Heap) (s : Sl) (l : List (Int × Int)) : Prop where
  own : Own n 2 h s (cR l)
  wf : wfR l
theorem Runs.len {h : Heap} {s : Sl} {l : List (Int × Int)} (r : Runs h s l) : s.len = l.length := by have := r.rd.1; rw [cR_len] at this; omega
theorem Runs.ext {h h' : Heap} {s : Sl} {l : List (Int × Int)} (r : Runs h s l) (e : Ext h h') : Runs h' s l := ⟨e.rd r.rd, r.cap, r.max, r.wf⟩
theorem Runs.bound {h : Heap} {s : Sl} {l : List (Int × Int)} (r : Runs h s l) : l.length < 2 ^ 63 := by have := r.len; have := r.cap; have := r.max; omega
theorem OwnR.runs {n : Nat} {h : Heap} {s : Sl} {l : List (Int × Int)} (o : OwnR n h s l) : Runs h s l := ⟨o.own.rd, o.own.2.1, o.own.2.2.1, o.wf⟩
theorem OwnR.len {n : Nat} {h : Heap} {s : Sl} {l : List (Int × Int)} (o : OwnR n h s l) : s.len = l.length := o.runs.len
theorem OwnR.ext {n : Nat} {h h' : Heap} {s : Sl} {l : List (Int × Int)} (o : OwnR n h s l) (e : Ext h h') : OwnR n h' s l := ⟨o.own.ext e, o.wf⟩
theorem OwnR.nil (n : Nat) (h : Heap) : OwnR n h ⟨none, 0, 0⟩ [] := ⟨Own.nil n 2 h, by simp [wfR]⟩
theorem OwnR.mono {n m : Nat} {h : Heap} {s : Sl} {l : List (Int × Int)} (o : OwnR n h s l) (hm : m ≤ n) : OwnR m h s l := ⟨o.own.mono hm, o.wf⟩

/-- l[j], all of it. -/
theorem s_at2 {s : Sl} {l : List (Int × Int)} {K : R2 → Prog} {j : Int} (hr : Runs h s l) (h0 : 0 ≤ j) (h1 : j < l.length)
    (hk : ∀ r, l[j.toNat]? = some r → wp P (K (r.1, r.2, ())) h Q) : wp P (grd (andB (someB s.base) (inB j s.len)) (.load (.agg [.int .i64, .int .i64]) (shiftTo s.base (mulN (toN j) 2)) K)) h Q := by
  have hlt : j.toNat < l.length := by omega
  have hj : l[j.toNat]? = some l[j.toNat] := List.getElem?_eq_getElem hlt
  obtain ⟨c1, c2⟩ := cR_at l _ _ hj
  obtain ⟨a, e, d1⟩ := hr.rd.2 _ _ c1
  obtain ⟨a', e', d2⟩ := hr.rd.2 _ _ c2
  rw [e] at e'; cases e'
  have := hr.len
  refine wp_grd (andB_iff.2 ⟨by simp [someB, e], inB_is.2 ⟨h0, by omega⟩⟩) ⟨a.add (j.toNat * 2), by simp [shiftTo, e, mulN, toN], (l[j.toNat].1, l[j.toNat].2, ()), cells_iff.2 fun i v hi => ?_, hk _ hj⟩
  match i, hi with
  | 0, hi => simp [Ty.cells, Bs.inj] at hi; subst hi; rw [add_zero']; exact d1
  | 1, hi => simp [Ty.cells, Bs.inj] at hi; subst hi; rw [add_add]; exact d2
  | i + 2, hi => simp [Ty.cells, Bs.inj] at hi

/-- l[j]'s parts. -/
theorem s_part2 {s : Sl} {l : List (Int × Int)} {K : Int → Prog} {j : Int} {i : Nat} {x : Int} (hr : Runs h s l) (h0 : 0 ≤ j) (h1 : j < l.length) (hi : ∀ r, l[j.toNat]? = some r → (i = 0 ∧ x = r.1) ∨ (i = 1 ∧ x = r.2))
    (hk : wp P (K x) h Q) : wp P (grd (andB (someB s.base) (inB j s.len)) <| grd (someB (shiftTo s.base (mulN (toN j) 2))) <| .load (.one (.int .i64)) (shiftTo (shiftTo s.base (mulN (toN j) 2)) i) K) h Q := by
  have hlt : j.toNat < l.length := by omega
  have hj : l[j.toNat]? = some l[j.toNat] := List.getElem?_eq_getElem hlt
  obtain ⟨c1, c2⟩ := cR_at l _ _ hj
  obtain ⟨a, e, d1⟩ := hr.rd.2 _ _ c1
  obtain ⟨a', e', d2⟩ := hr.rd.2 _ _ c2
  rw [e] at e'; cases e'
  have := hr.len
  refine wp_grd (andB_iff.2 ⟨by simp [someB, e], inB_is.2 ⟨h0, by omega⟩⟩) (wp_grd (by simp [someB, e, shiftTo]) ?_)
  rcases hi _ hj with ⟨rfl, rfl⟩ | ⟨rfl, rfl⟩
  · refine wp_load1 (a.add (j.toNat * 2)) _ ?_ d1 hk
    simp [shiftTo, e, mulN, toN, add_zero']
  · refine wp_load1 (a.add (j.toNat * 2 + 1)) _ ?_ d2 hk
    simp [shiftTo, e, mulN, toN, add_add]

theorem s_append2 {n : Nat} {s x : Sl} {l m : List (Int × Int)} {K : Sl → Prog} (ho : OwnR n h s l) (hn : n ≤ h.size) (hx : Runs h x m) (hroom : l.length + m.length ≤ 8796093022208)
    (hk : ∀ r h', Keep n h h' → OwnR n h' r (l ++ m) → wp P (K r) h' Q) : wp P (.append 2 16 [.int .i64 0, .int .i64 0] s x K) h Q := by
  have hl := ho.len
  have hm := hx.len
  refine wp_append ho.own hn hx.rd (cR_flat m) rfl (by rw [hl, hm]; omega) (by rw [hl, hm]; omega) fun r h' a b c d => ?_
  exact hk r h' (Upd.keep ho.own hn c) ⟨by rw [cR_append]; exact a, ho.wf.append hx.wf⟩
theorem s_push2 {n : Nat} {s : Sl} {l : List (Int × Int)} {x y : Int} {K : Sl → Prog} (ho : OwnR n h s l) (hn : n ≤ h.size) (hx : fitsI .i64 x) (hy : fitsI .i64 y) (hroom : l.length + 1 ≤ 8796093022208)
    (hk : ∀ r h', Keep n h h' → OwnR n h' r (l ++ [(x, y)]) → wp P (K r) h' Q) : wp P (.alloc [.int .i64 x, .int .i64 y] fun a => .append 2 16 [.int .i64 0, .int .i64 0] s ⟨some a, 1, 1⟩ K) h Q := by
  have hl := ho.len
  refine wp_push (new := [.int .i64 x, .int .i64 y]) ho.own hn rfl (cR_flat [(x, y)]) rfl (by rw [hl]; omega) (by rw [hl]; omega) fun r h' a b c d => ?_
  refine hk r h' (Upd.keep ho.own hn c) ⟨by rw [cR_append]; exact a, ho.wf.append ?_⟩
  intro r hr
  rw [List.mem_singleton.1 hr]; exact ⟨hx, hy⟩

theorem take_succ {l : List (Int × Int)} {i : Int} {r : Int × Int} (h0 : 0 ≤ i) (hj : l[i.toNat]? = some r) : l.take (i + 1).toNat = l.take i.toNat ++ [r] := by
  rw [show (i + 1).toNat = i.toNat + 1 by omega, List.take_add_one, hj]; rfl

theorem c_added {s : Sl} {l : List (Int × Int)} (hb : Runs h s l) (hroom : l.length ≤ 4398046511104) : Gives P (F_law4_added S s) [A4] h fun (x : R4 × Unit) _ => x.1 = sum l := by
  have hlen := hb.len
  unfold F_law4_added Gives
  refine s_zero4 fun h1 e1 o1 => s_zero4 fun h2 e2 o2 => ?_
  have b1 := (o1.own.lt rfl).2
  dsimp only at b1
  refine wp_while (fun (s : Int × Unit) h' => 0 ≤ s.1 ∧ s.1 ≤ l.length ∧ Ext h h' ∧ h1.size ≤ h'.size ∧ obj h.size h' ⟨h.size, 0, none⟩ zero4 ∧ obj h1.size h' ⟨h1.size, 0, none⟩ (sum (l.take s.1.toNat))) (fun s _ => l.length - s.1.toNat)
    (fun t vs h' => t = 2 ∧ vs = [] ∧ Ext h h' ∧ obj h.size h' ⟨h.size, 0, none⟩ zero4 ∧ obj h1.size h' ⟨h1.size, 0, none⟩ (sum l)) ⟨by simp, by simp, e1.trans e2, e2.size, o1.ext e2, o2⟩ ?_ ?_
  · rintro ⟨(i : Int), u⟩ h' ⟨h0, hi, e, hs, o1, o2⟩
    dsimp only at h0 hi o2 ⊢
    have hv : V i.toNat (sum (l.take i.toNat)) := (V.sum (hb.wf.take _)).mono (by rw [List.length_take]; omega)
    refine wp_ifB (fun hc => ?_) fun hc => ?_
    · rw [ltI_iff, natI_def, hlen] at hc
      refine s_get4 rfl o2 (s_at2 (hb.ext e) h0 hc fun r hj => ?_)
      obtain ⟨f1, f2⟩ := hb.wf.get hj
      refine wp_call (c_Measure f1 f2) fun x h3 e3 hx => ?_
      obtain ⟨m, u'⟩ := x
      dsimp only at hx
      subst hx
      have hm := V.measure (r := r) f1
      have o2 := o2.ext e3
      have o1 := o1.ext e3
      refine s_same4 o2 (wp_call (c_Add hv hm (by omega)) fun x h4 e4 hx => ?_)
      obtain ⟨m, u'⟩ := x
      dsimp only at hx
      subst hx
      have o2 := o2.ext e4
      have o1 := o1.ext e4
      refine s_store4 (add (sum (l.take i.toNat)) (measure r)) o2 ((hv.add hm).fits (by omega)) fun h5 o2 u5 => ?_
      rw [add_ok (by omega) (by omega)]
      refine s_ret ⟨fun _ => ⟨(i + 1, ()), rfl, ⟨by dsimp only; omega, by dsimp only; omega, Upd.extN ((e.trans e3).trans e4) u5 (by intro a ha; cases ha; exact e1.size),
        Nat.le_trans hs (Nat.le_trans e3.size (Nat.le_trans e4.size u5.1)), o1.obj_upd u5 (by dsimp only; omega), ?_⟩, by dsimp only; omega⟩, fun h => absurd rfl h⟩
      dsimp only
      rw [take_succ h0 hj, sum_snoc]; exact o2
    · rw [ltI_not, natI_def, hlen] at hc
      rw [List.take_of_length_le (by omega)] at o2
      exact s_ret ⟨fun h => absurd h (by decide), fun _ => ⟨rfl, rfl, e, o1, o2⟩⟩
  · rintro t vs h' ⟨rfl, rfl, e, o1, o2⟩
    exact s_tag (s_cast0 (s_get4 rfl o2 (s_tell4 (sum l) o1 (Nat.le_refl _) ((V.sum hb.wf).fits hroom) e fun _ _ => rfl)))

theorem c_Upto {s : Sl} {l : List (Int × Int)} {n : Int} (hb : Runs h s l) (hroom : l.length < 4398046511104) : Gives P (F_ref4_Upto S s n) [A4] h fun (x : R4 × Unit) _ => x.1 = sum (l.take n.toNat) := by
  have hlen := hb.len
  unfold F_ref4_Upto Gives
  refine s_zero4 fun h1 e1 o1 => s_zero4 fun h2 e2 o2 => ?_
  have b1 := (o1.own.lt rfl).2
  dsimp only at b1
  refine wp_while (fun (s : Int × Unit) h' => 0 ≤ s.1 ∧ s.1 ≤ l.length ∧ s.1 ≤ n.toNat ∧ Ext h h' ∧ obj h.size h' ⟨h.size, 0, none⟩ zero4 ∧ obj h1.size h' ⟨h1.size, 0, none⟩ (sum (l.take s.1.toNat))) (fun s _ => l.length - s.1.toNat)
    (fun t vs h' => t = 2 ∧ vs = [] ∧ Ext h h' ∧ obj h.size h' ⟨h.size, 0, none⟩ zero4 ∧ obj h1.size h' ⟨h1.size, 0, none⟩ (sum (l.take n.toNat))) ⟨by simp, by simp, by dsimp only; omega, e1.trans e2, o1.ext e2, o2⟩ ?_ ?_
  · rintro ⟨(i : Int), u⟩ h' ⟨h0, hi, hin, e, o1, o2⟩
    dsimp only at h0 hi hin o2 ⊢
    have hv : V i.toNat (sum (l.take i.toNat)) := (V.sum (hb.wf.take _)).mono (by rw [List.length_take]; omega)
    refine bind_bool (i < n ∧ i < l.length) ?_ fun b h3 e3 hb3 => ?_
    · refine wp_ifB (fun hc => ?_) fun hc => ?_
      · rw [ltI_iff] at hc
        refine s_ret ⟨rfl, Ext.refl _, _, rfl, ?_⟩
        rw [ltI_iff, natI_def, hlen]; exact ⟨fun x => ⟨hc, x⟩, fun x => x.2⟩
      · rw [ltI_not] at hc
        exact s_ret ⟨rfl, Ext.refl _, false, rfl, Iff.intro (fun x => by cases x) (fun x => by omega)⟩
    · have o1 := o1.ext e3
      have o2 := o2.ext e3
      have e := e.trans e3
      dsimp only
      refine wp_ifB (fun hc => ?_) fun hc => ?_
      · obtain ⟨hc1, hc2⟩ := hb3.1 hc
        refine s_get4 rfl o2 (s_at2 (hb.ext e) h0 hc2 fun r hj => ?_)
        obtain ⟨f1, f2⟩ := hb.wf.get hj
        refine wp_call (c_behind (r := (r.1, r.2, ())) hv f1 f2 (by omega)) fun x h4 e4 hx => ?_
        obtain ⟨m, u'⟩ := x
        dsimp only at hx
        subst hx
        have hm := V.measure (r := r) f1
        have o2 := o2.ext e4
        have o1 := o1.ext e4
        refine s_store4 (add (sum (l.take i.toNat)) (measure r)) o2 ((hv.add hm).fits (by omega)) fun h5 o2 u5 => ?_
        rw [add_ok (by omega) (by omega)]
        refine s_ret ⟨fun _ => ⟨(i + 1, ()), rfl, ⟨by dsimp only; omega, by dsimp only; omega, by dsimp only; omega, Upd.extN (e.trans e4) u5 (by intro a ha; cases ha; exact e1.size),
          o1.obj_upd u5 (by dsimp only; omega), ?_⟩, by dsimp only; omega⟩, fun h => absurd rfl h⟩
        dsimp only
        rw [take_succ h0 hj, sum_snoc]; exact o2
      · have hno : ¬(i < n ∧ i < l.length) := fun x => by rw [hb3.2 x] at hc; cases hc
        have ht : l.take i.toNat = l.take n.toNat := by
          by_cases hx : i < n
          · rw [List.take_of_length_le (by omega), List.take_of_length_le (by omega)]
          · rw [show i.toNat = n.toNat by omega]
        rw [ht] at o2
        exact s_ret ⟨fun h => absurd h (by decide), fun _ => ⟨rfl, rfl, e, o1, o2⟩⟩
  · rintro t vs h' ⟨rfl, rfl, e, o1, o2⟩
    exact s_tag (s_cast0 (s_get4 rfl o2 (s_tell4 (sum (l.take n.toNat)) o1 (Nat.le_refl _) ((V.sum (hb.wf.take _)).fits (by rw [List.length_take]; omega)) e fun _ _ => rfl)))

theorem c_plain {s : Sl} {l : List (Int × Int)} (hb : Runs h s l) (hroom : l.length ≤ 4398046511104) : Gives P (F_law4_plain S s) [.one .sl] h fun (x : Sl × Unit) h' => OwnR h.size h' x.1 l := by
  have hlen := hb.len
  unfold F_law4_plain Gives
  refine wp_while (fun (s : Sl × Int × Unit) h' => Ext h h' ∧ 0 ≤ s.2.1 ∧ s.2.1 ≤ l.length ∧ OwnR h.size h' s.1 (l.take s.2.1.toNat)) (fun s _ => l.length - s.2.1.toNat)
    (fun t vs h' => t = 2 ∧ ∃ x : Sl × Unit, vs = Ts.inj [.one .sl] x ∧ Ext h h' ∧ OwnR h.size h' x.1 l) ⟨Ext.refl h, by simp, by simp, OwnR.nil ..⟩ ?_ ?_
  · rintro ⟨t, (i : Int), u⟩ h' ⟨e, h0, h1, ho⟩
    dsimp only at h0 h1 ho ⊢
    refine wp_ifB (fun hc => ?_) fun hc => ?_
    · rw [ltI_iff, natI_def, hlen] at hc
      have hlt : i.toNat < l.length := by omega
      have hj : l[i.toNat]? = some l[i.toNat] := List.getElem?_eq_getElem hlt
      obtain ⟨f1, f2⟩ := hb.wf.get hj
      refine s_part2 (x := l[i.toNat].1) (hb.ext e) h0 hc (fun r hr => .inl ⟨rfl, by rw [hj] at hr; cases hr; rfl⟩) (s_part2 (x := l[i.toNat].2) (hb.ext e) h0 hc (fun r hr => .inr ⟨rfl, by rw [hj] at hr; cases hr; rfl⟩) ?_)
      refine s_push2 ho e.size f1 f2 (by rw [List.length_take]; omega) fun r h2 k2 o2 => ?_
      rw [add_ok (by omega) (by omega)]
      refine s_ret ⟨fun _ => ⟨(r, i + 1, ()), rfl, ⟨Keep.trans e k2, by dsimp only; omega, by dsimp only; omega, ?_⟩, by dsimp only; omega⟩, fun h => absurd rfl h⟩
      dsimp only
      rw [take_succ h0 hj]; exact o2
    · rw [ltI_not, natI_def, hlen] at hc
      refine s_ret ⟨fun h => absurd h (by decide), fun _ => ⟨rfl, (t, ()), rfl, e, ?_⟩⟩
      rw [List.take_of_length_le (by omega)] at ho; exact ho
  · rintro t vs h' ⟨ht, x, hv, e, ho⟩
    exact s_exit ht x hv ⟨rfl, e, x, rfl, ho⟩

end Go.Sw.Tree

set_option linter.unusedVariables false
set_option linter.unusedSimpArgs false
set_option maxRecDepth 100000
namespace Go.Sw.Tree
variable {P : Program} {S : Ids} {h : Heap} {Q : Nat → List Value → Heap → Prop}

/-- One object of four numbers that is new. -/
theorem s_put4 (s : R4) {K : Addr → Prog} (hf : ∀ x, x ∈ [s.1, s.2.1, s.2.2.1, s.2.2.2.1] → fitsI .i64 x) (hk : ∀ h', Ext h h' → obj h.size h' ⟨h.size, 0, none⟩ s → wp P (K ⟨h.size, 0, none⟩) h' Q) :
    wp P (.alloc [.int .i64 0, .int .i64 0, .int .i64 0, .int .i64 0] fun a => .store (some a) [.int .i64 s.1, .int .i64 s.2.1, .int .i64 s.2.2.1, .int .i64 s.2.2.2.1] (K a)) h Q :=
  s_zero4 fun h1 e1 o1 => s_store4 s o1 hf fun h2 o2 u2 => hk h2 (Upd.extN e1 u2 (by intro a ha; cases ha; exact Nat.le_refl _)) o2

/-- What is told by the address of an object. -/
def Told (h0 : Heap) (s : R4) (t : Nat) (vs : List Value) (h' : Heap) : Prop := t = 0 ∧ ∃ p : Addr, vs = [.pointer (some p)] ∧ Ext h0 h' ∧ obj h0.size h' p s

theorem s_told {h0 : Heap} {n : Nat} {a : Addr} {t : R4} (s : R4) (ho : obj n h a t) (hn : h0.size ≤ n) (hf : ∀ x, x ∈ [s.1, s.2.1, s.2.2.1, s.2.2.2.1] → fitsI .i64 x) (e : Ext h0 h) :
    wp P (.store (some a) [.int .i64 s.1, .int .i64 s.2.1, .int .i64 s.2.2.1, .int .i64 s.2.2.2.1] <| .ret 0 [.pointer (some a)]) h (Told h0 s) :=
  s_store4 s ho hf fun h' o u => s_ret ⟨rfl, a, rfl, Upd.extN e u fun b hb => Nat.le_trans hn (ho.base b hb), o.mono hn⟩

theorem c_TreeRuns {a b c : Sl} {la lb lc : List (Int × Int)} (ha : Runs h a la) (hb : Runs h b lb) (hc : Runs h c lc) : Gives P (F_law4_TreeRuns S a b c) [.one .bool] h fun (x : Bool × Unit) _ => x.1 = true := by
  have na := ha.len; have nb := hb.len; have nc := hc.len
  unfold F_law4_TreeRuns Gives
  refine bind_bool (1099511627776 < la.length ∨ 1099511627776 < lb.length ∨ 1099511627776 < lc.length) ?_ fun big h1 e1 hbig => ?_
  · refine wp_ifB (fun hx => ?_) fun hx => ?_
    · rw [gtI_iff, natI_def, na] at hx
      exact s_ret ⟨rfl, Ext.refl _, true, rfl, fun _ => .inl (by omega), fun _ => rfl⟩
    · rw [gtI_not, natI_def, na] at hx
      refine wp_ifB (fun hy => ?_) fun hy => ?_
      · rw [gtI_iff, natI_def, nb] at hy
        exact s_ret ⟨rfl, Ext.refl _, true, rfl, fun _ => .inr (.inl (by omega)), fun _ => rfl⟩
      · rw [gtI_not, natI_def, nb] at hy
        refine s_ret ⟨rfl, Ext.refl _, gtI (natI c.len) 1099511627776, rfl, ?_⟩
        rw [gtI_iff, natI_def, nc]; omega
  dsimp only
  refine wp_ifB (fun hx => s_ret ⟨rfl, e1, (true, ()), rfl, rfl⟩) fun hx => ?_
  have hno : ¬(1099511627776 < la.length ∨ 1099511627776 < lb.length ∨ 1099511627776 < lc.length) := fun x => by rw [hbig.2 x] at hx; cases hx
  have h32 : wfR [((3 : Int), (2 : Int))] := by intro r hr; rw [List.mem_singleton.1 hr]; exact ⟨fits_i64.2 (by decide), fits_i64.2 (by decide)⟩
  have ga := V.sum ha.wf; have gb := V.sum hb.wf
  have gz := V.sum (hc.wf.append h32)
  rw [List.length_append] at gz
  -- the whole list
  refine s_append2 (OwnR.nil h1.size h1) (Nat.le_refl _) (ha.ext e1) (by simp; omega) fun r1 h2 k2 p1 => ?_
  rw [List.nil_append] at p1
  have s2 := k2.size
  have e2 : Ext h h2 := e1.trans k2
  refine s_append2 p1 s2 (hb.ext e2) (by omega) fun r2 h3 k3 p2 => ?_
  have s3 : h1.size ≤ h3.size := Nat.le_trans s2 k3.size
  have e3 : Ext h h3 := e1.trans (Keep.trans (k2 : Ext h1 h2) k3)
  refine s_append2 p2 s3 (hc.ext e3) (by rw [List.length_append]; omega) fun r3 h4 k4 p3 => ?_
  have e13 : Ext h1 h4 := Keep.trans (Keep.trans (k2 : Ext h1 h2) k3) k4
  refine s_push2 p3 e13.size (h32 _ (List.mem_singleton_self _)).1 (h32 _ (List.mem_singleton_self _)).2 (by rw [List.length_append, List.length_append]; omega) fun r4 h5 k5 p4 => ?_
  have e5 : Ext h h5 := e1.trans (Keep.trans e13 k5)
  -- x, y, z
  refine wp_call (c_added (ha.ext e5) (by omega)) fun x h6 e6 hx6 => ?_
  obtain ⟨x, u6⟩ := x
  dsimp only at hx6
  subst hx6
  refine s_put4 (sum la) (ga.fits (by omega)) fun h7 e7 ox => ?_
  have e57 := e5.trans (e6.trans e7)
  refine wp_call (c_added (hb.ext e57) (by omega)) fun x h8 e8 hx8 => ?_
  obtain ⟨x, u8⟩ := x
  dsimp only at hx8
  subst hx8
  refine s_put4 (sum lb) (gb.fits (by omega)) fun h9 e9 oy => ?_
  have e9' := e57.trans (e8.trans e9)
  refine s_append2 (OwnR.nil h9.size h9) (Nat.le_refl _) (hc.ext e9') (by simp; omega) fun r5 h10 k10 p5 => ?_
  rw [List.nil_append] at p5
  refine s_push2 p5 k10.size (h32 _ (List.mem_singleton_self _)).1 (h32 _ (List.mem_singleton_self _)).2 (by omega) fun r6 h11 k11 p6 => ?_
  have e911 : Ext h9 h11 := Keep.trans k10 k11
  refine wp_call (c_added p6.runs (by simp; omega)) fun x h12 e12 hx12 => ?_
  obtain ⟨x, u12⟩ := x
  dsimp only at hx12
  subst hx12
  refine s_put4 (sum (lc ++ [(3, 2)])) (gz.fits (by simp; omega)) fun h13 e13' oz => ?_
  have e913 := (e911.trans e12).trans e13'
  have ox := ox.ext ((e8.trans e9).trans e913)
  have oy := oy.ext e913
  have eall := e9'.trans e913
  have q4 := p4.ext (((e6.trans e7).trans (e8.trans e9)).trans e913)
  clear p1 p2 p3 p4 p5 p6 k2 k3 k4 k5 k10 k11 e13
  -- what they add up to
  have hall : sum (la ++ lb ++ lc ++ [(3, 2)]) = add (add (sum la) (sum lb)) (sum (lc ++ [(3, 2)])) := by
    rw [List.append_assoc (la ++ lb), sum_append (ha.wf.append hb.wf) (hc.wf.append h32), sum_append ha.wf hb.wf]
  have hass := add_assoc4 ga gb gz
  have gl : V (la.length + lb.length + (lc.length + [((3 : Int), (2 : Int))].length)) (add (add (sum la) (sum lb)) (sum (lc ++ [(3, 2)]))) := (ga.add gb).add gz
  have hn : la.length + lb.length + (lc.length + [((3 : Int), (2 : Int))].length) ≤ 4398046511104 := by simp; omega
  have hn1 : la.length + lb.length ≤ 4398046511104 := by omega
  have hn2 : lb.length + (lc.length + [((3 : Int), (2 : Int))].length) ≤ 4398046511104 := by simp; omega
  have hn3 : la.length + (lb.length + (lc.length + [((3 : Int), (2 : Int))].length)) ≤ 4398046511104 := by simp; omega
  generalize hL : add (add (sum la) (sum lb)) (sum (lc ++ [(3, 2)])) = L at *
  have gab := ga.add gb
  have gbz := gb.add gz
  have fL := gl.fits hn
  refine wp_bind (Told h13 L) ⟨?_, ?_, ?_⟩ ?_
  · refine s_get4 rfl ox (s_get4 rfl oy (s_get4 rfl oz (wp_call (c_Add ga gb hn1) fun x k1 d1 hx1 => ?_)))
    obtain ⟨x, w1⟩ := x
    dsimp only at hx1
    subst hx1
    refine s_same4 (oz.ext d1) (wp_call (c_Add gab gz hn) fun x k2 d2 hx2 => ?_)
    obtain ⟨x, w2⟩ := x
    dsimp only at hx2
    rw [hL] at hx2
    subst hx2
    refine s_zero4 fun k3 d3 o3 => ?_
    have d := (d1.trans d2).trans d3
    exact s_same4 (oz.ext d) (s_same4 (oy.ext d) (s_same4 (ox.ext d) (s_told x o3 (d1.trans d2).size fL d)))
  · refine s_get4 rfl ox (s_get4 rfl oy (s_get4 rfl oz (wp_call (c_Add ga gb hn1) fun x k1 d1 hx1 => ?_)))
    obtain ⟨x, w1⟩ := x
    dsimp only at hx1
    subst hx1
    refine s_same4 (oz.ext d1) (s_zero4 fun k2 d2 o2 => ?_)
    have d := d1.trans d2
    refine s_same4 (oz.ext d) (s_same4 (oy.ext d) (s_same4 (ox.ext d) (wp_call (c_Add gab gz hn) fun x k3 d3 hx2 => ?_)))
    obtain ⟨x, w2⟩ := x
    dsimp only at hx2
    rw [hL] at hx2
    subst hx2
    exact s_told x (o2.ext d3) d1.size fL (d.trans d3)
  · refine s_get4 rfl ox (s_get4 rfl oy (s_get4 rfl oz (s_zero4 fun k1 d1 o1 => ?_)))
    refine s_same4 (oz.ext d1) (s_same4 (oy.ext d1) (s_same4 (ox.ext d1) (wp_call (c_Add ga gb hn1) fun x k2 d2 hx1 => ?_)))
    obtain ⟨x, w1⟩ := x
    dsimp only at hx1
    subst hx1
    refine s_same4 (oz.ext (d1.trans d2)) (wp_call (c_Add gab gz hn) fun x k3 d3 hx2 => ?_)
    obtain ⟨x, w2⟩ := x
    dsimp only at hx2
    rw [hL] at hx2
    subst hx2
    exact s_told x (o1.ext (d2.trans d3)) (Nat.le_refl _) fL ((d1.trans d2).trans d3)
  rintro t vs h14 ⟨rfl, pl, rfl, e14, ol⟩
  refine s_tag ⟨(some pl, ()), rfl, ?_⟩
  dsimp only
  have ox := ox.ext e14
  have oy := oy.ext e14
  have oz := oz.ext e14
  refine wp_bind (Told h14 L) ⟨?_, ?_, ?_⟩ ?_
  · refine s_get4 rfl ox (s_get4 rfl oy (s_get4 rfl oz (wp_call (c_Add gb gz hn2) fun x k1 d1 hx1 => ?_)))
    obtain ⟨x, w1⟩ := x
    dsimp only at hx1
    subst hx1
    refine s_same4 (ox.ext d1) (wp_call (c_Add ga gbz hn3) fun x k2 d2 hx2 => ?_)
    obtain ⟨x, w2⟩ := x
    dsimp only at hx2
    rw [← hass] at hx2
    subst hx2
    refine s_zero4 fun k3 d3 o3 => ?_
    have d := (d1.trans d2).trans d3
    exact s_same4 (oz.ext d) (s_same4 (oy.ext d) (s_same4 (ox.ext d) (s_told x o3 (d1.trans d2).size fL d)))
  · refine s_get4 rfl ox (s_get4 rfl oy (s_get4 rfl oz (wp_call (c_Add gb gz hn2) fun x k1 d1 hx1 => ?_)))
    obtain ⟨x, w1⟩ := x
    dsimp only at hx1
    subst hx1
    refine s_same4 (ox.ext d1) (s_zero4 fun k2 d2 o2 => ?_)
    have d := d1.trans d2
    refine s_same4 (oz.ext d) (s_same4 (oy.ext d) (s_same4 (ox.ext d) (wp_call (c_Add ga gbz hn3) fun x k3 d3 hx2 => ?_)))
    obtain ⟨x, w2⟩ := x
    dsimp only at hx2
    rw [← hass] at hx2
    subst hx2
    exact s_told x (o2.ext d3) d1.size fL (d.trans d3)
  · refine s_get4 rfl ox (s_get4 rfl oy (s_get4 rfl oz (s_zero4 fun k1 d1 o1 => ?_)))
    refine s_same4 (oz.ext d1) (s_same4 (oy.ext d1) (s_same4 (ox.ext d1) (wp_call (c_Add gb gz hn2) fun x k2 d2 hx1 => ?_)))
    obtain ⟨x, w1⟩ := x
    dsimp only at hx1
    subst hx1
    refine s_same4 (ox.ext (d1.trans d2)) (wp_call (c_Add ga gbz hn3) fun x k3 d3 hx2 => ?_)
    obtain ⟨x, w2⟩ := x
    dsimp only at hx2
    rw [← hass] at hx2
    subst hx2
    exact s_told x (o1.ext (d2.trans d3)) (Nat.le_refl _) fL ((d1.trans d2).trans d3)
  rintro t vs h15 ⟨rfl, pr, rfl, e15, orr⟩
  refine s_tag ⟨(some pr, ()), rfl, ?_⟩
  dsimp only
  have ox := ox.ext e15
  have ol := ol.ext e15
  have q4 := q4.ext (e14.trans e15)
  have eall := eall.trans (e14.trans e15)
  refine wp_call (c_plain q4.runs (by simp; omega)) fun x h16 e16 hx16 => ?_
  obtain ⟨(sp : Sl), u16⟩ := x
  dsimp only at hx16 ⊢
  have hq4 := q4.len
  refine wp_call (c_Upto hx16.runs (by simp; omega)) fun x h17 e17 hx17 => ?_
  obtain ⟨x, u17⟩ := x
  dsimp only at hx17
  rw [natI_def, hq4, Int.toNat_natCast, List.take_length, hall] at hx17
  subst hx17
  refine s_put4 x fL fun h18 e18 ow => ?_
  have e1518 := (e16.trans e17).trans e18
  have ox := ox.ext e1518
  have ol := ol.ext e1518
  have orr := orr.ext e1518
  have eall := eall.trans e1518
  refine bind_bool False ?_ fun b h19 e19 hb19 => ?_
  · refine s_get4 rfl ol (s_get4 rfl ow (wp_call (c_sameRuns gl hn) fun y k1 d1 hy => ?_))
    obtain ⟨(y : Bool), w1⟩ := y
    dsimp only at hy ⊢
    subst hy
    refine s_ifF (s_get4 rfl (orr.ext d1) (s_get4 rfl (ow.ext d1) (wp_call (c_sameRuns gl hn) fun y k2 d2 hy => ?_)))
    obtain ⟨(y : Bool), w2⟩ := y
    dsimp only at hy ⊢
    subst hy
    exact s_ret ⟨rfl, d1.trans d2, false, rfl, Iff.intro (fun x => by cases x) False.elim⟩
  have hbf : b = false := by cases b; rfl; exact (hb19.1 rfl).elim
  subst hbf
  dsimp only
  have ox := ox.ext e19
  have ol := ol.ext e19
  have ow := ow.ext e19
  have eall := eall.trans e19
  refine s_ifF (wp_while (fun (s : Int × Unit) h' => -2 ≤ s.1 ∧ s.1 ≤ 4 ∧ Ext h19 h') (fun s _ => (4 - s.1).toNat) (fun t vs h' => t = 2 ∧ vs = [] ∧ Ext h19 h') ⟨by simp, by simp, Ext.refl _⟩ ?_ ?_)
  · rintro ⟨(k : Int), u⟩ h20 ⟨k0, k1, e20⟩
    dsimp only at k0 k1 ⊢
    have ox := ox.ext e20
    have ol := ol.ext e20
    have ow := ow.ext e20
    refine wp_ifB (fun hk => ?_) fun hk => ?_
    · rw [leI_iff] at hk
      refine bind_bool False ?_ fun b h21 e21 hb21 => ?_
      · refine s_get4 rfl ol (s_get4 rfl ow (wp_call (c_Key gl hn) fun y k1 d1 hy => ?_))
        obtain ⟨(y : Int), w1⟩ := y
        dsimp only at hy ⊢
        subst hy
        refine s_same4 (ow.ext d1) (wp_call (c_refKey gl hn) fun y k2 d2 hy => ?_)
        obtain ⟨(y : Int), w2⟩ := y
        dsimp only at hy ⊢
        subst hy
        have d := d1.trans d2
        rw [show ∀ v, neI v v = false from fun v => neI_not.2 rfl]
        refine s_ifF (s_get4 rfl (ol.ext d) (s_get4 rfl (ox.ext d) (wp_call (c_Key gl hn) fun y k3 d3 hy => ?_)))
        obtain ⟨(y : Int), w3⟩ := y
        dsimp only at hy ⊢
        subst hy
        refine s_same4 (ox.ext (d.trans d3)) (wp_call (c_Key ga (by omega)) fun y k4 d4 hy => ?_)
        obtain ⟨(y : Int), w4⟩ := y
        dsimp only at hy ⊢
        subst hy
        have hmono := key_mono ga gbz k
        rw [← hass] at hmono
        refine s_ret ⟨rfl, (d.trans d3).trans d4, ltI (key x k) (key (sum la) k), rfl, Iff.intro (fun hz => ?_) False.elim⟩
        rw [ltI_iff] at hz; omega
      · have hbf : b = false := by cases b; rfl; exact (hb21.1 rfl).elim
        subst hbf
        dsimp only
        rw [add_ok (by omega) (by omega)]
        exact s_ifF (s_ret ⟨fun _ => ⟨(k + 1, ()), rfl, ⟨by dsimp only; omega, by dsimp only; omega, e20.trans e21⟩, by dsimp only; omega⟩, fun h => absurd rfl h⟩)
    · exact s_ret ⟨fun h => absurd h (by decide), fun _ => ⟨rfl, rfl, e20⟩⟩
  · rintro t vs h20 ⟨rfl, rfl, e20⟩
    exact s_tag (s_cast0 (s_ret ⟨rfl, eall.trans e20, (true, ()), rfl, rfl⟩))

end Go.Sw.Tree

namespace Go.Sw.Tree
open Go.ChangeShapes Go.WideShapes Go.ChangeAt Go.RowKit Go.WideElems
variable {H : Type} {enc : TypeId × Value → H} {P : Program}

theorem open_runs {t e : TypeId} {f0 f1 : Field} {W : World} {v : Value} {d : DataW H} {p : List MemPlace} {r : Reach} {b0 : Nat} (ht : P.underlying t = some (.slice e)) (hs : P.underlying e = some (.struct #[f0, f1]))
    (h0 : P.underlying f0.type = some (.int .i64)) (h1 : P.underlying f1.type = some (.int .i64)) (o0 : f0.offset = 0) (o1 : f1.offset = 1) (k0 : P.cellsOf f0.type = 1) (k1 : P.cellsOf f1.type = 1) (hC : P.cellsOf e = 2)
    (hval : Value.okWide P W r b0 t v) (h : DataW.Trod enc P W 0 (fun _ => true) true t v d p) : ∃ (s : Sl) (l : List (Int × Int)), v = .slice s.base s.len s.cap ∧ Runs W.heap s l := by
  obtain ⟨fuel, h⟩ := h
  obtain ⟨a', len', cap', rfl⟩ := okWide_slice ht hval
  rcases Go.Deep.open_slice ht h with ⟨e1, e2⟩ | ⟨a, len, cap, m, n, D, Pl, e1, _, h2, h3, h4, h5, h6⟩
  · simp [Value.cells] at e1
    obtain ⟨rfl, rfl, rfl⟩ := e1
    exact ⟨⟨none, 0, 0⟩, [], rfl, ⟨⟨rfl, fun i v hi => by simp [cR] at hi⟩, Nat.le_refl _, (by decide), by simp [wfR]⟩⟩
  · simp only [if_true] at h4
    subst h4
    simp [Value.cells] at e1
    obtain ⟨rfl, rfl, rfl⟩ := e1
    have key : ∀ i, i < cap' → ∃ xy : Int × Int, (Sw.cell W.heap (a.add (i * 2)) = some (.int .i64 xy.1) ∧ Sw.cell W.heap (a.add (i * 2 + 1)) = some (.int .i64 xy.2)) ∧ fitsI .i64 xy.1 ∧ fitsI .i64 xy.2 := by
      intro i hi
      obtain ⟨cs, c1, c2⟩ := h6 i hi
      rw [hC] at c1
      obtain ⟨_, c3, c4⟩ := World.cells?_some c1
      obtain ⟨y0, y1, n', hx, _, t0, t1⟩ := trod_struct2 hs c2
      rw [o0, k0] at t0
      rw [o1, k1] at t1
      match cs, c3 with
      | [u0, u1], _ =>
        obtain ⟨x, ex, _, wx⟩ := DataW.trod_int h0 (by simpa using t0)
        obtain ⟨y, ey, _, wy⟩ := DataW.trod_int h1 (by simpa using t1)
        simp at ex ey
        subst ex; subst ey
        refine ⟨(x, y), ⟨?_, ?_⟩, wf_fits wx, wf_fits wy⟩
        · have := c4 0 (by decide)
          rw [Go.Deep.add_add] at this
          exact this
        · have := c4 1 (by decide)
          rw [Go.Deep.add_add] at this
          exact this
    obtain ⟨F, hF⟩ := Go.Deep.choose_lt key
    have hw : wfR ((List.range len').map F) := by
      intro r hr
      obtain ⟨i, hi, rfl⟩ := List.mem_map.1 hr
      exact (hF i (by have := List.mem_range.1 hi; omega)).2
    refine ⟨⟨some a, len', cap'⟩, (List.range len').map F, rfl, ⟨⟨by rw [cR_len]; simp, fun i v hi => ⟨a, rfl, ?_⟩⟩, h2, Nat.lt_of_le_of_lt h3 (by decide), hw⟩⟩
    have hlt := (List.getElem?_eq_some_iff.1 hi).1
    rw [cR_len, List.length_map, List.length_range] at hlt
    have hj : ((List.range len').map F)[i / 2]? = some (F (i / 2)) := by
      rw [List.getElem?_map, List.getElem?_range (by omega)]; rfl
    obtain ⟨g1, g2⟩ := cR_at _ _ _ hj
    obtain ⟨⟨q1, q2⟩, _⟩ := hF (i / 2) (by omega)
    rcases Nat.mod_two_eq_zero_or_one i with hm | hm
    · have : i / 2 * 2 = i := by omega
      rw [this] at g1 q1
      rw [g1] at hi; cases hi; exact q1
    · have : i / 2 * 2 + 1 = i := by omega
      rw [this] at g2 q2
      rw [g2] at hi; cases hi; exact q2

end Go.Sw.Tree

set_option linter.unusedVariables false
set_option linter.unusedSimpArgs false
set_option maxRecDepth 100000
namespace Go.Sw
variable {P : Program} {h : Heap} {Q : Nat → List Value → Heap → Prop}

theorem Own.cells {n m c : Nat} {h : Heap} {a : Addr} {vs : List Value} (ho : Own n 1 h ⟨some a, m, c⟩ vs) : Cells h a vs :=
  cells_iff.2 fun j v hj => by obtain ⟨a', e, x⟩ := ho.rd.2 j v hj; cases e; exact x

/-- The last cells of an object, written over. -/
theorem s_putEnd {n m c j : Nat} {a : Addr} {pre old : List Value} (new : List Value) {K : Prog} (ho : Own n 1 h ⟨some a, m, c⟩ (pre ++ old)) (hj : j = pre.length) (hl : new.length = old.length) (hf : ∀ v ∈ new, flat v = true)
    (hk : ∀ h', Own n 1 h' ⟨some a, m, c⟩ (pre ++ new) → Upd ⟨some a, m, c⟩ h h' → wp P K h' Q) : wp P (.store (shiftTo (some a) j) new K) h Q := by
  subst hj
  obtain ⟨o1, o2, o3, o4⟩ := ho
  obtain ⟨b, off, spot⟩ := a
  obtain ⟨e0, e1, e2, cs, elem, e3, e4, e5⟩ := o4
  dsimp only at e0 e1 e2 e3 o1 o2 o3 e4
  subst e0; subst e1
  have hadd : ((Addr.mk b 0 none).add pre.length) = ⟨b, pre.length, none⟩ := by simp [add_mk]
  rw [List.length_append] at o1
  obtain ⟨w, cs', c1, c2, c3, c4, c5, c6⟩ := puts_block (vs := new) (i := 0) (off := pre.length) e3 hf (by omega)
  refine ⟨⟨b, pre.length, none⟩, by rw [shiftTo_some, hadd], w, hk _ ⟨by rw [List.length_append]; dsimp only; omega, by dsimp only; omega, o3, rfl, rfl, e2, cs', elem, c1, by rw [c2, e4], fun i v hi => ?_⟩
    ⟨by unfold puts; omega, fun j hj hne => c6 j fun e => (hne _ rfl) e.symm, fun a e => by unfold puts; rw [thaw_putFrom]; exact e⟩⟩
  by_cases hi' : i < pre.length
  · rw [List.getElem?_append_left hi'] at hi
    rw [c4 i (by omega)]
    exact e5 i v (by rw [List.getElem?_append_left hi']; exact hi)
  · rw [List.getElem?_append_right (by omega)] at hi
    have := c3 (i - pre.length) v hi
    rw [show pre.length + 0 + (i - pre.length) = i by omega] at this
    exact this

theorem s_cell {b : B} {p : Option Addr} {a : Addr} {vs : List Value} {j : Nat} (x : b.den) {K : b.den → Prog} (hp : p = some a) (hc : Cells h a vs) (hj : vs[j]? = some (b.inj x)) (hk : wp P (K x) h Q) :
    wp P (.load (.one b) (shiftTo p j) K) h Q := by
  subst hp
  exact wp_load1 (a.add j) x rfl (cells_iff.1 hc j _ hj) hk
theorem s_cells4 {k : IntKind} {p : Option Addr} {a : Addr} {vs : List Value} {j : Nat} {x y z w : Int} {K : (Int × Int × Int × Int × Unit) → Prog} (hp : p = some a) (hc : Cells h a vs)
    (h0 : vs[j]? = some (.int k x)) (h1 : vs[j + 1]? = some (.int k y)) (h2 : vs[j + 2]? = some (.int k z)) (h3 : vs[j + 3]? = some (.int k w)) (hk : wp P (K (x, y, z, w, ())) h Q) :
    wp P (.load (.agg [.int k, .int k, .int k, .int k]) (shiftTo p j) K) h Q := by
  subst hp
  refine ⟨a.add j, rfl, (x, y, z, w, ()), cells_iff.2 fun i v hi => ?_, hk⟩
  rw [add_add]
  match i, hi with
  | 0, hi => simp [Ty.cells, Bs.inj] at hi; subst hi; exact cells_iff.1 hc _ _ h0
  | 1, hi => simp [Ty.cells, Bs.inj] at hi; subst hi; exact cells_iff.1 hc _ _ h1
  | 2, hi => simp [Ty.cells, Bs.inj] at hi; subst hi; exact cells_iff.1 hc _ _ h2
  | 3, hi => simp [Ty.cells, Bs.inj] at hi; subst hi; exact cells_iff.1 hc _ _ h3
  | i + 4, hi => simp [Ty.cells, Bs.inj] at hi
theorem s_cells2 {k : IntKind} {p : Option Addr} {a : Addr} {vs : List Value} {j : Nat} {x y : Int} {K : (Int × Int × Unit) → Prog} (hp : p = some a) (hc : Cells h a vs)
    (h0 : vs[j]? = some (.int k x)) (h1 : vs[j + 1]? = some (.int k y)) (hk : wp P (K (x, y, ())) h Q) : wp P (.load (.agg [.int k, .int k]) (shiftTo p j) K) h Q := by
  subst hp
  refine ⟨a.add j, rfl, (x, y, ()), cells_iff.2 fun i v hi => ?_, hk⟩
  rw [add_add]
  match i, hi with
  | 0, hi => simp [Ty.cells, Bs.inj] at hi; subst hi; exact cells_iff.1 hc _ _ h0
  | 1, hi => simp [Ty.cells, Bs.inj] at hi; subst hi; exact cells_iff.1 hc _ _ h1
  | i + 2, hi => simp [Ty.cells, Bs.inj] at hi
theorem s_check0 {p : Option Addr} {a : Addr} {vs : List Value} {K : Prog} (hp : p = some a) (hc : Cells h a vs) (hk : wp P K h Q) : wp P (.check p vs K) h Q := ⟨⟨a, hp, hc⟩, hk⟩
theorem grd_some {p : Option Addr} {a : Addr} {X : Prog} (hp : p = some a) (h1 : wp P X h Q) : wp P (grd (someB p) X) h Q := by subst hp; exact wp_grd rfl h1
end Go.Sw

namespace Go.Sw.Tree
variable {P : Program} {S : Ids} {h : Heap} {Q : Nat → List Value → Heap → Prop}

inductive BT where
  | nil
  | node (l : BT) (x : Int × Int) (r : BT)
def BT.list : BT → List (Int × Int)
  | .nil => []
  | .node l x r => l.list ++ x :: r.list
def BT.ht : BT → Nat
  | .nil => 0
  | .node l _ r => max l.ht r.ht + 1
theorem BT.ht_le : ∀ t : BT, t.ht ≤ t.list.length
  | .nil => Nat.le_refl _
  | .node l x r => by have := l.ht_le; have := r.ht_le; simp only [BT.ht, BT.list, List.length_append, List.length_cons]; omega

abbrev iv (n : Int) : Value := .int .i64 n
def sumV (s : R4) : List Value := [iv s.1, iv s.2.1, iv s.2.2.1, iv s.2.2.2.1]
def headV (pl pr : Option Addr) (t l r : BT) (x : Int × Int) : List Value := [.pointer pl, .pointer pr, iv x.1, iv x.2, iv t.list.length, iv t.ht]
def Nd (h : Heap) : Option Addr → BT → Prop
  | p, .nil => p = none
  | p, .node l x r => ∃ a pl pr, p = some a ∧ Cells h a (headV pl pr (.node l x r) l r x ++ sumV (sum (BT.node l x r).list)) ∧ Nd h pl l ∧ Nd h pr r
theorem Nd.ext {h h' : Heap} (e : Ext h h') : ∀ {t : BT} {p : Option Addr}, Nd h p t → Nd h' p t
  | .nil, _, n => n
  | .node l x r, p, ⟨a, pl, pr, e1, c, n1, n2⟩ => ⟨a, pl, pr, e1, e.cells c, Nd.ext e n1, Nd.ext e n2⟩
theorem wf_left {l r : BT} {x : Int × Int} (w : wfR (BT.node l x r).list) : wfR l.list := fun y hy => w y (by simp [BT.list, hy])
theorem wf_right {l r : BT} {x : Int × Int} (w : wfR (BT.node l x r).list) : wfR r.list := fun y hy => w y (by simp [BT.list, hy])
theorem wf_mid {l r : BT} {x : Int × Int} (w : wfR (BT.node l x r).list) : fitsI .i64 x.1 ∧ fitsI .i64 x.2 := w x (by simp [BT.list])
theorem wf_node {l r : BT} {x : Int × Int} (a : wfR l.list) (b : fitsI .i64 x.1 ∧ fitsI .i64 x.2) (c : wfR r.list) : wfR (BT.node l x r).list := by
  intro y hy
  simp only [BT.list, List.mem_append, List.mem_cons] at hy
  rcases hy with hy | rfl | hy
  · exact a y hy
  · exact b
  · exact c y hy
theorem node_len (l r : BT) (x : Int × Int) : (BT.node l x r).list.length = l.list.length + 1 + r.list.length := by simp [BT.list]; omega
theorem sum_node {l r : BT} {x : Int × Int} (w : wfR (BT.node l x r).list) : sum (BT.node l x r).list = add (add (sum l.list) (measure x)) (sum r.list) := by
  have h1 : wfR [x] := fun y hy => by rw [List.mem_singleton.1 hy]; exact wf_mid w
  rw [show (BT.node l x r).list = (l.list ++ [x]) ++ r.list by simp [BT.list], sum_append ((wf_left w).append h1) (wf_right w), sum_snoc]
theorem flat_iv : ∀ (s : R4), ∀ v ∈ sumV s, flat v = true := by
  intro s v hv
  simp only [sumV, List.mem_cons, List.not_mem_nil, or_false] at hv
  rcases hv with rfl | rfl | rfl | rfl <;> rfl

theorem c_count {p : Option Addr} {t : BT} (ht : Nd h p t) : Gives P (F_node_Run_count S p) [.one (.int .i64)] h fun (x : Int × Unit) _ => x.1 = t.list.length := by
  unfold F_node_Run_count Gives
  cases t with
  | nil => obtain rfl := ht; exact s_ifT (s_ret ⟨rfl, Ext.refl _, (0, ()), rfl, rfl⟩)
  | node l x r =>
    obtain ⟨a, pl, pr, rfl, c, _, _⟩ := ht
    exact s_ifF (grd_some rfl (grd_some rfl (s_cell (b := .int .i64) (x := (((BT.node l x r).list.length : Nat) : Int)) rfl c rfl (s_ret ⟨rfl, Ext.refl _, (((BT.node l x r).list.length : Nat), ()), rfl, rfl⟩))))
theorem c_tall {p : Option Addr} {t : BT} (ht : Nd h p t) : Gives P (F_node_Run_tall S p) [.one (.int .i64)] h fun (x : Int × Unit) _ => x.1 = t.ht := by
  unfold F_node_Run_tall Gives
  cases t with
  | nil => obtain rfl := ht; exact s_ifT (s_ret ⟨rfl, Ext.refl _, (0, ()), rfl, rfl⟩)
  | node l x r =>
    obtain ⟨a, pl, pr, rfl, c, _, _⟩ := ht
    exact s_ifF (grd_some rfl (grd_some rfl (s_cell (b := .int .i64) (x := (((BT.node l x r).ht : Nat) : Int)) rfl c rfl (s_ret ⟨rfl, Ext.refl _, (((BT.node l x r).ht : Nat), ()), rfl, rfl⟩))))

/-- A node's sum. -/
theorem s_sum {p : Option Addr} {l r : BT} {x : Int × Int} {K : R4 → Prog} (ht : Nd h p (.node l x r)) (hk : wp P (K (sum (BT.node l x r).list)) h Q) :
    wp P (grd (someB p) <| grd (someB p) <| .load A4 (shiftTo p 6) K) h Q := by
  obtain ⟨a, pl, pr, rfl, c, _, _⟩ := ht
  exact grd_some rfl (grd_some rfl (s_cells4 (x := (sum (BT.node l x r).list).1) (y := (sum (BT.node l x r).list).2.1) (z := (sum (BT.node l x r).list).2.2.1) (w := (sum (BT.node l x r).list).2.2.2.1) rfl c rfl rfl rfl rfl hk))
theorem s_left {p : Option Addr} {l r : BT} {x : Int × Int} {K : Option Addr → Prog} (ht : Nd h p (.node l x r)) (hk : ∀ q, Nd h q l → wp P (K q) h Q) :
    wp P (grd (someB p) <| grd (someB p) <| .load (.one .ptr) (shiftTo p 0) K) h Q := by
  obtain ⟨a, pl, pr, rfl, c, n1, n2⟩ := ht
  exact grd_some rfl (grd_some rfl (s_cell (b := .ptr) (x := pl) rfl c rfl (hk pl n1)))
theorem s_right {p : Option Addr} {l r : BT} {x : Int × Int} {K : Option Addr → Prog} (ht : Nd h p (.node l x r)) (hk : ∀ q, Nd h q r → wp P (K q) h Q) :
    wp P (grd (someB p) <| grd (someB p) <| .load (.one .ptr) (shiftTo p 1) K) h Q := by
  obtain ⟨a, pl, pr, rfl, c, n1, n2⟩ := ht
  exact grd_some rfl (grd_some rfl (s_cell (b := .ptr) (x := pr) rfl c rfl (hk pr n2)))
theorem s_item {p : Option Addr} {l r : BT} {x : Int × Int} {K : R2 → Prog} (ht : Nd h p (.node l x r)) (hk : wp P (K (x.1, x.2, ())) h Q) :
    wp P (grd (someB p) <| grd (someB p) <| .load (.agg [.int .i64, .int .i64]) (shiftTo p 2) K) h Q := by
  obtain ⟨a, pl, pr, rfl, c, n1, n2⟩ := ht
  exact grd_some rfl (grd_some rfl (s_cells2 (x := x.1) (y := x.2) rfl c rfl rfl hk))

theorem c_of {pl pr : Option Addr} {l r : BT} {x : R2} (nl : Nd h pl l) (nr : Nd h pr r) (hw : wfR (BT.node l (x.1, x.2.1) r).list) (hroom : (BT.node l (x.1, x.2.1) r).list.length ≤ 4398046511104) :
    Gives P (F_tree_of_Run S pl x pr) [.one .ptr] h fun (y : Option Addr × Unit) h' => Nd h' y.1 (.node l (x.1, x.2.1) r) := by
  obtain ⟨(kd : Int), (n : Int), u⟩ := x
  dsimp only at hw hroom ⊢
  obtain ⟨f1, f2⟩ := wf_mid hw
  have hl := node_len l r (kd, n)
  have hsum := sum_node hw
  have vl := V.sum (wf_left hw)
  have vr := V.sum (wf_right hw)
  have vm := V.measure (r := (kd, n)) f1
  have g1 := l.ht_le; have g2 := r.ht_le
  unfold F_tree_of_Run Gives
  refine s_new2 kd n f1 f2 fun h1 e1 o1 => ?_
  have ld : ∀ {h'} {K : R2 → Prog} {Q : Nat → List Value → Heap → Prop}, Ext h1 h' → wp P (K (kd, n, ())) h' Q → wp P (.load (.agg [.int .i64, .int .i64]) (some ⟨h.size, 0, none⟩) K) h' Q := fun e hk =>
    ⟨_, rfl, (kd, n, ()), (o1.ext e).lst.cells, hk⟩
  have ck : ∀ {h'} {K : Prog} {Q : Nat → List Value → Heap → Prop}, Ext h1 h' → wp P K h' Q → wp P (.check (some ⟨h.size, 0, none⟩) [iv kd, iv n] K) h' Q := fun e hk =>
    s_check0 rfl (o1.ext e).lst.cells hk
  refine ld (Ext.refl _) (wp_call (c_count (nl.ext e1)) fun y h2 e2 hy => ck e2 (wp_call (c_count (nr.ext (e1.trans e2))) fun z h3 e3 hz => ck (e2.trans e3) (wp_call (c_tall (nl.ext ((e1.trans e2).trans e3))) fun y' h4 e4 hy' =>
    ck ((e2.trans e3).trans e4) (wp_call (c_tall (nr.ext (((e1.trans e2).trans e3).trans e4))) fun z' h5 e5 hz' => ck (((e2.trans e3).trans e4).trans e5) ?_))))
  obtain ⟨(y : Int), w1⟩ := y
  obtain ⟨(z : Int), w2⟩ := z
  obtain ⟨(y' : Int), w3⟩ := y'
  obtain ⟨(z' : Int), w4⟩ := z'
  dsimp only at hy hz hy' hz' ⊢
  have e15 := ((e2.trans e3).trans e4).trans e5
  have hcnt : addI .i64 (addI .i64 y 1) z = (((BT.node l (kd, n) r).list.length : Nat) : Int) := by
    rw [add_ok (a := y) (by omega) (by omega), add_ok (by omega) (by omega)]; omega
  have htl : addI .i64 (maxI y' z') 1 = (((BT.node l (kd, n) r).ht : Nat) : Int) := by
    have : maxI y' z' = max y' z' := by unfold maxI; split <;> omega
    rw [this, add_ok (by omega) (by omega)]; simp only [BT.ht]; omega
  rw [hcnt, htl]
  intro elem
  have hown : Own h5.size 1 (h5.push (.cells (headV pl pr (.node l (kd, n) r) l r (kd, n) ++ sumV zero4).toArray elem)) ⟨some ⟨h5.size, 0, none⟩, 10, 10⟩ (headV pl pr (.node l (kd, n) r) l r (kd, n) ++ sumV zero4) :=
    own_alloc rfl (by decide) (by decide)
  have e6 : Ext h5 (h5.push (.cells (headV pl pr (.node l (kd, n) r) l r (kd, n) ++ sumV zero4).toArray elem)) := Ext.push ..
  revert hown e6
  generalize hh6 : (h5.push (.cells (headV pl pr (.node l (kd, n) r) l r (kd, n) ++ sumV zero4).toArray elem)) = h6
  intro o6 e6
  have eq6 : (h5.push (.cells [.pointer pl, .pointer pr, iv kd, iv n, iv ((BT.node l (kd, n) r).list.length : Nat), iv ((BT.node l (kd, n) r).ht : Nat), iv 0, iv 0, iv 0, iv 0].toArray elem)) = h6 := hh6
  show wp P _ (h5.push (.cells [.pointer pl, .pointer pr, iv kd, iv n, iv ((BT.node l (kd, n) r).list.length : Nat), iv ((BT.node l (kd, n) r).ht : Nat), iv 0, iv 0, iv 0, iv 0].toArray elem)) _
  rw [eq6]
  have e05 : Ext h h5 := e1.trans e15
  refine ld (e15.trans e6) (wp_call (c_Measure f1 f2) fun m h7 e7 hm => ?_)
  obtain ⟨m, w5⟩ := m
  dsimp only at hm
  subst hm
  refine s_putEnd (sumV (measure (kd, n))) (o6.ext e7) rfl rfl (flat_iv _) fun h8 o8 u8 => ?_
  have e58 : Ext h5 h8 := Upd.extN (e6.trans e7) u8 (by intro a ha; cases ha; exact Nat.le_refl _)
  have nl8 := nl.ext (e05.trans e58)
  have nr8 := nr.ext (e05.trans e58)
  refine wp_bind (fun t vs h' => t = 0 ∧ vs = [] ∧ Ext h5 h' ∧ Own h5.size 1 h' ⟨some ⟨h5.size, 0, none⟩, 10, 10⟩ (headV pl pr (.node l (kd, n) r) l r (kd, n) ++ sumV (add (sum l.list) (measure (kd, n))))) ?_ ?_
  · cases l with
    | nil =>
      obtain rfl := nl8
      refine s_ifF (s_ret ⟨rfl, rfl, e58, ?_⟩)
      rw [show sum BT.nil.list = zero4 from rfl, zero4_add]; exact o8
    | node ll lx lr =>
      have hp : ∃ a, pl = some a := by obtain ⟨a, _, _, h1, _⟩ := nl8; exact ⟨a, h1⟩
      obtain ⟨a, rfl⟩ := hp
      refine s_ifT (s_sum nl8 (s_cells4 (x := (measure (kd, n)).1) (y := (measure (kd, n)).2.1) (z := (measure (kd, n)).2.2.1) (w := (measure (kd, n)).2.2.2.1) rfl o8.cells rfl rfl rfl rfl (wp_call (c_Add vl vm (by omega)) fun m h9 e9 hm => ?_)))
      obtain ⟨m, w6⟩ := m
      dsimp only at hm
      subst hm
      refine s_putEnd (sumV (add (sum (BT.node ll lx lr).list) (measure (kd, n)))) (o8.ext e9) rfl rfl (flat_iv _) fun h10 o10 u10 => s_ret ⟨rfl, rfl, Upd.extN (e58.trans e9) u10 (by intro a ha; cases ha; exact Nat.le_refl _), o10⟩
  · rintro t vs h9 ⟨rfl, rfl, e59, o9⟩
    have nr9 := nr.ext (e05.trans e59)
    refine s_tag (s_cast0 ?_)
    refine wp_bind (fun t vs h' => t = 0 ∧ vs = [] ∧ Ext h5 h' ∧ Own h5.size 1 h' ⟨some ⟨h5.size, 0, none⟩, 10, 10⟩ (headV pl pr (.node l (kd, n) r) l r (kd, n) ++ sumV (sum (BT.node l (kd, n) r).list))) ?_ ?_
    · cases r with
      | nil =>
        obtain rfl := nr9
        refine s_ifF (s_ret ⟨rfl, rfl, e59, ?_⟩)
        rw [hsum, show sum BT.nil.list = zero4 from rfl, add_zero4 (vl.add vm)]; exact o9
      | node ll lx lr =>
        have hp : ∃ a, pr = some a := by obtain ⟨a, _, _, h1, _⟩ := nr9; exact ⟨a, h1⟩
        obtain ⟨a, rfl⟩ := hp
        refine s_ifT (s_cells4 (x := (add (sum l.list) (measure (kd, n))).1) (y := (add (sum l.list) (measure (kd, n))).2.1) (z := (add (sum l.list) (measure (kd, n))).2.2.1) (w := (add (sum l.list) (measure (kd, n))).2.2.2.1) rfl o9.cells rfl rfl rfl rfl
          (s_sum nr9 (wp_call (c_Add (vl.add vm) vr (by omega)) fun m h10 e10 hm => ?_)))
        obtain ⟨m, w6⟩ := m
        dsimp only at hm
        rw [← hsum] at hm
        subst hm
        refine s_putEnd (sumV (sum (BT.node l (kd, n) (.node ll lx lr)).list)) (o9.ext e10) rfl rfl (flat_iv _) fun h11 o11 u11 => s_ret ⟨rfl, rfl, Upd.extN (e59.trans e10) u11 (by intro a ha; cases ha; exact Nat.le_refl _), o11⟩
    · rintro t vs h10 ⟨rfl, rfl, e60, o10⟩
      exact s_tag (s_cast0 (s_ret ⟨rfl, e05.trans e60, (some ⟨h5.size, 0, none⟩, ()), rfl, ⟨h5.size, 0, none⟩, pl, pr, rfl, o10.cells, nl.ext (e05.trans e60), nr.ext (e05.trans e60)⟩))

end Go.Sw.Tree

set_option linter.unusedVariables false
set_option linter.unusedSimpArgs false
set_option maxRecDepth 100000
namespace Go.Sw.Tree
variable {P : Program} {S : Ids} {h : Heap} {Q : Nat → List Value → Heap → Prop}

theorem cR_take (l : List (Int × Int)) (n : Nat) : (cR l).take (n * 2) = cR (l.take n) := by
  induction l generalizing n with
  | nil => simp [cR]
  | cons x l ih =>
    cases n with
    | zero => simp [cR]
    | succ n => rw [show (n + 1) * 2 = n * 2 + 1 + 1 by omega]; simp only [cR, List.flatMap_cons, List.take_succ_cons] at ih ⊢; simp [ih n]
theorem cR_drop (l : List (Int × Int)) (n : Nat) : (cR l).drop (n * 2) = cR (l.drop n) := by
  induction l generalizing n with
  | nil => simp [cR]
  | cons x l ih =>
    cases n with
    | zero => simp [cR]
    | succ n => rw [show (n + 1) * 2 = n * 2 + 1 + 1 by omega]; simp only [cR, List.flatMap_cons, List.drop_succ_cons] at ih ⊢; simp [ih n]
theorem wfR.drop {l : List (Int × Int)} (a : wfR l) (n : Nat) : wfR (l.drop n) := fun r hr => a r (List.mem_of_mem_drop hr)
theorem Runs.take {s : Sl} {l : List (Int × Int)} (hr : Runs h s l) {n m : Nat} (hn : n ≤ l.length) (hm : n ≤ m) (hm' : m < 2 ^ 63) : Runs h ⟨s.base, n, m⟩ (l.take n) :=
  ⟨by have := Rd.take hr.rd (n := n) (by rw [hr.len]; exact hn) m; rw [cR_take] at this; exact this, hm, hm', hr.wf.take n⟩
theorem Runs.drop {s : Sl} {l : List (Int × Int)} (hr : Runs h s l) {i m : Nat} (hi : i ≤ l.length) (hm : s.len - i ≤ m) (hm' : m < 2 ^ 63) : Runs h ⟨cutBase s.base s.cap i 2, s.len - i, m⟩ (l.drop i) :=
  ⟨by have := Rd.drop hr.rd (i := i) (by rw [hr.len]; exact hi) hr.cap m; rw [cR_drop] at this; exact this, hm, hm', hr.wf.drop i⟩

/-- l[j]'s cells, looked at again. -/
theorem s_same2 {s : Sl} {l : List (Int × Int)} {K : Prog} {j : Nat} {r : Int × Int} (hr : Runs h s l) (hj : l[j]? = some r) (hk : wp P K h Q) : wp P (.check (shiftTo s.base (mulN j 2)) [.int .i64 r.1, .int .i64 r.2] K) h Q := by
  obtain ⟨c1, c2⟩ := cR_at l _ _ hj
  obtain ⟨a, e, d1⟩ := hr.rd.2 _ _ c1
  obtain ⟨a', e', d2⟩ := hr.rd.2 _ _ c2
  rw [e] at e'; cases e'
  refine ⟨⟨a.add (j * 2), by simp [shiftTo, e, mulN], cells_iff.2 fun i v hi => ?_⟩, hk⟩
  match i, hi with
  | 0, hi => simp at hi; subst hi; rw [add_zero']; exact d1
  | 1, hi => simp at hi; subst hi; rw [add_add]; exact d2
  | i + 2, hi => simp at hi

/-- Two sides whose heights differ by one at most, all the way down. -/
def BT.Avl : BT → Prop
  | .nil => True
  | .node l _ r => l.Avl ∧ r.Avl ∧ l.ht ≤ r.ht + 1 ∧ r.ht ≤ l.ht + 1

/-- As low as can be. -/
def BT.Full (t : BT) : Prop := t.list.length < 2 ^ t.ht ∧ (2 ^ t.ht ≤ 2 * t.list.length ∨ t.ht = 0) ∧ t.Avl
theorem full_nil : BT.nil.Full := ⟨by decide, .inr rfl, trivial⟩
theorem full_node {l r : BT} {x : Int × Int} (hl : l.Full) (hr : r.Full) (h1 : r.list.length ≤ l.list.length) (h2 : l.list.length ≤ r.list.length + 1) : (BT.node l x r).Full := by
  obtain ⟨a1, a2, a3⟩ := hl
  obtain ⟨b1, b2, b3⟩ := hr
  have hn := node_len l r x
  have c1 : r.ht ≤ l.ht := by
    rcases b2 with b2 | b2
    · have : 2 ^ r.ht < 2 ^ (l.ht + 1) := by rw [Nat.pow_succ]; omega
      have := (Nat.pow_lt_pow_iff_right (by decide : 1 < 2)).1 this
      omega
    · omega
  have c2 : l.ht ≤ r.ht + 1 := by
    rcases a2 with a2 | a2
    · have : 2 ^ l.ht ≤ 2 ^ (r.ht + 1) := by rw [Nat.pow_succ]; omega
      exact (Nat.pow_le_pow_iff_right (by decide : 1 < 2)).1 this
    · omega
  have hh : (BT.node l x r).ht = l.ht + 1 := by simp only [BT.ht]; omega
  refine ⟨?_, .inl ?_, a3, b3, c2, by omega⟩
  · rw [hh, hn, Nat.pow_succ]; omega
  · rw [hh, hn, Nat.pow_succ]
    rcases a2 with a2 | a2
    · omega
    · rw [a2]; omega

theorem c_buildR (S : Ids) : ∀ (fuel : Nat) {h : Heap} {items : Sl} {l : List (Int × Int)}, l.length < fuel → Runs h items l → l.length ≤ 4398046511104 →
    Gives P (R_tree_build_Run fuel S items) [.one .ptr] h fun (y : Option Addr × Unit) h' => ∃ t : BT, Nd h' y.1 t ∧ t.list = l ∧ t.Full := by
  intro fuel
  induction fuel with
  | zero => intro h items l hf; omega
  | succ fuel ih =>
    intro h items l hf hr hroom
    have hlen := hr.len
    have hcap := hr.cap
    have hmax := hr.max
    unfold R_tree_build_Run Gives
    refine wp_ifB (fun hc => ?_) fun hc => ?_
    · rw [eqI_iff, natI_def, hlen] at hc
      exact s_ret ⟨rfl, Ext.refl _, (none, ()), rfl, .nil, rfl, by cases l; rfl; simp at hc; omega, full_nil⟩
    · rw [eqI_not, natI_def, hlen] at hc
      have hq : quoI .i64 (natI items.len) 2 = ((l.length / 2 : Nat) : Int) := by
        rw [natI_def, hlen, quo_ok (by omega) (by omega) (by omega)]; omega
      have hk : l.length / 2 < l.length := by omega
      have hj : l[l.length / 2]? = some l[l.length / 2] := List.getElem?_eq_getElem hk
      rw [hq, add_ok (by omega) (by omega)]
      have ht : toN ((l.length / 2 : Nat) : Int) = l.length / 2 := by rw [toN_def]; omega
      have ht1 : toN (((l.length / 2 : Nat) : Int) + 1) = l.length / 2 + 1 := by rw [toN_def]; omega
      rw [ht1, show subN items.cap 0 = items.cap from rfl, cutBase_zero, show subN (toN ((l.length / 2 : Nat) : Int)) 0 = l.length / 2 by rw [ht]; rfl]
      refine s_not (s_grd (leB_ok (by omega) (by omega)) (s_at2 hr (by omega) (by omega) fun x hx => s_grd (leB_ok (by omega) (by omega)) ?_))
      rw [show ((l.length / 2 : Nat) : Int).toNat = l.length / 2 by omega] at hx
      refine wp_call (ih (l := l.take (l.length / 2)) (by rw [List.length_take]; omega) (hr.take (by omega) (by omega) hmax) (by rw [List.length_take]; omega)) fun y h1 e1 hy => ?_
      obtain ⟨(pl : Option Addr), u1⟩ := y
      obtain ⟨tl, n1, l1, fl⟩ := hy
      dsimp only at n1 ⊢
      rw [ht]
      refine s_same2 (hr.ext e1) hx ?_
      refine wp_call (ih (l := l.drop (l.length / 2 + 1)) (by rw [List.length_drop]; omega) ((hr.ext e1).drop (by omega) (by unfold subN; omega) (by unfold subN; omega)) (by rw [List.length_drop]; omega)) fun y h2 e2 hy => ?_
      obtain ⟨(pr : Option Addr), u2⟩ := y
      obtain ⟨tr, n2, l2, fr⟩ := hy
      dsimp only at n2 ⊢
      refine s_same2 (hr.ext (e1.trans e2)) hx ?_
      have hlist : (BT.node tl x tr).list = l := by
        simp only [BT.list]
        rw [l1, l2]
        have := List.getElem?_eq_some_iff.1 hx
        obtain ⟨_, rfl⟩ := this
        rw [← List.drop_eq_getElem_cons hk, List.take_append_drop]
      refine wp_call (c_of (x := (x.1, x.2, ())) (n1.ext e2) n2 (by rw [hlist]; exact hr.wf) (by rw [hlist]; exact hroom)) fun y h3 e3 hy => ?_
      obtain ⟨(p : Option Addr), u3⟩ := y
      exact s_ret ⟨rfl, (e1.trans e2).trans e3, (p, ()), rfl, _, hy, hlist, full_node fl fr (by rw [l1, l2, List.length_take, List.length_drop]; omega) (by rw [l1, l2, List.length_take, List.length_drop]; omega)⟩

/-- A tree's value: its root. -/
abbrev TR := Option Addr × Unit
theorem s_newP (p : Option Addr) {K : Addr → Prog} (hk : ∀ h', Ext h h' → Own h.size 1 h' ⟨some ⟨h.size, 0, none⟩, 1, 1⟩ [.pointer p] → wp P (K ⟨h.size, 0, none⟩) h' Q) : wp P (.alloc [.pointer p] K) h Q :=
  fun elem => hk _ (Ext.push ..) (own_alloc rfl (by decide) (by decide))
theorem s_getP {n : Nat} {a : Addr} {p : Option Addr} {K : Option Addr → Prog} (ho : Own n 1 h ⟨some a, 1, 1⟩ [.pointer p]) (hk : wp P (K p) h Q) : wp P (.load (.one .ptr) (shiftTo (some a) 0) K) h Q :=
  s_cell (b := .ptr) (x := p) rfl ho.cells rfl hk
theorem s_getT {n : Nat} {a : Addr} {p : Option Addr} {K : TR → Prog} (ho : Own n 1 h ⟨some a, 1, 1⟩ [.pointer p]) (hk : wp P (K (p, ())) h Q) : wp P (.load (.agg [.ptr]) (some a) K) h Q :=
  ⟨a, rfl, (p, ()), ho.cells, hk⟩
theorem s_putP {n : Nat} {a : Addr} {q : Option Addr} (p : Option Addr) {K : Prog} (ho : Own n 1 h ⟨some a, 1, 1⟩ [.pointer q]) (hk : ∀ h', Own n 1 h' ⟨some a, 1, 1⟩ [.pointer p] → Upd ⟨some a, 1, 1⟩ h h' → wp P K h' Q) :
    wp P (.store (some a) [.pointer p] K) h Q := by
  have := s_putEnd (P := P) (Q := Q) (K := K) (pre := []) (old := [.pointer q]) [.pointer p] ho rfl rfl (by intro v hv; rw [List.mem_singleton.1 hv]; rfl) hk
  simpa [shiftTo, add_zero'] using this

theorem small_ne {n m c : Nat} {ws : List Value} {a b : Addr} {vs : List Value} (ho : Own n 1 h ⟨some b, m, c⟩ ws) (hc : Cells h a vs) (hl : c < vs.length) : b.block ≠ a.block := by
  intro e
  obtain ⟨_, _, _, o4⟩ := ho
  obtain ⟨e0, e1, e2, cs, elem, e3, e4, e5⟩ := o4
  have c0 := cells_iff.1 hc 0 _ (List.getElem?_eq_getElem (by omega))
  have c1 := cells_iff.1 hc c _ (List.getElem?_eq_getElem hl)
  rw [add_zero'] at c0
  obtain ⟨ab, ao, sp⟩ := a
  dsimp only at e
  cases sp with
  | some s => unfold cell at c0; dsimp only at c0; split at c0 <;> simp at c0
  | none =>
    rw [add_mk] at c1
    unfold cell at c1
    dsimp only at c1
    rw [← e, e3] at c1
    simp at c1
    have := (Array.getElem?_eq_some_iff.1 c1).1
    dsimp only at e4
    omega
theorem cells_upd {a b : Addr} {m c : Nat} {h h' : Heap} {vs : List Value} (u : Upd ⟨some b, m, c⟩ h h') (hc : Cells h a vs) (hne : b.block ≠ a.block) : Cells h' a vs :=
  cells_iff.2 fun j v hj => by
    have c := cells_iff.1 hc j v hj
    have hlt := cell_lt c
    unfold Sw.cell at c ⊢
    rw [u.2.1 (a.add j).block hlt (by intro x hx; cases hx; rw [add_block]; exact hne)]
    exact c
theorem Nd.upd {n m c : Nat} {ws : List Value} {b : Addr} {h h' : Heap} (u : Upd ⟨some b, m, c⟩ h h') (ho : Own n 1 h ⟨some b, m, c⟩ ws) (hc : c < 10) : ∀ {t : BT} {p : Option Addr}, Nd h p t → Nd h' p t
  | .nil, _, n => n
  | .node l x r, p, ⟨a, pl, pr, e1, hcc, n1, n2⟩ => ⟨a, pl, pr, e1, cells_upd u hcc (small_ne ho hcc hc), Nd.upd u ho hc n1, Nd.upd u ho hc n2⟩

theorem c_Of {items : Sl} {l : List (Int × Int)} (hr : Runs h items l) (hroom : l.length ≤ 4398046511104) : Gives P (F_tree_Of_Run S items) [.agg [.ptr]] h fun (y : TR × Unit) h' => ∃ t : BT, Nd h' y.1.1 t ∧ t.list = l ∧ t.Full := by
  unfold F_tree_Of_Run Gives
  refine s_newP none fun h1 e1 o1 => ?_
  refine wp_call (R := fun (y : Option Addr × Unit) h' => ∃ t : BT, Nd h' y.1 t ∧ t.list = l ∧ t.Full) ⟨l.length + 1, c_buildR S _ (Nat.lt_succ_self _) (hr.ext e1) hroom⟩ fun y h2 e2 hy => ?_
  obtain ⟨(p : Option Addr), u⟩ := y
  obtain ⟨t, n, hl, hfull⟩ := hy
  dsimp only at n ⊢
  refine s_putP p (o1.ext e2) fun h3 o3 u3 => s_getT o3 (s_ret ?_)
  have e := Upd.extN (e1.trans e2) u3 (by intro a ha; cases ha; exact Nat.le_refl _)
  exact ⟨rfl, e, ((p, ()), ()), rfl, t, n.upd u3 (o1.ext e2) (by decide), hl, hfull⟩

theorem c_Size {p : Option Addr} {t : BT} (ht : Nd h p t) : Gives P (F_Tree_Run_Size S (p, ())) [.one (.int .i64)] h fun (x : Int × Unit) _ => x.1 = t.list.length := by
  unfold F_Tree_Run_Size Gives
  refine s_newP p fun h1 e1 o1 => s_getP o1 (wp_call (c_count (ht.ext e1)) fun x h2 e2 hx => ?_)
  exact s_ret ⟨rfl, e1.trans e2, (x.1, ()), rfl, hx⟩

theorem c_Sum {p : Option Addr} {t : BT} (ht : Nd h p t) (hw : wfR t.list) (hroom : t.list.length ≤ 4398046511104) : Gives P (F_Tree_Run_Sum S (p, ())) [A4] h fun (x : R4 × Unit) _ => x.1 = sum t.list := by
  unfold F_Tree_Run_Sum Gives
  refine s_newP p fun h1 e1 o1 => s_zero4 fun h2 e2 o2 => s_getP (o1.ext e2) ?_
  cases t with
  | nil =>
    obtain rfl := ht
    exact s_ifT (s_zero4 fun h3 e3 o3 => s_get4 rfl o3 (s_tell4 zero4 (o2.ext e3) e1.size (V.fits (V.zero 0) (by decide)) ((e1.trans e2).trans e3) fun _ _ => rfl))
  | node l x r =>
    have hp : ∃ a, p = some a := by obtain ⟨a, _, _, h1, _⟩ := ht; exact ⟨a, h1⟩
    obtain ⟨a, rfl⟩ := hp
    exact s_ifF (s_getP (o1.ext e2) (s_sum (ht.ext (e1.trans e2)) (s_tell4 (sum (BT.node l x r).list) o2 e1.size ((V.sum hw).fits hroom) (e1.trans e2) fun _ _ => rfl)))

theorem Nd.root {p : Option Addr} {t : BT} (ht : Nd h p t) : noneB p = true ↔ t = .nil := by
  cases t with
  | nil => obtain rfl := ht; exact Iff.intro (fun _ => rfl) (fun _ => rfl)
  | node l x r => obtain ⟨a, _, _, rfl, _⟩ := ht; exact Iff.intro (fun h => by cases h) (fun h => by cases h)

/-- What Find tells. -/
def Found (l : List (Int × Int)) (k n i : Int) : Prop :=
  (i = 0 ∧ n ≤ 0) ∨ (1 ≤ i ∧ i ≤ l.length ∧ n ≤ key (sum (l.take i.toNat)) k ∧ key (sum (l.take (i.toNat - 1))) k < n) ∨ (i = l.length + 1 ∧ key (sum l) k < n)

theorem key_zero (k : Int) : key zero4 k = 0 := by unfold key zero4; split; rfl; split <;> rfl

theorem least {p : Nat → Prop} : ∀ n, p n → ∃ m, p m ∧ ∀ k, p k → m ≤ k := by
  intro n
  induction n using Nat.strongRecOn with
  | ind n ih =>
    intro hn
    by_cases hx : ∃ k, k < n ∧ p k
    · obtain ⟨k, hk, hp⟩ := hx; exact ih k hk hp
    · exact ⟨n, hn, fun k hk => Nat.le_of_not_lt fun hlt => hx ⟨k, hlt, hk⟩⟩
open Classical in
/-- A loop with a thing that is only thought of: its rank falls. -/
theorem wp_whileG {G : Type} {tys : List Ty} {s : Ts.den tys} {body : Ts.den tys → Prog} {K : Nat → List Value → Prog} (J : G → Ts.den tys → Heap → Prop) (ρ : G → Nat) (R : Nat → List Value → Heap → Prop) (g0 : G) (h0 : J g0 s h)
    (hs : ∀ g s h, J g s h → wp P (body s) h fun tag vs h' => (tag = 0 → ∃ g' s', vs = Ts.inj tys s' ∧ J g' s' h' ∧ ρ g' < ρ g) ∧ (tag ≠ 0 → R tag vs h'))
    (hk : ∀ t vs h', R t vs h' → wp P (K t vs) h' Q) : wp P (.bind (.loop tys s body) K) h Q := by
  have key : ∀ s h, (∃ g, J g s h) → ∃ m, (∃ g, J g s h ∧ ρ g = m) ∧ ∀ g, J g s h → m ≤ ρ g := by
    intro s h ⟨g, hg⟩
    obtain ⟨m, hm, hl⟩ := least (p := fun m => ∃ g, J g s h ∧ ρ g = m) (ρ g) ⟨g, hg, rfl⟩
    exact ⟨m, hm, fun g hg => hl _ ⟨g, hg, rfl⟩⟩
  refine wp_while (fun s h => ∃ g, J g s h) (fun s h => if hx : ∃ g, J g s h then Classical.choose (key s h hx) else 0) R ⟨g0, h0⟩ ?_ hk
  intro s h hx
  obtain ⟨⟨g, hg, hr⟩, _⟩ := Classical.choose_spec (key s h hx)
  refine wp_mono (body s) (fun t vs h' ⟨a, b⟩ => ⟨fun ht => ?_, b⟩) (hs g s h hg)
  obtain ⟨g', s', e, hj, hlt⟩ := a ht
  refine ⟨s', e, ⟨g', hj⟩, ?_⟩
  have hx' : ∃ g, J g s' h' := ⟨g', hj⟩
  have h1 := (Classical.choose_spec (key s' h' hx')).2 g' hj
  rw [dif_pos hx, dif_pos hx', ← hr]
  omega

theorem c_Find {p : Option Addr} {t : BT} {k n : Int} (ht : Nd h p t) (hw : wfR t.list) (hroom : t.list.length < 4398046511104) :
    Gives P (F_Tree_Run_Find S (p, ()) k n) [.one (.int .i64)] h fun (x : Int × Unit) _ => Found t.list k n x.1 := by
  unfold F_Tree_Run_Find Gives
  refine s_newP p fun h1 e1 o1 => wp_ifB (fun hc => ?_) fun hc => ?_
  · rw [leI_iff] at hc
    exact s_ret ⟨rfl, e1, (0, ()), rfl, .inl ⟨rfl, hc⟩⟩
  rw [leI_not] at hc
  refine s_zero4 fun h2 e2 o2 => s_getP (o1.ext e2) ?_
  refine wp_whileG (G := BT × List (Int × Int) × List (Int × Int)) (fun g (s : Int × Option Addr × Unit) h' => Ext h1 h' ∧ Nd h' s.2.1 g.1 ∧ t.list = g.2.1 ++ g.1.list ++ g.2.2 ∧ s.1 = g.2.1.length ∧ obj h1.size h' ⟨h1.size, 0, none⟩ (sum g.2.1) ∧ key (sum g.2.1) k < n ∧
      (g.2.2 = [] ∨ n ≤ key (sum (g.2.1 ++ g.1.list)) k)) (fun g => g.1.list.length)
    (fun t' vs h' => Ext h1 h' ∧ ((t' = 2 ∧ ∃ x : Int × Unit, vs = Ts.inj [.one (.int .i64)] x ∧ x.1 = t.list.length ∧ key (sum t.list) k < n) ∨ (t' = 1 ∧ ∃ x : Int × Unit, vs = Ts.inj [.one (.int .i64)] x ∧ Found t.list k n x.1)))
    (t, [], []) ⟨e2, ht.ext (e1.trans e2), by simp, rfl, o2, by rw [show sum [] = zero4 from rfl, key_zero]; exact hc, .inl rfl⟩ ?_ ?_
  · rintro ⟨t', pre, post⟩ ⟨(at_ : Int), (q : Option Addr), u⟩ h3 ⟨e3, nq, hL, hat, oa, hkey, hpost⟩
    dsimp only at nq hL hat oa hkey hpost ⊢
    have hw0 : wfR (pre ++ t'.list ++ post) := hL ▸ hw
    have hwp : wfR pre := fun y hy => hw0 y (by simp [hy])
    have hwt : wfR t'.list := fun y hy => hw0 y (by simp [hy])
    have hlenL : t.list.length = pre.length + t'.list.length + post.length := by rw [hL]; simp [Nat.add_assoc]
    cases t' with
    | nil =>
      obtain rfl := nq
      refine s_ifF (s_ret ⟨fun h => absurd h (by decide), fun _ => ⟨e3, .inl ⟨rfl, (at_, ()), rfl, ?_, ?_⟩⟩⟩)
      · rcases hpost with rfl | hpost
        · rw [hlenL, hat]; simp [BT.list]
        · simp only [BT.list, List.append_nil] at hpost; omega
      · rcases hpost with rfl | hpost
        · rw [hL]; simpa [BT.list] using hkey
        · simp only [BT.list, List.append_nil] at hpost; omega
    | node l x r =>
      have hq : ∃ a, q = some a := by obtain ⟨a, _, _, h1, _⟩ := nq; exact ⟨a, h1⟩
      obtain ⟨qa, rfl⟩ := hq
      have hnl := node_len l r x
      obtain ⟨f1, f2⟩ := wf_mid hwt
      have vp := V.sum hwp
      have vl := V.sum (wf_left hwt)
      have vm := V.measure (r := x) f1
      have hpl : sum (pre ++ l.list) = add (sum pre) (sum l.list) := sum_append hwp (wf_left hwt)
      have vpl := vp.add vl
      refine s_ifT (s_get4 rfl oa (s_put4 (sum pre) (vp.fits (by omega)) fun h4 e4 ob => ?_))
      have oa := oa.ext e4
      have nq := nq.ext e4
      have e34 := e3.trans e4
      have hb3 := (oa.own.lt rfl).2
      -- the sum ahead of the thing
      refine wp_bind (fun t vs h' => t = 0 ∧ vs = [] ∧ Ext h3 h' ∧ obj h3.size h' ⟨h3.size, 0, none⟩ (sum (pre ++ l.list))) ?_ ?_
      · refine s_left nq fun pl nl => ?_
        cases l with
        | nil =>
          obtain rfl := nl
          exact s_ifF (s_ret ⟨rfl, rfl, e4, by simpa [BT.list] using ob⟩)
        | node ll lx lr =>
          have hp : ∃ a, pl = some a := by obtain ⟨a, _, _, h1, _⟩ := nl; exact ⟨a, h1⟩
          obtain ⟨la, rfl⟩ := hp
          refine s_ifT (s_get4 rfl oa (s_left nq fun pl nl => s_sum nl (wp_call (c_Add vp vl (by omega)) fun m h5 e5 hm => ?_)))
          obtain ⟨m, w5⟩ := m
          dsimp only at hm
          rw [← hpl] at hm
          subst hm
          refine s_store4 (sum (pre ++ (BT.node ll lx lr).list)) (ob.ext e5) ((hpl ▸ vpl).fits (by omega)) fun h6 o6 u6 => s_ret ⟨rfl, rfl, Upd.extN (e4.trans e5) u6 (by intro a ha; cases ha; exact Nat.le_refl _), o6⟩
      · rintro tg vs h5 ⟨rfl, rfl, e5, ob⟩
        have oa := (‹obj h1.size h3 ⟨h1.size, 0, none⟩ (sum pre)›).ext e5
        have nq := (‹Nd h3 (some qa) (.node l x r)›).ext e5
        have e35 := e3.trans e5
        refine s_tag (s_cast0 (s_get4 rfl ob (wp_call (c_Key (hpl ▸ vpl) (by omega)) fun y h6 e6 hy => ?_)))
        obtain ⟨(y : Int), w6⟩ := y
        dsimp only at hy ⊢
        subst hy
        have nq6 := nq.ext e6
        refine wp_ifB (fun hg => ?_) fun hg => ?_
        · rw [geI_iff] at hg
          refine s_left nq6 fun pl nl => s_ret ⟨fun _ => ⟨(l, pre, x :: r.list ++ post), (at_, pl, ()), rfl, ⟨e35.trans e6, nl, by rw [hL]; simp [BT.list], hat, oa.ext e6, hkey, .inr hg⟩, by dsimp only; omega⟩, fun h => absurd rfl h⟩
        · rw [geI_not] at hg
          refine s_left nq6 fun pl nl => wp_call (c_count nl) fun c h7 e7 hc7 => ?_
          obtain ⟨(c : Int), w7⟩ := c
          dsimp only at hc7 ⊢
          subst hc7
          have nq7 := nq6.ext e7
          have ob7 := ob.ext (e6.trans e7)
          have oa7 := oa.ext (e6.trans e7)
          refine s_get4 rfl ob7 (s_item nq7 (wp_call (c_Measure f1 f2) fun m h8 e8 hm => ?_))
          obtain ⟨m, w8⟩ := m
          dsimp only at hm
          subst hm
          refine s_same4 (ob7.ext e8) (wp_call (c_Add (hpl ▸ vpl) vm (by omega)) fun m h9 e9 hm => ?_)
          obtain ⟨m, w9⟩ := m
          dsimp only at hm
          rw [← sum_snoc] at hm
          subst hm
          have vq : V (pre.length + l.list.length + 1) (sum (pre ++ l.list ++ [x])) := by rw [sum_snoc, hpl]; exact vpl.add vm
          refine s_store4 (sum (pre ++ l.list ++ [x])) ((oa7.ext e8).ext e9) (vq.fits (by omega)) fun h10 ob10 u10 => ?_
          have e10 : Ext h1 h10 := Upd.extN ((((e35.trans e6).trans e7).trans e8).trans e9) u10 (by intro a ha; cases ha; exact Nat.le_refl _)
          have nq10 : Nd h10 (some qa) (.node l x r) := ((nq7.ext e8).ext e9).upd u10 ((oa7.ext e8).ext e9).own (by decide)
          have oa := ob10
          refine s_get4 rfl oa (wp_call (c_Key vq (by omega)) fun y h11 e11 hy => ?_)
          obtain ⟨(y : Int), w11⟩ := y
          dsimp only at hy ⊢
          subst hy
          have hsum3 : addI .i64 at_ (addI .i64 ((l.list.length : Nat) : Int) 1) = ((pre.length + l.list.length + 1 : Nat) : Int) := by
            rw [add_ok (a := ((l.list.length : Nat) : Int)) (by omega) (by omega), add_ok (by omega) (by omega)]; omega
          rw [hsum3]
          have hpre : t.list.take (pre.length + l.list.length + 1) = pre ++ l.list ++ [x] := by
            rw [show t.list = (pre ++ l.list ++ [x]) ++ (r.list ++ post) by rw [hL]; simp [BT.list]]
            exact List.take_left' (by simp [Nat.add_assoc])
          have hpre' : t.list.take (pre.length + l.list.length) = pre ++ l.list := by
            rw [show t.list = (pre ++ l.list) ++ (x :: r.list ++ post) by rw [hL]; simp [BT.list]]
            exact List.take_left' (by simp)
          refine wp_ifB (fun hg2 => ?_) fun hg2 => ?_
          · rw [geI_iff] at hg2
            refine s_ret ⟨fun h => absurd h (by decide), fun _ => ⟨e10.trans e11, .inr ⟨rfl, (((pre.length + l.list.length + 1 : Nat) : Int), ()), rfl, .inr (.inl ⟨by dsimp only; omega, by dsimp only; omega, ?_, ?_⟩)⟩⟩⟩
            · dsimp only; rw [Int.toNat_natCast, hpre]; exact hg2
            · dsimp only; rw [Int.toNat_natCast, Nat.add_sub_cancel, hpre']; exact hg
          · rw [geI_not] at hg2
            refine s_right (nq10.ext e11) fun pr nr => s_ret ⟨fun _ => ⟨(r, pre ++ l.list ++ [x], post), (((pre.length + l.list.length + 1 : Nat) : Int), pr, ()), rfl, ⟨e10.trans e11, nr, by rw [hL]; simp [BT.list], by simp; omega, oa.ext e11, hg2, ?_⟩, by dsimp only; omega⟩, fun h => absurd rfl h⟩
            rcases hpost with hp | hp
            · exact .inl hp
            · refine .inr ?_
              dsimp only
              rw [show pre ++ l.list ++ [x] ++ r.list = pre ++ (BT.node l x r).list by simp [BT.list]]; exact hp
  · rintro tg vs h3 ⟨e3, ⟨rfl, x, rfl, hx, hk⟩ | ⟨rfl, x, rfl, hx⟩⟩
    · obtain ⟨(x : Int), w⟩ := x
      dsimp only at hx
      refine s_tag ⟨(x, ()), rfl, ?_⟩
      dsimp only
      subst hx
      rw [add_ok (by omega) (by omega)]
      exact s_ret ⟨rfl, e1.trans e3, (_, ()), rfl, .inr (.inr ⟨rfl, hk⟩)⟩
    · obtain ⟨(x : Int), w⟩ := x
      exact s_skip (by decide) (s_tag ⟨(x, ()), rfl, s_ret ⟨rfl, e1.trans e3, (x, ()), rfl, hx⟩⟩)

end Go.Sw.Tree

set_option linter.unusedVariables false
set_option linter.unusedSimpArgs false
set_option maxRecDepth 100000
namespace Go.Sw.Tree
variable {P : Program} {S : Ids} {h : Heap} {Q : Nat → List Value → Heap → Prop}

theorem c_Upto' {p : Option Addr} {t : BT} {i : Int} (ht : Nd h p t) (hw : wfR t.list) (hroom : t.list.length < 4398046511104) :
    Gives P (F_Tree_Run_Upto S (p, ()) i) [A4] h fun (x : R4 × Unit) _ => x.1 = sum (t.list.take i.toNat) := by
  unfold F_Tree_Run_Upto Gives
  refine s_newP p fun h1 e1 o1 => s_zero4 fun h2 e2 o2 => s_zero4 fun h3 e3 o3 => s_getT ((o1.ext e2).ext e3) (wp_call (c_Size (ht.ext ((e1.trans e2).trans e3))) fun y h4 e4 hy => s_getP (((o1.ext e2).ext e3).ext e4) ?_)
  obtain ⟨(y : Int), w1⟩ := y
  dsimp only at hy ⊢
  subst hy
  have b2 := (o2.own.lt rfl).2
  have b1 := (o1.lt rfl).2
  dsimp only at b1 b2
  have e04 : Ext h h4 := (((e1.trans e2).trans e3).trans e4)
  refine wp_whileG (G := BT × List (Int × Int) × List (Int × Int)) (fun g (s : Int × Option Addr × Unit) h' => Ext h h' ∧ Nd h' s.2.1 g.1 ∧ t.list = g.2.1 ++ g.1.list ++ g.2.2 ∧ t.list.take i.toNat = g.2.1 ++ g.1.list.take s.1.toNat ∧ s.1 ≤ g.1.list.length ∧
      obj h1.size h' ⟨h1.size, 0, none⟩ zero4 ∧ obj h2.size h' ⟨h2.size, 0, none⟩ (sum g.2.1)) (fun g => g.1.list.length)
    (fun t' vs h' => t' = 2 ∧ vs = [] ∧ Ext h h' ∧ obj h1.size h' ⟨h1.size, 0, none⟩ zero4 ∧ obj h2.size h' ⟨h2.size, 0, none⟩ (sum (t.list.take i.toNat)))
    (t, [], []) ⟨e04, ht.ext e04, by simp, ?_, ?_, (o2.ext e3).ext e4, o3.ext e4⟩ ?_ ?_
  · dsimp only
    rw [List.nil_append]
    have : minI i ((t.list.length : Nat) : Int) = min i (t.list.length : Int) := minI_eq ..
    rw [this]
    by_cases hi : i ≤ (t.list.length : Int)
    · rw [show min i (t.list.length : Int) = i by omega]
    · rw [show min i (t.list.length : Int) = (t.list.length : Int) by omega, List.take_of_length_le (by omega), Int.toNat_natCast, List.take_length]
  · dsimp only
    rw [minI_eq]; omega
  · rintro ⟨t', pre, post⟩ ⟨(j : Int), (q : Option Addr), u⟩ h5 ⟨e5, nq, hL, htake, hj, oz, oa⟩
    dsimp only at nq hL htake hj oz oa ⊢
    have hw0 : wfR (pre ++ t'.list ++ post) := hL ▸ hw
    have hwp : wfR pre := fun y hy => hw0 y (by simp [hy])
    have hwt : wfR t'.list := fun y hy => hw0 y (by simp [hy])
    have hlenL : t.list.length = pre.length + t'.list.length + post.length := by rw [hL]; simp [Nat.add_assoc]
    refine bind_bool (t' ≠ .nil ∧ 0 < j) ?_ fun b h6 e6 hb => ?_
    · cases t' with
      | nil => obtain rfl := nq; exact s_ifF (s_ret ⟨rfl, Ext.refl _, false, rfl, Iff.intro (fun x => by cases x) (fun x => absurd rfl x.1)⟩)
      | node l x r =>
        obtain ⟨a, _, _, rfl, _⟩ := nq
        exact s_ifT (s_ret ⟨rfl, Ext.refl _, gtI j 0, rfl, by rw [gtI_iff]; exact Iff.intro (fun x => ⟨by simp, x⟩) (fun x => x.2)⟩)
    have e6' := e5.trans e6
    have nq6 := nq.ext e6
    have oz6 := oz.ext e6
    have oa6 := oa.ext e6
    dsimp only
    refine wp_ifB (fun hc => ?_) fun hc => ?_
    · obtain ⟨hnn, hj0⟩ := hb.1 hc
      cases t' with
      | nil => exact absurd rfl hnn
      | node l x r =>
        have hnl := node_len l r x
        obtain ⟨f1, f2⟩ := wf_mid hwt
        have vp := V.sum hwp
        have vl := V.sum (wf_left hwt)
        have vm := V.measure (r := x) f1
        have hpl : sum (pre ++ l.list) = add (sum pre) (sum l.list) := sum_append hwp (wf_left hwt)
        have vpl : V (pre.length + l.list.length) (sum (pre ++ l.list)) := hpl ▸ vp.add vl
        refine s_left nq6 fun pl nl => wp_call (c_count nl) fun c h7 e7 hc7 => ?_
        obtain ⟨(c : Int), w7⟩ := c
        dsimp only at hc7 ⊢
        subst hc7
        have nq7 := nq6.ext e7
        refine wp_ifB (fun hg => ?_) fun hg => ?_
        · rw [leI_iff] at hg
          refine s_left nq7 fun pl nl => s_ret ⟨fun _ => ⟨(l, pre, x :: r.list ++ post), (j, pl, ()), rfl, ⟨e6'.trans e7, nl, by rw [hL]; simp [BT.list], ?_, hg, oz6.ext e7, oa6.ext e7⟩, by dsimp only; omega⟩, fun h => absurd rfl h⟩
          dsimp only
          rw [htake]; simp only [BT.list]
          rw [List.take_append_of_le_length (by omega)]
        · rw [leI_not] at hg
          refine wp_bind (fun t vs h' => t = 0 ∧ vs = [] ∧ Ext h h' ∧ Nd h' q (.node l x r) ∧ obj h1.size h' ⟨h1.size, 0, none⟩ zero4 ∧ obj h2.size h' ⟨h2.size, 0, none⟩ (sum (pre ++ l.list))) ?_ ?_
          · refine s_left nq7 fun pl nl => ?_
            cases l with
            | nil =>
              obtain rfl := nl
              exact s_ifF (s_ret ⟨rfl, rfl, e6'.trans e7, nq7, oz6.ext e7, by simpa [BT.list] using oa6.ext e7⟩)
            | node ll lx lr =>
              have hp : ∃ a, pl = some a := by obtain ⟨a, _, _, h1, _⟩ := nl; exact ⟨a, h1⟩
              obtain ⟨la, rfl⟩ := hp
              refine s_ifT (s_get4 rfl (oa6.ext e7) (s_left nq7 fun pl nl => s_sum nl (wp_call (c_Add vp vl (by omega)) fun m h8 e8 hm => ?_)))
              obtain ⟨m, w5⟩ := m
              dsimp only at hm
              rw [← hpl] at hm
              subst hm
              refine s_store4 (sum (pre ++ (BT.node ll lx lr).list)) ((oa6.ext e7).ext e8) (vpl.fits (by omega)) fun h9 o9 u9 => s_ret ⟨rfl, rfl, Upd.extN ((e6'.trans e7).trans e8) u9 (by intro a ha; cases ha; dsimp only; omega),
                (nq7.ext e8).upd u9 ((oa6.ext e7).ext e8).own (by decide), ((oz6.ext e7).ext e8).obj_upd u9 (by dsimp only; omega), o9⟩
          · rintro tg vs h8 ⟨rfl, rfl, e8, nq8, oz8, oa8⟩
            refine s_tag (s_cast0 (s_get4 rfl oa8 (s_item nq8 (wp_call (c_Measure f1 f2) fun m h9 e9 hm => ?_))))
            obtain ⟨m, w9⟩ := m
            dsimp only at hm
            subst hm
            refine s_same4 (oa8.ext e9) (wp_call (c_Add vpl vm (by omega)) fun m h10 e10 hm => ?_)
            obtain ⟨m, w10⟩ := m
            dsimp only at hm
            rw [← sum_snoc] at hm
            subst hm
            have vq : V (pre.length + l.list.length + 1) (sum (pre ++ l.list ++ [x])) := by rw [sum_snoc]; exact vpl.add vm
            refine s_store4 (sum (pre ++ l.list ++ [x])) ((oa8.ext e9).ext e10) (vq.fits (by omega)) fun h11 o11 u11 => ?_
            have nq11 := ((nq8.ext e9).ext e10).upd u11 ((oa8.ext e9).ext e10).own (by decide)
            have hsub : subI .i64 (subI .i64 j ((l.list.length : Nat) : Int)) 1 = j - l.list.length - 1 := by
              rw [sub_ok (a := j) (by omega) (by omega), sub_ok (by omega) (by omega)]
            rw [hsub]
            refine s_right nq11 fun pr nr => s_ret ⟨fun _ => ⟨(r, pre ++ l.list ++ [x], post), (j - l.list.length - 1, pr, ()), rfl, ⟨Upd.extN ((e8.trans e9).trans e10) u11 (by intro a ha; cases ha; dsimp only; omega), nr, by rw [hL]; simp [BT.list], ?_, by dsimp only; omega,
              ((oz8.ext e9).ext e10).obj_upd u11 (by dsimp only; omega), o11⟩, by dsimp only; omega⟩, fun h => absurd rfl h⟩
            dsimp only
            rw [htake]
            obtain ⟨d, hd⟩ : ∃ d : Nat, j = l.list.length + 1 + d := ⟨(j - l.list.length - 1).toNat, by omega⟩
            have h1' : j.toNat = (l.list ++ [x]).length + d := by simp; omega
            have h2' : (j - l.list.length - 1).toNat = d := by omega
            rw [h1', h2', show (BT.node l x r).list = (l.list ++ [x]) ++ r.list by simp [BT.list], List.take_append, List.take_of_length_le (by omega), Nat.add_sub_cancel_left]
            simp
    · have hno : ¬(t' ≠ .nil ∧ 0 < j) := fun x => by rw [hb.2 x] at hc; cases hc
      refine s_ret ⟨fun h => absurd h (by decide), fun _ => ⟨rfl, rfl, e6', oz6, ?_⟩⟩
      rw [htake]
      by_cases hn : t' = .nil
      · subst hn; simpa [BT.list] using oa6
      · have hj0 : j.toNat = 0 := by have : ¬ 0 < j := fun x => hno ⟨hn, x⟩; omega
        rw [hj0, List.take_zero, List.append_nil]; exact oa6
  · rintro tg vs h5 ⟨rfl, rfl, e5, oz, oa⟩
    have hv : V t.list.length (sum (t.list.take i.toNat)) := (V.sum (hw.take _)).mono (by rw [List.length_take]; omega)
    exact s_tag (s_cast0 (s_get4 rfl oa (s_tell4 (sum (t.list.take i.toNat)) oz e1.size (hv.fits (by omega)) e5 fun _ _ => rfl)))

/-- The root's object, put. -/
theorem s_putTree (p : Option Addr) {K : Addr → Prog} {t : BT} (ht : Nd h p t) (hk : ∀ h', Ext h h' → Own h.size 1 h' ⟨some ⟨h.size, 0, none⟩, 1, 1⟩ [.pointer p] → wp P (K ⟨h.size, 0, none⟩) h' Q) :
    wp P (.alloc [.pointer none] fun a => .store (some a) [.pointer p] (K a)) h Q :=
  s_newP none fun h1 e1 o1 => s_putP p o1 fun h2 o2 u2 => hk h2 (Upd.extN e1 u2 (by intro a ha; cases ha; exact Nat.le_refl _)) o2

theorem key0_pos (l : List (Int × Int)) (hl : wfR l) : 1 ≤ key (sum ((1, 1) :: l)) 0 := by
  have h1 : wfR [((1 : Int), (1 : Int))] := by intro r hr; rw [List.mem_singleton.1 hr]; exact ⟨fits_i64.2 (by decide), fits_i64.2 (by decide)⟩
  rw [show ((1, 1) :: l) = [((1 : Int), (1 : Int))] ++ l from rfl, sum_append h1 hl]
  have := key_mono (V.sum h1) (V.sum hl) 0
  have h2 : key (sum [((1 : Int), (1 : Int))]) 0 = 1 := by decide
  omega

theorem c_TreeFinds {s : Sl} {l : List (Int × Int)} {k n : Int} (hr : Runs h s l) : Gives P (F_law4_TreeFinds S s k n) [.one .bool] h fun (x : Bool × Unit) _ => x.1 = true := by
  have hlen := hr.len
  unfold F_law4_TreeFinds Gives
  refine wp_ifB (fun hc => s_ret ⟨rfl, Ext.refl _, (true, ()), rfl, rfl⟩) fun hc => ?_
  rw [gtI_not, natI_def, hlen] at hc
  have h11 : wfR [((1 : Int), (1 : Int))] := by intro r hr; rw [List.mem_singleton.1 hr]; exact ⟨fits_i64.2 (by decide), fits_i64.2 (by decide)⟩
  intro elem
  have e1 : Ext h (h.push (.cells [.int .i64 1, .int .i64 1].toArray elem)) := Ext.push ..
  have o1 : OwnR h.size (h.push (.cells [.int .i64 1, .int .i64 1].toArray elem)) ⟨some ⟨h.size, 0, none⟩, 1, 1⟩ [(1, 1)] := ⟨own_alloc rfl (by decide) (by decide), h11⟩
  generalize (h.push (.cells [.int .i64 1, .int .i64 1].toArray elem)) = h1 at e1 o1 ⊢
  refine s_append2 o1 e1.size (hr.ext e1) (by simp; omega) fun r2 h2 k2 o2 => ?_
  have e2 : Ext h h2 := Keep.trans e1 k2
  rw [show [((1 : Int), (1 : Int))] ++ l = (1, 1) :: l from rfl] at o2
  have hpos := key0_pos l hr.wf
  have hL : ((1, 1) :: l).length ≤ 1099511627777 := by simp; omega
  have hr2 := o2.len
  revert hpos hL hr2
  generalize hLL : ((1 : Int), (1 : Int)) :: l = L at o2
  intro hpos hL hr2
  have hw := o2.wf
  have vL := V.sum hw
  refine wp_call (c_Of o2.runs (by omega)) fun y h3 e3 hy => ?_
  obtain ⟨⟨(p : Option Addr), w0⟩, w1⟩ := y
  obtain ⟨t, nt, rfl, _⟩ := hy
  dsimp only at nt ⊢
  refine s_putTree p nt fun h4 e4 o4 => s_getT o4 (wp_call (c_Sum (nt.ext e4) hw (by omega)) fun y h5 e5 hy => ?_)
  obtain ⟨y, w2⟩ := y
  dsimp only at hy
  subst hy
  refine s_put4 (sum t.list) (vL.fits (by omega)) fun h6 e6 o6 => ?_
  have nt6 := ((nt.ext e4).ext e5).ext e6
  have o46 := (o4.ext e5).ext e6
  have e06 := (((e2.trans e3).trans e4).trans e5).trans e6
  refine bind_bool False ?_ fun b h7 e7 hb => ?_
  · refine s_getT o46 (wp_call (c_Size nt6) fun y k1 d1 hy => ?_)
    obtain ⟨(y : Int), w3⟩ := y
    dsimp only at hy ⊢
    rw [show neI y (natI r2.len) = false from neI_not.2 (by rw [hy, natI_def, hr2])]
    refine s_ifF (s_get4 rfl (o6.ext d1) (wp_call (c_Key vL (by omega)) fun y k2 d2 hy => ?_))
    obtain ⟨(y : Int), w4⟩ := y
    dsimp only at hy ⊢
    refine s_ret ⟨rfl, d1.trans d2, ltI y 1, rfl, Iff.intro (fun hz => ?_) False.elim⟩
    have hy' : y = key (sum t.list) 0 := hy
    rw [ltI_iff] at hz; omega
  have hbf : b = false := by cases b; rfl; exact (hb.1 rfl).elim
  subst hbf
  dsimp only
  have nt7 := nt6.ext e7
  have o47 := o46.ext e7
  have e07 := e06.trans e7
  refine s_ifF (s_getT o47 (wp_call (c_Find nt7 hw (by omega)) fun y h8 e8 hf => ?_))
  obtain ⟨(i : Int), w5⟩ := y
  dsimp only at hf ⊢
  have hi : 0 ≤ i ∧ i ≤ t.list.length + 1 := by rcases hf with ⟨h1, _⟩ | ⟨h1, h2, _⟩ | ⟨h1, _⟩ <;> omega
  have nt8 := nt7.ext e8
  have o48 := o47.ext e8
  have e08 := e07.trans e8
  refine bind_bool False ?_ fun b h9 e9 hb => ?_
  · refine wp_ifB (fun hz => ?_) fun hz => ?_
    · rw [ltI_iff] at hz; omega
    · refine s_ret ⟨rfl, Ext.refl _, _, rfl, Iff.intro (fun hz => ?_) False.elim⟩
      rw [gtI_iff, natI_def, hr2, add_ok (by omega) (by omega)] at hz; omega
  have hbf : b = false := by cases b; rfl; exact (hb.1 rfl).elim
  subst hbf
  dsimp only
  refine s_ifF ?_
  have nt9 := nt8.ext e9
  have o49 := o48.ext e9
  have e09 := e08.trans e9
  have vt : ∀ j : Nat, V t.list.length (sum (t.list.take j)) := fun j => (V.sum (hw.take j)).mono (by rw [List.length_take]; omega)
  refine wp_bind (fun t vs h' => t = 0 ∧ vs = [] ∧ Ext h9 h') ?_ ?_
  · refine wp_ifB (fun hz => ?_) fun hz => s_ret ⟨rfl, rfl, Ext.refl _⟩
    rw [leI_iff, natI_def, hr2] at hz
    refine s_getT o49 (wp_call (c_Upto' nt9 hw (by omega)) fun y k1 d1 hy => ?_)
    obtain ⟨y, w6⟩ := y
    dsimp only at hy
    subst hy
    refine s_put4 (sum (t.list.take i.toNat)) ((vt _).fits (by omega)) fun k2 d2 q2 => s_get4 rfl q2 (wp_call (c_Key (vt _) (by omega)) fun y k3 d3 hy => ?_)
    obtain ⟨(y : Int), w7⟩ := y
    dsimp only at hy ⊢
    have hge : n ≤ y := by
      rw [hy]
      rcases hf with ⟨rfl, h2⟩ | ⟨h1, h2, h3, _⟩ | ⟨h1, _⟩
      · have : key (sum (t.list.take (0 : Int).toNat)) k = 0 := by
          rw [show (0 : Int).toNat = 0 from rfl, List.take_zero, show sum [] = zero4 from rfl, key_zero]
        exact (by omega : n ≤ key (sum (t.list.take (0 : Int).toNat)) k)
      · exact h3
      · omega
    rw [show ltI y n = false from ltI_not.2 hge]
    exact s_ifF (s_ret ⟨rfl, rfl, (d1.trans d2).trans d3⟩)
  · rintro tg vs h10 ⟨rfl, rfl, e10⟩
    refine s_skip (by decide) (s_tag (s_cast0 ?_))
    have nt10 := nt9.ext e10
    have o410 := o49.ext e10
    refine wp_bind (fun t vs h' => t = 0 ∧ vs = [] ∧ Ext h10 h') ?_ ?_
    · refine wp_ifB (fun hz => ?_) fun hz => s_ret ⟨rfl, rfl, Ext.refl _⟩
      rw [gtI_iff] at hz
      rw [sub_ok (by omega) (by omega)]
      refine s_getT o410 (wp_call (c_Upto' nt10 hw (by omega)) fun y k1 d1 hy => ?_)
      obtain ⟨y, w6⟩ := y
      dsimp only at hy
      subst hy
      refine s_put4 (sum (t.list.take (i - 1).toNat)) ((vt _).fits (by omega)) fun k2 d2 q2 => s_get4 rfl q2 (wp_call (c_Key (vt _) (by omega)) fun y k3 d3 hy => ?_)
      obtain ⟨(y : Int), w7⟩ := y
      dsimp only at hy ⊢
      have hlt : y < n := by
        rw [hy]
        rcases hf with ⟨rfl, h2⟩ | ⟨h1, h2, _, h3⟩ | ⟨h1, h2⟩
        · omega
        · rw [show i.toNat - 1 = (i - 1).toNat by omega] at h3; exact h3
        · rw [show (i - 1).toNat = t.list.length by omega, List.take_length]; exact h2
      rw [show geI y n = false from geI_not.2 hlt]
      exact s_ifF (s_ret ⟨rfl, rfl, (d1.trans d2).trans d3⟩)
    · rintro tg vs h11 ⟨rfl, rfl, e11⟩
      exact s_skip (by decide) (s_tag (s_cast0 (s_ret ⟨rfl, (e09.trans e10).trans e11, (true, ()), rfl, rfl⟩)))

end Go.Sw.Tree

set_option linter.unusedVariables false
set_option linter.unusedSimpArgs false
set_option maxRecDepth 100000
namespace Go.Sw.Tree
variable {P : Program} {S : Ids} {h : Heap} {Q : Nat → List Value → Heap → Prop}

def NdC (h : Heap) (a : Addr) (pl pr : Option Addr) (l : BT) (x : Int × Int) (r : BT) : Prop := Cells h a (headV pl pr (.node l x r) l r x ++ sumV (sum (BT.node l x r).list))
theorem NdC.ext {h h' : Heap} {a : Addr} {pl pr : Option Addr} {l r : BT} {x : Int × Int} (c : NdC h a pl pr l x r) (e : Ext h h') : NdC h' a pl pr l x r := e.cells c
theorem q_left {a : Addr} {pl pr : Option Addr} {l r : BT} {x : Int × Int} {K : Option Addr → Prog} (c : NdC h a pl pr l x r) (hk : wp P (K pl) h Q) : wp P (grd (someB (some a)) <| grd (someB (some a)) <| .load (.one .ptr) (shiftTo (some a) 0) K) h Q :=
  grd_some rfl (grd_some rfl (s_cell (b := .ptr) (x := pl) rfl c rfl hk))
theorem q_right {a : Addr} {pl pr : Option Addr} {l r : BT} {x : Int × Int} {K : Option Addr → Prog} (c : NdC h a pl pr l x r) (hk : wp P (K pr) h Q) : wp P (grd (someB (some a)) <| grd (someB (some a)) <| .load (.one .ptr) (shiftTo (some a) 1) K) h Q :=
  grd_some rfl (grd_some rfl (s_cell (b := .ptr) (x := pr) rfl c rfl hk))
theorem q_item {a : Addr} {pl pr : Option Addr} {l r : BT} {x : Int × Int} {K : R2 → Prog} (c : NdC h a pl pr l x r) (hk : wp P (K (x.1, x.2, ())) h Q) : wp P (grd (someB (some a)) <| grd (someB (some a)) <| .load (.agg [.int .i64, .int .i64]) (shiftTo (some a) 2) K) h Q :=
  grd_some rfl (grd_some rfl (s_cells2 (x := x.1) (y := x.2) rfl c rfl rfl hk))
theorem q_same {a : Addr} {vs ws : List Value} {j : Nat} {K : Prog} (c : Cells h a vs) (hj : ∀ i v, ws[i]? = some v → vs[j + i]? = some v) (hk : wp P K h Q) : wp P (.check (shiftTo (some a) j) ws K) h Q :=
  ⟨⟨a.add j, rfl, cells_iff.2 fun i v hi => by rw [add_add]; exact cells_iff.1 c _ _ (hj i v hi)⟩, hk⟩
theorem q_ckL {a : Addr} {pl pr : Option Addr} {l r : BT} {x : Int × Int} {K : Prog} (c : NdC h a pl pr l x r) (hk : wp P K h Q) : wp P (.check (shiftTo (some a) 0) [.pointer pl] K) h Q :=
  q_same c (fun i v hi => by match i, hi with | 0, hi => exact hi) hk
theorem q_ckR {a : Addr} {pl pr : Option Addr} {l r : BT} {x : Int × Int} {K : Prog} (c : NdC h a pl pr l x r) (hk : wp P K h Q) : wp P (.check (shiftTo (some a) 1) [.pointer pr] K) h Q :=
  q_same c (fun i v hi => by match i, hi with | 0, hi => exact hi) hk
theorem q_ckI {a : Addr} {pl pr : Option Addr} {l r : BT} {x : Int × Int} {K : Prog} (c : NdC h a pl pr l x r) (hk : wp P K h Q) : wp P (.check (shiftTo (some a) 2) [.int .i64 x.1, .int .i64 x.2] K) h Q :=
  q_same c (fun i v hi => by match i, hi with | 0, hi => exact hi | 1, hi => exact hi) hk

/-- What even answers. -/
def Even (l : BT) (x : Int × Int) (r t : BT) : Prop := t.list = l.list ++ x :: r.list ∧
  (l.Avl → r.Avl → l.ht ≤ r.ht + 2 → r.ht ≤ l.ht + 2 → t.Avl ∧ max l.ht r.ht ≤ t.ht ∧ t.ht ≤ max l.ht r.ht + 1 ∧ (l.ht ≤ r.ht + 1 → r.ht ≤ l.ht + 1 → t.ht = max l.ht r.ht + 1))
def Join (l : BT) (x : Int × Int) (r t : BT) : Prop := t.list = l.list ++ x :: r.list ∧ (l.Avl → r.Avl → t.Avl ∧ max l.ht r.ht ≤ t.ht ∧ t.ht ≤ max l.ht r.ht + 1)

theorem even_1 {ll lr r : BT} {lx x : Int × Int} (h1 : r.ht + 1 < (BT.node ll lx lr).ht) (h2 : lr.ht ≤ ll.ht) : Even (.node ll lx lr) x r (.node ll lx (.node lr x r)) := by
  refine ⟨by simp [BT.list], fun ⟨a1, a2, a3, a4⟩ a5 a6 a7 => ?_⟩
  simp only [BT.ht, BT.Avl] at *
  refine ⟨⟨a1, ⟨a2, a5, ?_, ?_⟩, ?_, ?_⟩, ?_, ?_, ?_⟩ <;> omega
theorem even_2 {ll m1 m2 r : BT} {lx x mx : Int × Int} (h1 : r.ht + 1 < (BT.node ll lx (.node m1 mx m2)).ht) (h2 : ll.ht < (BT.node m1 mx m2).ht) : Even (.node ll lx (.node m1 mx m2)) x r (.node (.node ll lx m1) mx (.node m2 x r)) := by
  refine ⟨by simp [BT.list], fun ⟨a1, ⟨b1, b2, b3, b4⟩, a3, a4⟩ a5 a6 a7 => ?_⟩
  simp only [BT.ht, BT.Avl] at *
  refine ⟨⟨⟨a1, b1, ?_, ?_⟩, ⟨b2, a5, ?_, ?_⟩, ?_, ?_⟩, ?_, ?_, ?_⟩ <;> omega
theorem even_3 {l rl rr : BT} {rx x : Int × Int} (h1 : l.ht + 1 < (BT.node rl rx rr).ht) (h2 : rl.ht ≤ rr.ht) : Even l x (.node rl rx rr) (.node (.node l x rl) rx rr) := by
  refine ⟨by simp [BT.list], fun a5 ⟨a1, a2, a3, a4⟩ a6 a7 => ?_⟩
  simp only [BT.ht, BT.Avl] at *
  refine ⟨⟨⟨a5, a1, ?_, ?_⟩, a2, ?_, ?_⟩, ?_, ?_, ?_⟩ <;> omega
theorem even_4 {l m1 m2 rr : BT} {rx x mx : Int × Int} (h1 : l.ht + 1 < (BT.node (.node m1 mx m2) rx rr).ht) (h2 : rr.ht < (BT.node m1 mx m2).ht) : Even l x (.node (.node m1 mx m2) rx rr) (.node (.node l x m1) mx (.node m2 rx rr)) := by
  refine ⟨by simp [BT.list], fun a5 ⟨⟨b1, b2, b3, b4⟩, a2, a3, a4⟩ a6 a7 => ?_⟩
  simp only [BT.ht, BT.Avl] at *
  refine ⟨⟨⟨a5, b1, ?_, ?_⟩, ⟨b2, a2, ?_, ?_⟩, ?_, ?_⟩, ?_, ?_, ?_⟩ <;> omega
theorem even_5 {l r : BT} {x : Int × Int} (h1 : l.ht ≤ r.ht + 1) (h2 : r.ht ≤ l.ht + 1) : Even l x r (.node l x r) := by
  refine ⟨by simp [BT.list], fun a b _ _ => ?_⟩
  simp only [BT.ht, BT.Avl] at *
  refine ⟨⟨a, b, ?_, ?_⟩, ?_, ?_, ?_⟩ <;> first | omega | (intros; first | trivial | omega)
theorem join_1 {ll lr r t1 t : BT} {lx x : Int × Int} (h1 : r.ht + 1 < (BT.node ll lx lr).ht) (j : Join lr x r t1) (e : Even ll lx t1 t) : Join (.node ll lx lr) x r t := by
  refine ⟨by rw [e.1, j.1]; simp [BT.list], fun ⟨a1, a2, a3, a4⟩ a5 => ?_⟩
  obtain ⟨j1, j2, j3⟩ := j.2 a2 a5
  simp only [BT.ht] at *
  obtain ⟨e1, e2, e3, e4⟩ := e.2 a1 j1 (by omega) (by omega)
  refine ⟨e1, ?_, ?_⟩ <;> (by_cases hx : ll.ht ≤ t1.ht + 1 <;> by_cases hy : t1.ht ≤ ll.ht + 1 <;> first | (have := e4 hx hy; omega) | omega)
theorem join_2 {l rl rr t1 t : BT} {rx x : Int × Int} (h1 : l.ht + 1 < (BT.node rl rx rr).ht) (j : Join l x rl t1) (e : Even t1 rx rr t) : Join l x (.node rl rx rr) t := by
  refine ⟨by rw [e.1, j.1]; simp [BT.list], fun a5 ⟨a1, a2, a3, a4⟩ => ?_⟩
  obtain ⟨j1, j2, j3⟩ := j.2 a5 a1
  simp only [BT.ht] at *
  obtain ⟨e1, e2, e3, e4⟩ := e.2 j1 a2 (by omega) (by omega)
  refine ⟨e1, ?_, ?_⟩ <;> (by_cases hx : t1.ht ≤ rr.ht + 1 <;> by_cases hy : rr.ht ≤ t1.ht + 1 <;> first | (have := e4 hx hy; omega) | omega)
theorem join_3 {l r : BT} {x : Int × Int} (h1 : l.ht ≤ r.ht + 1) (h2 : r.ht ≤ l.ht + 1) : Join l x r (.node l x r) := by
  refine ⟨by simp [BT.list], fun a b => ?_⟩
  simp only [BT.ht, BT.Avl] at *
  refine ⟨⟨a, b, ?_, ?_⟩, ?_, ?_⟩ <;> omega

theorem wf_sub {L M : List (Int × Int)} (w : wfR L) (hm : ∀ y, y ∈ M → y ∈ L) : wfR M := fun y hy => w y (hm y hy)

theorem c_even {pl pr : Option Addr} {l r : BT} {x : R2} (nl : Nd h pl l) (nr : Nd h pr r) (hw : wfR (BT.node l (x.1, x.2.1) r).list) (hroom : (BT.node l (x.1, x.2.1) r).list.length ≤ 4398046511104) :
    Gives P (F_tree_even_Run S pl x pr) [.one .ptr] h fun (y : Option Addr × Unit) h' => ∃ t, Nd h' y.1 t ∧ Even l (x.1, x.2.1) r t := by
  obtain ⟨(kd : Int), (n : Int), u⟩ := x
  dsimp only at hw hroom ⊢
  obtain ⟨f1, f2⟩ := wf_mid hw
  have hl := node_len l r (kd, n)
  have g1 := l.ht_le; have g2 := r.ht_le
  unfold F_tree_even_Run Gives
  refine s_new2 kd n f1 f2 fun h1 e1 o1 => ?_
  have ld : ∀ {h'} {K : R2 → Prog} {Q : Nat → List Value → Heap → Prop}, Ext h1 h' → wp P (K (kd, n, ())) h' Q → wp P (.load (.agg [.int .i64, .int .i64]) (some ⟨h.size, 0, none⟩) K) h' Q := fun e hk =>
    ⟨_, rfl, (kd, n, ()), (o1.ext e).lst.cells, hk⟩
  have ck : ∀ {h'} {K : Prog} {Q : Nat → List Value → Heap → Prop}, Ext h1 h' → wp P K h' Q → wp P (.check (some ⟨h.size, 0, none⟩) [iv kd, iv n] K) h' Q := fun e hk =>
    s_check0 rfl (o1.ext e).lst.cells hk
  have nl1 := nl.ext e1
  have nr1 := nr.ext e1
  refine wp_call (c_tall nl1) fun y h2 e2 hy => wp_call (c_tall (nr1.ext e2)) fun z h3 e3 hz => ?_
  obtain ⟨(y : Int), w1⟩ := y
  obtain ⟨(z : Int), w2⟩ := z
  dsimp only at hy hz ⊢
  subst hy; subst hz
  have e13 := e2.trans e3
  have nl3 := nl1.ext e13
  have nr3 := nr1.ext e13
  rw [add_ok (by omega) (by omega)]
  refine wp_ifB (fun hc => ?_) fun hc => ?_
  · rw [gtI_iff] at hc
    cases l with
    | nil => simp only [BT.ht] at hc; omega
    | node ll lx lr =>
      have hll := node_len ll lr lx
      obtain ⟨a, ql, qr, rfl, c, n1, n2⟩ := nl3
      have c : NdC h3 a ql qr ll lx lr := c
      refine q_left c (q_right c (wp_call (c_tall n1) fun y h4 e4 hy => q_ckR (c.ext e4) (wp_call (c_tall (n2.ext e4)) fun z h5 e5 hz => ?_)))
      obtain ⟨(y : Int), w1⟩ := y
      obtain ⟨(z : Int), w2⟩ := z
      dsimp only at hy hz ⊢
      subst hy; subst hz
      have e35 := e4.trans e5
      have c5 := c.ext e35
      have n15 := n1.ext e35
      have n25 := n2.ext e35
      have nr5 := nr3.ext e35
      have e15 := e13.trans e35
      refine wp_ifB (fun hg => ?_) fun hg => ?_
      · rw [geI_iff] at hg
        refine q_left c5 (q_item c5 (q_right c5 (ld e15 (wp_call (c_of (x := (kd, n, ())) n25 nr5 (wf_sub hw (by intro y hy; simp only [BT.list, List.mem_append, List.mem_cons] at hy ⊢; grind)) (by rw [node_len]; omega)) fun p h6 e6 hp => ?_))))
        obtain ⟨(p : Option Addr), w3⟩ := p
        dsimp only at hp ⊢
        have hev := even_1 (x := (kd, n)) (r := r) (lx := lx) (by omega) (show lr.ht ≤ ll.ht by omega)
        refine q_ckI (c5.ext e6) (q_ckL (c5.ext e6) (wp_call (c_of (x := (lx.1, lx.2, ())) (n15.ext e6) hp (by rw [hev.1]; exact hw) (by rw [hev.1]; exact hroom)) fun p h7 e7 hp => ?_))
        obtain ⟨(p : Option Addr), w4⟩ := p
        exact s_ret ⟨rfl, e1.trans ((e15.trans e6).trans e7), (p, ()), rfl, _, hp, hev⟩
      · rw [geI_not] at hg
        cases lr with
        | nil => simp only [BT.ht] at hg; omega
        | node m1 mx m2 =>
          have hmm := node_len m1 m2 mx
          obtain ⟨a', ml, mr, rfl, c', k1, k2⟩ := n25
          have c' : NdC h5 a' ml mr m1 mx m2 := c'
          have hev := even_2 (x := (kd, n)) (r := r) (lx := lx) (ll := ll) (m1 := m1) (mx := mx) (m2 := m2) (by omega) (by omega)
          refine q_right c5 (q_left c5 (q_item c5 (q_left c' (q_item c' (q_right c' (ld e15 (wp_call (c_of (x := (lx.1, lx.2, ())) n15 k1 (wf_sub hw (by intro y hy; simp only [BT.list, List.mem_append, List.mem_cons] at hy ⊢; grind)) (by rw [node_len]; omega)) fun p h6 e6 hp => ?_)))))))
          obtain ⟨(p : Option Addr), w3⟩ := p
          dsimp only at hp ⊢
          refine ck (e15.trans e6) (q_ckR (c'.ext e6) (q_ckI (c'.ext e6) (wp_call (c_of (x := (kd, n, ())) (k2.ext e6) (nr5.ext e6) (wf_sub hw (by intro y hy; simp only [BT.list, List.mem_append, List.mem_cons] at hy ⊢; grind)) (by rw [node_len]; omega)) fun p' h7 e7 hp' => ?_)))
          obtain ⟨(p' : Option Addr), w4⟩ := p'
          dsimp only at hp' ⊢
          refine q_ckI (c'.ext (e6.trans e7)) (wp_call (c_of (x := (mx.1, mx.2, ())) (hp.ext e7) hp' (by rw [hev.1]; exact hw) (by rw [hev.1]; exact hroom)) fun p'' h8 e8 hp'' => ?_)
          obtain ⟨(p'' : Option Addr), w5⟩ := p''
          exact s_ret ⟨rfl, e1.trans (((e15.trans e6).trans e7).trans e8), (p'', ()), rfl, _, hp'', hev⟩
  · rw [gtI_not] at hc
    refine wp_call (c_tall nr3) fun y h4 e4 hy => wp_call (c_tall (nl3.ext e4)) fun z h5 e5 hz => ?_
    obtain ⟨(y : Int), w1⟩ := y
    obtain ⟨(z : Int), w2⟩ := z
    dsimp only at hy hz ⊢
    subst hy; subst hz
    have e35 := e4.trans e5
    have nl5 := nl3.ext e35
    have nr5 := nr3.ext e35
    have e15 := e13.trans e35
    rw [add_ok (by omega) (by omega)]
    refine wp_ifB (fun hd => ?_) fun hd => ?_
    · rw [gtI_iff] at hd
      cases r with
      | nil => simp only [BT.ht] at hd; omega
      | node rl rx rr =>
        have hrr := node_len rl rr rx
        obtain ⟨a, ql, qr, rfl, c, n1, n2⟩ := nr5
        have c : NdC h5 a ql qr rl rx rr := c
        refine q_right c (q_left c (wp_call (c_tall n2) fun y h6 e6 hy => q_ckL (c.ext e6) (wp_call (c_tall (n1.ext e6)) fun z h7 e7 hz => ?_)))
        obtain ⟨(y : Int), w1⟩ := y
        obtain ⟨(z : Int), w2⟩ := z
        dsimp only at hy hz ⊢
        subst hy; subst hz
        have e57 := e6.trans e7
        have c7 := c.ext e57
        have n17 := n1.ext e57
        have n27 := n2.ext e57
        have nl7 := nl5.ext e57
        have e17 := e15.trans e57
        refine wp_ifB (fun hg => ?_) fun hg => ?_
        · rw [geI_iff] at hg
          refine ld e17 (q_left c7 (q_item c7 (q_right c7 (wp_call (c_of (x := (kd, n, ())) nl7 n17 (wf_sub hw (by intro y hy; simp only [BT.list, List.mem_append, List.mem_cons] at hy ⊢; grind)) (by rw [node_len]; omega)) fun p h8 e8 hp => ?_))))
          obtain ⟨(p : Option Addr), w3⟩ := p
          dsimp only at hp ⊢
          have hev := even_3 (x := (kd, n)) (l := l) (rx := rx) (rl := rl) (rr := rr) (by omega) (by omega)
          refine q_ckR (c7.ext e8) (q_ckI (c7.ext e8) (wp_call (c_of (x := (rx.1, rx.2, ())) hp (n27.ext e8) (by rw [hev.1]; exact hw) (by rw [hev.1]; exact hroom)) fun p h9 e9 hp => ?_))
          obtain ⟨(p : Option Addr), w4⟩ := p
          exact s_ret ⟨rfl, e1.trans ((e17.trans e8).trans e9), (p, ()), rfl, _, hp, hev⟩
        · rw [geI_not] at hg
          cases rl with
          | nil => simp only [BT.ht] at hg; omega
          | node m1 mx m2 =>
            have hmm := node_len m1 m2 mx
            obtain ⟨a', ml, mr, rfl, c', k1, k2⟩ := n17
            have c' : NdC h7 a' ml mr m1 mx m2 := c'
            have hev := even_4 (x := (kd, n)) (l := l) (rx := rx) (m1 := m1) (mx := mx) (m2 := m2) (rr := rr) (by omega) (by omega)
            refine q_left c7 (ld e17 (q_left c' (q_item c' (q_right c' (q_item c7 (q_right c7 (wp_call (c_of (x := (kd, n, ())) nl7 k1 (wf_sub hw (by intro y hy; simp only [BT.list, List.mem_append, List.mem_cons] at hy ⊢; grind)) (by rw [node_len]; omega)) fun p h8 e8 hp => ?_)))))))
            obtain ⟨(p : Option Addr), w3⟩ := p
            dsimp only at hp ⊢
            refine q_ckR (c7.ext e8) (q_ckI (c7.ext e8) (q_ckR (c'.ext e8) (q_ckI (c'.ext e8) (wp_call (c_of (x := (rx.1, rx.2, ())) (k2.ext e8) (n27.ext e8) (wf_sub hw (by intro y hy; simp only [BT.list, List.mem_append, List.mem_cons] at hy ⊢; grind)) (by rw [node_len]; omega)) fun p' h9 e9 hp' => ?_))))
            obtain ⟨(p' : Option Addr), w4⟩ := p'
            dsimp only at hp' ⊢
            refine q_ckI (c'.ext (e8.trans e9)) (wp_call (c_of (x := (mx.1, mx.2, ())) (hp.ext e9) hp' (by rw [hev.1]; exact hw) (by rw [hev.1]; exact hroom)) fun p'' h10 e10 hp'' => ?_)
            obtain ⟨(p'' : Option Addr), w5⟩ := p''
            exact s_ret ⟨rfl, e1.trans (((e17.trans e8).trans e9).trans e10), (p'', ()), rfl, _, hp'', hev⟩
    · rw [gtI_not] at hd
      refine ld e15 (wp_call (c_of (x := (kd, n, ())) nl5 nr5 hw hroom) fun p h6 e6 hp => ?_)
      obtain ⟨(p : Option Addr), w3⟩ := p
      exact s_ret ⟨rfl, e1.trans (e15.trans e6), (p, ()), rfl, _, hp, even_5 (by omega) (by omega)⟩

end Go.Sw.Tree

set_option linter.unusedVariables false
set_option linter.unusedSimpArgs false
set_option maxRecDepth 100000
namespace Go.Sw.Tree
variable {P : Program} {S : Ids} {h : Heap} {Q : Nat → List Value → Heap → Prop}

theorem c_joinR (S : Ids) : ∀ (fuel : Nat) {h : Heap} {pl pr : Option Addr} {l r : BT} {x : R2}, l.list.length + r.list.length < fuel → Nd h pl l → Nd h pr r → wfR (BT.node l (x.1, x.2.1) r).list → (BT.node l (x.1, x.2.1) r).list.length ≤ 4398046511104 →
    Gives P (R_tree_join_Run fuel S pl x pr) [.one .ptr] h fun (y : Option Addr × Unit) h' => ∃ t, Nd h' y.1 t ∧ Join l (x.1, x.2.1) r t := by
  intro fuel
  induction fuel with
  | zero => intro h pl pr l r x hf; omega
  | succ fuel ih =>
    intro h pl pr l r x hf nl nr hw hroom
    obtain ⟨(kd : Int), (n : Int), u⟩ := x
    dsimp only at hw hroom ⊢
    obtain ⟨f1, f2⟩ := wf_mid hw
    have hl := node_len l r (kd, n)
    have g1 := l.ht_le; have g2 := r.ht_le
    unfold R_tree_join_Run Gives
    refine s_new2 kd n f1 f2 fun h1 e1 o1 => ?_
    have ld : ∀ {h'} {K : R2 → Prog} {Q : Nat → List Value → Heap → Prop}, Ext h1 h' → wp P (K (kd, n, ())) h' Q → wp P (.load (.agg [.int .i64, .int .i64]) (some ⟨h.size, 0, none⟩) K) h' Q := fun e hk =>
      ⟨_, rfl, (kd, n, ()), (o1.ext e).lst.cells, hk⟩
    have nl1 := nl.ext e1
    have nr1 := nr.ext e1
    refine wp_call (c_tall nl1) fun y h2 e2 hy => wp_call (c_tall (nr1.ext e2)) fun z h3 e3 hz => ?_
    obtain ⟨(y : Int), w1⟩ := y
    obtain ⟨(z : Int), w2⟩ := z
    dsimp only at hy hz ⊢
    subst hy; subst hz
    have e13 := e2.trans e3
    have nl3 := nl1.ext e13
    have nr3 := nr1.ext e13
    rw [add_ok (by omega) (by omega)]
    refine wp_ifB (fun hc => ?_) fun hc => ?_
    · rw [gtI_iff] at hc
      cases l with
      | nil => simp only [BT.ht] at hc; omega
      | node ll lx lr =>
        have hll := node_len ll lr lx
        obtain ⟨a, ql, qr, rfl, c, n1, n2⟩ := nl3
        have c : NdC h3 a ql qr ll lx lr := c
        refine q_left c (q_item c (q_right c (ld e13 (wp_call (ih (x := (kd, n, ())) (by omega) n2 nr3 (wf_sub hw (by intro y hy; simp only [BT.list, List.mem_append, List.mem_cons] at hy ⊢; grind)) (by rw [node_len]; omega)) fun p h4 e4 hp => ?_))))
        obtain ⟨(p : Option Addr), w3⟩ := p
        obtain ⟨t1, np, hj⟩ := hp
        dsimp only at np hj ⊢
        have hlist : (BT.node ll (lx.1, lx.2) t1).list = (BT.node (.node ll lx lr) (kd, n) r).list := by simp only [BT.list]; rw [hj.1]; simp
        refine q_ckI (c.ext e4) (q_ckL (c.ext e4) (wp_call (c_even (x := (lx.1, lx.2, ())) (n1.ext e4) np (by rw [hlist]; exact hw) (by rw [hlist]; exact hroom)) fun p h5 e5 hp => ?_))
        obtain ⟨(p : Option Addr), w4⟩ := p
        obtain ⟨t2, np, he⟩ := hp
        exact s_ret ⟨rfl, e1.trans ((e13.trans e4).trans e5), (p, ()), rfl, t2, np, join_1 (by omega) hj he⟩
    · rw [gtI_not] at hc
      refine wp_call (c_tall nr3) fun y h4 e4 hy => wp_call (c_tall (nl3.ext e4)) fun z h5 e5 hz => ?_
      obtain ⟨(y : Int), w1⟩ := y
      obtain ⟨(z : Int), w2⟩ := z
      dsimp only at hy hz ⊢
      subst hy; subst hz
      have e35 := e4.trans e5
      have nl5 := nl3.ext e35
      have nr5 := nr3.ext e35
      have e15 := e13.trans e35
      rw [add_ok (by omega) (by omega)]
      refine wp_ifB (fun hd => ?_) fun hd => ?_
      · rw [gtI_iff] at hd
        cases r with
        | nil => simp only [BT.ht] at hd; omega
        | node rl rx rr =>
          have hrr := node_len rl rr rx
          obtain ⟨a, ql, qr, rfl, c, n1, n2⟩ := nr5
          have c : NdC h5 a ql qr rl rx rr := c
          refine ld e15 (q_left c (q_item c (q_right c (wp_call (ih (x := (kd, n, ())) (by omega) nl5 n1 (wf_sub hw (by intro y hy; simp only [BT.list, List.mem_append, List.mem_cons] at hy ⊢; grind)) (by rw [node_len]; omega)) fun p h6 e6 hp => ?_))))
          obtain ⟨(p : Option Addr), w3⟩ := p
          obtain ⟨t1, np, hj⟩ := hp
          dsimp only at np hj ⊢
          have hlist : (BT.node t1 (rx.1, rx.2) rr).list = (BT.node l (kd, n) (.node rl rx rr)).list := by simp only [BT.list]; rw [hj.1]; simp
          refine q_ckR (c.ext e6) (q_ckI (c.ext e6) (wp_call (c_even (x := (rx.1, rx.2, ())) np (n2.ext e6) (by rw [hlist]; exact hw) (by rw [hlist]; exact hroom)) fun p h7 e7 hp => ?_))
          obtain ⟨(p : Option Addr), w4⟩ := p
          obtain ⟨t2, np, he⟩ := hp
          exact s_ret ⟨rfl, e1.trans ((e15.trans e6).trans e7), (p, ()), rfl, t2, np, join_2 (by omega) hj he⟩
      · rw [gtI_not] at hd
        refine ld e15 (wp_call (c_of (x := (kd, n, ())) nl5 nr5 hw hroom) fun p h6 e6 hp => ?_)
        obtain ⟨(p : Option Addr), w3⟩ := p
        exact s_ret ⟨rfl, e1.trans (e15.trans e6), (p, ()), rfl, _, hp, join_3 (by omega) (by omega)⟩

theorem c_join {pl pr : Option Addr} {l r : BT} {x : R2} (nl : Nd h pl l) (nr : Nd h pr r) (hw : wfR (BT.node l (x.1, x.2.1) r).list) (hroom : (BT.node l (x.1, x.2.1) r).list.length ≤ 4398046511104) :
    Gives P (F_tree_join_Run S pl x pr) [.one .ptr] h fun (y : Option Addr × Unit) h' => ∃ t, Nd h' y.1 t ∧ Join l (x.1, x.2.1) r t :=
  ⟨l.list.length + r.list.length + 1, c_joinR S _ (Nat.lt_succ_self _) nl nr hw hroom⟩

theorem c_cutR (S : Ids) : ∀ (fuel : Nat) {h : Heap} {p : Option Addr} {t : BT} {i : Int}, t.list.length < fuel → Nd h p t → wfR t.list → t.list.length ≤ 4398046511104 → -4398046511104 ≤ i → i ≤ 9223372036854775807 →
    Gives P (R_node_Run_cut fuel S p i) [.one .ptr, .one .ptr] h fun (y : Option Addr × Option Addr × Unit) h' => ∃ a b, Nd h' y.1 a ∧ Nd h' y.2.1 b ∧ a.list = t.list.take i.toNat ∧ b.list = t.list.drop i.toNat ∧ (t.Avl → a.Avl ∧ b.Avl) := by
  intro fuel
  induction fuel with
  | zero => intro h p t i hf; omega
  | succ fuel ih =>
    intro h p t i hf nt hw hroom hi0 hi1
    unfold R_node_Run_cut Gives
    cases t with
    | nil =>
      obtain rfl := nt
      exact s_ifT (s_ret ⟨rfl, Ext.refl _, (none, none, ()), rfl, .nil, .nil, rfl, rfl, by simp [BT.list], by simp [BT.list], fun _ => ⟨trivial, trivial⟩⟩)
    | node l x r =>
      have hl := node_len l r x
      obtain ⟨a, ql, qr, rfl, c, n1, n2⟩ := nt
      have c : NdC h a ql qr l x r := c
      refine s_ifF (q_left c (wp_call (c_count n1) fun y h1 e1 hy => ?_))
      obtain ⟨(y : Int), w1⟩ := y
      dsimp only at hy ⊢
      subst hy
      have c1 := c.ext e1
      refine wp_ifB (fun hc => ?_) fun hc => ?_
      · rw [leI_iff] at hc
        refine q_left c1 (wp_call (ih (by omega) (n1.ext e1) (wf_left hw) (by omega) hi0 hi1) fun y h2 e2 hy => ?_)
        obtain ⟨(pa : Option Addr), (pb : Option Addr), w2⟩ := y
        obtain ⟨ta, tb, na, nb, la, lb, hav⟩ := hy
        dsimp only at na nb ⊢
        have hlist : (BT.node tb (x.1, x.2) r).list = (BT.node l x r).list.drop i.toNat := by
          simp only [BT.list]; rw [lb, List.drop_append_of_le_length (by omega)]
        refine q_item (c1.ext e2) (q_right (c1.ext e2) (wp_call (c_join (x := (x.1, x.2, ())) nb (n2.ext (e1.trans e2)) (by rw [hlist]; exact hw.drop _) (by rw [hlist, List.length_drop]; omega)) fun y h3 e3 hy => ?_))
        obtain ⟨(pc : Option Addr), w3⟩ := y
        obtain ⟨t2, nc, hj⟩ := hy
        refine s_ret ⟨rfl, (e1.trans e2).trans e3, (pa, pc, ()), rfl, ta, t2, na.ext e3, nc, ?_, ?_, fun hv => ⟨(hav hv.1).1, (hj.2 (hav hv.1).2 hv.2.1).1⟩⟩
        · rw [la]; simp only [BT.list]; rw [List.take_append_of_le_length (by omega)]
        · rw [hj.1, ← hlist]; rfl
      · rw [leI_not] at hc
        rw [sub_ok (a := i) (by omega) (by omega), sub_ok (by omega) (by omega)]
        refine q_right c1 (wp_call (ih (i := i - l.list.length - 1) (by omega) (n2.ext e1) (wf_right hw) (by omega) (by omega) (by omega)) fun y h2 e2 hy => ?_)
        obtain ⟨(pa : Option Addr), (pb : Option Addr), w2⟩ := y
        obtain ⟨ta, tb, na, nb, la, lb, hav⟩ := hy
        dsimp only at na nb ⊢
        obtain ⟨d, hd⟩ : ∃ d : Nat, i = l.list.length + 1 + d := ⟨(i - l.list.length - 1).toNat, by omega⟩
        have h1' : i.toNat = (l.list ++ [x]).length + d := by simp; omega
        have h2' : (i - l.list.length - 1).toNat = d := by omega
        rw [h2'] at la lb
        have hbt : (BT.node l x r).list = (l.list ++ [x]) ++ r.list := by simp [BT.list]
        have hlist : (BT.node l (x.1, x.2) ta).list = (BT.node l x r).list.take i.toNat := by
          rw [hbt, h1', List.take_append, List.take_of_length_le (by omega), Nat.add_sub_cancel_left, ← la]; simp [BT.list]
        refine q_left (c1.ext e2) (q_item (c1.ext e2) (wp_call (c_join (x := (x.1, x.2, ())) (n1.ext (e1.trans e2)) na (by rw [hlist]; exact hw.take _) (by rw [hlist, List.length_take]; omega)) fun y h3 e3 hy => ?_))
        obtain ⟨(pc : Option Addr), w3⟩ := y
        obtain ⟨t2, nc, hj⟩ := hy
        refine s_ret ⟨rfl, (e1.trans e2).trans e3, (pc, pb, ()), rfl, t2, tb, nc, nb.ext e3, ?_, ?_, fun hv => ⟨(hj.2 hv.1 (hav hv.2.1).1).1, (hav hv.2.1).2⟩⟩
        · rw [hj.1, ← hlist]; rfl
        · rw [lb, hbt, h1', List.drop_append, List.drop_of_length_le (show (l.list ++ [x]).length ≤ (l.list ++ [x]).length + d from Nat.le_add_right ..), Nat.add_sub_cancel_left, List.nil_append]
theorem c_cut {p : Option Addr} {t : BT} {i : Int} (nt : Nd h p t) (hw : wfR t.list) (hroom : t.list.length ≤ 4398046511104) (hi : 0 ≤ i) (hi1 : i ≤ t.list.length) :
    Gives P (F_node_Run_cut S p i) [.one .ptr, .one .ptr] h fun (y : Option Addr × Option Addr × Unit) h' => ∃ a b, Nd h' y.1 a ∧ Nd h' y.2.1 b ∧ a.list = t.list.take i.toNat ∧ b.list = t.list.drop i.toNat ∧ (t.Avl → a.Avl ∧ b.Avl) :=
  ⟨t.list.length + 1, c_cutR S _ (Nat.lt_succ_self _) nt hw hroom (by omega) (by omega)⟩

theorem s_store2 {n : Nat} {a : Addr} {u v : Int} (x y : Int) {K : Prog} (ho : OwnL n .i64 h ⟨some a, 2, 2⟩ [u, v]) (hf : fitsI .i64 x ∧ fitsI .i64 y)
    (hk : ∀ h', OwnL n .i64 h' ⟨some a, 2, 2⟩ [x, y] → Upd ⟨some a, 2, 2⟩ h h' → wp P K h' Q) : wp P (.store (some a) [.int .i64 x, .int .i64 y] K) h Q :=
  s_storeL (l := [u, v]) [x, y] ho rfl (by intro z hz; simp only [List.mem_cons, List.not_mem_nil, or_false] at hz; rcases hz with rfl | rfl; exact hf.1; exact hf.2) fun h' o u _ => hk h' o u
theorem s_get2 {n : Nat} {p : Option Addr} {a : Addr} {x y : Int} {K : R2 → Prog} (hp : p = some a) (ho : OwnL n .i64 h ⟨some a, 2, 2⟩ [x, y]) (hk : wp P (K (x, y, ())) h Q) : wp P (.load (.agg [.int .i64, .int .i64]) p K) h Q :=
  ⟨a, hp, (x, y, ()), ho.lst.cells, hk⟩
theorem s_zero2 {K : Addr → Prog} (hk : ∀ h', Ext h h' → OwnL h.size .i64 h' ⟨some ⟨h.size, 0, none⟩, 2, 2⟩ [0, 0] → wp P (K ⟨h.size, 0, none⟩) h' Q) : wp P (.alloc [.int .i64 0, .int .i64 0] K) h Q :=
  s_new2 0 0 (fits_zero _) (fits_zero _) hk
theorem s_put2 (x y : Int) {K : Addr → Prog} (hf : fitsI .i64 x ∧ fitsI .i64 y) (hk : ∀ h', Ext h h' → OwnL h.size .i64 h' ⟨some ⟨h.size, 0, none⟩, 2, 2⟩ [x, y] → wp P (K ⟨h.size, 0, none⟩) h' Q) :
    wp P (.alloc [.int .i64 0, .int .i64 0] fun a => .store (some a) [.int .i64 x, .int .i64 y] (K a)) h Q :=
  s_zero2 fun h1 e1 o1 => s_store2 x y o1 hf fun h2 o2 u2 => hk h2 (Upd.extN e1 u2 (by intro a ha; cases ha; exact Nat.le_refl _)) o2

abbrev A2 : Ty := .agg [.int .i64, .int .i64]
/-- The first thing, and the others. -/
def First (t : BT) (x : Int × Int) (t' : BT) : Prop := t.list = x :: t'.list ∧ (t.Avl → t'.Avl ∧ t'.ht ≤ t.ht ∧ t.ht ≤ t'.ht + 1)

theorem c_firstR (S : Ids) : ∀ (fuel : Nat) {h : Heap} {p : Option Addr} {t : BT}, t.list.length < fuel → Nd h p t → t ≠ .nil → wfR t.list → t.list.length ≤ 4398046511104 →
    Gives P (R_node_Run_first fuel S p) [A2, .one .ptr] h fun (y : R2 × Option Addr × Unit) h' => ∃ t', Nd h' y.2.1 t' ∧ First t (y.1.1, y.1.2.1) t' := by
  intro fuel
  induction fuel with
  | zero => intro h p t hf; omega
  | succ fuel ih =>
    intro h p t hf nt hne hw hroom
    cases t with
    | nil => exact absurd rfl hne
    | node l x r =>
      have hl := node_len l r x
      have hmid := wf_mid hw
      obtain ⟨a, ql, qr, rfl, c, n1, n2⟩ := nt
      have c : NdC h a ql qr l x r := c
      unfold R_node_Run_first Gives
      refine s_zero2 fun h1 e1 o1 => ?_
      have c1 := c.ext e1
      refine q_left c1 ?_
      cases l with
      | nil =>
        obtain rfl := n1
        refine s_ifT (q_item c1 (q_right c1 (s_store2 x.1 x.2 o1 hmid fun h2 o2 u2 => ?_)))
        have c2 : NdC h2 a none qr .nil x r := cells_upd u2 c1 (small_ne o1.own c1 (by simp [headV, sumV]))
        have e2 : Ext h h2 := Upd.extN e1 u2 (by intro a ha; cases ha; exact Nat.le_refl _)
        exact q_ckR c2 (s_get2 rfl o2 (s_ret ⟨rfl, e2, ((x.1, x.2, ()), qr, ()), rfl, r, n2.ext e2, by simp [BT.list], fun ⟨_, b, c, d⟩ => by simp only [BT.ht] at *; exact ⟨b, by omega, by omega⟩⟩))
      | node ll lx lr =>
        have hp : ∃ a, ql = some a := by obtain ⟨a, _, _, h1, _⟩ := n1; exact ⟨a, h1⟩
        obtain ⟨la, rfl⟩ := hp
        refine s_ifF (q_left c1 (wp_call (ih (by omega) (n1.ext e1) (by simp) (wf_left hw) (by omega)) fun y h2 e2 hy => ?_))
        obtain ⟨⟨(i : Int), (j : Int), w1⟩, (pq : Option Addr), w2⟩ := y
        obtain ⟨t1, nq, hfst⟩ := hy
        dsimp only at nq hfst ⊢
        have hij : fitsI .i64 i ∧ fitsI .i64 j := hw (i, j) (by
          have : (i, j) ∈ (BT.node ll lx lr).list := by rw [hfst.1]; exact List.mem_cons_self ..
          simp only [BT.list, List.mem_append, List.mem_cons] at this ⊢; grind)
        refine s_put2 i j hij fun h3 e3 o3 => s_get2 rfl o3 ?_
        have e13 := e2.trans e3
        have c3 := c1.ext e13
        have hlist : (BT.node (.node ll lx lr) x r).list = (i, j) :: (BT.node t1 (x.1, x.2) r).list := by
          rw [show (BT.node (.node ll lx lr) x r).list = (BT.node ll lx lr).list ++ x :: r.list from rfl, hfst.1]; simp [BT.list]
        have hlen := congrArg List.length hlist
        rw [List.length_cons] at hlen
        refine q_item c3 (q_right c3 (wp_call (c_even (x := (x.1, x.2, ())) (nq.ext e3) (n2.ext (e1.trans e13)) (fun z hz => hw z (by rw [hlist]; exact List.mem_cons_of_mem _ hz)) (by dsimp only; omega)) fun y h4 e4 hy => ?_))
        obtain ⟨(pe : Option Addr), w3⟩ := y
        obtain ⟨t2, ne, hev⟩ := hy
        dsimp only at ne hev ⊢
        have e14 := e13.trans e4
        refine s_check0 rfl (o3.ext e4).lst.cells (s_store2 i j (o1.ext e14) hij fun h5 o5 u5 => s_get2 rfl o5 (s_ret ⟨rfl, Upd.extN (e1.trans e14) u5 (by intro a ha; cases ha; exact Nat.le_refl _), ((i, j, ()), pe, ()), rfl, t2, ne.upd u5 (o1.ext e14).own (by decide), ?_, ?_⟩))
        · rw [hlist, hev.1]; rfl
        · intro ⟨a1, a2, a3, a4⟩
          obtain ⟨g1, g2, g3⟩ := hfst.2 a1
          obtain ⟨k1, k2, k3, k4⟩ := hev.2 g1 a2 (by omega) (by omega)
          rw [show (BT.node (.node ll lx lr) x r).ht = max (BT.node ll lx lr).ht r.ht + 1 from rfl]
          refine ⟨k1, ?_, ?_⟩ <;> (by_cases hx : t1.ht ≤ r.ht + 1 <;> by_cases hy : r.ht ≤ t1.ht + 1 <;> first | (have := k4 hx hy; omega) | omega)

theorem c_both {pl pr : Option Addr} {l r : BT} (nl : Nd h pl l) (nr : Nd h pr r) (hw : wfR (l.list ++ r.list)) (hroom : (l.list ++ r.list).length ≤ 4398046511104) :
    Gives P (F_tree_both_Run S pl pr) [.one .ptr] h fun (y : Option Addr × Unit) h' => ∃ t, Nd h' y.1 t ∧ t.list = l.list ++ r.list ∧ (l.Avl → r.Avl → t.Avl) := by
  have hlen := List.length_append (as := l.list) (bs := r.list)
  unfold F_tree_both_Run Gives
  cases r with
  | nil =>
    obtain rfl := nr
    exact s_ifT (s_ret ⟨rfl, Ext.refl _, (pl, ()), rfl, l, nl, by simp [BT.list], fun a _ => a⟩)
  | node rl rx rr =>
    have hp : ∃ a, pr = some a := by obtain ⟨a, _, _, h1, _⟩ := nr; exact ⟨a, h1⟩
    obtain ⟨la, rfl⟩ := hp
    refine s_ifF (wp_call (R := fun (y : R2 × Option Addr × Unit) h' => ∃ t', Nd h' y.2.1 t' ∧ First (.node rl rx rr) (y.1.1, y.1.2.1) t') ⟨(BT.node rl rx rr).list.length + 1, c_firstR S _ (Nat.lt_succ_self _) nr (by simp) (fun z hz => hw z (List.mem_append_right _ hz)) (by omega)⟩ fun y h1 e1 hy => ?_)
    obtain ⟨⟨(i : Int), (j : Int), w1⟩, (pq : Option Addr), w2⟩ := y
    obtain ⟨t1, nq, hfst⟩ := hy
    dsimp only at nq hfst ⊢
    have hij : fitsI .i64 i ∧ fitsI .i64 j := hw (i, j) (List.mem_append_right _ (by rw [hfst.1]; exact List.mem_cons_self ..))
    have hlist : (BT.node l (i, j) t1).list = l.list ++ (BT.node rl rx rr).list := by rw [hfst.1]; rfl
    refine s_put2 i j hij fun h2 e2 o2 => s_get2 rfl o2 (wp_call (c_join (x := (i, j, ())) (nl.ext (e1.trans e2)) (nq.ext e2) (by rw [hlist]; exact hw) (by rw [hlist]; exact hroom)) fun y h3 e3 hy => ?_)
    obtain ⟨(pe : Option Addr), w3⟩ := y
    obtain ⟨t2, ne, hj⟩ := hy
    exact s_ret ⟨rfl, (e1.trans e2).trans e3, (pe, ()), rfl, t2, ne, by rw [hj.1, ← hlist]; rfl, fun a b => (hj.2 a (hfst.2 b).1).1⟩

end Go.Sw.Tree

set_option linter.unusedVariables false
set_option linter.unusedSimpArgs false
set_option maxRecDepth 100000
namespace Go.Sw.Tree
variable {P : Program} {S : Ids} {h : Heap} {Q : Nat → List Value → Heap → Prop}

theorem c_Replace {p : Option Addr} {t : BT} {items : Sl} {its : List (Int × Int)} {i j : Int} (nt : Nd h p t) (hr : Runs h items its) (hw : wfR t.list) (h0 : 0 ≤ i) (h1 : i ≤ j) (h2 : j ≤ t.list.length) (hroom : t.list.length + its.length ≤ 4398046511104) :
    Gives P (F_Tree_Run_Replace S (p, ()) i j items) [.agg [.ptr], .one (.int .i64)] h fun (y : TR × Int × Unit) h' => y.2.1 = 0 ∧ ∃ t', Nd h' y.1.1 t' ∧ t'.list = t.list.take i.toNat ++ its ++ t.list.drop j.toNat ∧ (t.Avl → t'.Avl) := by
  unfold F_Tree_Run_Replace Gives
  refine s_newP p fun k1 e1 o1 => s_newP none fun k2 e2 o2 => ?_
  have e02 := e1.trans e2
  have o12 := o1.ext e2
  refine bind_bool False ?_ fun b k3 e3 hb => ?_
  · refine wp_ifB (fun hz => ?_) fun hz => wp_ifB (fun hy => ?_) fun hy => s_getT o12 (wp_call (c_Size (nt.ext e02)) fun y k3 e3 hy => ?_)
    · rw [ltI_iff] at hz; omega
    · rw [gtI_iff] at hy; omega
    · obtain ⟨(y : Int), w⟩ := y
      dsimp only at hy ⊢
      refine s_ret ⟨rfl, e3, gtI j y, rfl, Iff.intro (fun hx => ?_) False.elim⟩
      rw [gtI_iff] at hx; omega
  have hbf : b = false := by cases b; rfl; exact (hb.1 rfl).elim
  subst hbf
  dsimp only
  have o13 := o12.ext e3
  have e03 := e02.trans e3
  have l1 : (t.list.take i.toNat).length ≤ t.list.length := by rw [List.length_take]; omega
  have l3 : (t.list.take i.toNat).length + (t.list.drop j.toNat).length ≤ t.list.length := by rw [List.length_take, List.length_drop]; omega
  refine s_ifF (s_getP o13 (wp_call (c_cut (nt.ext e03) hw (by omega) h0 (by omega)) fun y k4 e4 hy => s_getP (o13.ext e4) (wp_call (c_cut (nt.ext (e03.trans e4)) hw (by omega) (by omega) h2) fun z k5 e5 hz => ?_)))
  obtain ⟨(pa : Option Addr), (pb : Option Addr), w1⟩ := y
  obtain ⟨ta, tb, na, nb, la, lb, hav⟩ := hy
  obtain ⟨(pc : Option Addr), (pd : Option Addr), w2⟩ := z
  obtain ⟨tc, td, nc, nd, lc, ld, hav2⟩ := hz
  dsimp only at na nb nc nd ⊢
  have e05 := (e03.trans e4).trans e5
  refine wp_call (R := fun (y : Option Addr × Unit) h' => ∃ t : BT, Nd h' y.1 t ∧ t.list = its ∧ t.Full) ⟨its.length + 1, c_buildR S _ (Nat.lt_succ_self _) (hr.ext e05) (by omega)⟩ fun y k6 e6 hy => ?_
  obtain ⟨(pm : Option Addr), w3⟩ := y
  obtain ⟨tm, nm, lm, fm⟩ := hy
  dsimp only at nm ⊢
  refine wp_call (c_both ((na.ext e5).ext e6) nm (by rw [la, lm]; exact (hw.take _).append hr.wf) (by rw [la, lm, List.length_append]; omega)) fun y k7 e7 hy => ?_
  obtain ⟨(pn : Option Addr), w4⟩ := y
  obtain ⟨tn, nn, ln, hav3⟩ := hy
  dsimp only at nn ⊢
  rw [la, lm] at ln
  refine wp_call (c_both nn ((nd.ext e6).ext e7) (by rw [ln, ld]; exact ((hw.take _).append hr.wf).append (hw.drop _)) (by rw [ln, ld, List.length_append, List.length_append]; omega)) fun y k8 e8 hy => ?_
  obtain ⟨(pz : Option Addr), w5⟩ := y
  obtain ⟨tz, nz, lz, hav4⟩ := hy
  dsimp only at nz ⊢
  have e28 := (((((e3.trans e4).trans e5).trans e6).trans e7).trans e8)
  have o28 := o2.ext e28
  refine s_putP pz o28 fun k9 o9 u9 => s_getT o9 (s_ret ⟨rfl, Upd.extN (e02.trans e28) u9 (by intro a ha; cases ha; exact e1.size), ((pz, ()), 0, ()), rfl, rfl, tz, nz.upd u9 o28 (by decide), by rw [lz, ln, ld], fun hv => hav4 (hav3 (hav hv).1 fm.2.2) (hav2 hv).2⟩)

theorem c_At {p : Option Addr} {t : BT} {i : Int} {x : Int × Int} (nt : Nd h p t) (hw : wfR t.list) (hroom : t.list.length ≤ 4398046511104) (h0 : 0 ≤ i) (hx : t.list[i.toNat]? = some x) :
    Gives P (F_Tree_Run_At S (p, ()) i) [A2, .one .bool] h fun (y : R2 × Bool × Unit) h' => y.1.1 = x.1 ∧ y.1.2.1 = x.2 ∧ y.2.1 = true := by
  have hi := (List.getElem?_eq_some_iff.1 hx).1
  have hxf := hw.get hx
  unfold F_Tree_Run_At Gives
  refine s_newP p fun h1 e1 o1 => s_zero2 fun h2 e2 o2 => s_getP (o1.ext e2) ?_
  refine wp_whileG (G := BT) (fun g (s : Int × Option Addr × Unit) h' => Ext h h' ∧ Nd h' s.2.1 g ∧ 0 ≤ s.1 ∧ s.1 < g.list.length ∧ g.list.length ≤ 4398046511104 ∧ g.list[s.1.toNat]? = some x ∧ OwnL h1.size .i64 h' ⟨some ⟨h1.size, 0, none⟩, 2, 2⟩ [0, 0]) (fun g => g.list.length)
    (fun t' vs h' => t' = 1 ∧ vs = [.pointer (some ⟨h1.size, 0, none⟩), .bool true] ∧ Ext h h' ∧ OwnL h1.size .i64 h' ⟨some ⟨h1.size, 0, none⟩, 2, 2⟩ [x.1, x.2])
    t ⟨e1.trans e2, nt.ext (e1.trans e2), h0, by first | omega | (dsimp only; omega), hroom, hx, o2⟩ ?_ ?_
  · rintro g ⟨(j : Int), (q : Option Addr), u⟩ h3 ⟨e3, nq, hj0, hj1, hg, hgx, oa⟩
    dsimp only at nq hj0 hj1 hgx ⊢
    cases g with
    | nil => simp [BT.list] at hj1; omega
    | node l y r =>
      have hl := node_len l r y
      obtain ⟨a, ql, qr, rfl, c, n1, n2⟩ := nq
      have c : NdC h3 a ql qr l y r := c
      refine bind_bool True (s_ifT (s_ret ⟨rfl, Ext.refl _, geI j 0, rfl, by rw [geI_iff]; exact Iff.intro (fun _ => trivial) (fun _ => hj0)⟩)) fun b h4 e4 hb => ?_
      have hbt : b = true := hb.2 trivial
      subst hbt
      dsimp only
      have c4 := c.ext e4
      have e04 := e3.trans e4
      refine s_ifT (q_left c4 (wp_call (c_count (n1.ext e4)) fun k h5 e5 hk => ?_))
      obtain ⟨(k : Int), w⟩ := k
      dsimp only at hk ⊢
      subst hk
      have c5 := c4.ext e5
      have oa5 := (oa.ext e4).ext e5
      have e05 := e04.trans e5
      have hbt : (BT.node l y r).list = l.list ++ y :: r.list := rfl
      rw [hbt] at hgx
      refine wp_ifB (fun hc => ?_) fun hc => wp_ifB (fun hd => ?_) fun hd => ?_
      · rw [eqI_iff] at hc
        have hxy : y = x := by
          rw [List.getElem?_append_right (by omega), show j.toNat - l.list.length = 0 by omega] at hgx
          simpa using hgx
        subst hxy
        exact q_item c5 (s_store2 y.1 y.2 oa5 hxf fun h6 o6 u6 => s_ret ⟨fun h => absurd h (by decide), fun _ => ⟨rfl, rfl, Upd.extN e05 u6 (by intro a ha; cases ha; exact e1.size), o6⟩⟩)
      · rw [ltI_iff] at hd
        rw [List.getElem?_append_left (by omega)] at hgx
        exact q_left c5 (s_ret ⟨fun _ => ⟨l, (j, ql, ()), rfl, ⟨e05, (n1.ext e4).ext e5, hj0, hd, by omega, hgx, oa5⟩, by first | omega | (dsimp only; omega)⟩, fun h => absurd rfl h⟩)
      · rw [eqI_not] at hc
        rw [ltI_not] at hd
        rw [sub_ok (a := j) (by omega) (by omega), sub_ok (by omega) (by omega)]
        obtain ⟨d, hd'⟩ : ∃ d : Nat, j = l.list.length + 1 + d := ⟨(j - l.list.length - 1).toNat, by omega⟩
        have h2' : (j - l.list.length - 1).toNat = d := by omega
        rw [List.getElem?_append_right (by omega), show j.toNat - l.list.length = d + 1 by omega, List.getElem?_cons_succ] at hgx
        exact q_right c5 (s_ret ⟨fun _ => ⟨r, (j - l.list.length - 1, qr, ()), rfl, ⟨e05, (n2.ext e4).ext e5, by first | omega | (dsimp only; omega), by first | omega | (dsimp only; omega), by omega, by rw [h2']; exact hgx, oa5⟩, by first | omega | (dsimp only; omega)⟩, fun h => absurd rfl h⟩)
  · rintro tg vs h3 ⟨rfl, rfl, e3, oa⟩
    exact s_skip (by decide) (s_tag ⟨(some ⟨h1.size, 0, none⟩, true, ()), rfl, s_get2 rfl oa (s_ret ⟨rfl, e3, ((x.1, x.2, ()), true, ()), rfl, rfl, rfl, rfl⟩)⟩)

theorem c_slot {i n : Int} (hn : 0 ≤ n) (hn1 : n ≤ 4398046511104) : Gives P (F_law4_slot S i n) [.one (.int .i64)] h fun (y : Int × Unit) h' => 0 ≤ y.1 ∧ y.1 ≤ n := by
  unfold F_law4_slot Gives
  rw [add_ok (a := n) (by omega) (by omega)]
  have h1 : eqI (n + 1) 0 = false := eqI_not.2 (by omega)
  have hr : remI .i64 i (n + 1) = i.tmod (n + 1) := rfl
  have hb1 : i.tmod (n + 1) < n + 1 := Int.tmod_lt_of_pos i (by omega)
  have hb2 : -(n + 1) < i.tmod (n + 1) := by
    have := Int.lt_tmod_of_pos i (show 0 < n + 1 by omega)
    omega
  rw [hr, h1]
  refine s_not (bind_val (tys := [.one (.int .i64)]) (fun (x : Int × Unit) _ => 0 ≤ x.1 ∧ x.1 ≤ n) ?_ fun x h2 e2 hx => s_ret ⟨rfl, e2, (x.1, ()), rfl, hx⟩)
  refine wp_ifB (fun hc => ?_) fun hc => ?_
  · rw [ltI_iff] at hc
    rw [add_ok (a := i.tmod (n + 1)) (by omega) (by omega), add_ok (by omega) (by omega)]
    exact s_ret ⟨rfl, Ext.refl _, (i.tmod (n + 1) + n + 1, ()), rfl, by dsimp only; omega, by dsimp only; omega⟩
  · rw [ltI_not] at hc
    exact s_ret ⟨rfl, Ext.refl _, (i.tmod (n + 1), ()), rfl, hc, by dsimp only; omega⟩

theorem s_ckP {n : Nat} {a : Addr} {p : Option Addr} {K : Prog} (ho : Own n 1 h ⟨some a, 1, 1⟩ [.pointer p]) (hk : wp P K h Q) : wp P (.check (some a) [.pointer p] K) h Q := s_check0 rfl ho.cells hk
theorem eqI_self (a : Int) : eqI a a = true := eqI_iff.2 rfl

theorem c_same {p q : Option Addr} {t s : BT} (nt : Nd h p t) (ns : Nd h q s) (hw : wfR t.list) (hroom : t.list.length ≤ 4398046511104) (heq : s.list = t.list) :
    Gives P (F_law4_same S (p, ()) (q, ())) [.one .bool] h fun (y : Bool × Unit) h' => y.1 = true := by
  unfold F_law4_same Gives
  refine s_newP p fun h1 e1 o1 => s_newP q fun h2 e2 o2 => ?_
  have o1 := o1.ext e2
  have nt := nt.ext (e1.trans e2)
  have ns := ns.ext (e1.trans e2)
  refine bind_bool False ?_ fun b h3 e3 hb => ?_
  · refine s_getT o1 (s_getT o2 (wp_call (c_Size nt) fun y k1 d1 hy => s_ckP (o2.ext d1) (wp_call (c_Size (ns.ext d1)) fun z k2 d2 hz => ?_)))
    obtain ⟨(y : Int), w1⟩ := y
    obtain ⟨(z : Int), w2⟩ := z
    dsimp only at hy hz ⊢
    rw [show neI y z = false from neI_not.2 (by rw [hy, hz, heq])]
    have d := d1.trans d2
    refine s_ifF (s_getT (o1.ext d) (s_getT (o2.ext d) (wp_call (c_Sum (nt.ext d) hw hroom) fun y k3 d3 hy => s_ckP ((o2.ext d).ext d3) (wp_call (c_Sum ((ns.ext d).ext d3) (by rw [heq]; exact hw) (by rw [heq]; exact hroom)) fun z k4 d4 hz => ?_))))
    obtain ⟨y, w1⟩ := y
    obtain ⟨z, w2⟩ := z
    dsimp only at hy hz
    rw [heq, ← hy] at hz
    subst hz
    dsimp only
    simp only [eqI_self]
    exact s_ret ⟨rfl, (d.trans d3).trans d4, false, rfl, Iff.intro (fun x => by cases x) False.elim⟩
  have hbf : b = false := by cases b; rfl; exact (hb.1 rfl).elim
  subst hbf
  dsimp only
  have o1 := o1.ext e3
  have o2 := o2.ext e3
  have nt := nt.ext e3
  have ns := ns.ext e3
  refine s_ifF (wp_while (fun (s : Int × Unit) h' => 0 ≤ s.1 ∧ s.1 ≤ t.list.length ∧ Ext h3 h') (fun s _ => t.list.length - s.1.toNat) (fun t vs h' => t = 2 ∧ vs = [] ∧ Ext h3 h') ⟨by simp, by simp, Ext.refl _⟩ ?_ ?_)
  · rintro ⟨(i : Int), u⟩ h4 ⟨i0, i1, e4⟩
    dsimp only at i0 i1 ⊢
    have o1 := o1.ext e4
    have o2 := o2.ext e4
    have nt := nt.ext e4
    have ns := ns.ext e4
    refine s_getT o1 (wp_call (c_Size nt) fun y k1 d1 hy => ?_)
    obtain ⟨(y : Int), w1⟩ := y
    dsimp only at hy ⊢
    subst hy
    refine wp_ifB (fun hc => ?_) fun hc => s_ret ⟨fun h => absurd h (by decide), fun _ => ⟨rfl, rfl, e4.trans d1⟩⟩
    rw [ltI_iff] at hc
    have hlt : i.toNat < t.list.length := by omega
    have hx : t.list[i.toNat]? = some t.list[i.toNat] := List.getElem?_eq_getElem hlt
    have hxf := hw.get hx
    refine s_getT (o1.ext d1) (wp_call (c_At (nt.ext d1) hw hroom i0 hx) fun y k2 d2 hy => ?_)
    obtain ⟨⟨(y1 : Int), (y2 : Int), w2⟩, (y3 : Bool), w3⟩ := y
    obtain ⟨hy1, hy2, hy3⟩ := hy
    dsimp only at hy1 hy2 hy3 ⊢
    subst hy1; subst hy2; subst hy3
    refine s_put2 _ _ hxf fun k3 d3 q3 => s_getT (o2.ext ((d1.trans d2).trans d3)) (wp_call (c_At (ns.ext ((d1.trans d2).trans d3)) (by rw [heq]; exact hw) (by rw [heq]; exact hroom) i0 (by rw [heq]; exact hx)) fun y k4 d4 hy => ?_)
    obtain ⟨⟨(y1 : Int), (y2 : Int), w2⟩, (y3 : Bool), w3⟩ := y
    obtain ⟨hy1, hy2, hy3⟩ := hy
    dsimp only at hy1 hy2 hy3 ⊢
    subst hy1; subst hy2; subst hy3
    refine s_put2 _ _ hxf fun k5 d5 q5 => bind_bool False (s_get2 rfl ((q3.ext d4).ext d5) (s_get2 rfl q5 ?_)) fun b k6 d6 hb => ?_
    · dsimp only
      simp only [eqI_self]
      exact s_ifF (s_ifF (s_ret ⟨rfl, Ext.refl _, false, rfl, Iff.intro (fun x => by cases x) False.elim⟩))
    · have hbf : b = false := by cases b; rfl; exact (hb.1 rfl).elim
      subst hbf
      dsimp only
      rw [add_ok (by omega) (by omega)]
      exact s_ifF (s_ret ⟨fun _ => ⟨(i + 1, ()), rfl, ⟨by dsimp only; omega, by dsimp only; omega, (((((e4.trans d1).trans d2).trans d3).trans d4).trans d5).trans d6⟩, by dsimp only; omega⟩, fun h => absurd rfl h⟩)
  · rintro tg vs h4 ⟨rfl, rfl, e4⟩
    exact s_tag (s_cast0 (s_ret ⟨rfl, ((e1.trans e2).trans e3).trans e4, (true, ()), rfl, rfl⟩))

end Go.Sw.Tree
