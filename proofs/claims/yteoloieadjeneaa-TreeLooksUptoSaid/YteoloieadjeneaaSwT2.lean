/-
  Tree: what Measure, Add, Key and the document's own compute.
-/
import Derived.Test.YteoloieadjeneaaSwT1
set_option linter.unusedVariables false
set_option linter.unusedSimpArgs false
set_option maxRecDepth 100000
namespace Go.Sw.Tree
variable {P : Program} {S : Ids} {h : Heap} {Q : Nat → List Value → Heap → Prop}

abbrev A4 : Ty := .agg [.int .i64, .int .i64, .int .i64, .int .i64]
abbrev obj (n : Nat) (h : Heap) (a : Addr) (s : R4) : Prop := OwnL n .i64 h ⟨some a, 4, 4⟩ [s.1, s.2.1, s.2.2.1, s.2.2.2.1]

theorem fits4 {s : R4} (h1 : fitsI .i64 s.1) (h2 : fitsI .i64 s.2.1) (h3 : fitsI .i64 s.2.2.1) (h4 : fitsI .i64 s.2.2.2.1) : ∀ x, x ∈ [s.1, s.2.1, s.2.2.1, s.2.2.2.1] → fitsI .i64 x := by
  intro x hx
  simp only [List.mem_cons, List.not_mem_nil, or_false] at hx
  rcases hx with rfl | rfl | rfl | rfl <;> assumption
theorem V.fits {n : Nat} {s : R4} (v : V n s) (hn : n ≤ 4398046511104) : ∀ x, x ∈ [s.1, s.2.1, s.2.2.1, s.2.2.2.1] → fitsI .i64 x := by
  have := v.a0; have := v.a1; have := v.b0; have := v.b1
  exact fits4 (fits_i64.2 ⟨by omega, by omega⟩) (fits_i64.2 ⟨by omega, by omega⟩) v.f v.g

/-- A new object of four numbers. -/
theorem s_new4 (s : R4) {K : Addr → Prog} (hf : ∀ x, x ∈ [s.1, s.2.1, s.2.2.1, s.2.2.2.1] → fitsI .i64 x) (hk : ∀ h', Ext h h' → obj h.size h' ⟨h.size, 0, none⟩ s → wp P (K ⟨h.size, 0, none⟩) h' Q) :
    wp P (.alloc [.int .i64 s.1, .int .i64 s.2.1, .int .i64 s.2.2.1, .int .i64 s.2.2.2.1] K) h Q := s_allocL [s.1, s.2.1, s.2.2.1, s.2.2.2.1] hf (by simp) hk
theorem s_zero4 {K : Addr → Prog} (hk : ∀ h', Ext h h' → obj h.size h' ⟨h.size, 0, none⟩ zero4 → wp P (K ⟨h.size, 0, none⟩) h' Q) :
    wp P (.alloc [.int .i64 0, .int .i64 0, .int .i64 0, .int .i64 0] K) h Q := s_new4 zero4 (V.fits (V.zero 0) (by decide)) hk
/-- A new object of two numbers. -/
theorem s_new2 (x y : Int) {K : Addr → Prog} (hx : fitsI .i64 x) (hy : fitsI .i64 y) (hk : ∀ h', Ext h h' → OwnL h.size .i64 h' ⟨some ⟨h.size, 0, none⟩, 2, 2⟩ [x, y] → wp P (K ⟨h.size, 0, none⟩) h' Q) :
    wp P (.alloc [.int .i64 x, .int .i64 y] K) h Q :=
  s_allocL [x, y] (by intro z hz; simp only [List.mem_cons, List.not_mem_nil, or_false] at hz; rcases hz with rfl | rfl <;> assumption) (by simp) hk
theorem s_store4 {n : Nat} {a : Addr} {t : R4} (s : R4) {K : Prog} (ho : obj n h a t) (hf : ∀ x, x ∈ [s.1, s.2.1, s.2.2.1, s.2.2.2.1] → fitsI .i64 x)
    (hk : ∀ h', obj n h' a s → Upd ⟨some a, 4, 4⟩ h h' → wp P K h' Q) : wp P (.store (some a) [.int .i64 s.1, .int .i64 s.2.1, .int .i64 s.2.2.1, .int .i64 s.2.2.2.1] K) h Q :=
  s_storeL (l := [t.1, t.2.1, t.2.2.1, t.2.2.2.1]) [s.1, s.2.1, s.2.2.1, s.2.2.2.1] ho rfl hf fun h' o u _ => hk h' o u
theorem s_get4 {n : Nat} {p : Option Addr} {a : Addr} {s : R4} {K : R4 → Prog} (hp : p = some a) (ho : obj n h a s) (hk : wp P (K s) h Q) : wp P (.load A4 p K) h Q :=
  s_load4 hp ho.lst hk
theorem s_same4 {n : Nat} {a : Addr} {s : R4} {K : Prog} (ho : obj n h a s) (hk : wp P K h Q) : wp P (.check (some a) [.int .i64 s.1, .int .i64 s.2.1, .int .i64 s.2.2.1, .int .i64 s.2.2.2.1] K) h Q :=
  s_check4 ho.lst hk
/-- An answer that is kept in an object, and told. -/
theorem s_tell4 {n : Nat} {a : Addr} {t : R4} (s : R4) {R : Ts.den [A4] → Heap → Prop} {h0 : Heap} (ho : obj n h a t) (hn : h0.size ≤ n) (hf : ∀ x, x ∈ [s.1, s.2.1, s.2.2.1, s.2.2.2.1] → fitsI .i64 x) (e : Ext h0 h) (hr : ∀ h', Ext h0 h' → R (s, ()) h') :
    wp P (.store (some a) [.int .i64 s.1, .int .i64 s.2.1, .int .i64 s.2.2.1, .int .i64 s.2.2.2.1] <| .load A4 (some a) fun r => .ret 0 [.agg #[.int .i64 r.1, .int .i64 r.2.1, .int .i64 r.2.2.1, .int .i64 r.2.2.2.1]]) h
      fun t vs h' => t = 0 ∧ Ext h0 h' ∧ ∃ x, vs = Ts.inj [A4] x ∧ R x h' := by
  refine s_store4 s ho hf fun h' o u => s_get4 rfl o (s_ret ?_)
  have ex := Upd.extN e u fun a ha => Nat.le_trans hn (ho.base a ha)
  exact ⟨rfl, ex, (s, ()), rfl, hr h' ex⟩

theorem minI_eq (a b : Int) : minI a b = min a b := by unfold minI; split <;> omega

theorem c_Measure {r : R2} (h1 : fitsI .i64 r.1) (h2 : fitsI .i64 r.2.1) : Gives P (F_Run_Measure S r) [A4] h fun (x : R4 × Unit) _ => x.1 = measure (r.1, r.2.1) := by
  obtain ⟨(k : Int), (n : Int), u⟩ := r
  dsimp only at h1 h2 ⊢
  have hv : V 1 (measure (k, n)) := V.measure h1
  have hf := hv.fits (by decide)
  unfold F_Run_Measure Gives
  refine s_new2 k n h1 h2 fun h1' e1 o1 => s_zero4 fun h2' e2 o2 => ?_
  have e := e1.trans e2
  have l1 := (o1.ext e2).lst
  refine s_loadX l1 (x := n) rfl (wp_ifB (fun hc => ?_) fun hc => ?_)
  · rw [leI_iff] at hc
    refine s_tell4 zero4 o2 e1.size (V.fits (V.zero 0) (by decide)) e fun h' _ => ?_
    unfold measure; rw [if_pos hc]
  · rw [leI_not] at hc
    refine s_loadX l1 (x := n) rfl (s_loadX l1 (x := k) rfl (s_loadX l1 (x := k) rfl ?_))
    have hm : measure (k, n) = (minI n 1048576, 1, k, k, ()) := by unfold measure; rw [if_neg (by dsimp only; omega)]; dsimp only; rw [minI_eq]
    rw [hm] at hf
    refine s_tell4 (minI n 1048576, 1, k, k, ()) o2 e1.size hf e fun h' _ => ?_
    rw [hm]

theorem c_Add {n m : Nat} {s o : R4} (v : V n s) (w : V m o) (hn : n + m ≤ 4398046511104) : Gives P (F_Runs_Add S s o) [A4] h fun (x : R4 × Unit) _ => x.1 = add s o := by
  have fs := v.fits (by omega)
  have fo := w.fits (by omega)
  have fa := (v.add w).fits hn
  have := v.a0; have := v.a1; have := v.b0; have := v.b1; have := w.a0; have := w.a1; have := w.b0; have := w.b1
  unfold F_Runs_Add Gives
  refine s_new4 s fs fun h1 e1 o1 => s_new4 o fo fun h2 e2 o2 => s_zero4 fun h3 e3 o3 => ?_
  have o1 := o1.ext (e2.trans e3)
  have o2 := o2.ext e3
  have e := e1.trans (e2.trans e3)
  have hn3 := Nat.le_trans e1.size e2.size
  refine s_loadX o1.lst (x := s.2.1) rfl (wp_ifB (fun hc => ?_) fun hc => ?_)
  · rw [eqI_iff] at hc
    refine s_get4 rfl o2 (s_tell4 o o3 hn3 fo e fun h' _ => ?_)
    unfold add; rw [if_pos hc]
  · rw [eqI_not] at hc
    refine s_loadX o2.lst (x := o.2.1) rfl (wp_ifB (fun hd => ?_) fun hd => ?_)
    · rw [eqI_iff] at hd
      refine s_get4 rfl o1 (s_tell4 s o3 hn3 fs e fun h' _ => ?_)
      unfold add; rw [if_neg hc, if_pos hd]
    · rw [eqI_not] at hd
      refine bind_val (tys := [.one (.int .i64)]) (fun (x : Int × Unit) _ => x.1 = if s.2.2.2.1 = o.2.2.1 then 1 else 0) ?_ fun x h4 e4 hx => ?_
      · refine s_loadX o1.lst (x := s.2.2.2.1) rfl (s_loadX o2.lst (x := o.2.2.1) rfl (wp_ifB (fun hm => ?_) fun hm => ?_))
        · rw [eqI_iff] at hm
          exact s_ret ⟨rfl, Ext.refl _, (1, ()), rfl, by rw [if_pos hm]⟩
        · rw [eqI_not] at hm
          exact s_ret ⟨rfl, Ext.refl _, (0, ()), rfl, by rw [if_neg hm]⟩
      · have o1 := o1.ext e4
        have o2 := o2.ext e4
        obtain ⟨(x : Int), u⟩ := x
        dsimp only at hx ⊢
        refine s_loadX o1.lst (x := s.1) rfl (s_loadX o2.lst (x := o.1) rfl (s_loadX o1.lst (x := s.2.1) rfl (s_loadX o2.lst (x := o.2.1) rfl (s_loadX o1.lst (x := s.2.2.1) rfl (s_loadX o2.lst (x := o.2.2.2.1) rfl ?_)))))
        rw [hx, add_ok (a := s.1) (by omega) (by omega), add_ok (a := s.2.1) (by omega) (by omega), sub_ok (by split <;> omega) (by split <;> omega)]
        have ha := add_ne hc hd
        rw [ha] at fa ⊢
        exact s_tell4 (s.1 + o.1, s.2.1 + o.2.1 - (if s.2.2.2.1 = o.2.2.1 then 1 else 0), s.2.2.1, o.2.2.2.1, ()) (o3.ext e4) hn3 fa (e.trans e4) fun h' _ => rfl

theorem c_Key {n : Nat} {s : R4} {k : Int} (v : V n s) (hn : n ≤ 4398046511104) : Gives P (F_Runs_Key S s k) [.one (.int .i64)] h fun (x : Int × Unit) _ => x.1 = key s k := by
  unfold F_Runs_Key Gives
  refine s_new4 s (v.fits hn) fun h1 e1 o1 => wp_ifB (fun hc => ?_) fun hc => ?_
  · rw [eqI_iff] at hc
    exact s_loadX o1.lst (x := s.1) rfl (s_ret ⟨rfl, e1, (s.1, ()), rfl, by unfold key; rw [if_pos hc]⟩)
  · rw [eqI_not] at hc
    refine wp_ifB (fun hd => ?_) fun hd => ?_
    · rw [eqI_iff] at hd
      exact s_loadX o1.lst (x := s.2.1) rfl (s_ret ⟨rfl, e1, (s.2.1, ()), rfl, by unfold key; rw [if_neg hc, if_pos hd]⟩)
    · rw [eqI_not] at hd
      exact s_ret ⟨rfl, e1, (0, ()), rfl, by unfold key; rw [if_neg hc, if_neg hd]⟩
theorem c_refKey {n : Nat} {s : R4} {k : Int} (v : V n s) (hn : n ≤ 4398046511104) : Gives P (F_ref4_Key S s k) [.one (.int .i64)] h fun (x : Int × Unit) _ => x.1 = key s k := c_Key (S := S) v hn

theorem c_sameRuns {n : Nat} {s : R4} (v : V n s) (hn : n ≤ 4398046511104) : Gives P (F_law4_sameRuns S s s) [.one .bool] h fun (x : Bool × Unit) _ => x.1 = true := by
  unfold F_law4_sameRuns Gives
  refine s_new4 s (v.fits hn) fun h1 e1 o1 => s_new4 s (v.fits hn) fun h2 e2 o2 => ?_
  have l1 := (o1.ext e2).lst
  have l2 := o2.lst
  have hq : ∀ x, eqI x x = true := fun x => eqI_iff.2 rfl
  refine bind_val (tys := [.one .bool]) (fun (x : Bool × Unit) _ => x.1 = true) ?_ fun x h4 e4 hx => s_ret ⟨rfl, (e1.trans e2).trans e4, (x.1, ()), rfl, hx⟩
  refine s_loadX l1 (x := s.1) rfl (s_loadX l2 (x := s.1) rfl ?_)
  rw [hq]
  refine s_ifT (s_loadX l1 (x := s.2.1) rfl (s_loadX l2 (x := s.2.1) rfl ?_))
  rw [hq]
  refine s_ifT (s_loadX l1 (x := s.2.2.1) rfl (s_loadX l2 (x := s.2.2.1) rfl ?_))
  rw [hq]
  refine s_ifT (s_loadX l1 (x := s.2.2.2.1) rfl (s_loadX l2 (x := s.2.2.2.1) rfl ?_))
  rw [hq]
  exact s_ret ⟨rfl, Ext.refl _, (true, ()), rfl, rfl⟩

theorem c_behind {n : Nat} {s : R4} {r : R2} (v : V n s) (h1 : fitsI .i64 r.1) (h2 : fitsI .i64 r.2.1) (hn : n + 1 ≤ 4398046511104) :
    Gives P (F_ref4_behind S s r) [A4] h fun (x : R4 × Unit) _ => x.1 = add s (measure (r.1, r.2.1)) := by
  obtain ⟨(k : Int), (m : Int), u⟩ := r
  dsimp only at h1 h2 ⊢
  have fs := v.fits (by omega)
  have fa := (v.add (V.measure (r := (k, m)) h1)).fits hn
  have := v.a0; have := v.a1; have := v.b0; have := v.b1
  unfold F_ref4_behind Gives
  refine s_new4 s fs fun h1' e1 o1 => s_new2 k m h1 h2 fun h2' e2 o2 => s_zero4 fun h3 e3 o3 => ?_
  have lt1' := (o1.own.lt rfl).2
  have lt2' := (o2.own.lt rfl).2
  have o1 := o1.ext (e2.trans e3)
  have o2 := o2.ext e3
  have e := e1.trans (e2.trans e3)
  have hs1 := e1.size; have hs2 := e2.size
  have hn3 := Nat.le_trans e1.size e2.size
  have b1 := (o1.own.lt rfl).2
  have b2 := (o2.own.lt rfl).1
  have lt1 : h.size < h1'.size := lt1'
  have lt2 : h1'.size < h2'.size := lt2'
  dsimp only at b1 b2
  refine s_loadX o2.lst (x := m) rfl (wp_ifB (fun hc => ?_) fun hc => ?_)
  · rw [leI_iff] at hc
    refine s_get4 rfl o1 (s_tell4 s o3 hn3 fs e fun h' _ => ?_)
    unfold measure; rw [if_pos hc, add_zero4 v]
  · rw [leI_not] at hc
    have hm : measure (k, m) = (min m 1048576, 1, k, k, ()) := by unfold measure; rw [if_neg (by dsimp only; omega)]
    rw [hm] at fa ⊢
    refine wp_bind (fun t vs h' => t = 0 ∧ vs = [] ∧ Ext h h' ∧ ∃ q : R4, obj h.size h' ⟨h.size, 0, none⟩ q ∧ OwnL h1'.size .i64 h' ⟨some ⟨h1'.size, 0, none⟩, 2, 2⟩ [k, m] ∧ obj h2'.size h' ⟨h2'.size, 0, none⟩ zero4 ∧
      q.1 = s.1 ∧ (q.1 + min m 1048576, q.2.1, q.2.2.1, k, ()) = add s (min m 1048576, 1, k, k, ())) ?_ ?_
    · refine s_loadX o1.lst (x := s.1) rfl (wp_ifB (fun hd => ?_) fun hd => ?_)
      · rw [eqI_iff] at hd
        have hz : s = zero4 := v.z (by have := v.p; omega)
        subst hz
        refine s_loadX o2.lst (x := k) rfl (s_setA o1 (by simp) h1 fun h4 o1 u1 _ => s_setA o1 (by simp) (fits_i64.2 ⟨by omega, by omega⟩) fun h5 o1 u2 _ => s_ret ?_)
        have o2 := (o2.obj_upd u1 (by dsimp only; omega)).obj_upd u2 (by dsimp only; omega)
        have o3 := (o3.obj_upd u1 (by dsimp only; omega)).obj_upd u2 (by dsimp only; omega)
        have e := Upd.extN (Upd.extN e u1 (by intro a ha; cases ha; exact Nat.le_refl _)) u2 (by intro a ha; cases ha; exact Nat.le_refl _)
        refine ⟨rfl, rfl, e, (0, 1, k, 0, ()), o1, o2, o3, rfl, ?_⟩
        rw [zero4_add]; simp
      · rw [eqI_not] at hd
        have hs : s.2.1 ≠ 0 := fun hz => hd (by rw [v.z hz]; rfl)
        refine s_loadX o2.lst (x := k) rfl (s_loadX o1.lst (x := s.2.2.2.1) rfl (wp_ifB (fun hx => ?_) fun hx => ?_))
        · rw [neI_iff] at hx
          refine s_loadX o1.lst (x := s.2.1) rfl ?_
          rw [add_ok (by omega) (by omega)]
          refine s_setA o1 (by simp) (fits_i64.2 ⟨by omega, by omega⟩) fun h4 o1 u1 _ => s_ret ?_
          have o2 := o2.obj_upd u1 (by dsimp only; omega)
          have o3 := o3.obj_upd u1 (by dsimp only; omega)
          have e := Upd.extN e u1 (by intro a ha; cases ha; exact Nat.le_refl _)
          refine ⟨rfl, rfl, e, (s.1, s.2.1 + 1, s.2.2.1, s.2.2.2.1, ()), o1, o2, o3, rfl, ?_⟩
          rw [add_ne hs (by simp)]
          dsimp only
          rw [if_neg (fun e => hx e.symm)]; simp
        · rw [neI_not] at hx
          refine s_ret ⟨rfl, rfl, e, s, o1, o2, o3, rfl, ?_⟩
          rw [add_ne hs (by simp)]
          dsimp only
          rw [if_pos hx.symm]; simp
    · rintro t vs h4 ⟨rfl, rfl, e, q, o1, o2, o3, hq1, hq⟩
      have hqq : ∀ x, x ∈ [q.1 + min m 1048576, q.2.1, q.2.2.1, k] → fitsI .i64 x := by
        rw [← hq] at fa; exact fa
      refine s_tag (s_cast0 (s_loadX o2.lst (x := k) rfl (s_setA o1 (by simp) h1 fun h5 o1 u1 _ => ?_)))
      have o2 := o2.obj_upd u1 (by dsimp only; omega)
      have o3 := o3.obj_upd u1 (by dsimp only; omega)
      have e := Upd.extN e u1 (by intro a ha; cases ha; exact Nat.le_refl _)
      refine wp_bind (fun t vs h' => t = 0 ∧ vs = [] ∧ Ext h h' ∧ obj h.size h' ⟨h.size, 0, none⟩ (q.1 + min m 1048576, q.2.1, q.2.2.1, k, ()) ∧ obj h2'.size h' ⟨h2'.size, 0, none⟩ zero4) ?_ ?_
      · refine s_loadX o2.lst (x := m) rfl (wp_ifB (fun hx => ?_) fun hx => ?_)
        · rw [gtI_iff] at hx
          refine s_loadX o1.lst (x := q.1) rfl ?_
          rw [add_ok (by omega) (by omega)]
          have hmin : min m 1048576 = 1048576 := by omega
          rw [hmin] at hqq ⊢
          refine s_setA o1 (by simp) (hqq _ (List.mem_cons_self ..)) fun h6 o1 u1 _ => s_ret ?_
          exact ⟨rfl, rfl, Upd.extN e u1 (by intro a ha; cases ha; exact Nat.le_refl _), o1, o3.obj_upd u1 (by dsimp only; omega)⟩
        · rw [gtI_not] at hx
          refine s_loadX o1.lst (x := q.1) rfl (s_loadX o2.lst (x := m) rfl ?_)
          rw [add_ok (by omega) (by omega)]
          have hmin : min m 1048576 = m := by omega
          rw [hmin] at hqq ⊢
          refine s_setA o1 (by simp) (hqq _ (List.mem_cons_self ..)) fun h6 o1 u1 _ => s_ret ?_
          exact ⟨rfl, rfl, Upd.extN e u1 (by intro a ha; cases ha; exact Nat.le_refl _), o1, o3.obj_upd u1 (by dsimp only; omega)⟩
      · rintro t vs h6 ⟨rfl, rfl, e, o1, o3⟩
        refine s_tag (s_cast0 (s_get4 rfl o1 (s_tell4 (q.1 + min m 1048576, q.2.1, q.2.2.1, k, ()) o3 hn3 hqq e fun h' _ => hq)))
end Go.Sw.Tree
