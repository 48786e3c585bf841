/-
  Tree: lists of runs in memory; added, plain, the document's Upto.
-/
import Derived.Test.YteoloieadjeneaaSwT2
set_option linter.unusedVariables false
set_option linter.unusedSimpArgs false
set_option maxRecDepth 100000
namespace Go.Sw.Tree
variable {P : Program} {S : Ids} {h : Heap} {Q : Nat → List Value → Heap → Prop}

def cR (l : List (Int × Int)) : List Value := l.flatMap fun r => [.int .i64 r.1, .int .i64 r.2]
theorem cR_len (l : List (Int × Int)) : (cR l).length = l.length * 2 := by
  unfold cR
  induction l with
  | nil => rfl
  | cons r l ih => rw [List.flatMap_cons, List.length_append, ih]; simp; omega
theorem cR_at (l : List (Int × Int)) : ∀ j r, l[j]? = some r → (cR l)[j * 2]? = some (.int .i64 r.1) ∧ (cR l)[j * 2 + 1]? = some (.int .i64 r.2) := by
  unfold cR
  induction l with
  | nil => intro j r h; simp at h
  | cons x l ih =>
    intro j r h
    cases j with
    | zero => simp at h; subst h; simp
    | succ j => have := ih j r (by simpa using h); simpa [Nat.add_mul] using this
theorem cR_append (l m : List (Int × Int)) : cR (l ++ m) = cR l ++ cR m := by simp [cR]
theorem cR_flat (l : List (Int × Int)) : ∀ v ∈ cR l, flat v = true := by
  intro v hv
  obtain ⟨r, _, hr⟩ := List.mem_flatMap.1 hv
  simp only [List.mem_cons, List.not_mem_nil, or_false] at hr
  rcases hr with rfl | rfl <;> rfl

def wfR (l : List (Int × Int)) : Prop := ∀ r, r ∈ l → fitsI .i64 r.1 ∧ fitsI .i64 r.2
theorem wfR.append {l m : List (Int × Int)} (a : wfR l) (b : wfR m) : wfR (l ++ m) := fun r hr => (List.mem_append.1 hr).elim (a r) (b r)
theorem wfR.take {l : List (Int × Int)} (a : wfR l) (n : Nat) : wfR (l.take n) := fun r hr => a r (List.mem_of_mem_take hr)
theorem wfR.get {l : List (Int × Int)} (a : wfR l) {j : Nat} {r : Int × Int} (hj : l[j]? = some r) : fitsI .i64 r.1 ∧ fitsI .i64 r.2 := a r (List.mem_of_getElem? hj)

structure Runs (h : Heap) (s : Sl) (l : List (Int × Int)) : Prop where
  rd : Rd 2 h s (cR l)
  cap : s.len ≤ s.cap
  max : s.cap < 2 ^ 63
  wf : wfR l
structure OwnR (n : Nat) (h : Heap) (s : Sl) (l : List (Int × Int)) : Prop where
  own : Own n 2 h s (cR l)
  wf : wfR l
theorem Runs.len {h : Heap} {s : Sl} {l : List (Int × Int)} (r : Runs h s l) : s.len = l.length := by have := r.rd.1; rw [cR_len] at this; omega
theorem Runs.ext {h h' : Heap} {s : Sl} {l : List (Int × Int)} (r : Runs h s l) (e : Ext h h') : Runs h' s l := ⟨e.rd r.rd, r.cap, r.max, r.wf⟩
theorem Runs.bound {h : Heap} {s : Sl} {l : List (Int × Int)} (r : Runs h s l) : l.length < 2 ^ 63 := by have := r.len; have := r.cap; have := r.max; omega
theorem OwnR.runs {n : Nat} {h : Heap} {s : Sl} {l : List (Int × Int)} (o : OwnR n h s l) : Runs h s l := ⟨o.own.rd, o.own.2.1, o.own.2.2.1, o.wf⟩
theorem OwnR.len {n : Nat} {h : Heap} {s : Sl} {l : List (Int × Int)} (o : OwnR n h s l) : s.len = l.length := o.runs.len
theorem OwnR.ext {n : Nat} {h h' : Heap} {s : Sl} {l : List (Int × Int)} (o : OwnR n h s l) (e : Ext h h') : OwnR n h' s l := ⟨o.own.ext e, o.wf⟩
theorem OwnR.nil (n : Nat) (h : Heap) : OwnR n h ⟨none, 0, 0⟩ [] := ⟨Own.nil n 2 h, by simp [wfR]⟩
theorem OwnR.mono {n m : Nat} {h : Heap} {s : Sl} {l : List (Int × Int)} (o : OwnR n h s l) (hm : m ≤ n) : OwnR m h s l := ⟨o.own.mono hm, o.wf⟩

/-- l[j], all of it. -/
theorem s_at2 {s : Sl} {l : List (Int × Int)} {K : R2 → Prog} {j : Int} (hr : Runs h s l) (h0 : 0 ≤ j) (h1 : j < l.length)
    (hk : ∀ r, l[j.toNat]? = some r → wp P (K (r.1, r.2, ())) h Q) : wp P (grd (andB (someB s.base) (inB j s.len)) (.load (.agg [.int .i64, .int .i64]) (shiftTo s.base (mulN (toN j) 2)) K)) h Q := by
  have hlt : j.toNat < l.length := by omega
  have hj : l[j.toNat]? = some l[j.toNat] := List.getElem?_eq_getElem hlt
  obtain ⟨c1, c2⟩ := cR_at l _ _ hj
  obtain ⟨a, e, d1⟩ := hr.rd.2 _ _ c1
  obtain ⟨a', e', d2⟩ := hr.rd.2 _ _ c2
  rw [e] at e'; cases e'
  have := hr.len
  refine wp_grd (andB_iff.2 ⟨by simp [someB, e], inB_is.2 ⟨h0, by omega⟩⟩) ⟨a.add (j.toNat * 2), by simp [shiftTo, e, mulN, toN], (l[j.toNat].1, l[j.toNat].2, ()), cells_iff.2 fun i v hi => ?_, hk _ hj⟩
  match i, hi with
  | 0, hi => simp [Ty.cells, Bs.inj] at hi; subst hi; rw [add_zero']; exact d1
  | 1, hi => simp [Ty.cells, Bs.inj] at hi; subst hi; rw [add_add]; exact d2
  | i + 2, hi => simp [Ty.cells, Bs.inj] at hi

/-- l[j]'s parts. -/
theorem s_part2 {s : Sl} {l : List (Int × Int)} {K : Int → Prog} {j : Int} {i : Nat} {x : Int} (hr : Runs h s l) (h0 : 0 ≤ j) (h1 : j < l.length) (hi : ∀ r, l[j.toNat]? = some r → (i = 0 ∧ x = r.1) ∨ (i = 1 ∧ x = r.2))
    (hk : wp P (K x) h Q) : wp P (grd (andB (someB s.base) (inB j s.len)) <| grd (someB (shiftTo s.base (mulN (toN j) 2))) <| .load (.one (.int .i64)) (shiftTo (shiftTo s.base (mulN (toN j) 2)) i) K) h Q := by
  have hlt : j.toNat < l.length := by omega
  have hj : l[j.toNat]? = some l[j.toNat] := List.getElem?_eq_getElem hlt
  obtain ⟨c1, c2⟩ := cR_at l _ _ hj
  obtain ⟨a, e, d1⟩ := hr.rd.2 _ _ c1
  obtain ⟨a', e', d2⟩ := hr.rd.2 _ _ c2
  rw [e] at e'; cases e'
  have := hr.len
  refine wp_grd (andB_iff.2 ⟨by simp [someB, e], inB_is.2 ⟨h0, by omega⟩⟩) (wp_grd (by simp [someB, e, shiftTo]) ?_)
  rcases hi _ hj with ⟨rfl, rfl⟩ | ⟨rfl, rfl⟩
  · refine wp_load1 (a.add (j.toNat * 2)) _ ?_ d1 hk
    simp [shiftTo, e, mulN, toN, add_zero']
  · refine wp_load1 (a.add (j.toNat * 2 + 1)) _ ?_ d2 hk
    simp [shiftTo, e, mulN, toN, add_add]

theorem s_append2 {n : Nat} {s x : Sl} {l m : List (Int × Int)} {K : Sl → Prog} (ho : OwnR n h s l) (hn : n ≤ h.size) (hx : Runs h x m) (hroom : l.length + m.length ≤ 8796093022208)
    (hk : ∀ r h', Keep n h h' → OwnR n h' r (l ++ m) → wp P (K r) h' Q) : wp P (.append 2 16 [.int .i64 0, .int .i64 0] s x K) h Q := by
  have hl := ho.len
  have hm := hx.len
  refine wp_append ho.own hn hx.rd (cR_flat m) rfl (by rw [hl, hm]; omega) (by rw [hl, hm]; omega) fun r h' a b c d => ?_
  exact hk r h' (Upd.keep ho.own hn c) ⟨by rw [cR_append]; exact a, ho.wf.append hx.wf⟩
theorem s_push2 {n : Nat} {s : Sl} {l : List (Int × Int)} {x y : Int} {K : Sl → Prog} (ho : OwnR n h s l) (hn : n ≤ h.size) (hx : fitsI .i64 x) (hy : fitsI .i64 y) (hroom : l.length + 1 ≤ 8796093022208)
    (hk : ∀ r h', Keep n h h' → OwnR n h' r (l ++ [(x, y)]) → wp P (K r) h' Q) : wp P (.alloc [.int .i64 x, .int .i64 y] fun a => .append 2 16 [.int .i64 0, .int .i64 0] s ⟨some a, 1, 1⟩ K) h Q := by
  have hl := ho.len
  refine wp_push (new := [.int .i64 x, .int .i64 y]) ho.own hn rfl (cR_flat [(x, y)]) rfl (by rw [hl]; omega) (by rw [hl]; omega) fun r h' a b c d => ?_
  refine hk r h' (Upd.keep ho.own hn c) ⟨by rw [cR_append]; exact a, ho.wf.append ?_⟩
  intro r hr
  rw [List.mem_singleton.1 hr]; exact ⟨hx, hy⟩

theorem take_succ {l : List (Int × Int)} {i : Int} {r : Int × Int} (h0 : 0 ≤ i) (hj : l[i.toNat]? = some r) : l.take (i + 1).toNat = l.take i.toNat ++ [r] := by
  rw [show (i + 1).toNat = i.toNat + 1 by omega, List.take_add_one, hj]; rfl

theorem c_added {s : Sl} {l : List (Int × Int)} (hb : Runs h s l) (hroom : l.length ≤ 4398046511104) : Gives P (F_law4_added S s) [A4] h fun (x : R4 × Unit) _ => x.1 = sum l := by
  have hlen := hb.len
  unfold F_law4_added Gives
  refine s_zero4 fun h1 e1 o1 => s_zero4 fun h2 e2 o2 => ?_
  have b1 := (o1.own.lt rfl).2
  dsimp only at b1
  refine wp_while (fun (s : Int × Unit) h' => 0 ≤ s.1 ∧ s.1 ≤ l.length ∧ Ext h h' ∧ h1.size ≤ h'.size ∧ obj h.size h' ⟨h.size, 0, none⟩ zero4 ∧ obj h1.size h' ⟨h1.size, 0, none⟩ (sum (l.take s.1.toNat))) (fun s _ => l.length - s.1.toNat)
    (fun t vs h' => t = 2 ∧ vs = [] ∧ Ext h h' ∧ obj h.size h' ⟨h.size, 0, none⟩ zero4 ∧ obj h1.size h' ⟨h1.size, 0, none⟩ (sum l)) ⟨by simp, by simp, e1.trans e2, e2.size, o1.ext e2, o2⟩ ?_ ?_
  · rintro ⟨(i : Int), u⟩ h' ⟨h0, hi, e, hs, o1, o2⟩
    dsimp only at h0 hi o2 ⊢
    have hv : V i.toNat (sum (l.take i.toNat)) := (V.sum (hb.wf.take _)).mono (by rw [List.length_take]; omega)
    refine wp_ifB (fun hc => ?_) fun hc => ?_
    · rw [ltI_iff, natI_def, hlen] at hc
      refine s_get4 rfl o2 (s_at2 (hb.ext e) h0 hc fun r hj => ?_)
      obtain ⟨f1, f2⟩ := hb.wf.get hj
      refine wp_call (c_Measure f1 f2) fun x h3 e3 hx => ?_
      obtain ⟨m, u'⟩ := x
      dsimp only at hx
      subst hx
      have hm := V.measure (r := r) f1
      have o2 := o2.ext e3
      have o1 := o1.ext e3
      refine s_same4 o2 (wp_call (c_Add hv hm (by omega)) fun x h4 e4 hx => ?_)
      obtain ⟨m, u'⟩ := x
      dsimp only at hx
      subst hx
      have o2 := o2.ext e4
      have o1 := o1.ext e4
      refine s_store4 (add (sum (l.take i.toNat)) (measure r)) o2 ((hv.add hm).fits (by omega)) fun h5 o2 u5 => ?_
      rw [add_ok (by omega) (by omega)]
      refine s_ret ⟨fun _ => ⟨(i + 1, ()), rfl, ⟨by dsimp only; omega, by dsimp only; omega, Upd.extN ((e.trans e3).trans e4) u5 (by intro a ha; cases ha; exact e1.size),
        Nat.le_trans hs (Nat.le_trans e3.size (Nat.le_trans e4.size u5.1)), o1.obj_upd u5 (by dsimp only; omega), ?_⟩, by dsimp only; omega⟩, fun h => absurd rfl h⟩
      dsimp only
      rw [take_succ h0 hj, sum_snoc]; exact o2
    · rw [ltI_not, natI_def, hlen] at hc
      rw [List.take_of_length_le (by omega)] at o2
      exact s_ret ⟨fun h => absurd h (by decide), fun _ => ⟨rfl, rfl, e, o1, o2⟩⟩
  · rintro t vs h' ⟨rfl, rfl, e, o1, o2⟩
    exact s_tag (s_cast0 (s_get4 rfl o2 (s_tell4 (sum l) o1 (Nat.le_refl _) ((V.sum hb.wf).fits hroom) e fun _ _ => rfl)))

theorem c_Upto {s : Sl} {l : List (Int × Int)} {n : Int} (hb : Runs h s l) (hroom : l.length < 4398046511104) : Gives P (F_ref4_Upto S s n) [A4] h fun (x : R4 × Unit) _ => x.1 = sum (l.take n.toNat) := by
  have hlen := hb.len
  unfold F_ref4_Upto Gives
  refine s_zero4 fun h1 e1 o1 => s_zero4 fun h2 e2 o2 => ?_
  have b1 := (o1.own.lt rfl).2
  dsimp only at b1
  refine wp_while (fun (s : Int × Unit) h' => 0 ≤ s.1 ∧ s.1 ≤ l.length ∧ s.1 ≤ n.toNat ∧ Ext h h' ∧ obj h.size h' ⟨h.size, 0, none⟩ zero4 ∧ obj h1.size h' ⟨h1.size, 0, none⟩ (sum (l.take s.1.toNat))) (fun s _ => l.length - s.1.toNat)
    (fun t vs h' => t = 2 ∧ vs = [] ∧ Ext h h' ∧ obj h.size h' ⟨h.size, 0, none⟩ zero4 ∧ obj h1.size h' ⟨h1.size, 0, none⟩ (sum (l.take n.toNat))) ⟨by simp, by simp, by dsimp only; omega, e1.trans e2, o1.ext e2, o2⟩ ?_ ?_
  · rintro ⟨(i : Int), u⟩ h' ⟨h0, hi, hin, e, o1, o2⟩
    dsimp only at h0 hi hin o2 ⊢
    have hv : V i.toNat (sum (l.take i.toNat)) := (V.sum (hb.wf.take _)).mono (by rw [List.length_take]; omega)
    refine bind_bool (i < n ∧ i < l.length) ?_ fun b h3 e3 hb3 => ?_
    · refine wp_ifB (fun hc => ?_) fun hc => ?_
      · rw [ltI_iff] at hc
        refine s_ret ⟨rfl, Ext.refl _, _, rfl, ?_⟩
        rw [ltI_iff, natI_def, hlen]; exact ⟨fun x => ⟨hc, x⟩, fun x => x.2⟩
      · rw [ltI_not] at hc
        exact s_ret ⟨rfl, Ext.refl _, false, rfl, Iff.intro (fun x => by cases x) (fun x => by omega)⟩
    · have o1 := o1.ext e3
      have o2 := o2.ext e3
      have e := e.trans e3
      dsimp only
      refine wp_ifB (fun hc => ?_) fun hc => ?_
      · obtain ⟨hc1, hc2⟩ := hb3.1 hc
        refine s_get4 rfl o2 (s_at2 (hb.ext e) h0 hc2 fun r hj => ?_)
        obtain ⟨f1, f2⟩ := hb.wf.get hj
        refine wp_call (c_behind (r := (r.1, r.2, ())) hv f1 f2 (by omega)) fun x h4 e4 hx => ?_
        obtain ⟨m, u'⟩ := x
        dsimp only at hx
        subst hx
        have hm := V.measure (r := r) f1
        have o2 := o2.ext e4
        have o1 := o1.ext e4
        refine s_store4 (add (sum (l.take i.toNat)) (measure r)) o2 ((hv.add hm).fits (by omega)) fun h5 o2 u5 => ?_
        rw [add_ok (by omega) (by omega)]
        refine s_ret ⟨fun _ => ⟨(i + 1, ()), rfl, ⟨by dsimp only; omega, by dsimp only; omega, by dsimp only; omega, Upd.extN (e.trans e4) u5 (by intro a ha; cases ha; exact e1.size),
          o1.obj_upd u5 (by dsimp only; omega), ?_⟩, by dsimp only; omega⟩, fun h => absurd rfl h⟩
        dsimp only
        rw [take_succ h0 hj, sum_snoc]; exact o2
      · have hno : ¬(i < n ∧ i < l.length) := fun x => by rw [hb3.2 x] at hc; cases hc
        have ht : l.take i.toNat = l.take n.toNat := by
          by_cases hx : i < n
          · rw [List.take_of_length_le (by omega), List.take_of_length_le (by omega)]
          · rw [show i.toNat = n.toNat by omega]
        rw [ht] at o2
        exact s_ret ⟨fun h => absurd h (by decide), fun _ => ⟨rfl, rfl, e, o1, o2⟩⟩
  · rintro t vs h' ⟨rfl, rfl, e, o1, o2⟩
    exact s_tag (s_cast0 (s_get4 rfl o2 (s_tell4 (sum (l.take n.toNat)) o1 (Nat.le_refl _) ((V.sum (hb.wf.take _)).fits (by rw [List.length_take]; omega)) e fun _ _ => rfl)))

theorem c_plain {s : Sl} {l : List (Int × Int)} (hb : Runs h s l) (hroom : l.length ≤ 4398046511104) : Gives P (F_law4_plain S s) [.one .sl] h fun (x : Sl × Unit) h' => OwnR h.size h' x.1 l := by
  have hlen := hb.len
  unfold F_law4_plain Gives
  refine wp_while (fun (s : Sl × Int × Unit) h' => Ext h h' ∧ 0 ≤ s.2.1 ∧ s.2.1 ≤ l.length ∧ OwnR h.size h' s.1 (l.take s.2.1.toNat)) (fun s _ => l.length - s.2.1.toNat)
    (fun t vs h' => t = 2 ∧ ∃ x : Sl × Unit, vs = Ts.inj [.one .sl] x ∧ Ext h h' ∧ OwnR h.size h' x.1 l) ⟨Ext.refl h, by simp, by simp, OwnR.nil ..⟩ ?_ ?_
  · rintro ⟨t, (i : Int), u⟩ h' ⟨e, h0, h1, ho⟩
    dsimp only at h0 h1 ho ⊢
    refine wp_ifB (fun hc => ?_) fun hc => ?_
    · rw [ltI_iff, natI_def, hlen] at hc
      have hlt : i.toNat < l.length := by omega
      have hj : l[i.toNat]? = some l[i.toNat] := List.getElem?_eq_getElem hlt
      obtain ⟨f1, f2⟩ := hb.wf.get hj
      refine s_part2 (x := l[i.toNat].1) (hb.ext e) h0 hc (fun r hr => .inl ⟨rfl, by rw [hj] at hr; cases hr; rfl⟩) (s_part2 (x := l[i.toNat].2) (hb.ext e) h0 hc (fun r hr => .inr ⟨rfl, by rw [hj] at hr; cases hr; rfl⟩) ?_)
      refine s_push2 ho e.size f1 f2 (by rw [List.length_take]; omega) fun r h2 k2 o2 => ?_
      rw [add_ok (by omega) (by omega)]
      refine s_ret ⟨fun _ => ⟨(r, i + 1, ()), rfl, ⟨Keep.trans e k2, by dsimp only; omega, by dsimp only; omega, ?_⟩, by dsimp only; omega⟩, fun h => absurd rfl h⟩
      dsimp only
      rw [take_succ h0 hj]; exact o2
    · rw [ltI_not, natI_def, hlen] at hc
      refine s_ret ⟨fun h => absurd h (by decide), fun _ => ⟨rfl, (t, ()), rfl, e, ?_⟩⟩
      rw [List.take_of_length_le (by omega)] at ho; exact ho
  · rintro t vs h' ⟨ht, x, hv, e, ho⟩
    exact s_exit ht x hv ⟨rfl, e, x, rfl, ho⟩

end Go.Sw.Tree
