/-
  Tree: the document's At and Find; Find has one answer; sameRun.
-/
import Derived.Test.YteoloieadjeneaaSwT15
set_option linter.unusedVariables false
set_option linter.unusedSimpArgs false
set_option maxRecDepth 100000
namespace Go.Sw.Tree
variable {P : Program} {S : Ids} {h : Heap} {Q : Nat → List Value → Heap → Prop}

theorem key_take {l : List (Int × Int)} (hw : wfR l) (k : Int) {a b : Nat} (hab : a ≤ b) : key (sum (l.take a)) k ≤ key (sum (l.take b)) k := by
  have h1 : l.take b = l.take a ++ (l.drop a).take (b - a) := by
    rw [show b = a + (b - a) by omega, List.take_add, show a + (b - a) - a = b - a by omega]
  rw [h1, sum_append (hw.take _) ((hw.drop _).take _)]
  exact key_mono (V.sum (hw.take _)) (V.sum ((hw.drop _).take _)) k

theorem found_one {l : List (Int × Int)} (hw : wfR l) {k n i j : Int} (hi : Found l k n i) (hj : Found l k n j) : i = j := by
  have hz : key (sum (l.take 0)) k = 0 := by rw [List.take_zero, show sum [] = zero4 from rfl, key_zero]
  have hall : l.take l.length = l := List.take_length
  have low : ∀ {i j : Int}, Found l k n i → Found l k n j → i ≤ j := by
    intro i j hi hj
    rcases hi with ⟨h1, h2⟩ | ⟨h1, h2, h3, h4⟩ | ⟨h1, h2⟩ <;> rcases hj with ⟨g1, g2⟩ | ⟨g1, g2, g3, g4⟩ | ⟨g1, g2⟩
    · omega
    · omega
    · omega
    · have := key_take hw k (a := 0) (b := i.toNat - 1) (by omega); omega
    · by_cases hlt : j < i
      · have := key_take hw k (a := j.toNat) (b := i.toNat - 1) (by omega); omega
      · omega
    · omega
    · have := key_take hw k (a := 0) (b := l.length) (by omega)
      rw [hall] at this; omega
    · have := key_take hw k (a := j.toNat) (b := l.length) (by omega)
      rw [hall] at this; omega
    · omega
  have := low hi hj
  have := low hj hi
  omega

theorem c_sameRun {a b : R2} (ha : fitsI .i64 a.1 ∧ fitsI .i64 a.2.1) (hb : fitsI .i64 b.1 ∧ fitsI .i64 b.2.1) : Gives P (F_law4_sameRun S a b) [.one .bool] h fun (y : Bool × Unit) _ => (y.1 = true ↔ a.1 = b.1 ∧ a.2.1 = b.2.1) := by
  unfold F_law4_sameRun Gives
  refine s_new2 _ _ ha.1 ha.2 fun h1 e1 o1 => s_new2 _ _ hb.1 hb.2 fun h2 e2 o2 => ?_
  have l1 := (o1.ext e2).lst
  have l2 := o2.lst
  refine bind_bool (a.1 = b.1 ∧ a.2.1 = b.2.1) ?_ fun y h3 e3 hy => s_ret ⟨rfl, (e1.trans e2).trans e3, (y, ()), rfl, hy⟩
  refine s_loadX l1 (x := a.1) rfl (s_loadX l2 (x := b.1) rfl (wp_ifB (fun hc => ?_) fun hc => ?_))
  · rw [eqI_iff] at hc
    refine s_loadX l1 (x := a.2.1) rfl (s_loadX l2 (x := b.2.1) rfl (s_ret ⟨rfl, Ext.refl _, _, rfl, ?_⟩))
    rw [eqI_iff]; exact Iff.intro (fun x => ⟨hc, x⟩) (fun x => x.2)
  · rw [eqI_not] at hc
    exact s_ret ⟨rfl, Ext.refl _, false, rfl, Iff.intro (fun x => by cases x) (fun x => absurd x.1 hc)⟩

theorem c_refAt {s : Sl} {l : List (Int × Int)} {i : Int} (hr : Runs h s l) : Gives P (F_ref4_At S s i) [A2, .one .bool] h fun (y : R2 × Bool × Unit) _ =>
    (y.2.1 = true ∧ 0 ≤ i ∧ l[i.toNat]? = some (y.1.1, y.1.2.1)) ∨ (y.2.1 = false ∧ (i < 0 ∨ (l.length : Int) ≤ i) ∧ y.1.1 = 0 ∧ y.1.2.1 = 0) := by
  have hlen := hr.len
  unfold F_ref4_At Gives
  refine s_zero2 fun h1 e1 o1 => ?_
  refine bind_bool (i < 0 ∨ (l.length : Int) ≤ i) ?_ fun b h2 e2 hb => ?_
  · refine wp_ifB (fun hc => ?_) fun hc => ?_
    · rw [ltI_iff] at hc
      exact s_ret ⟨rfl, Ext.refl _, true, rfl, Iff.intro (fun _ => .inl hc) (fun _ => rfl)⟩
    · rw [ltI_not] at hc
      refine s_ret ⟨rfl, Ext.refl _, _, rfl, ?_⟩
      rw [geI_iff, natI_def, hlen]; omega
  dsimp only
  have e02 := e1.trans e2
  refine wp_ifB (fun hc => ?_) fun hc => ?_
  · refine s_store2 0 0 (o1.ext e2) ⟨fits_zero _, fits_zero _⟩ fun h3 o3 u3 => s_get2 rfl o3 (s_ret ⟨rfl, Upd.extN e02 u3 (by intro a ha; cases ha; exact Nat.le_refl _), ((0, 0, ()), false, ()), rfl, .inr ⟨rfl, hb.1 hc, rfl, rfl⟩⟩)
  · have hno : ¬(i < 0 ∨ (l.length : Int) ≤ i) := fun x => by rw [hb.2 x] at hc; cases hc
    refine s_at2 (hr.ext e02) (by omega) (by omega) fun r hj => ?_
    exact s_store2 r.1 r.2 (o1.ext e2) (hr.wf.get hj) fun h3 o3 u3 => s_get2 rfl o3 (s_ret ⟨rfl, Upd.extN e02 u3 (by intro a ha; cases ha; exact Nat.le_refl _), ((r.1, r.2, ()), true, ()), rfl, .inl ⟨rfl, by omega, hj⟩⟩)

theorem c_refFind {s : Sl} {l : List (Int × Int)} {k n : Int} (hr : Runs h s l) (hroom : l.length < 4398046511104) : Gives P (F_ref4_Find S s k n) [.one (.int .i64)] h fun (y : Int × Unit) _ => Found l k n y.1 := by
  have hlen := hr.len
  have hall : l.take l.length = l := List.take_length
  unfold F_ref4_Find Gives
  refine s_zero4 fun h1 e1 o1 => ?_
  refine wp_while (fun (s : Int × Unit) h' => 0 ≤ s.1 ∧ s.1 ≤ l.length + 1 ∧ Ext h h' ∧ obj h.size h' ⟨h.size, 0, none⟩ (sum (l.take s.1.toNat)) ∧ (0 < s.1 → key (sum (l.take (s.1.toNat - 1))) k < n)) (fun s _ => (l.length + 1 - s.1).toNat)
    (fun t vs h' => Ext h h' ∧ ((t = 2 ∧ vs = [] ∧ key (sum l) k < n) ∨ (t = 1 ∧ ∃ x : Int × Unit, vs = Ts.inj [.one (.int .i64)] x ∧ Found l k n x.1)))
    ⟨by simp, by dsimp only; omega, e1, o1, fun h => absurd h (by simp)⟩ ?_ ?_
  · rintro ⟨(i : Int), u⟩ h2 ⟨i0, i1, e2, o2, hlow⟩
    dsimp only at i0 i1 o2 hlow ⊢
    have hv : V l.length (sum (l.take i.toNat)) := (V.sum (hr.wf.take _)).mono (by rw [List.length_take]; omega)
    rw [natI_def]
    refine wp_ifB (fun hc => ?_) fun hc => ?_
    · rw [leI_iff, hlen] at hc
      refine wp_bind (fun t vs h' => Ext h h' ∧ ((t = 1 ∧ vs = [.int .i64 i] ∧ Found l k n i) ∨ (t = 0 ∧ vs = [] ∧ key (sum (l.take i.toNat)) k < n ∧ obj h.size h' ⟨h.size, 0, none⟩ (sum (l.take (i.toNat + 1)))))) ?_ ?_
      · refine s_get4 rfl o2 (wp_call (c_refKey hv (by omega)) fun y h3 e3 hy => ?_)
        obtain ⟨(y : Int), w⟩ := y
        dsimp only at hy ⊢
        subst hy
        have o3 := o2.ext e3
        have e03 := e2.trans e3
        refine wp_ifB (fun hg => ?_) fun hg => ?_
        · rw [geI_iff] at hg
          refine s_ret ⟨e03, .inl ⟨rfl, rfl, ?_⟩⟩
          by_cases hi : i = 0
          · subst hi
            refine .inl ⟨rfl, ?_⟩
            have : key (sum (l.take (0 : Int).toNat)) k = 0 := by rw [show (0 : Int).toNat = 0 from rfl, List.take_zero, show sum [] = zero4 from rfl, key_zero]
            have hg' : n ≤ key (sum (l.take (0 : Int).toNat)) k := hg
            exact (by omega : n ≤ 0)
          · exact .inr (.inl ⟨by omega, hc, hg, hlow (by omega)⟩)
        · rw [geI_not] at hg
          refine wp_ifB (fun hd => ?_) fun hd => ?_
          · rw [ltI_iff, hlen] at hd
            refine s_get4 rfl o3 (s_at2 (hr.ext e03) i0 hd fun r hj => ?_)
            obtain ⟨f1, f2⟩ := hr.wf.get hj
            refine wp_call (c_behind (r := (r.1, r.2, ())) hv f1 f2 (by omega)) fun x h4 e4 hx => ?_
            obtain ⟨m, w'⟩ := x
            dsimp only at hx
            have hs : add (sum (l.take i.toNat)) (measure (r.1, r.2)) = sum (l.take (i.toNat + 1)) := by
              have := take_succ i0 hj
              rw [show (i + 1).toNat = i.toNat + 1 by omega] at this
              rw [this, sum_snoc]
            rw [hs] at hx
            subst hx
            have hv' : V l.length (sum (l.take (i.toNat + 1))) := (V.sum (hr.wf.take _)).mono (by rw [List.length_take]; omega)
            exact s_store4 (sum (l.take (i.toNat + 1))) (o3.ext e4) (hv'.fits (by omega)) fun h5 o5 u5 => s_ret ⟨Upd.extN (e03.trans e4) u5 (by intro a ha; cases ha; exact Nat.le_refl _), .inr ⟨rfl, rfl, hg, o5⟩⟩
          · rw [ltI_not, hlen] at hd
            refine s_ret ⟨e03, .inr ⟨rfl, rfl, hg, ?_⟩⟩
            have h1 : l.take (i.toNat + 1) = l.take i.toNat := by rw [List.take_of_length_le (by omega), List.take_of_length_le (by omega)]
            rw [h1]; exact o3
      · rintro t vs h3 ⟨e3, ⟨rfl, rfl, hf⟩ | ⟨rfl, rfl, hk, o3⟩⟩
        · exact s_tag ⟨(i, ()), rfl, s_ret ⟨fun h => absurd h (by decide), fun _ => ⟨e3, .inr ⟨rfl, (i, ()), rfl, hf⟩⟩⟩⟩
        · refine s_skip (by decide) (s_tag (s_cast0 ?_))
          rw [add_ok (by omega) (by omega)]
          refine s_ret ⟨fun _ => ⟨(i + 1, ()), rfl, ⟨by dsimp only; omega, by dsimp only; omega, e3, ?_, fun _ => ?_⟩, by dsimp only; omega⟩, fun h => absurd rfl h⟩
          · dsimp only
            rw [show (i + 1).toNat = i.toNat + 1 by omega]; exact o3
          · dsimp only
            rw [show (i + 1).toNat - 1 = i.toNat by omega]; exact hk
    · rw [leI_not, hlen] at hc
      refine s_ret ⟨fun h => absurd h (by decide), fun _ => ⟨e2, .inl ⟨rfl, rfl, ?_⟩⟩⟩
      have := hlow (by omega)
      rw [show i.toNat - 1 = l.length by omega, hall] at this; exact this
  · rintro t vs h2 ⟨e2, ⟨rfl, rfl, hk⟩ | ⟨rfl, x, rfl, hf⟩⟩
    · refine s_tag (s_cast0 ?_)
      rw [natI_def, hlen, add_ok (by omega) (by omega)]
      exact s_ret ⟨rfl, e2, ((l.length : Int) + 1, ()), rfl, .inr (.inr ⟨rfl, hk⟩)⟩
    · exact s_skip (by decide) (s_tag ⟨x, rfl, s_ret ⟨rfl, e2, x, rfl, hf⟩⟩)

end Go.Sw.Tree
