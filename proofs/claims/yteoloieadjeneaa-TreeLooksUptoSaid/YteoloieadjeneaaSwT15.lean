/-
  Tree: the scripts' parts: lists with marks in all their room (handed).
-/
import Derived.Test.YteoloieadjeneaaSwT14
set_option linter.unusedVariables false
set_option linter.unusedSimpArgs false
set_option maxRecDepth 100000
namespace Go.Sw.Tree
variable {P : Program} {S : Ids} {h : Heap} {Q : Nat → List Value → Heap → Prop}

theorem OwnR.pre {n : Nat} {s : Sl} {l m : List (Int × Int)} (ho : OwnR n h s (l ++ m)) : OwnR n h ⟨s.base, l.length, s.cap⟩ l := by
  have hl := ho.len
  obtain ⟨⟨h1, h2, h3, h4⟩, hw⟩ := ho
  rw [List.length_append] at hl
  refine ⟨⟨by rw [cR_len], by dsimp only; omega, h3, ?_⟩, fun x hx => hw x (List.mem_append_left _ hx)⟩
  cases hb : s.base with
  | none => rw [hb] at h4; exact h4
  | some a =>
    rw [hb] at h4
    obtain ⟨a1, a2, a3, cs, el, a4, a5, a6⟩ := h4
    refine ⟨a1, a2, a3, cs, el, a4, a5, fun i v hi => a6 i v ?_⟩
    rw [cR_append, List.getElem?_append_left (List.getElem?_eq_some_iff.1 hi).1]
    exact hi

/-- The next place of a list of one's own, within its room. -/
theorem s_fill2 {n : Nat} {p : Option Addr} {c i : Nat} {l : List (Int × Int)} {x y : Int} {K : Prog} (ho : OwnR n h ⟨p, i, c⟩ l) (hi : i < c) (hf : fitsI .i64 x ∧ fitsI .i64 y)
    (hk : ∀ h', OwnR n h' ⟨p, i + 1, c⟩ (l ++ [(x, y)]) → Upd ⟨p, i, c⟩ h h' → wp P K h' Q) :
    wp P (grd (andB (someB p) (inB (i : Int) c)) (.store (shiftTo p (mulN (toN (i : Int)) 2)) [.int .i64 x, .int .i64 y] K)) h Q := by
  have hl := ho.len
  obtain ⟨o1, o2, o3, o4⟩ := ho.own
  dsimp only at o1 o2 o3 o4 hl
  cases p with
  | none => dsimp only at o4; omega
  | some a =>
    obtain ⟨b, off, spot⟩ := a
    obtain ⟨e0, e1, e2, cs, elem, e3, e4, e5⟩ := o4
    dsimp only at e0 e1 e2 e3
    subst e0; subst e1
    refine wp_grd (andB_iff.2 ⟨rfl, inB_is.2 ⟨by omega, by omega⟩⟩) ?_
    have hadd : ((Addr.mk b 0 none).add (mulN (toN (i : Int)) 2)) = ⟨b, i * 2, none⟩ := by simp [add_mk, mulN, toN]
    obtain ⟨w, cs', c1, c2, c3, c4, c5, c6⟩ := puts_block (vs := [.int .i64 x, .int .i64 y]) (i := 0) (off := i * 2) e3 (cR_flat [(x, y)]) (by simp; omega)
    refine ⟨⟨b, i * 2, none⟩, by rw [shiftTo_some, hadd], w, hk _ ⟨⟨by rw [cR_len, List.length_append]; simp; omega, by dsimp only; omega, o3, rfl, rfl, e2, cs', elem, c1, by rw [c2, e4], fun j v hj => ?_⟩, ho.wf.append ?_⟩
      ⟨by unfold puts; omega, fun j hj hne => c6 j fun e => (hne _ rfl) e.symm, fun a e => by unfold puts; rw [thaw_putFrom]; exact e⟩⟩
    · rw [cR_append] at hj
      by_cases hlt : j < (cR l).length
      · rw [List.getElem?_append_left hlt] at hj
        rw [cR_len] at hlt
        rw [c4 j (by omega)]
        exact e5 j v hj
      · rw [List.getElem?_append_right (by omega)] at hj
        rw [cR_len] at hlt hj
        have := c3 (j - l.length * 2) v hj
        rw [show i * 2 + 0 + (j - l.length * 2) = j by omega] at this
        exact this
    · intro r hr
      rw [List.mem_singleton.1 hr]; exact hf

/-- The marks from place i on. -/
def mark (i : Nat) : Int × Int := (subI .i64 (-71) (i : Int), -72)
def marksR (i n : Nat) : List (Int × Int) := (List.range' i n).map mark
theorem marksR_len (i n : Nat) : (marksR i n).length = n := by simp [marksR]
theorem marksR_succ (i n : Nat) : marksR i (n + 1) = marksR i n ++ [mark (i + n)] := by simp [marksR, List.range'_concat]
theorem mark_fits (i : Nat) : fitsI .i64 (mark i).1 ∧ fitsI .i64 (mark i).2 := ⟨range_i64 _, fits_i64.2 (by unfold mark; dsimp only; decide)⟩

abbrev Op7 := Int × Int × Int × Int × Int × Int × Sl × Unit

theorem c_handed {o : Op7} {its : List (Int × Int)} (hr : Runs h o.2.2.2.2.2.2.1 its) (hroom : its.length ≤ 4194304) :
    Gives P (F_law4_handed S o) [.one .sl] h fun (y : Sl × Unit) h' => y.1.len = y.1.cap ∧ its.length ≤ y.1.cap ∧ OwnR h.size h' y.1 (its ++ marksR its.length (y.1.cap - its.length)) := by
  obtain ⟨o0, o1, o2, o3, o4, o5, s, u⟩ := o
  dsimp only at hr
  have hlen := hr.len
  unfold F_law4_handed Gives
  dsimp only
  intro elem
  have e1 : Ext h (h.push (.cells [iv o0, iv o1, iv o2, iv o3, iv o4, iv o5, .slice s.base s.len s.cap].toArray elem)) := Ext.push ..
  have q1 : Own h.size 1 (h.push (.cells [iv o0, iv o1, iv o2, iv o3, iv o4, iv o5, .slice s.base s.len s.cap].toArray elem)) ⟨some ⟨h.size, 0, none⟩, 7, 7⟩ [iv o0, iv o1, iv o2, iv o3, iv o4, iv o5, .slice s.base s.len s.cap] := own_alloc rfl (by decide) (by decide)
  generalize (h.push (.cells [iv o0, iv o1, iv o2, iv o3, iv o4, iv o5, .slice s.base s.len s.cap].toArray elem)) = h1 at e1 q1 ⊢
  have b1 := (q1.lt rfl).2
  dsimp only at b1
  have ld : ∀ {h'} {K : Sl → Prog} {Q : Nat → List Value → Heap → Prop}, Ext h1 h' → wp P (K s) h' Q → wp P (.load (.one .sl) (shiftTo (some ⟨h.size, 0, none⟩) 6) K) h' Q := fun e hk =>
    s_cell (b := .sl) (x := s) rfl (q1.ext e).cells rfl hk
  refine wp_while (fun (r : Sl × Int × Unit) h' => Ext h1 h' ∧ 0 ≤ r.2.1 ∧ r.2.1 ≤ its.length ∧ OwnR h1.size h' r.1 (its.take r.2.1.toNat)) (fun r _ => its.length - r.2.1.toNat)
    (fun t vs h' => t = 2 ∧ ∃ x : Sl × Unit, vs = Ts.inj [.one .sl] x ∧ Ext h1 h' ∧ OwnR h1.size h' x.1 its) ⟨Ext.refl h1, by simp, by simp, OwnR.nil ..⟩ ?_ ?_
  · rintro ⟨t, (i : Int), u⟩ h2 ⟨e2, i0, i1, ho⟩
    dsimp only at i0 i1 ho ⊢
    refine ld e2 (wp_ifB (fun hc => ?_) fun hc => ?_)
    · rw [ltI_iff, natI_def, hlen] at hc
      refine ld e2 (s_at2 (hr.ext (e1.trans e2)) i0 hc fun r hj => ?_)
      obtain ⟨f1, f2⟩ := hr.wf.get hj
      refine s_push2 ho e2.size f1 f2 (by rw [List.length_take]; omega) fun t' h3 k3 ho => ?_
      rw [add_ok (by omega) (by omega)]
      refine s_ret ⟨fun _ => ⟨(t', i + 1, ()), rfl, ⟨Keep.trans e2 k3, by dsimp only; omega, by dsimp only; omega, ?_⟩, by dsimp only; omega⟩, fun h => absurd rfl h⟩
      dsimp only
      rw [take_succ i0 hj]; exact ho
    · rw [ltI_not, natI_def, hlen] at hc
      rw [List.take_of_length_le (by omega)] at ho
      exact s_ret ⟨fun h => absurd h (by decide), fun _ => ⟨rfl, (t, ()), rfl, e2, ho⟩⟩
  · rintro t vs h2 ⟨rfl, ⟨x, w⟩, rfl, e2, ho⟩
    refine s_tag ⟨(x, ()), rfl, ?_⟩
    dsimp only at ho ⊢
    refine wp_while (fun (r : Sl × Int × Unit) h' => Ext h1 h' ∧ 0 ≤ r.2.1 ∧ r.2.1 ≤ 40 ∧ OwnR h1.size h' r.1 (its ++ List.replicate r.2.1.toNat (0, 0))) (fun r _ => (40 - r.2.1).toNat)
      (fun t vs h' => t = 4 ∧ ∃ x : Sl × Unit, vs = Ts.inj [.one .sl] x ∧ Ext h1 h' ∧ OwnR h1.size h' x.1 (its ++ List.replicate 40 (0, 0))) ⟨e2, by simp, by simp, by simpa using ho⟩ ?_ ?_
    · rintro ⟨t, (i : Int), u⟩ h3 ⟨e3, i0, i1, ho⟩
      dsimp only at i0 i1 ho ⊢
      refine wp_ifB (fun hc => ?_) fun hc => ?_
      · rw [ltI_iff] at hc
        refine s_push2 ho e3.size (fits_zero _) (fits_zero _) (by simp; omega) fun t' h4 k4 ho => ?_
        rw [add_ok (by omega) (by omega)]
        refine s_ret ⟨fun _ => ⟨(t', i + 1, ()), rfl, ⟨Keep.trans e3 k4, by dsimp only; omega, by dsimp only; omega, ?_⟩, by dsimp only; omega⟩, fun h => absurd rfl h⟩
        dsimp only
        rw [show (i + 1).toNat = i.toNat + 1 by omega, List.replicate_succ', ← List.append_assoc]; exact ho
      · rw [ltI_not] at hc
        rw [show i.toNat = 40 by omega] at ho
        exact s_ret ⟨fun h => absurd h (by decide), fun _ => ⟨rfl, (t, ()), rfl, e3, ho⟩⟩
    · rintro t vs h3 ⟨rfl, ⟨y, w⟩, rfl, e3, ho⟩
      refine s_tag ⟨(y, ()), rfl, ?_⟩
      dsimp only at ho ⊢
      have hyl := ho.len
      have hyc := ho.own.2.1
      have hym := ho.own.2.2.1
      rw [List.length_append, List.length_replicate] at hyl
      have hcap : subN (toN (natI y.cap)) 0 = y.cap := by simp [subN, toN, natI_def]
      rw [hcap, cutBase_zero, show subN y.cap 0 = y.cap from rfl, natI_def]
      refine s_grd (leB_ok (by omega) (by omega)) (ld e3 ?_)
      rw [natI_def, hlen]
      refine wp_while (fun (r : Int × Unit) h' => Ext h1 h' ∧ (its.length : Int) ≤ r.1 ∧ r.1 ≤ y.cap ∧ OwnR h1.size h' ⟨y.base, r.1.toNat, y.cap⟩ (its ++ marksR its.length (r.1.toNat - its.length))) (fun r _ => (y.cap - r.1).toNat)
        (fun t vs h' => t = 6 ∧ vs = [] ∧ Ext h1 h' ∧ OwnR h1.size h' ⟨y.base, y.cap, y.cap⟩ (its ++ marksR its.length (y.cap - its.length))) ⟨e3, by dsimp only; omega, by dsimp only; omega, by simpa [marksR] using ho.pre⟩ ?_ ?_
      · rintro ⟨(i : Int), u⟩ h4 ⟨e4, i0, i1, ho⟩
        dsimp only at i0 i1 ho ⊢
        refine wp_ifB (fun hc => ?_) fun hc => ?_
        · rw [ltI_iff] at hc
          obtain ⟨k, rfl⟩ := Int.eq_ofNat_of_zero_le (show 0 ≤ i by omega)
          rw [Int.toNat_natCast] at ho
          refine s_fill2 (x := (mark k).1) (y := (mark k).2) ho (by omega) (mark_fits k) fun h5 ho u5 => ?_
          rw [add_ok (by omega) (by omega)]
          refine s_ret ⟨fun _ => ⟨((k : Int) + 1, ()), rfl, ⟨Upd.extN e4 u5 (fun a ha => (ho.own.lt ha).1), by dsimp only; omega, by dsimp only; omega, ?_⟩, by dsimp only; omega⟩, fun h => absurd rfl h⟩
          dsimp only
          rw [show ((k : Int) + 1).toNat = k + 1 by omega, show k + 1 - its.length = (k - its.length) + 1 by omega, marksR_succ, show its.length + (k - its.length) = k by omega, ← List.append_assoc]
          exact ho
        · rw [ltI_not] at hc
          rw [show i.toNat = y.cap by omega] at ho
          exact s_ret ⟨fun h => absurd h (by decide), fun _ => ⟨rfl, rfl, e4, ho⟩⟩
      · rintro t vs h4 ⟨rfl, rfl, e4, ho⟩
        exact s_tag (s_cast0 (s_ret ⟨rfl, e1.trans e4, (⟨y.base, y.cap, y.cap⟩, ()), rfl, rfl, by dsimp only; omega, ho.mono e1.size⟩))

end Go.Sw.Tree
