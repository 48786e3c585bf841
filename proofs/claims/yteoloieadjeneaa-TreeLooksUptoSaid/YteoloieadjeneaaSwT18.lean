/-
  Tree: a list that was handed in is looked at and written over (spoil).
-/
import Derived.Test.YteoloieadjeneaaSwT17
set_option linter.unusedVariables false
set_option linter.unusedSimpArgs false
set_option maxRecDepth 100000
namespace Go.Sw.Tree
variable {P : Program} {S : Ids} {h : Heap} {Q : Nat → List Value → Heap → Prop}

/-- l[j] = (x, y) in a list of one's own. -/
theorem s_set2 {n : Nat} {s : Sl} {l : List (Int × Int)} {x y : Int} {j : Int} {K : Prog} (ho : OwnR n h s l) (h0 : 0 ≤ j) (h1 : j < l.length) (hf : fitsI .i64 x ∧ fitsI .i64 y)
    (hk : ∀ h', OwnR n h' s (l.set j.toNat (x, y)) → Upd s h h' → wp P K h' Q) :
    wp P (grd (andB (someB s.base) (inB j s.len)) (.store (shiftTo s.base (mulN (toN j) 2)) [.int .i64 x, .int .i64 y] K)) h Q := by
  have hl := ho.len
  obtain ⟨o1, o2, o3, o4⟩ := ho.own
  cases hb : s.base with
  | none => rw [hb] at o4; simp only at o4; omega
  | some a =>
    rw [hb] at o4
    obtain ⟨b, off, spot⟩ := a
    obtain ⟨e0, e1, e2, cs, elem, e3, e4, e5⟩ := o4
    dsimp only at e0 e1 e2 e3
    subst e0; subst e1
    refine wp_grd (andB_iff.2 ⟨rfl, inB_is.2 ⟨h0, by omega⟩⟩) ?_
    have hadd : ((Addr.mk b 0 none).add (mulN (toN j) 2)) = ⟨b, j.toNat * 2, none⟩ := by simp [add_mk, mulN, toN]
    obtain ⟨w, cs', c1, c2, c3, c4, c5, c6⟩ := puts_block (vs := [.int .i64 x, .int .i64 y]) (i := 0) (off := j.toNat * 2) e3 (cR_flat [(x, y)]) (by simp; omega)
    refine ⟨⟨b, j.toNat * 2, none⟩, by rw [shiftTo_some, hadd], w, hk _ ⟨⟨by rw [cR_len, List.length_set]; omega, o2, o3, ?_⟩, ?_⟩
      ⟨by unfold puts; omega, fun i hi hne => c6 i fun e => (hne _ hb) e.symm, fun a e => by unfold puts; rw [thaw_putFrom]; exact e⟩⟩
    · rw [hb]
      refine ⟨rfl, rfl, e2, cs', elem, c1, by rw [c2, e4], fun i v hi => ?_⟩
      have hlt := (List.getElem?_eq_some_iff.1 hi).1
      rw [cR_len, List.length_set] at hlt
      by_cases hij : i / 2 = j.toNat
      · have hr : (l.set j.toNat (x, y))[i / 2]? = some (x, y) := by rw [hij]; exact List.getElem?_set_self (by omega)
        obtain ⟨g1, g2⟩ := cR_at _ _ _ hr
        rcases Nat.mod_two_eq_zero_or_one i with hm | hm
        · rw [show i / 2 * 2 = i by omega] at g1
          rw [g1] at hi
          have := c3 0 v hi
          rw [show j.toNat * 2 + 0 + 0 = i by omega] at this; exact this
        · rw [show i / 2 * 2 + 1 = i by omega] at g2
          rw [g2] at hi
          have := c3 1 v hi
          rw [show j.toNat * 2 + 0 + 1 = i by omega] at this; exact this
      · have hr : (l.set j.toNat (x, y))[i / 2]? = some l[i / 2] := by rw [List.getElem?_set_ne (by omega)]; exact List.getElem?_eq_getElem (by omega)
        have hr' : l[i / 2]? = some l[i / 2] := List.getElem?_eq_getElem (by omega)
        obtain ⟨g1, g2⟩ := cR_at _ _ _ hr
        obtain ⟨g1', g2'⟩ := cR_at _ _ _ hr'
        rw [c4 i (by simp; omega)]
        rcases Nat.mod_two_eq_zero_or_one i with hm | hm
        · rw [show i / 2 * 2 = i by omega] at g1 g1'
          exact e5 i v (by rw [g1']; rw [g1] at hi; exact hi)
        · rw [show i / 2 * 2 + 1 = i by omega] at g2 g2'
          exact e5 i v (by rw [g2']; rw [g2] at hi; exact hi)
    · intro r hr
      rcases List.mem_or_eq_of_mem_set hr with hr | rfl
      · exact ho.wf r hr
      · exact hf

theorem upd_trans {s : Sl} {h h1 h2 : Heap} (u : Upd s h h1) (v : Upd s h1 h2) : Upd s h h2 := ⟨Nat.le_trans u.1 v.1, fun i hi hne => (v.2.1 i (Nat.lt_of_lt_of_le hi u.1) hne).trans (u.2.1 i hi hne), fun a x => v.2.2 a (u.2.2 a x)⟩
theorem ext_upd {s : Sl} {h h1 : Heap} (e : Ext h h1) : Upd s h h1 := ⟨e.1, fun i hi _ => e.2.1 i hi, e.2.2⟩

def spoilt (i : Nat) : Int × Int := (subI .i64 (-77) (i : Int), 1)
def spoilts (n : Nat) : List (Int × Int) := (List.range n).map spoilt
theorem spoilts_len (n : Nat) : (spoilts n).length = n := by simp [spoilts]
theorem spoilts_succ (n : Nat) : spoilts (n + 1) = spoilts n ++ [spoilt n] := by simp [spoilts, List.range_succ]
theorem mark_at (its : List (Int × Int)) (n : Nat) {j : Nat} (h1 : its.length ≤ j) (h2 : j < its.length + n) : (its ++ marksR its.length n)[j]? = some (mark j) := by
  rw [List.getElem?_append_right h1, marksR, List.getElem?_map, List.getElem?_range' (by omega)]
  simp; congr 1; omega

theorem c_spoil {n : Nat} {s was : Sl} {its : List (Int × Int)} {m : Nat} (ho : OwnR n h s (its ++ marksR its.length m)) (hn : n ≤ h.size) (hw : Runs h was its) (hb : its ≠ [] → ∀ a, was.base = some a → a.block < n) :
    GivesN n P (F_law4_spoil S s was) [.one .bool] h fun (y : Bool × Unit) h' => y.1 = true ∧ OwnR n h' s (spoilts its.length ++ marksR its.length m) ∧ Upd s h h' := by
  have hlen := ho.len
  have hwl := hw.len
  have hmax := ho.own.2.2.1
  have hcap := ho.own.2.1
  rw [List.length_append, marksR_len] at hlen
  unfold F_law4_spoil GivesN
  refine wp_while (fun (r : Int × Unit) h' => Ext h h' ∧ (its.length : Int) ≤ r.1 ∧ r.1 ≤ s.len) (fun r _ => (s.len - r.1).toNat) (fun t vs h' => t = 2 ∧ vs = [] ∧ Ext h h') ⟨Ext.refl h, by dsimp only; rw [natI_def, hwl]; omega, by dsimp only; rw [natI_def, hwl]; omega⟩ ?_ ?_
  · rintro ⟨(i : Int), u⟩ h1 ⟨e1, i0, i1⟩
    dsimp only at i0 i1 ⊢
    refine wp_ifB (fun hc => ?_) fun hc => ?_
    · rw [ltI_iff, natI_def] at hc
      obtain ⟨k, rfl⟩ := Int.eq_ofNat_of_zero_le (show 0 ≤ i by omega)
      have hat := mark_at its m (j := k) (by omega) (by omega)
      have hr := (ho.ext e1).runs
      have hll : (its ++ marksR its.length m).length = its.length + m := by rw [List.length_append, marksR_len]
      refine bind_bool False ?_ fun b h2 e2 hb => ?_
      · refine s_part2 (x := (mark k).1) hr (by omega) (by omega) (fun r hj => .inl ⟨rfl, by rw [Int.toNat_natCast, hat] at hj; cases hj; rfl⟩) ?_
        rw [show neI (mark k).1 (subI .i64 (-71) (k : Int)) = false from neI_not.2 rfl]
        refine s_ifF (s_part2 (x := (mark k).2) hr (by omega) (by omega) (fun r hj => .inr ⟨rfl, by rw [Int.toNat_natCast, hat] at hj; cases hj; rfl⟩) ?_)
        exact s_ret ⟨rfl, Ext.refl _, neI (mark k).2 (-72), rfl, Iff.intro (fun hx => absurd (neI_iff.1 hx) (by simp [mark])) False.elim⟩
      · have hbf : b = false := by cases b; rfl; exact (hb.1 rfl).elim
        subst hbf
        dsimp only
        rw [add_ok (by omega) (by omega)]
        exact s_ifF (s_ret ⟨fun _ => ⟨((k : Int) + 1, ()), rfl, ⟨e1.trans e2, by dsimp only; omega, by dsimp only; omega⟩, by dsimp only; omega⟩, fun h => absurd rfl h⟩)
    · exact s_ret ⟨fun h => absurd h (by decide), fun _ => ⟨rfl, rfl, e1⟩⟩
  · rintro t vs h1 ⟨rfl, rfl, e1⟩
    refine s_tag (s_cast0 ?_)
    have hk1 : Keep n h h1 := e1.mono hn
    refine wp_while (fun (r : Int × Unit) h' => Keep n h h' ∧ Upd s h h' ∧ 0 ≤ r.1 ∧ r.1 ≤ its.length ∧ OwnR n h' s (spoilts r.1.toNat ++ its.drop r.1.toNat ++ marksR its.length m)) (fun r _ => (its.length - r.1).toNat)
      (fun t vs h' => t = 4 ∧ vs = [] ∧ Keep n h h' ∧ Upd s h h' ∧ OwnR n h' s (spoilts its.length ++ marksR its.length m)) ⟨hk1, ext_upd e1, by simp, by simp, by simpa [spoilts] using ho.ext e1⟩ ?_ ?_
    · rintro ⟨(i : Int), u⟩ h2 ⟨k2, v2, i0, i1, ho⟩
      dsimp only at i0 i1 ho ⊢
      refine wp_ifB (fun hc => ?_) fun hc => ?_
      · rw [ltI_iff, natI_def, hwl] at hc
        obtain ⟨k, rfl⟩ := Int.eq_ofNat_of_zero_le i0
        rw [Int.toNat_natCast] at ho
        have hlt : k < its.length := by omega
        have hx : its[k]? = some its[k] := List.getElem?_eq_getElem hlt
        have hd : its.drop k = its[k] :: its.drop (k + 1) := List.drop_eq_getElem_cons hlt
        have hr := ho.runs
        have hll := ho.len
        have hat : (spoilts k ++ its.drop k ++ marksR its.length m)[k]? = some its[k] := by
          rw [List.append_assoc, List.getElem?_append_right (by rw [spoilts_len]; omega), spoilts_len, Nat.sub_self, hd]; rfl
        have hkl := (List.getElem?_eq_some_iff.1 hat).1
        have hww : Runs h2 was its := ⟨Rd.keepB hw.rd k2 (hb (by rintro rfl; simp at hlt)), hw.cap, hw.max, hw.wf⟩
        refine bind_bool False ?_ fun b h3 e3 hb3 => ?_
        · refine s_part2 (x := its[k].1) hr (by omega) (by omega) (fun r hj => .inl ⟨rfl, by rw [Int.toNat_natCast, hat] at hj; cases hj; rfl⟩) ?_
          refine s_part2 (x := its[k].1) hww (by omega) (by omega) (fun r hj => .inl ⟨rfl, by rw [Int.toNat_natCast, hx] at hj; cases hj; rfl⟩) ?_
          rw [show neI its[k].1 its[k].1 = false from neI_not.2 rfl]
          refine s_ifF (s_part2 (x := its[k].2) hr (by omega) (by omega) (fun r hj => .inr ⟨rfl, by rw [Int.toNat_natCast, hat] at hj; cases hj; rfl⟩) ?_)
          refine s_part2 (x := its[k].2) hww (by omega) (by omega) (fun r hj => .inr ⟨rfl, by rw [Int.toNat_natCast, hx] at hj; cases hj; rfl⟩) ?_
          exact s_ret ⟨rfl, Ext.refl _, _, rfl, Iff.intro (fun hz => absurd rfl (neI_iff.1 hz)) False.elim⟩
        · have hbf : b = false := by cases b; rfl; exact (hb3.1 rfl).elim
          subst hbf
          dsimp only
          have ho3 := ho.ext e3
          refine s_ifF (s_set2 (x := (spoilt k).1) (y := (spoilt k).2) ho3 (by omega) (by omega) ⟨range_i64 _, fits_i64.2 (by unfold spoilt; dsimp only; decide)⟩ fun h4 o4 u4 => ?_)
          rw [add_ok (by omega) (by omega)]
          have k4 : Keep n h h4 := Keep.trans k2 (Keep.trans (e3.mono (Nat.le_trans hn k2.size)) (Upd.keep ho3.own (Nat.le_trans hn (Nat.le_trans k2.size e3.size)) u4))
          refine s_ret ⟨fun _ => ⟨((k : Int) + 1, ()), rfl, ⟨k4, upd_trans v2 (upd_trans (ext_upd e3) u4), by dsimp only; omega, by dsimp only; omega, ?_⟩, by dsimp only; omega⟩, fun h => absurd rfl h⟩
          dsimp only
          have hset : (spoilts k ++ its.drop k ++ marksR its.length m).set k (spoilt k) = spoilts (k + 1) ++ its.drop (k + 1) ++ marksR its.length m := by
            rw [hd, List.append_assoc, List.set_append_right _ _ (by rw [spoilts_len]; omega), spoilts_len, Nat.sub_self, spoilts_succ, List.cons_append, List.set_cons_zero, List.append_assoc, List.append_assoc]; rfl
          rw [Int.toNat_natCast] at o4
          rw [show ((k : Int) + 1).toNat = k + 1 by omega, ← hset]; exact o4
      · rw [ltI_not, natI_def, hwl] at hc
        rw [show i.toNat = its.length by omega, List.drop_length, List.append_nil] at ho
        exact s_ret ⟨fun h => absurd h (by decide), fun _ => ⟨rfl, rfl, k2, v2, ho⟩⟩
    · rintro t vs h2 ⟨rfl, rfl, k2, v2, ho⟩
      exact s_tag (s_cast0 (s_ret ⟨rfl, k2, (true, ()), rfl, rfl, ho, v2⟩))

end Go.Sw.Tree
