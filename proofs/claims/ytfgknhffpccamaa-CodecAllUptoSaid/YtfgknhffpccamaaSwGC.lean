/-
  Codec: the document's stream: what may be the beginning of a longer row.
-/
import Derived.Test.YtfgknhffpccamaaSwC19
import Derived.Test.YtfgknhffpccamaaSwU4
import Derived.Test.YtfgknhffpccamaaSwC21
set_option linter.unusedVariables false
set_option linter.unusedSimpArgs false
set_option maxRecDepth 100000
namespace Go.Sw.Codec
variable {P : Program} {S : Ids} {h : Heap} {Q : Nat → List Value → Heap → Prop}

/-- Filled up to a longer row. -/
def fill (l : List Int) (n : Nat) (f : Int) : List Int := l ++ List.replicate (n - l.length) f
theorem fill_len {l : List Int} {n : Nat} {f : Int} (h : l.length ≤ n) : (fill l n f).length = n := by simp [fill]; omega
theorem fill_bytes {l : List Int} {n : Nat} {f : Int} (hb : isBytes l) (hf : 0 ≤ f ∧ f ≤ 255) : isBytes (fill l n f) := by
  intro x hx
  rcases List.mem_append.1 hx with h | h
  · exact hb x h
  · rw [(List.mem_replicate.1 h).2]; exact fits_u8.2 hf
def Begins (l : List Int) (n : Nat) (f : Int) : Prop := (first8 (fill l n f)).2 = n

theorem begin_more {l : List Int} (hb : isBytes l) (hl : 0 < l.length) {n : Nat} {f : Int} (hf : 0 ≤ f ∧ f ≤ 255) (hn : l.length < n) (h : Begins l n f) : moreE 1 l := by
  by_cases hm : moreE 1 l
  · exact hm
  · exfalso
    have h1 := first_stable (enc := 1) (x := List.replicate (n - l.length) f) (fill_bytes (n := n) hb hf) hl hm
    have h2 := firstF_size (enc := 1) hl hb
    unfold Begins fill at h
    rw [show first8 (l ++ List.replicate (n - l.length) f) = firstF 1 (l ++ List.replicate (n - l.length) f) from rfl, h1] at h
    omega

theorem more_begin {l : List Int} (hb : isBytes l) (hl : 0 < l.length) (h3 : l.length ≤ 3) (h : moreE 1 l) : ∃ n : Nat, l.length < n ∧ n ≤ 4 ∧ ∃ f, (f = 128 ∨ f = 191) ∧ Begins l n f := by
  unfold moreE at h
  rw [if_pos rfl] at h
  obtain ⟨q1, q2, q3⟩ := h
  have c0 := hb.at 0
  have hle := rowG_le (l.getD 0 0) (l.getD 1 0) (l.getD 2 0) (l.getD 3 0) c0.1 c0.2
  have hbn := bounds_n (l.getD 0 0) c0.1 c0.2
  have hrow : rowF l = ((l.length : Int), (rowF l).2) := by rw [← q2]
  obtain ⟨n, hn⟩ : ∃ n : Nat, (rowF l).2 = n := ⟨(rowF l).2.toNat, by omega⟩
  have hn4 : n ≤ 4 := by have : (rowF l).2 = (boundsF (l.getD 0 0)).1 := hle.1; omega
  rw [hn] at hrow q1 q3
  rw [q2] at q3
  unfold rowF at hrow
  rw [more_is c0.1 c0.2 _ _ (by omega) q3 q1] at hrow
  obtain ⟨m1, m2, m3, m4, m5⟩ := hrow
  have done : ∀ f, (f = 128 ∨ f = 191) → rowF (fill l n f) = ((n : Int), (n : Int)) → ∃ n : Nat, l.length < n ∧ n ≤ 4 ∧ ∃ f, (f = 128 ∨ f = 191) ∧ Begins l n f := fun f hf hr => by
    refine ⟨n, by omega, hn4, f, hf, ?_⟩
    unfold Begins
    rw [meant_val (fill_bytes hb (by omega)) (by omega) hn4 hr]
  have g : ∀ f i, (fill l n f).getD i 0 = if i < l.length then l.getD i 0 else if i < n then f else 0 := by
    intro f i
    unfold fill
    rw [List.getD_eq_getElem?_getD]
    split
    · rename_i h; rw [List.getElem?_append_left h, List.getD_eq_getElem?_getD]
    · rename_i h
      rw [List.getElem?_append_right (by omega), List.getElem?_replicate]
      split
      · rename_i h2; rw [if_pos (by omega)]; rfl
      · rename_i h2; rw [if_neg (by omega)]; rfl
  have cb := bounds_cases (l.getD 0 0) c0.1 c0.2
  have b1 := hb.at 1
  have b2 := hb.at 2
  have key : ∀ f, (f = 128 ∨ f = 191) → (l.length = 1 → (boundsF (l.getD 0 0)).2.1 ≤ f ∧ f ≤ (boundsF (l.getD 0 0)).2.2) → rowF (fill l n f) = ((n : Int), (n : Int)) := by
    intro f hf hfb
    have g0 : (fill l n f).getD 0 0 = l.getD 0 0 := by rw [g, if_pos hl]
    have g1 : (1 < l.length → (fill l n f).getD 1 0 = l.getD 1 0) ∧ (l.length = 1 → (fill l n f).getD 1 0 = f) := ⟨fun h => by rw [g, if_pos h], fun h => by rw [g, if_neg (by omega), if_pos (by omega)]⟩
    have g2 : (2 < l.length → (fill l n f).getD 2 0 = l.getD 2 0) ∧ (l.length ≤ 2 → 2 < n → (fill l n f).getD 2 0 = f) := ⟨fun h => by rw [g, if_pos h], fun h h' => by rw [g, if_neg (by omega), if_pos (by omega)]⟩
    have g3 : (3 < n → (fill l n f).getD 3 0 = f) := fun h' => by rw [g, if_neg (by omega), if_pos (by omega)]
    unfold rowF
    rw [g0]
    generalize (fill l n f).getD 1 0 = y1 at *
    generalize (fill l n f).getD 2 0 = y2 at *
    generalize (fill l n f).getD 3 0 = y3 at *
    generalize l.getD 0 0 = x0 at *
    generalize l.getD 1 0 = x1 at *
    generalize l.getD 2 0 = x2 at *
    unfold contF at *
    unfold rowG contF
    generalize (boundsF x0).1 = m at *
    generalize (boundsF x0).2.1 = lo at *
    generalize (boundsF x0).2.2 = hi at *
    have hl3 : l.length = 1 ∨ l.length = 2 ∨ l.length = 3 := by omega
    have hy1 : lo ≤ y1 ∧ y1 ≤ hi := by
      rcases hl3 with e | e | e
      · rw [g1.2 e]; exact hfb e
      · rw [g1.1 (by omega)]; exact m3 (by omega)
      · rw [g1.1 (by omega)]; exact m3 (by omega)
    have hy2 : 2 < n → 128 ≤ y2 ∧ y2 ≤ 191 := fun h => by
      rcases hl3 with e | e | e
      · rw [g2.2 (by omega) h]; omega
      · rw [g2.2 (by omega) h]; omega
      · rw [g2.1 (by omega)]; exact (m5 (by omega)).1
    have hy3 : 3 < n → 128 ≤ y3 ∧ y3 ≤ 191 := fun h => by rw [g3 h]; omega
    rw [if_neg (by omega), if_neg (fun h => h hy1)]
    by_cases n2 : n = 2
    · rw [if_pos (.inl (by omega))]; simp only [Prod.mk.injEq]; omega
    rw [if_neg (by intro h; rcases h with h | h; omega; exact h (hy2 (by omega)))]
    by_cases n3 : n = 3
    · rw [if_pos (.inl (by omega))]; simp only [Prod.mk.injEq]; omega
    rw [if_neg (by intro h; rcases h with h | h; omega; exact h (hy3 (by omega)))]
    simp only [Prod.mk.injEq]; omega
  by_cases hf : (boundsF (l.getD 0 0)).2.1 ≤ 128 ∧ 128 ≤ (boundsF (l.getD 0 0)).2.2
  · exact done 128 (.inl rfl) (key 128 (.inl rfl) fun _ => hf)
  · refine done 191 (.inr rfl) (key 191 (.inr rfl) fun _ => ?_)
    rcases cb with ⟨c, e⟩ | ⟨c, d, e⟩ | ⟨c, d, e⟩ | ⟨c, e⟩ | ⟨c, e⟩ | ⟨c, d, d', e⟩ | ⟨c, e⟩ | ⟨c, d, e⟩ | ⟨c, e⟩ | ⟨c, e⟩ <;> rw [e] at m1 hf ⊢ <;> dsimp only at m1 hf ⊢ <;> omega

theorem c_beginning {b : Sl} {l : List Int} {a : Nat} (hb : Lst .u8 h b l) (ha : a < l.length) (h3 : l.length ≤ a + 3) (hl : l.length < 2 ^ 61) :
    Gives P (F_ref1_beginning S b (a : Int)) [.one .bool] h fun (x : Bool × Unit) _ => (x.1 = true ↔ moreE 1 (l.drop a)) := by
  have hlb := hb.len
  have hby : isBytes l := hb.wf
  have hd := hby.drop a
  have hdl : (l.drop a).length = l.length - a := List.length_drop
  unfold F_ref1_beginning Gives
  have hnl : natI b.len = (l.length : Int) := by rw [natI_def, hlb]
  rw [hnl, sub_ok (by omega) (by omega), add_ok (by omega) (by omega)]
  refine wp_while (fun (s : Int × Unit) h' => Ext h h' ∧ ∃ n : Nat, s.1 = n ∧ (l.drop a).length < n ∧ n ≤ 5 ∧ ∀ m : Nat, (l.drop a).length < m → m < n → ∀ f, (f = 128 ∨ f = 191) → ¬ Begins (l.drop a) m f) (fun s _ => (5 - s.1).toNat)
    (fun t vs h' => Ext h h' ∧ ((t = 2 ∧ vs = [] ∧ ¬ moreE 1 (l.drop a)) ∨ (t = 1 ∧ vs = [.bool true] ∧ moreE 1 (l.drop a)))) ⟨Ext.refl _, l.length - a + 1, by dsimp only; omega, by omega, by omega, fun m h1 h2 => by omega⟩ ?_ ?_
  · rintro ⟨n', u⟩ h1 ⟨e1, n, hn, hn1, hn5, hno⟩
    dsimp only at hn ⊢
    subst hn
    refine wp_ifB (fun hc => ?_) fun hc => ?_
    · rw [leI_iff] at hc
      refine wp_while (fun (s : Int × Unit) h' => Ext h h' ∧ 0 ≤ s.1 ∧ s.1 ≤ 2 ∧ (0 < s.1 → ¬ Begins (l.drop a) n 128) ∧ (1 < s.1 → ¬ Begins (l.drop a) n 191)) (fun s _ => (2 - s.1).toNat)
        (fun t vs h' => Ext h h' ∧ ((t = 4 ∧ vs = [] ∧ ¬ Begins (l.drop a) n 128 ∧ ¬ Begins (l.drop a) n 191) ∨ (t = 1 ∧ vs = [.bool true] ∧ moreE 1 (l.drop a)))) ⟨e1, by dsimp only; omega, by dsimp only; omega, fun h => by dsimp only at h; omega, fun h => by dsimp only at h; omega⟩ ?_ ?_
      · rintro ⟨(k : Int), u⟩ h2 ⟨e2, k0, k1, hk1, hk2⟩
        dsimp only at k0 k1 hk1 hk2 ⊢
        refine wp_ifB (fun hd2 => ?_) fun hd2 => ?_
        · rw [ltI_iff] at hd2
          obtain ⟨f, hff, hfk⟩ : ∃ f : Int, wrapI .u8 (addI .i64 128 (mulI .i64 63 k)) = f ∧ ((k = 0 ∧ f = 128) ∨ (k = 1 ∧ f = 191)) := by
            have hk : k = 0 ∨ k = 1 := by omega
            rcases hk with rfl | rfl
            · exact ⟨128, by decide, .inl ⟨rfl, rfl⟩⟩
            · exact ⟨191, by decide, .inr ⟨rfl, rfl⟩⟩
          rw [hff]
          have hfb : 0 ≤ f ∧ f ≤ 255 := by omega
          refine wp_while (fun (s : Sl × Int × Unit) h' => Ext h2 h' ∧ ∃ i : Nat, s.2.1 = i ∧ i ≤ n ∧ OwnL h2.size .u8 h' s.1 ((fill (l.drop a) n f).take i)) (fun s _ => (n - s.2.1.toNat))
            (fun t vs h' => t = 6 ∧ Ext h2 h' ∧ ∃ x : Sl × Unit, vs = Ts.inj [.one .sl] x ∧ OwnL h2.size .u8 h' x.1 (fill (l.drop a) n f)) ⟨Ext.refl _, 0, rfl, Nat.zero_le _, OwnL.nil ..⟩ ?_ ?_
          · rintro ⟨s, i', u⟩ h3' ⟨e3, i, hi, hin, ho⟩
            dsimp only at hi ho ⊢
            subst hi
            have e03 := e2.trans e3
            have hfl := fill_len (l := l.drop a) (n := n) (f := f) (by omega)
            refine wp_ifB (fun hx => ?_) fun hx => ?_
            · rw [ltI_iff] at hx
              have hgi : (fill (l.drop a) n f).getD i 0 = if i < (l.drop a).length then l.getD (a + i) 0 else f := by
                unfold fill
                rw [List.getD_eq_getElem?_getD]
                split
                · rename_i h; rw [List.getElem?_append_left h, ← List.getD_eq_getElem?_getD, getD_drop]
                · rename_i h; rw [List.getElem?_append_right (by omega), List.getElem?_replicate, if_pos (by omega)]; rfl
              have htk : (fill (l.drop a) n f).take (i + 1) = (fill (l.drop a) n f).take i ++ [(fill (l.drop a) n f).getD i 0] := by
                rw [List.take_add_one, List.getElem?_eq_getElem (by omega), List.getD_eq_getElem?_getD, List.getElem?_eq_getElem (by omega)]; rfl
              refine wp_bind (fun t vs h' => t = 0 ∧ vs = [.int .u8 ((fill (l.drop a) n f).getD i 0)] ∧ Ext h2 h' ∧ OwnL h2.size .u8 h' s ((fill (l.drop a) n f).take i)) ?_ ?_
              · refine wp_ifB (fun hy => ?_) fun hy => ?_
                · rw [ltI_iff] at hy
                  rw [add_ok (by omega) (by omega)]
                  refine s_at (hb.ext e03) (by omega) (by omega) fun _ => s_ret ⟨rfl, ?_, e3, ho⟩
                  rw [hgi, if_pos (by omega), show ((a : Int) + (i : Int)).toNat = a + i by omega]
                · rw [ltI_not] at hy
                  exact s_ret ⟨rfl, by rw [hgi, if_neg (by omega)], e3, ho⟩
              rintro t vs h4 ⟨rfl, rfl, e4, ho⟩
              refine s_tag (s_castI (s_push ho e4.1 (by have := (fill_bytes (n := n) (f := f) hd hfb).at i; exact fits_u8.2 this) (by rw [List.length_take]; omega) (by rw [List.length_take]; omega) fun s' h5 k5 o5 u5 b5 => ?_))
              rw [← htk] at o5
              rw [add_ok (by omega) (by omega)]
              exact s_ret ⟨fun _ => ⟨(s', (i : Int) + 1, ()), rfl, ⟨Keep.trans e4 k5, i + 1, rfl, by omega, o5⟩, by dsimp only; omega⟩, fun h => absurd rfl h⟩
            · rw [ltI_not] at hx
              rw [List.take_of_length_le (by omega)] at ho
              exact s_ret ⟨fun h => absurd h (by decide), fun _ => ⟨rfl, e3, (s, ()), rfl, ho⟩⟩
          rintro t vs h3' ⟨ht, e3, x, hx, ho⟩
          refine s_exit ht x hx (wp_call (c_eightAt (a := 0) ho.lst (by rw [fill_len (by omega)]; omega) (by rw [fill_len (by omega)]; omega)) fun ⟨(y1 : Int), (y2 : Int), w⟩ h4 e4 hy => ?_)
          have hy : (y1, y2) = first8 ((fill (l.drop a) n f).drop 0) := hy
          rw [List.drop_zero] at hy
          have hy2 : y2 = (first8 (fill (l.drop a) n f)).2 := by rw [← hy]
          dsimp only
          have e24 := e2.trans (e3.trans e4)
          refine wp_ifB (fun hz => ?_) fun hz => ?_
          · rw [eqI_iff] at hz
            have hbg : Begins (l.drop a) n f := by unfold Begins; rw [← hy2]; exact hz
            exact s_ret ⟨fun h => absurd h (by decide), fun _ => ⟨e24, .inr ⟨rfl, rfl, begin_more hd (by omega) hfb hn1 hbg⟩⟩⟩
          · rw [eqI_not] at hz
            have hbg : ¬ Begins (l.drop a) n f := by unfold Begins; rw [← hy2]; exact hz
            rw [add_ok (by omega) (by omega)]
            refine s_ret ⟨fun _ => ⟨(k + 1, ()), rfl, ⟨e24, by dsimp only; omega, by dsimp only; omega, fun h => ?_, fun h => ?_⟩, by dsimp only; omega⟩, fun h => absurd rfl h⟩
            · rcases hfk with ⟨q, rfl⟩ | ⟨q, rfl⟩
              · exact hbg
              · exact hk1 (by omega)
            · dsimp only at h
              rcases hfk with ⟨q, rfl⟩ | ⟨q, rfl⟩
              · omega
              · exact hbg
        · rw [ltI_not] at hd2
          exact s_ret ⟨fun h => absurd h (by decide), fun _ => ⟨e2, .inl ⟨rfl, rfl, hk1 (by omega), hk2 (by omega)⟩⟩⟩
      · rintro t vs h2 ⟨e2, ⟨rfl, rfl, g1, g2⟩ | ⟨rfl, rfl, g⟩⟩
        · refine s_tag (s_cast0 ?_)
          rw [add_ok (by omega) (by omega)]
          refine s_ret ⟨fun _ => ⟨((n : Int) + 1, ()), rfl, ⟨e2, n + 1, rfl, by omega, by omega, fun m h1 h2 f hf => ?_⟩, by dsimp only; omega⟩, fun h => absurd rfl h⟩
          by_cases hm : m = n
          · subst hm
            rcases hf with rfl | rfl
            · exact g1
            · exact g2
          · exact hno m h1 (by omega) f hf
        · exact s_skip (by decide) (s_tag (s_castB (s_ret ⟨fun h => absurd h (by decide), fun _ => ⟨e2, .inr ⟨rfl, rfl, g⟩⟩⟩)))
    · rw [leI_not] at hc
      refine s_ret ⟨fun h => absurd h (by decide), fun _ => ⟨e1, .inl ⟨rfl, rfl, fun hm => ?_⟩⟩⟩
      obtain ⟨m, h1, h2, f, hf, hg⟩ := more_begin hd (by omega) (by omega) hm
      exact hno m h1 (by omega) f hf hg
  · rintro t vs h1 ⟨e1, ⟨rfl, rfl, g⟩ | ⟨rfl, rfl, g⟩⟩
    · exact s_tag (s_cast0 (s_ret ⟨rfl, e1, (false, ()), rfl, Iff.intro (fun h => by cases h) fun h => absurd h g⟩))
    · exact s_skip (by decide) (s_tag (s_castB (s_ret ⟨rfl, e1, (true, ()), rfl, Iff.intro (fun _ => g) fun _ => rfl⟩)))

end Go.Sw.Codec

set_option linter.unusedVariables false
set_option linter.unusedSimpArgs false
set_option maxRecDepth 100000
namespace Go.Sw
variable {P : Program} {h : Heap} {Q : Nat → List Value → Heap → Prop}
theorem Own.cells' {n m c : Nat} {a : Addr} {vs : List Value} (ho : Own n 1 h ⟨some a, m, c⟩ vs) : Cells h a vs :=
  cells_iff.2 fun j v hj => by obtain ⟨a', e, x⟩ := ho.rd.2 j v hj; cases e; exact x
/-- One cell of an object of one's own, written over. -/
theorem s_setC' {n m c j : Nat} {a : Addr} {vs : List Value} (v : Value) {K : Prog} (ho : Own n 1 h ⟨some a, m, c⟩ vs) (hj : j < vs.length) (hf : flat v = true)
    (hk : ∀ h', Own n 1 h' ⟨some a, m, c⟩ (vs.set j v) → Upd ⟨some a, m, c⟩ h h' → wp P K h' Q) : wp P (.store (shiftTo (some a) j) [v] K) h Q := by
  obtain ⟨o1, o2, o3, o4⟩ := ho
  obtain ⟨b, off, spot⟩ := a
  obtain ⟨e0, e1, e2, cs, elem, e3, e4, e5⟩ := o4
  dsimp only at e0 e1 e2 e3 o1 o2 e4
  subst e0; subst e1
  have hadd : (Addr.mk b 0 none).add j = ⟨b, j, none⟩ := by simp [add_mk]
  obtain ⟨w, cs', c1, c2, c3, c4, c5, c6⟩ := puts_block (vs := [v]) (i := 0) (off := j) e3 (by intro x hx; rw [List.mem_singleton.1 hx]; exact hf) (by simp; omega)
  refine ⟨⟨b, j, none⟩, by rw [shiftTo_some, hadd], w, hk _ ⟨by rw [List.length_set]; exact o1, o2, o3, rfl, rfl, e2, cs', elem, c1, by rw [c2, e4], fun i u hi => ?_⟩
    ⟨by unfold puts; omega, fun i hi hne => c6 i fun e => (hne _ rfl) e.symm, fun a e => by unfold puts; rw [thaw_putFrom]; exact e⟩⟩
  have hlt := (List.getElem?_eq_some_iff.1 hi).1
  rw [List.length_set] at hlt
  by_cases hij : i = j
  · subst hij
    rw [List.getElem?_set_self hj] at hi
    cases hi
    have := c3 0 v rfl
    simpa using this
  · rw [List.getElem?_set_ne (by omega)] at hi
    rw [c4 i (by simp; omega)]
    exact e5 i u hi
end Go.Sw

namespace Go.Sw.Codec
variable {P : Program} {S : Ids} {h : Heap} {Q : Nat → List Value → Heap → Prop}
abbrev i64v (x : Int) : Value := .int .i64 x
abbrev slv (s : Sl) : Value := .slice s.base s.len s.cap

/-- The document's stream in memory. -/
structure RStr (n : Nat) (h : Heap) (q : Addr) (enc : Int) (rs : Sl) (all : List Int) (told : Int) : Prop where
  ob : Own n 1 h ⟨some q, 3, 3⟩ [i64v enc, slv rs, i64v told]
  al : OwnL n .u8 h rs all
  ne : ∀ a, rs.base = some a → a.block ≠ q.block
variable {n : Nat} {q : Addr} {enc told : Int} {rs : Sl} {all : List Int}
theorem RStr.c0 (r : RStr n h q enc rs all told) : Sw.cell h (q.add 0) = some (i64v enc) := cells_iff.1 r.ob.cells' 0 _ rfl
theorem RStr.c1 (r : RStr n h q enc rs all told) : Sw.cell h (q.add 1) = some (slv rs) := cells_iff.1 r.ob.cells' 1 _ rfl
theorem RStr.c2 (r : RStr n h q enc rs all told) : Sw.cell h (q.add 2) = some (i64v told) := cells_iff.1 r.ob.cells' 2 _ rfl
theorem RStr.ext {h' : Heap} (r : RStr n h q enc rs all told) (e : Ext h h') : RStr n h' q enc rs all told := ⟨r.ob.ext e, r.al.ext e, r.ne⟩
theorem RStr.blocks {h' : Heap} (r : RStr n h q enc rs all told) (e0 : h'[q.block]? = h[q.block]?) (e1 : ∀ a, rs.base = some a → h'[a.block]? = h[a.block]?) : RStr n h' q enc rs all told :=
  ⟨r.ob.keep fun a ha => by cases ha; exact e0, r.al.keep e1, r.ne⟩

theorem w_held16 {l : List Int} {b : Sl} {K : Nat → List Value → Prog} (r : RStr n h q enc rs l told) (h16 : enc ≠ 1 ∧ enc ≠ 4) (hl : l.length < 2 ^ 61) (hk : ∀ h', Ext h h' → wp P (K 1 [i64v (held16 enc l)]) h' Q) :
    wp P (.bind (.bind
          (ifB (geI (natI rs.len) 2)
            (grd (someB (some q)) <|
            grd (someB (some q)) <|
            .load (.one (.int .i64)) (shiftTo (some q) 0) fun (n225 : Int) =>
            grd (someB (some q)) <|
            grd (someB (some q)) <|
            .load (.one .sl) (shiftTo (some q) 1) fun (l226 : Sl) =>
            .call (F_ref1_unitAt S n225 l226 (subI .i64 (subI .i64 (natI rs.len) (remI .i64 (natI rs.len) 2)) 2)) [.one (.int .i64)] fun (r227 : Int × Unit) =>
            .bind
              (ifB (geI r227.1 55296)
                (.ret 0 [.bool (ltI r227.1 56320)]) <|
              .ret 0 [.bool false]) fun k231 vs232 =>
            ifB (eqN k231 0)
              (.cast [.one .bool] vs232 fun (r233 : Bool × Unit) =>
              ifB r233.1
                (.ret 1 [.int .i64 (addI .i64 (remI .i64 (natI rs.len) 2) 2)]) <|
              .ret 0 []) <|
            .fail) <|
          .ret 0 []) fun k234 vs235 =>
        ifB (eqN k234 1)
          (.cast [.one (.int .i64)] vs235 fun (r236 : Int × Unit) =>
          .ret 1 [.int .i64 r236.1]) <|
        ifB (eqN k234 0)
          (.cast [] vs235 fun (u237 : Unit) =>
          .ret 1 [.int .i64 (remI .i64 (natI rs.len) 2)]) <|
        .fail) K) h Q := by
  have hlen := r.al.len
  have hby : isBytes l := r.al.wf
  have hnl : natI rs.len = (l.length : Int) := by rw [natI_def, hlen]
  rw [hnl]
  have hrem : remI .i64 (l.length : Int) 2 = ((l.length % 2 : Nat) : Int) := by rw [rem_ok (by omega)]; omega
  rw [hrem]
  have hval : held16 enc l = if 2 ≤ l.length - l.length % 2 ∧ 55296 ≤ unitF enc l (l.length - l.length % 2 - 2) ∧ unitF enc l (l.length - l.length % 2 - 2) < 56320 then ((l.length % 2 : Nat) : Int) + 2 else ((l.length % 2 : Nat) : Int) := rfl
  refine wp_bind (fun t vs h' => Ext h h' ∧ t = 1 ∧ vs = [i64v (held16 enc l)]) (wp_bind (fun t vs h' => Ext h h' ∧ ((t = 1 ∧ vs = [i64v (held16 enc l)]) ∨ (t = 0 ∧ vs = [] ∧ held16 enc l = ((l.length % 2 : Nat) : Int)))) ?_ ?_) ?_
  · refine wp_ifB (fun hc => ?_) fun hc => ?_
    · rw [geI_iff] at hc
      have hu := unit_bound (enc := enc) hby (l.length - l.length % 2 - 2)
      rw [sub_ok (a := (l.length : Int)) (b := ((l.length % 2 : Nat) : Int)) (by omega) (by omega), sub_ok (by omega) (by omega), show (l.length : Int) - ((l.length % 2 : Nat) : Int) - 2 = ((l.length - l.length % 2 - 2 : Nat) : Int) by omega]
      refine s_getF (b := .int .i64) (x := enc) r.c0 (s_getF (b := .sl) (x := rs) r.c1 (wp_call (c_unitAt r.al.lst (by omega) (by omega)) fun ⟨(y : Int), w⟩ h1 e1 hy => ?_))
      have hy : y = if l.length - l.length % 2 - 2 + 2 ≤ l.length then unitF enc l (l.length - l.length % 2 - 2) else -1 := hy
      rw [if_pos (by omega)] at hy
      dsimp only
      refine bind_bool (55296 ≤ y ∧ y < 56320) ?_ fun b h2 e2 hb => ?_
      · refine wp_ifB (fun hd => ?_) fun hd => ?_
        · rw [geI_iff] at hd
          exact s_ret ⟨rfl, Ext.refl _, _, rfl, by rw [ltI_iff]; exact ⟨fun x => ⟨hd, x⟩, fun x => x.2⟩⟩
        · rw [geI_not] at hd
          exact s_ret ⟨rfl, Ext.refl _, false, rfl, Iff.intro (fun x => by cases x) fun x => by omega⟩
      dsimp only
      refine wp_ifB (fun hd => ?_) fun hd => ?_
      · have := hb.1 hd
        rw [add_ok (by omega) (by omega)]
        exact s_ret ⟨e1.trans e2, .inl ⟨rfl, by rw [hval, if_pos ⟨by omega, by omega, by omega⟩]⟩⟩
      · exact s_ret ⟨e1.trans e2, .inr ⟨rfl, rfl, by rw [hval, if_neg (fun x => by rw [hb.2 (by omega)] at hd; cases hd)]⟩⟩
    · rw [geI_not] at hc
      exact s_ret ⟨Ext.refl _, .inr ⟨rfl, rfl, by rw [hval, if_neg (by omega)]⟩⟩
  · rintro t vs h1 ⟨e1, ⟨rfl, rfl⟩ | ⟨rfl, rfl, hv⟩⟩
    · exact s_tag (s_castI (s_ret ⟨e1, rfl, rfl⟩))
    · exact s_skip (by decide) (s_tag (s_cast0 (s_ret ⟨e1, rfl, by rw [hv]⟩)))
  · rintro t vs h1 ⟨e1, rfl, rfl⟩
    exact hk h1 e1

theorem c_ref_Held {l : List Int} (he : known enc) (r : RStr n h q enc rs l told) (hl : l.length < 2 ^ 61) : Gives P (F_ref_Stream_Held S (some q)) [.one (.int .i64)] h fun (x : Int × Unit) _ => HeldR enc l x.1 := by
  have hlen := r.al.len
  have hby : isBytes l := r.al.wf
  unfold F_ref_Stream_Held Gives
  refine s_getF (b := .sl) (x := rs) r.c1 ?_
  have fin : ∀ {t : Nat} {vs : List Value} {h' : Heap}, Ext h h' → (t = 1 ∧ ∃ v, vs = [i64v v] ∧ HeldR enc l v) ∨ (t = 0 ∧ vs = [] ∧ HeldR enc l 0) → wp P (ifB (eqN t 1) (.cast [.one (.int .i64)] vs fun (r266 : Int × Unit) => .ret 0 [.int .i64 r266.1]) <| ifB (eqN t 0) (.cast [] vs fun (u267 : Unit) => .ret 0 [.int .i64 0]) <| .fail) h' fun t vs h' => t = 0 ∧ Ext h h' ∧ ∃ x, vs = Ts.inj [.one (.int .i64)] x ∧ HeldR enc l x.1 := by
    rintro t vs h' e (⟨rfl, v, rfl, hv⟩ | ⟨rfl, rfl, hv⟩)
    · exact s_tag (s_castI (s_ret ⟨rfl, e, (v, ()), rfl, hv⟩))
    · exact s_skip (by decide) (s_tag (s_cast0 (s_ret ⟨rfl, e, (0, ()), rfl, hv⟩)))
  rcases known_cases he with rfl | rfl | rfl | rfl
  · refine wp_bind (fun t vs h' => Ext h h' ∧ t = 1 ∧ ∃ v, vs = [i64v v] ∧ HeldR 1 l v) (s_getF (b := .int .i64) (x := (1 : Int)) r.c0 (s_ifT ?_)) fun t vs h' ⟨e, ht, v, hv, hh⟩ => fin e (.inl ⟨ht, v, hv, hh⟩)
    have hnl : natI rs.len = (l.length : Int) := by rw [natI_def, hlen]
    rw [hnl]
    refine wp_while (fun (s : Int × Unit) h' => Ext h h' ∧ ∃ k : Nat, s.1 = k ∧ Bnd 1 l k ∧ ∀ j, Bnd 1 l j → j < k → ¬ moreE 1 (l.drop j)) (fun s _ => ((l.length : Int) - s.1).toNat)
      (fun t vs h' => Ext h h' ∧ (t = 3 ∧ vs = [] ∧ HeldR 1 l 0 ∨ t = 1 ∧ ∃ v : Int, vs = [i64v v] ∧ HeldR 1 l v)) ⟨Ext.refl _, 0, rfl, .zero, fun j _ h => by omega⟩ ?_ ?_
    · rintro ⟨k', u⟩ h1 ⟨e, k, hk, hbn, hno⟩
      dsimp only at hk ⊢
      subst hk
      have hkl := hbn.le hby
      have r1 := r.ext e
      refine wp_ifB (fun hi => ?_) fun hi => ?_
      · rw [ltI_iff] at hi
        have hpos : 0 < (l.drop k).length := by rw [List.length_drop]; omega
        have hs := firstF_size (enc := 1) hpos (hby.drop k)
        have hf1 : firstF 1 (l.drop k) = first8 (l.drop k) := rfl
        rw [sub_ok (by omega) (by omega)]
        refine wp_bind (fun t vs h' => Ext h h' ∧ ((t = 1 ∧ vs = [i64v ((l.length : Int) - k)] ∧ moreE 1 (l.drop k)) ∨ (t = 0 ∧ vs = [] ∧ ¬ moreE 1 (l.drop k)))) ?_ ?_
        · refine wp_ifB (fun hc => ?_) fun hc => ?_
          · rw [leI_iff] at hc
            refine s_getF (b := .sl) (x := rs) r1.c1 (wp_call (c_beginning r1.al.lst (by omega) (by omega) hl) fun ⟨(y : Bool), w⟩ h2 e2 hy => ?_)
            have hy : y = true ↔ moreE 1 (l.drop k) := hy
            dsimp only
            refine wp_ifB (fun hd => s_ret ⟨e.trans e2, .inl ⟨rfl, rfl, hy.1 hd⟩⟩) fun hd => s_ret ⟨e.trans e2, .inr ⟨rfl, rfl, fun hm => by rw [hy.2 hm] at hd; cases hd⟩⟩
          · rw [leI_not] at hc
            refine s_ret ⟨e, .inr ⟨rfl, rfl, fun hm => ?_⟩⟩
            have := more_short (hby.drop k) hm
            rw [List.length_drop] at this; omega
        · rintro t vs h2 ⟨e2, ⟨rfl, rfl, hm⟩ | ⟨rfl, rfl, hm⟩⟩
          · exact s_tag (s_castI (s_ret ⟨fun h => absurd h (by decide), fun _ => ⟨e2, .inr ⟨rfl, _, rfl, k, hbn, hno, .inr ⟨by omega, hm⟩, rfl⟩⟩⟩))
          · have r2 := r.ext e2
            refine s_skip (by decide) (s_tag (s_cast0 (s_getF (b := .sl) (x := rs) r2.c1 (wp_call (c_eightAt (a := k) r2.al.lst (by omega) (by omega)) fun ⟨(a : Int), (s : Int), w⟩ h3 e3 hy => ?_))))
            have hy : (a, s) = first8 (l.drop k) := hy
            have hy2 : s = (firstF 1 (l.drop k)).2 := by rw [hf1]; exact congrArg Prod.snd hy
            rw [List.length_drop] at hs
            dsimp only
            rw [add_ok (by omega) (by omega)]
            have hst := hbn.step (by omega)
            refine s_ret ⟨fun _ => ⟨((k : Int) + s, ()), rfl, ⟨e2.trans e3, k + (firstF 1 (l.drop k)).2.toNat, by dsimp only; omega, hst, fun j hj hjk => ?_⟩, by dsimp only; omega⟩, fun h => absurd rfl h⟩
            by_cases hjk' : j < k
            · exact hno j hj hjk'
            · by_cases he : j = k
              · subst he; exact hm
              · have := hbn.next hby hj (by omega); omega
      · rw [ltI_not] at hi
        exact s_ret ⟨fun h => absurd h (by decide), fun _ => ⟨e, .inl ⟨rfl, rfl, k, hbn, hno, .inl (by omega), by omega⟩⟩⟩
    · rintro t vs h1 ⟨e, ⟨rfl, rfl, hh⟩ | ⟨rfl, v, rfl, hh⟩⟩
      · exact s_tag (s_cast0 (s_ret ⟨e, rfl, 0, rfl, hh⟩))
      · exact s_skip (by decide) (s_tag (s_castI (s_ret ⟨e, rfl, v, rfl, hh⟩)))
  · refine wp_bind (fun t vs h' => Ext h h' ∧ t = 1 ∧ ∃ v, vs = [i64v v] ∧ HeldR 2 l v) (s_getF (b := .int .i64) (x := (2 : Int)) r.c0 (s_ifF (s_ifT (s_ifT (s_not ?_))))) fun t vs h' ⟨e, ht, v, hv, hh⟩ => fin e (.inl ⟨ht, v, hv, hh⟩)
    have := w_held16 (P := P) (S := S) (b := rs) (K := fun t vs => .ret t vs) (Q := fun t vs h' => Ext h h' ∧ t = 1 ∧ ∃ v, vs = [i64v v] ∧ HeldR 2 l v) r (by decide) hl fun h' e => s_ret ⟨e, rfl, _, rfl, held_16 hby (by decide)⟩
    exact wp_mono _ (fun t vs h' x => x) this
  · refine wp_bind (fun t vs h' => Ext h h' ∧ t = 1 ∧ ∃ v, vs = [i64v v] ∧ HeldR 3 l v) (s_getF (b := .int .i64) (x := (3 : Int)) r.c0 (s_ifF (s_ifF (s_ifT (s_not ?_))))) fun t vs h' ⟨e, ht, v, hv, hh⟩ => fin e (.inl ⟨ht, v, hv, hh⟩)
    have := w_held16 (P := P) (S := S) (b := rs) (K := fun t vs => .ret t vs) (Q := fun t vs h' => Ext h h' ∧ t = 1 ∧ ∃ v, vs = [i64v v] ∧ HeldR 3 l v) r (by decide) hl fun h' e => s_ret ⟨e, rfl, _, rfl, held_16 hby (by decide)⟩
    exact wp_mono _ (fun t vs h' x => x) this
  · refine wp_bind (fun t vs h' => Ext h h' ∧ t = 0 ∧ vs = []) (s_getF (b := .int .i64) (x := (4 : Int)) r.c0 (s_ifF (s_ifF (s_ifF (s_ret ⟨Ext.refl _, rfl, rfl⟩))))) fun t vs h' ⟨e, ht, hv⟩ => fin e (.inr ⟨ht, hv, held_latin hby⟩)

end Go.Sw.Codec

set_option linter.unusedVariables false
set_option linter.unusedSimpArgs false
set_option maxRecDepth 100000
namespace Go.Sw
variable {P : Program} {h : Heap} {Q : Nat → List Value → Heap → Prop}
/-- Of old memory only blocks that F names may have changed. -/
def Chg (F : Nat → Prop) (h h' : Heap) : Prop := h.size ≤ h'.size ∧ (∀ i, i < h.size → ¬ F i → h'[i]? = h[i]?) ∧ ∀ a, frz h a = false → frz h' a = false
theorem Chg.refl (F : Nat → Prop) (h : Heap) : Chg F h h := ⟨Nat.le_refl _, fun _ _ _ => rfl, fun _ x => x⟩
theorem Chg.of_ext {F : Nat → Prop} {a b : Heap} (e : Ext a b) : Chg F a b := ⟨e.1, fun i hi _ => e.2.1 i hi, e.2.2⟩
theorem Chg.trans {F G : Nat → Prop} {a b c : Heap} (u : Chg F a b) (v : Chg G b c) (hg : ∀ i, i < a.size → G i → F i) : Chg F a c :=
  ⟨Nat.le_trans u.1 v.1, fun i hi hn => (v.2.1 i (Nat.lt_of_lt_of_le hi u.1) fun g => hn (hg i hi g)).trans (u.2.1 i hi hn), fun x hx => v.2.2 x (u.2.2 x hx)⟩
theorem Chg.ext {F : Nat → Prop} {a b c : Heap} (u : Chg F a b) (e : Ext b c) : Chg F a c := u.trans (Chg.of_ext (F := F) e) fun _ _ g => g
theorem Chg.pre {F : Nat → Prop} {a b c : Heap} (e : Ext a b) (u : Chg F b c) : Chg F a c := (Chg.of_ext (F := F) e).trans u fun _ _ g => g
theorem Chg.mono {F G : Nat → Prop} {a b : Heap} (u : Chg F a b) (hg : ∀ i, i < a.size → F i → G i) : Chg G a b := (Chg.refl G a).trans u hg
theorem Chg.of_upd {F : Nat → Prop} {s : Sl} {a b : Heap} (u : Upd s a b) (hs : ∀ x, s.base = some x → x.block < a.size → F x.block) : Chg F a b :=
  ⟨u.1, fun i hi hn => u.2.1 i hi fun x hx e => hn (by rw [← e]; exact hs x hx (by omega)), u.2.2⟩
theorem Chg.upd {F : Nat → Prop} {s : Sl} {a b c : Heap} (u : Chg F a b) (v : Upd s b c) (hs : ∀ x, s.base = some x → x.block < a.size → F x.block) : Chg F a c :=
  u.trans (G := fun i => ∃ x, s.base = some x ∧ x.block = i) (Chg.of_upd v fun x hx _ => ⟨x, hx, rfl⟩) fun i hi ⟨x, hx, e⟩ => by rw [← e]; exact hs x hx (by omega)
theorem Chg.keep {F : Nat → Prop} {n : Nat} {a b : Heap} (u : Chg F a b) (hn : n ≤ a.size) (hf : ∀ i, i < n → ¬ F i) : Keep n a b := ⟨u.1, fun i hi => u.2.1 i (by omega) (hf i hi), u.2.2⟩
theorem Chg.lst {F : Nat → Prop} {a b : Heap} {k : IntKind} {s : Sl} {l : List Int} (u : Chg F a b) (hr : Lst k a s l) (hn : ∀ x, s.base = some x → ¬ F x.block) : Lst k b s l :=
  Go.Sw.Lst.blocks hr fun x hx hl => u.2.1 _ hl (hn x hx)
theorem Chg.lst0 {F : Nat → Prop} {a b : Heap} {k : IntKind} {s : Sl} {l : List Int} (u : Chg F a b) (hr : Lst k a s l) (hn : l ≠ [] → ∀ x, s.base = some x → ¬ F x.block) : Lst k b s l := by
  cases l with
  | nil => exact ⟨⟨hr.rd.1, fun i v hi => by simp at hi⟩, hr.cap, hr.max, hr.wf⟩
  | cons y l => exact u.lst hr (hn (by simp))
theorem Chg.own {F : Nat → Prop} {n size : Nat} {a b : Heap} {s : Sl} {vs : List Value} (u : Chg F a b) (hr : Own n size a s vs) (hn : ∀ x, s.base = some x → ¬ F x.block) : Own n size b s vs :=
  hr.keep fun x hx => u.2.1 _ (hr.lt hx).2 (hn x hx)
theorem Chg.ownL {F : Nat → Prop} {n : Nat} {a b : Heap} {k : IntKind} {s : Sl} {l : List Int} (u : Chg F a b) (hr : OwnL n k a s l) (hn : ∀ x, s.base = some x → ¬ F x.block) : OwnL n k b s l :=
  ⟨u.own hr.own hn, hr.wf⟩

def GivesF (F : Nat → Prop) (P : Program) (m : Prog) (tys : List Ty) (h : Heap) (R : Ts.den tys → Heap → Prop) : Prop :=
  wp P m h fun t vs h' => t = 0 ∧ Chg F h h' ∧ ∃ x, vs = Ts.inj tys x ∧ R x h'
theorem wp_callF {F : Nat → Prop} {m : Prog} {tys : List Ty} {K : Ts.den tys → Prog} {R : Ts.den tys → Heap → Prop} (g : GivesF F P m tys h R) (hk : ∀ x h', Chg F h h' → R x h' → wp P (K x) h' Q) :
    wp P (.call m tys K) h Q :=
  wp_mono m (fun _ _ _ ⟨a, b, x, c, d⟩ => ⟨a, x, c, hk x _ b d⟩) g
theorem s_ckC {q : Addr} {j : Nat} {v : Value} {K : Prog} (hc : cell h (q.add j) = some v) (hk : wp P K h Q) : wp P (.check (shiftTo (some q) j) [v] K) h Q := by
  refine ⟨⟨q.add j, rfl, cells_iff.2 fun i u hi => ?_⟩, hk⟩
  cases i with
  | zero => simp at hi; subst hi; rw [add_zero']; exact hc
  | succ i => simp at hi
theorem take_snoc {l : List Int} {i : Nat} (hi : i < l.length) : l.take i ++ [l.getD i 0] = l.take (i + 1) := by
  rw [List.take_add_one, List.getD_eq_getElem?_getD, List.getElem?_eq_getElem hi]; rfl
theorem cutBase_block {p : Option Addr} {m i size : Nat} {a : Addr} (h : cutBase p m i size = some a) : ∃ b, p = some b ∧ b.block = a.block := by
  unfold cutBase at h
  split at h
  · exact ⟨a, h, rfl⟩
  · cases p with
    | none => simp at h
    | some b => simp at h; exact ⟨b, rfl, by rw [← h, add_block]⟩
end Go.Sw

namespace Go.Sw.Codec
variable {P : Program} {S : Ids} {h : Heap} {Q : Nat → List Value → Heap → Prop} {n : Nat} {q : Addr} {enc told : Int} {rs : Sl} {all : List Int}

/-- The blocks of the document's stream. -/
def rfoot (q : Addr) (rs : Sl) (i : Nat) : Prop := i = q.block ∨ ∃ a, rs.base = some a ∧ a.block = i

theorem RStr.lt (r : RStr n h q enc rs all told) : n ≤ q.block ∧ q.block < h.size := r.ob.lt rfl

theorem c_ref_New {n : Nat} (hn : n ≤ h.size) : Gives P (F_ref1_NewStream S enc) [.one .ptr, .one (.int .i64)] h fun (x : Option Addr × Int × Unit) h' =>
    (¬ known enc ∧ x.1 = none ∧ x.2.1 = 10) ∨ (known enc ∧ x.2.1 = 0 ∧ ∃ q : Addr, x.1 = some q ∧ h.size ≤ q.block ∧ q.block < h'.size ∧ RStr n h' q enc ⟨none, 0, 0⟩ [] 0) := by
  unfold F_ref1_NewStream
  refine wp_call (c_known enc) fun ⟨(k : Bool), u⟩ h1 e1 hk => ?_
  have hk : k = true ↔ known enc := hk
  dsimp only
  refine wp_ifB (fun hc => ?_) fun hc => ?_
  · rw [notB_iff] at hc
    exact s_ret ⟨rfl, e1, (none, 10, ()), rfl, .inl ⟨(fun hh => by rw [hk.2 hh] at hc; cases hc), rfl, rfl⟩⟩
  · have hkn : known enc := by
      cases hb : k with
      | true => exact hk.1 hb
      | false => rw [hb] at hc; cases hc
    refine fun elem => s_ret ⟨rfl, e1.trans (Ext.push ..), (some ⟨h1.size, 0, none⟩, 0, ()), rfl, .inr ⟨hkn, rfl, _, rfl, e1.1, by simp, ?_⟩⟩
    exact ⟨(own_alloc (vs := [i64v enc, slv ⟨none, 0, 0⟩, i64v 0]) rfl (by decide) (by decide)).mono (by have := e1.1; omega), OwnL.nil .., fun a ha => by cases ha⟩

theorem c_ref_Feed {b : Sl} {x : List Int} (he : known enc) (r : RStr n h q enc rs all told) (hn : n ≤ h.size) (hb : Lst .u8 h b x) (hbd : x ≠ [] → ∀ a, b.base = some a → ¬ rfoot q rs a.block) (hl : all.length + x.length ≤ 1099511627776) (h0 : 0 ≤ told)
    (hle : ∀ v, HeldR enc (all ++ x) v → told ≤ ((dec enc ((all ++ x).take ((all ++ x).length - v.toNat))).length : Int)) :
    GivesF (rfoot q rs) P (F_ref_Stream_Feed S (some q) b) [.one .sl] h fun y h' => ∃ (rs' : Sl) (v : Int), HeldR enc (all ++ x) v ∧
      RStr n h' q enc rs' (all ++ x) ((dec enc ((all ++ x).take ((all ++ x).length - v.toNat))).length : Int) ∧ (∀ a, rs'.base = some a → rs.base = some a ∨ h.size ≤ a.block) ∧
      Lst .i64 h' y.1 ((dec enc ((all ++ x).take ((all ++ x).length - v.toNat))).drop told.toNat) ∧ ∀ a, y.1.base = some a → h.size ≤ a.block := by
  have hbl := hb.len
  have hnl : natI b.len = (x.length : Int) := by rw [natI_def, hbl]
  have hlt := r.lt
  have hby : isBytes (all ++ x) := bytes_append r.al.wf hb.wf
  unfold F_ref_Stream_Feed GivesF
  rw [hnl]
  refine wp_while (fun (s : Int × Unit) h' => Chg (rfoot q rs) h h' ∧ ∃ (i : Nat) (rs' : Sl), s.1 = i ∧ i ≤ x.length ∧ RStr n h' q enc rs' (all ++ x.take i) told ∧ ∀ a, rs'.base = some a → rs.base = some a ∨ h.size ≤ a.block) (fun s _ => ((x.length : Int) - s.1).toNat)
    (fun t vs h' => t = 2 ∧ vs = [] ∧ Chg (rfoot q rs) h h' ∧ ∃ (rs' : Sl), RStr n h' q enc rs' (all ++ x) told ∧ ∀ a, rs'.base = some a → rs.base = some a ∨ h.size ≤ a.block) ⟨Chg.refl _ _, 0, rs, rfl, by omega, by simpa using r, fun a ha => .inl ha⟩ ?_ ?_
  · rintro ⟨i', u⟩ h1 ⟨u1, i, rs1, hi, hix, r1, b1⟩
    dsimp only at hi ⊢
    subst hi
    refine wp_ifB (fun hc => ?_) fun hc => ?_
    · rw [ltI_iff] at hc
      have hb1 := u1.lst0 hb hbd
      have hn1 := u1.1
      refine s_getF (b := .sl) (x := rs1) r1.c1 (s_at hb1 (by omega) hc fun hv => ?_)
      rw [Int.toNat_natCast] at hv ⊢
      refine s_allocL (k := .u8) [x.getD i 0] (fun y hy => by rw [List.mem_singleton.1 hy]; exact hv) (by simp) fun h2 e2 o2 => ?_
      have r2 := r1.ext e2
      have hlen2 : (all ++ x.take i).length = all.length + i := by rw [List.length_append, List.length_take]; omega
      refine s_ckC r2.c1 (s_append (bytes := 1) r2.al (by have := e2.1; omega) o2.lst (by rw [hlen2]; simp; omega) (by rw [hlen2]; simp; omega) fun r3 h3 k3 o3 u3 b3 => ?_)
      have ob3 := r2.ob.keep (h' := h3) fun a ha => by cases ha; exact u3.2.1 _ r2.lt.2 fun a ha e => r2.ne a ha e
      refine s_grd rfl (s_grd rfl (s_setC' (slv r3) ob3 (by simp) rfl fun h4 ob4 u4 => ?_))
      have hne3 : ∀ a, r3.base = some a → a.block ≠ q.block := fun a ha => by
        rcases b3 a ha with hh | hh
        · exact r2.ne a hh
        · have := r2.lt.2; omega
      rw [add_ok (by omega) (by omega)]
      have o4 : OwnL n .u8 h4 r3 (all ++ x.take i ++ [x.getD i 0]) := o3.keep fun a ha => u4.2.1 _ (o3.own.lt ha).2 fun a' ha' => by cases ha'; exact fun e => hne3 a ha e.symm
      rw [List.append_assoc, take_snoc (by omega)] at o4
      have f2 := u1.ext e2
      have f3 := f2.upd u3 fun a ha hl => by
        rcases b1 a ha with hh | hh
        · exact .inr ⟨a, hh, rfl⟩
        · omega
      have f4 := f3.upd u4 fun a ha hl => by cases ha; exact .inl rfl
      refine s_ret ⟨fun _ => ⟨((i : Int) + 1, ()), rfl, ⟨f4, i + 1, r3, rfl, by omega, ⟨ob4, o4, hne3⟩, fun a ha => ?_⟩, by dsimp only; omega⟩, fun h => absurd rfl h⟩
      rcases b3 a ha with hh | hh
      · exact b1 a hh
      · right; have := e2.1; omega
    · rw [ltI_not] at hc
      have : i = x.length := by omega
      subst this
      rw [List.take_length] at r1
      exact s_ret ⟨fun h => absurd h (by decide), fun _ => ⟨rfl, rfl, u1, rs1, r1, b1⟩⟩
  · rintro t vs h1 ⟨rfl, rfl, u1, rs1, r1, b1⟩
    have hLL : (all ++ x).length = all.length + x.length := List.length_append
    refine s_tag (s_cast0 (wp_call (c_ref_Held he r1 (by omega)) fun ⟨(v : Int), w⟩ h2 e2 hh => ?_))
    have hh : HeldR enc (all ++ x) v := hh
    obtain ⟨v0, v3, vl⟩ := hh.small hby
    dsimp only
    have r2 := r1.ext e2
    have hln := r2.al.len
    have hcap := r2.al.lst.cap
    have hnl2 : natI rs1.len = ((all ++ x).length : Int) := by rw [natI_def, hln]
    refine s_getF (b := .int .i64) (x := enc) r2.c0 (s_getF (b := .sl) (x := rs1) r2.c1 (s_getF (b := .sl) (x := rs1) r2.c1 ?_))
    rw [hnl2, sub_ok (by omega) (by omega)]
    refine s_grd (leB_ok (by omega) (by omega)) ?_
    have hto : toN (((all ++ x).length : Int) - v) = (all ++ x).length - v.toNat := by rw [toN_def]; omega
    rw [hto, cutBase_zero, subZero, subZero]
    refine wp_call (c_ref_Decode (Lst.head r2.al.lst (i := (all ++ x).length - v.toNat) (by omega)) (by rw [List.length_take]; omega)) fun ⟨y, (ye : Int), w'⟩ h3 e3 hy => ?_
    obtain ⟨oy, _⟩ := DecA.known he hy
    dsimp only at oy ⊢
    have hyl := oy.len
    have hle' := hle v hh
    have r3 := r2.ext e3
    refine s_getF (b := .int .i64) (x := told) r3.c2 (s_grd (leB_ok h0 (by omega)) (s_grd rfl (s_grd rfl (s_setC' (i64v (natI y.len)) r3.ob (by simp) rfl fun h4 ob4 u4 => ?_))))
    have f4 := ((u1.ext e2).ext e3).upd u4 fun a ha hl => by cases ha; exact .inl rfl
    have hqb : q.block < h2.size := r2.lt.2
    have oy4 := oy.lst.blocks (h' := h4) fun a ha hl => u4.2.1 _ hl fun a' ha' => by cases ha'; have := (oy.own.lt ha).1; omega
    have ht := oy4.tail (i := told.toNat) (by omega)
    rw [toN_def]
    refine s_ret ⟨rfl, f4, (_, ()), rfl, rs1, v, hh, ⟨?_, r3.al.keep fun a ha => u4.2.1 _ (r3.al.own.lt ha).2 fun a' ha' => by cases ha'; exact fun e => r3.ne a ha e.symm, r3.ne⟩, b1, ht, fun a ha => ?_⟩
    · have : i64v (natI y.len) = i64v ((dec enc ((all ++ x).take ((all ++ x).length - v.toNat))).length : Int) := by rw [natI_def, hyl]
      rw [this] at ob4; exact ob4
    · obtain ⟨b', hb', e⟩ := cutBase_block ha
      have := (oy.own.lt hb').1
      have := u1.1; have := e2.1
      omega

theorem c_ref_Close (he : known enc) (r : RStr n h q enc rs all told) (hl : all.length ≤ 1099511627776) (h0 : 0 ≤ told) (hle : told ≤ ((dec enc all).length : Int)) :
    GivesF (fun i => i = q.block) P (F_ref_Stream_Close S (some q)) [.one .sl] h fun y h' => RStr n h' q enc ⟨none, 0, 0⟩ [] 0 ∧ Lst .i64 h' y.1 ((dec enc all).drop told.toNat) ∧ ∀ a, y.1.base = some a → h.size ≤ a.block := by
  unfold F_ref_Stream_Close GivesF
  refine s_getF (b := .int .i64) (x := enc) r.c0 (s_getF (b := .sl) (x := rs) r.c1 ?_)
  refine wp_call (c_ref_Decode r.al.lst (by omega)) fun ⟨y, (ye : Int), w'⟩ h3 e3 hy => ?_
  obtain ⟨oy, _⟩ := DecA.known he hy
  dsimp only at oy ⊢
  have hyl := oy.len
  have r3 := r.ext e3
  have hqb : q.block < h.size := r.lt.2
  refine s_getF (b := .int .i64) (x := told) r3.c2 (s_grd (leB_ok h0 (by omega)) (s_grd rfl (s_grd rfl (s_setC' (slv ⟨none, 0, 0⟩) r3.ob (by simp) rfl fun h4 ob4 u4 => s_grd rfl (s_grd rfl (s_setC' (i64v 0) ob4 (by simp) rfl fun h5 ob5 u5 => ?_))))))
  have f5 := ((Chg.of_ext (F := fun i => i = q.block) e3).upd u4 fun a ha hl => by cases ha; rfl).upd u5 fun a ha hl => by cases ha; rfl
  have oy4 := oy.lst.blocks (h' := h4) fun a ha hl => u4.2.1 _ hl fun a' ha' => by cases ha'; have := (oy.own.lt ha).1; omega
  have oy5 := oy4.blocks (h' := h5) fun a ha hl => u5.2.1 _ hl fun a' ha' => by cases ha'; have := (oy.own.lt ha).1; omega
  have ht := oy5.tail (i := told.toNat) (by omega)
  rw [toN_def]
  refine s_ret ⟨rfl, f5, (_, ()), rfl, ⟨ob5, OwnL.nil .., fun a ha => by cases ha⟩, ht, fun a ha => ?_⟩
  obtain ⟨b', hb', e⟩ := cutBase_block ha
  have := (oy.own.lt hb').1
  omega

/-- The same memory, written over. -/
theorem c_turnedF {m : Nat} {c : Sl} {n : Nat} {L : List Int} (hc : OwnL m .u8 h c L) (hn : n ≤ L.length) (hroom : n ≤ 140737488355328) :
    GivesF (fun i => ∃ a, c.base = some a ∧ a.block = i) P (F_law1_turned S c (n : Int)) [.one .sl] h fun (x : Sl × Unit) h' => ∃ l' : List Int, l'.length = n ∧ OwnL m .u8 h' c (l' ++ L.drop n) ∧ OwnL h.size .u8 h' x.1 l' := by
  have hlen := hc.len
  have hcap := hc.own.2.1
  have hmax := hc.own.2.2.1
  unfold F_law1_turned GivesF
  refine wp_while (fun (s : Int × Unit) h' => Chg (fun i => ∃ a, c.base = some a ∧ a.block = i) h h' ∧ 0 ≤ s.1 ∧ s.1 ≤ n ∧ ∃ l' : List Int, l'.length = n ∧ OwnL m .u8 h' c (l' ++ L.drop n)) (fun s _ => n - s.1.toNat)
    (fun t vs h' => t = 2 ∧ vs = [] ∧ Chg (fun i => ∃ a, c.base = some a ∧ a.block = i) h h' ∧ ∃ l' : List Int, l'.length = n ∧ OwnL m .u8 h' c (l' ++ L.drop n)) ⟨Chg.refl _ _, by simp, by simp, L.take n, by simp; omega, by rw [List.take_append_drop]; exact hc⟩ ?_ ?_
  · rintro ⟨(i : Int), u⟩ h' ⟨k, h0, h1, l', hl', ho⟩
    dsimp only at h0 h1 ⊢
    refine wp_ifB (fun hc => ?_) fun hc => ?_
    · rw [ltI_iff] at hc
      have hlt : (i : Int) < (l' ++ L.drop n).length := by rw [List.length_append]; omega
      refine s_at ho.lst h0 hlt fun _ => s_not (s_set ho h0 hlt (range_u8 _) fun h2 o2 u2 z2 => ?_)
      rw [add_ok (by omega) (by omega)]
      refine s_ret ⟨fun _ => ⟨(i + 1, ()), rfl, ⟨k.upd u2 fun a ha _ => ⟨a, ha, rfl⟩, by dsimp only; omega, by dsimp only; omega, ?_⟩, by dsimp only; omega⟩, fun h => absurd rfl h⟩
      rw [List.set_append_left i.toNat _ (by omega)] at o2
      exact ⟨_, by simpa using hl', o2⟩
    · exact s_ret ⟨fun h => absurd h (by decide), fun _ => ⟨rfl, rfl, k, l', hl', ho⟩⟩
  · rintro t vs h' ⟨ht, hv, k, l', hl', ho⟩
    refine s_exit ht () hv (s_grd (leB_ok (by omega) (by omega)) ?_)
    simp only [cutBase_zero, subZero, toN_def, Int.toNat_natCast]
    have hl := ho.lst.take (n := n) (m := c.cap) (by rw [List.length_append]; omega) (by omega) (by omega)
    rw [List.take_left' hl'] at hl
    refine wp_call (c_copyBytes hl (by omega)) fun y h2 e2 hy => s_ret ⟨rfl, k.ext e2, (_, ()), rfl, l', hl', ho.ext e2, OwnL.mono hy k.1⟩
end Go.Sw.Codec

set_option linter.unusedVariables false
set_option linter.unusedSimpArgs false
set_option maxRecDepth 100000
namespace Go.Sw.Codec
variable {P : Program} {S : Ids} {h : Heap} {Q : Nat → List Value → Heap → Prop} {n : Nat}

/-- Two streams: where they lie, what they were fed, how much of it is told. -/
structure DS where
  p : Addr
  q : Addr
  enc : Int
  ws : Sl
  rs : Sl
  all : List Int
  pp : Nat
def DS.w (d : DS) : List Int := d.all.drop d.pp
def hfoot (d : DS) (ws : Sl) (i : Nat) : Prop := i = d.p.block ∨ (∃ a, ws.base = some a ∧ a.block = i) ∨ rfoot d.q d.rs i
def DS.foot (d : DS) (i : Nat) : Prop := hfoot d d.ws i

structure Half (S : Ids) (n : Nat) (h : Heap) (d : DS) (ws : Sl) (w : List Int) : Prop where
  kn : known d.enc
  st : Strm S h d.p d.enc ws w
  rt : RStr n h d.q d.enc d.rs d.all ((dec d.enc (d.all.take d.pp)).length : Int)
  wt : Waits d.enc d.all d.pp
  lo : ∀ i, hfoot d ws i → n ≤ i ∧ i < h.size
  pq : d.p.block ≠ d.q.block
  pr : ∀ a, d.rs.base = some a → a.block ≠ d.p.block
  qw : ∀ a, ws.base = some a → a.block ≠ d.q.block
  wr : ∀ a b, ws.base = some a → d.rs.base = some b → a.block ≠ b.block
abbrev Duo (S : Ids) (n : Nat) (h : Heap) (d : DS) : Prop := Half S n h d d.ws d.w

theorem Half.chg {F : Nat → Prop} {h' : Heap} {d : DS} {ws : Sl} {w : List Int} (u : Half S n h d ws w) (c : Chg F h h') (hf : ∀ i, hfoot d ws i → ¬ F i) : Half S n h' d ws w := by
  have key : ∀ i, hfoot d ws i → h'[i]? = h[i]? := fun i hi => c.2.1 i (u.lo i hi).2 (hf i hi)
  exact ⟨u.kn, u.st.blocks (key _ (.inl rfl)) fun a ha _ => key _ (.inr (.inl ⟨a, ha, rfl⟩)), u.rt.blocks (key _ (.inr (.inr (.inl rfl)))) fun a ha => key _ (.inr (.inr (.inr ⟨a, ha, rfl⟩))), u.wt,
    fun i hi => ⟨(u.lo i hi).1, by have := (u.lo i hi).2; have := c.1; omega⟩, u.pq, u.pr, u.qw, u.wr⟩
theorem Half.ext {h' : Heap} {d : DS} {ws : Sl} {w : List Int} (u : Half S n h d ws w) (e : Ext h h') : Half S n h' d ws w := u.chg (Chg.of_ext (F := fun _ => False) e) fun _ _ h => h

/-- What an answer leaves of the two streams. -/
structure Next (d d' : DS) (m : Nat) : Prop where
  p : d'.p = d.p
  q : d'.q = d.q
  enc : d'.enc = d.enc
  foot : ∀ i, d'.foot i → d.foot i ∨ m ≤ i
theorem Next.refl (d : DS) (m : Nat) : Next d d m := ⟨rfl, rfl, rfl, fun _ h => .inl h⟩
theorem Next.trans {d d' d'' : DS} {m m' : Nat} (a : Next d d' m) (b : Next d' d'' m') (hm : m ≤ m') : Next d d'' m :=
  ⟨b.p.trans a.p, b.q.trans a.q, b.enc.trans a.enc, fun i hi => by
    rcases b.foot i hi with h | h
    · exact a.foot i h
    · exact .inr (by omega)⟩

theorem c_feed1 (M : Meth P S) {d : DS} {b : Sl} {x : List Int} (u : Duo S n h d) (hn : n ≤ h.size) (hb : Lst .u8 h b x) (hl : d.all.length + x.length ≤ 1099511627776) :
    GivesF (fun i => i = d.p.block) P (F_Stream_Feed S (some d.p) b) [.one .sl] h fun y h' => ∃ (ws' : Sl) (v : Int), HeldR d.enc (d.w ++ x) v ∧ Half S n h' d ws' ((d.w ++ x).drop ((d.w ++ x).length - v.toNat)) ∧
      (∀ a, ws'.base = some a → h.size ≤ a.block) ∧ OwnL h.size .i64 h' y.1 (dec d.enc ((d.w ++ x).take ((d.w ++ x).length - v.toNat))) := by
  have hwl : d.w.length = d.all.length - d.pp := List.length_drop
  refine wp_mono _ (fun t vs h' ⟨a, c, y, ey, ws', v, g1, g2, g3, g4, g5, g6, g7⟩ => ?_) (c_Feed M u.kn u.st hb (by omega))
  have c' : Chg (fun i => i = d.p.block) h h' := c
  refine ⟨a, c', y, ey, ws', v, g1, ?_, fun a ha => (g5 a ha).1, g6⟩
  have hp := u.lo d.p.block (.inl rfl)
  have hq := u.lo d.q.block (.inr (.inr (.inl rfl)))
  have hr : ∀ a, d.rs.base = some a → n ≤ a.block ∧ a.block < h.size := fun a ha => u.lo a.block (.inr (.inr (.inr ⟨a, ha, rfl⟩)))
  refine ⟨u.kn, g4, u.rt.blocks (c'.2.1 _ hq.2 fun e => u.pq e.symm) fun a ha => c'.2.1 _ (hr a ha).2 (u.pr a ha), u.wt, ?_, u.pq, u.pr, fun a ha => ?_, fun a b ha hb => ?_⟩
  · rintro i (rfl | ⟨a, ha, rfl⟩ | rfl | ⟨a, ha, rfl⟩)
    · exact ⟨hp.1, by have := c'.1; omega⟩
    · have := g5 a ha; exact ⟨by omega, this.2⟩
    · exact ⟨hq.1, by have := c'.1; omega⟩
    · exact ⟨(hr a ha).1, by have := (hr a ha).2; have := c'.1; omega⟩
  · have := (g5 a ha).1; omega
  · have := (g5 a ha).1; have := (hr b hb).2; omega

theorem c_feed2 {d : DS} {b ws' : Sl} {x : List Int} {v : Int} (hv : HeldR d.enc (d.w ++ x) v) (u : Half S n h d ws' ((d.w ++ x).drop ((d.w ++ x).length - v.toNat))) (hn : n ≤ h.size) (hb : Lst .u8 h b x)
    (hbd : x ≠ [] → ∀ a, b.base = some a → ¬ rfoot d.q d.rs a.block) (hl : d.all.length + x.length ≤ 1099511627776) :
    GivesF (rfoot d.q d.rs) P (F_ref_Stream_Feed S (some d.q) b) [.one .sl] h fun y h' => ∃ (d' : DS), Duo S n h' d' ∧ d'.p = d.p ∧ d'.q = d.q ∧ d'.enc = d.enc ∧ d'.all = d.all ++ x ∧ d'.ws = ws' ∧ (∀ a, d'.rs.base = some a → d.rs.base = some a ∨ h.size ≤ a.block) ∧
      Lst .i64 h' y.1 (dec d.enc ((d.w ++ x).take ((d.w ++ x).length - v.toNat))) ∧ ∀ a, y.1.base = some a → h.size ≤ a.block := by
  have hby : isBytes (d.w ++ x) := bytes_append (u.wt.bytes.drop _) hb.wf
  have hby2 : isBytes (d.all ++ x) := bytes_append u.wt.bytes hb.wf
  obtain ⟨hk, v0, vl⟩ := Waits.of hby hv
  generalize hkk : (d.w ++ x).length - v.toNat = k at *
  have hk' : Waits d.enc (d.all.drop d.pp ++ x) k := hk
  obtain ⟨hw2, hd2⟩ := u.wt.feed hby2 hk'
  have hkl := hw2.bnd.le hby2
  have hval : ∀ v', HeldR d.enc (d.all ++ x) v' → (d.all ++ x).length - v'.toNat = d.pp + k := fun v' hv' => by
    have := HeldR.fn hby2 hv' hw2.held
    omega
  refine wp_mono _ (fun t vs h' ⟨a, c, y, ey, rs', v', g1, g2, g3, g4, g5⟩ => ?_) (c_ref_Feed u.kn u.rt hn hb hbd hl (by omega) fun v' hv' => by rw [hval v' hv', hd2, List.length_append]; omega)
  rw [hval v' g1] at g2 g4
  rw [hd2] at g4
  rw [Int.toNat_natCast, List.drop_left'] at g4
  rotate_left
  · rfl
  have hp := u.lo d.p.block (.inl rfl)
  have hw : ∀ a, ws'.base = some a → n ≤ a.block ∧ a.block < h.size := fun a ha => u.lo a.block (.inr (.inl ⟨a, ha, rfl⟩))
  have hr : ∀ a, d.rs.base = some a → n ≤ a.block ∧ a.block < h.size := fun a ha => u.lo a.block (.inr (.inr (.inr ⟨a, ha, rfl⟩)))
  have nf : ∀ i, (i = d.p.block ∨ ∃ a, ws'.base = some a ∧ a.block = i) → ¬ rfoot d.q d.rs i := by
    rintro i (rfl | ⟨a, ha, rfl⟩) (hi | ⟨b, hb, hi⟩)
    · exact u.pq hi
    · exact u.pr b hb hi
    · exact u.qw a ha hi
    · exact u.wr a b ha hb hi.symm
  refine ⟨a, c, y, ey, ⟨d.p, d.q, d.enc, ws', rs', d.all ++ x, d.pp + k⟩, ⟨u.kn, ?_, g2, hw2, ?_, u.pq, ?_, u.qw, ?_⟩, rfl, rfl, rfl, rfl, rfl, g3, g4, g5⟩
  · have st := u.st.blocks (h' := h') (c.2.1 _ hp.2 (nf _ (.inl rfl))) fun a ha _ => c.2.1 _ (hw a ha).2 (nf _ (.inr ⟨a, ha, rfl⟩))
    have e : (DS.mk d.p d.q d.enc ws' rs' (d.all ++ x) (d.pp + k)).w = (d.w ++ x).drop k := by
      unfold DS.w
      dsimp only
      rw [← List.drop_drop, List.drop_append_of_le_length (u.wt.bnd.le u.wt.bytes)]
    rw [e]; exact st
  · rintro i (rfl | ⟨a, ha, rfl⟩ | rfl | ⟨a, ha, rfl⟩)
    · exact ⟨hp.1, by dsimp only; have := c.1; omega⟩
    · have := hw a ha; exact ⟨by omega, by have := c.1; omega⟩
    · exact ⟨g2.lt.1, g2.lt.2⟩
    · exact g2.al.own.lt ha
  · intro a ha
    dsimp only at ha ⊢
    rcases g3 a ha with hh | hh
    · exact u.pr a hh
    · omega
  · intro a b ha hb
    dsimp only at hb ⊢
    rcases g3 b hb with hh | hh
    · exact u.wr a b ha hh
    · have := (hw a ha).2; omega

/-- Close. -/
theorem c_close1 (M : Meth P S) {d : DS} (u : Duo S n h d) (hn : n ≤ h.size) (hl : d.all.length ≤ 1099511627776) :
    GivesF (fun i => i = d.p.block) P (F_Stream_Close S (some d.p)) [.one .sl] h fun y h' => Half S n h' d ⟨none, 0, 0⟩ [] ∧ OwnL h.size .i64 h' y.1 (dec d.enc d.w) := by
  have hwl : d.w.length = d.all.length - d.pp := List.length_drop
  refine wp_mono _ (fun t vs h' ⟨a, c, y, ey, g4, g6⟩ => ?_) (c_Close M u.kn u.st (by omega))
  have c' : Chg (fun i => i = d.p.block) h h' := c
  refine ⟨a, c', y, ey, ?_, g6⟩
  have hp := u.lo d.p.block (.inl rfl)
  have hq := u.lo d.q.block (.inr (.inr (.inl rfl)))
  have hr : ∀ a, d.rs.base = some a → n ≤ a.block ∧ a.block < h.size := fun a ha => u.lo a.block (.inr (.inr (.inr ⟨a, ha, rfl⟩)))
  refine ⟨u.kn, g4, u.rt.blocks (c'.2.1 _ hq.2 fun e => u.pq e.symm) fun a ha => c'.2.1 _ (hr a ha).2 (u.pr a ha), u.wt, ?_, u.pq, u.pr, (fun a ha => by cases ha), (fun a b ha => by cases ha)⟩
  rintro i (rfl | ⟨a, ha, rfl⟩ | rfl | ⟨a, ha, rfl⟩)
  · exact ⟨hp.1, by have := c'.1; omega⟩
  · cases ha
  · exact ⟨hq.1, by have := c'.1; omega⟩
  · exact ⟨(hr a ha).1, by have := (hr a ha).2; have := c'.1; omega⟩

theorem c_close2 {d : DS} (u : Half S n h d ⟨none, 0, 0⟩ []) (hn : n ≤ h.size) (hl : d.all.length ≤ 1099511627776) :
    GivesF (fun i => i = d.q.block) P (F_ref_Stream_Close S (some d.q)) [.one .sl] h fun y h' => ∃ (d' : DS), Duo S n h' d' ∧ d'.p = d.p ∧ d'.q = d.q ∧ d'.enc = d.enc ∧ d'.all = [] ∧ d'.ws = ⟨none, 0, 0⟩ ∧ d'.rs = ⟨none, 0, 0⟩ ∧
      Lst .i64 h' y.1 (dec d.enc d.w) ∧ ∀ a, y.1.base = some a → h.size ≤ a.block := by
  have hsp := dec_split u.wt.bytes u.wt.bnd
  refine wp_mono _ (fun t vs h' ⟨a, c, y, ey, g1, g2, g3⟩ => ?_) (c_ref_Close u.kn u.rt hl (by omega) (by rw [hsp, List.length_append]; omega))
  rw [hsp, Int.toNat_natCast, List.drop_left'] at g2
  rotate_left
  · rfl
  have hp := u.lo d.p.block (.inl rfl)
  refine ⟨a, c, y, ey, ⟨d.p, d.q, d.enc, ⟨none, 0, 0⟩, ⟨none, 0, 0⟩, [], 0⟩, ⟨u.kn, ?_, ?_, Waits.zero _, ?_, u.pq, (fun a ha => by cases ha), (fun a ha => by cases ha), (fun a b ha => by cases ha)⟩, rfl, rfl, rfl, rfl, rfl, rfl, g2, g3⟩
  · have st := u.st.blocks (h' := h') (c.2.1 _ hp.2 u.pq) fun a ha _ => by cases ha
    exact st
  · have : ((dec d.enc (([] : List Int).take 0)).length : Int) = 0 := by rw [List.take_nil, dec_nil (by simp)]; rfl
    dsimp only
    rw [this]; exact g1
  · rintro i (rfl | ⟨a, ha, rfl⟩ | rfl | ⟨a, ha, rfl⟩)
    · exact ⟨hp.1, by dsimp only; have := c.1; omega⟩
    · cases ha
    · exact ⟨g1.lt.1, g1.lt.2⟩
    · cases ha

/-- Held. -/
theorem c_held1 {d : DS} (u : Duo S n h d) : Gives P (F_Stream_Held S (some d.p)) [.one (.int .i64)] h fun (x : Int × Unit) _ => x.1 = d.w.length := c_Held u.st
theorem c_held2 {d : DS} (u : Duo S n h d) (hl : d.all.length < 2 ^ 61) : Gives P (F_ref_Stream_Held S (some d.q)) [.one (.int .i64)] h fun (x : Int × Unit) _ => x.1 = d.w.length := by
  refine wp_mono _ (fun t vs h' ⟨a, c, y, ey, g⟩ => ⟨a, c, y, ey, ?_⟩) (c_ref_Held u.kn u.rt hl)
  have := HeldR.fn u.wt.bytes g u.wt.held
  have hkl := u.wt.bnd.le u.wt.bytes
  have hwl : d.w.length = d.all.length - d.pp := List.length_drop
  have e : (d.all.length : Int) - (d.pp : Int) = ((d.w.length : Nat) : Int) := by omega
  exact Eq.trans this e
end Go.Sw.Codec

set_option linter.unusedVariables false
set_option linter.unusedSimpArgs false
set_option maxRecDepth 100000
namespace Go.Sw.Codec
variable {P : Program} {S : Ids} {h : Heap} {Q : Nat → List Value → Heap → Prop} {n : Nat}

abbrev cfoot (c : Sl) (i : Nat) : Prop := ∃ a, c.base = some a ∧ a.block = i

theorem Half.foot_p {d : DS} : d.foot d.p.block := .inl rfl
theorem rfoot_foot {d : DS} {i : Nat} (h : rfoot d.q d.rs i) : d.foot i := .inr (.inr h)

/-- Both are fed the same. -/
theorem s_feeds (M : Meth P S) {d : DS} {b b' : Sl} {x : List Int} {K : Sl × Unit → Sl × Unit → Prog} (u : Duo S n h d) (hn : n ≤ h.size) (hb : Lst .u8 h b x) (hb' : Lst .u8 h b' x) (hf : x ≠ [] → ∀ a, b'.base = some a → ¬ d.foot a.block) (hl : d.all.length + x.length ≤ 1099511627776)
    {W : (Sl × Unit → Prog) → Prog} (hW : ∀ (K' : Sl × Unit → Prog) (h' : Heap), Chg (fun i => i = d.p.block) h h' → wp P (.call (F_ref_Stream_Feed S (some d.q) b') [.one .sl] K') h' Q → wp P (W K') h' Q)
    (hk : ∀ y1 y2 h' d' z, Chg d.foot h h' → Duo S n h' d' → Next d d' h.size → d'.all.length = d.all.length + x.length → Lst .i64 h' y1.1 z → Lst .i64 h' y2.1 z → (∀ a, y1.1.base = some a → h.size ≤ a.block) → (∀ a, y2.1.base = some a → h.size ≤ a.block) → wp P (K y1 y2) h' Q) :
    wp P (.call (F_Stream_Feed S (some d.p) b) [.one .sl] fun y1 => W fun y2 => K y1 y2) h Q := by
  refine wp_callF (c_feed1 M u hn hb hl) fun y1 h1 c1 ⟨ws', v, hv, hu, hws, ho⟩ => hW _ h1 c1 ?_
  have hn1 : n ≤ h1.size := Nat.le_trans hn c1.1
  have hb1 := c1.lst0 hb' fun hx a ha e => hf hx a ha (.inl e)
  refine wp_callF (c_feed2 hv hu hn1 hb1 (fun hx a ha hr => hf hx a ha (rfoot_foot hr)) hl) fun y2 h2 c2 ⟨d', g1, g2, g3, g4, g5, g6, g7, g8, g9⟩ => ?_
  have c12 : Chg d.foot h h2 := (c1.mono fun i _ hi => .inl hi).trans c2 fun i _ hi => rfoot_foot hi
  refine hk y1 y2 h2 d' _ c12 g1 ⟨g2, g3, g4, fun i hi => ?_⟩ (by rw [g5, List.length_append]) (c2.lst ho.lst fun a ha hr => ?_) g8 (fun a ha => (ho.own.lt ha).1) (fun a ha => by have := g9 a ha; have := c1.1; omega)
  · rcases hi with hi | ⟨a, ha, hi⟩ | hi | ⟨a, ha, hi⟩
    · left; left; rw [← g2]; exact hi
    · right; rw [g6] at ha; have := hws a ha; omega
    · left; right; right; left; rw [← g3]; exact hi
    · rcases g7 a ha with hh | hh
      · left; right; right; right; exact ⟨a, hh, hi⟩
      · right; have := c1.1; omega
  · have h3 := (ho.own.lt ha).1
    have h4 := (u.lo _ (.inr (.inr hr))).2
    omega

theorem Next.mono {d d' : DS} {m m' : Nat} (a : Next d d' m') (hm : m ≤ m') : Next d d' m := ⟨a.p, a.q, a.enc, fun i hi => (a.foot i hi).imp id fun h => Nat.le_trans hm h⟩
theorem Lent.chg {F : Nat → Prop} {m : Nat} {k : IntKind} {M : Int → Int} {l : List Int} {x : Sl × Unit} {h h' : Heap} (hc : Lent m k M l x h) (c : Chg F h h') (hf : ∀ a, x.1.base = some a → ¬ F a.block) : Lent m k M l x h' :=
  ⟨hc.1, hc.2.1, c.ownL hc.2.2 hf⟩

/-- What was lent is written over. -/
theorem s_over {m : Nat} {c : Sl} {L : List Int} {K : Nat → List Value → Prog} (ho : OwnL m .u8 h c L) (hk : ∀ h', Chg (cfoot c) h h' → wp P (K 3 []) h' Q) :
    wp P (.bind (.loop [(Ty.one (B.int IntKind.i64))] ((0 : Int), ()) fun (r100 : (Int × Unit)) =>
            ifB (ltI r100.1 (natI c.len))
              (grd (andB (someB c.base) (inB r100.1 c.len)) <|
              .store (shiftTo c.base (mulN (toN r100.1) 1)) [(Value.int IntKind.u8 (wrapI IntKind.u8 (mulI IntKind.i64 17 r100.1)))] <|
              .ret 0 [(Value.int IntKind.i64 (addI IntKind.i64 r100.1 1))]) <|
            .ret 3 []) K) h Q := by
  have hlen := ho.len
  have hcap := ho.own.2.1
  have hmax := ho.own.2.2.1
  refine wp_while (fun (s : Int × Unit) h' => Chg (cfoot c) h h' ∧ 0 ≤ s.1 ∧ s.1 ≤ L.length ∧ ∃ l' : List Int, l'.length = L.length ∧ OwnL m .u8 h' c l') (fun s _ => L.length - s.1.toNat)
    (fun t vs h' => t = 3 ∧ vs = [] ∧ Chg (cfoot c) h h') ⟨Chg.refl _ _, by simp, by simp, L, rfl, ho⟩ ?_ ?_
  · rintro ⟨(i : Int), u⟩ h' ⟨k, h0, h1, l', hl', ho⟩
    dsimp only at h0 h1 ⊢
    refine wp_ifB (fun hc => ?_) fun hc => ?_
    · rw [ltI_iff, natI_def, hlen] at hc
      refine s_set ho h0 (by omega) (range_u8 _) fun h2 o2 u2 z2 => ?_
      rw [add_ok (by omega) (by omega)]
      exact s_ret ⟨fun _ => ⟨(i + 1, ()), rfl, ⟨k.upd u2 fun a ha _ => ⟨a, ha, rfl⟩, by dsimp only; omega, by dsimp only; omega, _, by simpa using hl', o2⟩, by dsimp only; omega⟩, fun h => absurd rfl h⟩
    · exact s_ret ⟨fun h => absurd h (by decide), fun _ => ⟨rfl, rfl, k⟩⟩
  · rintro t vs h' ⟨rfl, rfl, k⟩
    exact hk h' k

/-- What a step leaves. -/
structure Played (S : Ids) (n : Nat) (d : DS) (h : Heap) (m : Nat) (h' : Heap) : Prop where
  ex : ∃ d', Duo S n h' d' ∧ Next d d' h.size ∧ d'.all.length ≤ d.all.length + m

theorem c_played (M : Meth P S) {d : DS} {k w : Int} {b : Sl} {x : List Int} (u : Duo S n h d) (hn : n ≤ h.size) (hb : Lst .u8 h b x) (hf : x ≠ [] → ∀ a, b.base = some a → ¬ d.foot a.block) (hl : d.all.length + 2 * x.length ≤ 1099511627776) :
    GivesF d.foot P (F_law1_played S (some d.p) (some d.q) (k, w, b, ())) [.one .bool] h fun y h' => y.1 = true ∧ Played S n d h (2 * x.length) h' := by
  have hlb := hb.len
  unfold F_law1_played GivesF
  dsimp only
  intro elem
  have o1 : Own h.size 1 (h.push (.cells [i64v k, i64v w, slv b].toArray elem)) ⟨some ⟨h.size, 0, none⟩, 3, 3⟩ [i64v k, i64v w, slv b] := own_alloc rfl (by decide) (by decide)
  have e1 : Ext h (h.push (.cells [i64v k, i64v w, slv b].toArray elem)) := Ext.push ..
  have z1 : (h.push (.cells [i64v k, i64v w, slv b].toArray elem)).size = h.size + 1 := by simp
  generalize (h.push (.cells [i64v k, i64v w, slv b].toArray elem)) = h1 at o1 e1 z1 ⊢
  have u1 := u.ext e1
  have hn1 : n ≤ h1.size := Nat.le_trans hn e1.1
  have hfl : ∀ i, d.foot i → i < h.size := fun i hi => (u.lo i hi).2
  have hfl1 : ∀ i, d.foot i → i < h1.size := fun i hi => by have := hfl i hi; omega
  have obK : ∀ {h'}, Chg d.foot h1 h' → Own h.size 1 h' ⟨some ⟨h.size, 0, none⟩, 3, 3⟩ [i64v k, i64v w, slv b] := fun c => c.own o1 fun a ha hx => by cases ha; have := hfl _ hx; dsimp only at this; omega
  have ld0 : ∀ {h'} {K : Int → Prog} {Q : Nat → List Value → Heap → Prop}, Own h.size 1 h' ⟨some ⟨h.size, 0, none⟩, 3, 3⟩ [i64v k, i64v w, slv b] → wp P (K k) h' Q → wp P (.load (.one (.int .i64)) (shiftTo (some ⟨h.size, 0, none⟩) 0) K) h' Q := fun c hk =>
    wp_load1 (b := .int .i64) _ k rfl (cells_iff.1 c.cells' 0 _ rfl) hk
  have ld1 : ∀ {h'} {K : Int → Prog} {Q : Nat → List Value → Heap → Prop}, Own h.size 1 h' ⟨some ⟨h.size, 0, none⟩, 3, 3⟩ [i64v k, i64v w, slv b] → wp P (K w) h' Q → wp P (.load (.one (.int .i64)) (shiftTo (some ⟨h.size, 0, none⟩) 1) K) h' Q := fun c hk =>
    wp_load1 (b := .int .i64) _ w rfl (cells_iff.1 c.cells' 1 _ rfl) hk
  have ld2 : ∀ {h'} {K : Sl → Prog} {Q : Nat → List Value → Heap → Prop}, Own h.size 1 h' ⟨some ⟨h.size, 0, none⟩, 3, 3⟩ [i64v k, i64v w, slv b] → wp P (K b) h' Q → wp P (.load (.one .sl) (shiftTo (some ⟨h.size, 0, none⟩) 2) K) h' Q := fun c hk =>
    wp_load1 (b := .sl) _ b rfl (cells_iff.1 c.cells' 2 _ rfl) hk
  refine ld0 o1 (wp_ifB (fun hc => ?_) fun hc => wp_ifB (fun hc2 => ?_) fun hc2 => wp_ifB (fun hc3 => ?_) fun hc3 => ?_)
  · -- Feed
    refine ld2 o1 (wp_call (c_lend (hb.ext e1) (by omega)) fun c h2 e2 hc => ld2 (o1.ext e2) ?_)
    have hc1 := hc.1
    have hcap := hc.2.2.own.2.2.1
    have u2 := u1.ext e2
    have e12 := e1.trans e2
    simp only [cutBase_zero, subZero, natTo, hlb]
    refine s_grd (leB_ok (by rw [natI_def]; omega) (by rw [natI_def]; omega)) ?_
    have cne : ∀ a, c.1.base = some a → ¬ d.foot a.block := fun a ha hx => by have := (hc.2.2.own.lt ha).1; have := hfl1 _ hx; omega
    refine s_feeds M u2 (Nat.le_trans hn1 e2.1) (lent_take hc _ (by omega) (by omega)) (hb.ext e12) hf (by omega) (W := fun K => .load (.one .sl) (shiftTo (some ⟨h.size, 0, none⟩) 2) fun (l7 : Sl) => .call (F_ref_Stream_Feed S (some d.q) l7) [.one .sl] K)
      (fun K' h' c' hw => ld2 ((c'.mono (G := d.foot) fun i _ hi => .inl hi).own (o1.ext e2) fun a ha hx => by cases ha; have := hfl _ hx; dsimp only at this; omega) hw) ?_
    intro y1 y2 h3 d' z c3 u3 nx hlen hy1 hy2 hb1 hb2
    have c13 : Chg d.foot h1 h3 := Chg.pre e2 c3
    have hc3 := hc.chg c3 cne
    have hb3 := c3.lst0 (hb.ext e12) hf
    have nf' : ∀ i, i < h2.size → ¬ d.foot i → ¬ d'.foot i := fun i hi hx hy => by
      rcases nx.foot i hy with hh | hh
      · exact hx hh
      · omega
    have cblk : ∀ a, c.1.base = some a → a.block < h2.size := fun a ha => (hc.2.2.own.lt ha).2
    refine bind_bool False ?_ fun c' h4 e4 hc' => wp_ifB (fun h => (hc'.1 h).elim) fun _ => ?_
    · refine wp_call (c_sameInts hy1 hy2) fun w h4 e4 hw => wp_ifB (fun hn => ?_) fun _ => ld2 ((obK c13).ext e4) (wp_call (c_kept (Lent.ext hc3 e4) (hb3.ext e4)) fun v h5 e5 hv => s_ret ⟨rfl, e4.trans e5, _, rfl, ?_⟩)
      · have hw : w.1 = decide (z = z) := hw
        rw [notB_iff, hw] at hn; simp at hn
      · have hv : v.1 = true := hv
        rw [hv]; simp [notB]
    have c14 : Chg d.foot h1 h4 := c13.ext e4
    have c04 : Chg d.foot h h4 := Chg.pre e1 c14
    have hc4 := Lent.ext hc3 e4
    have u4 := u3.ext e4
    have s34 := e4.1
    have s23 := c3.1
    have s12 := e2.1
    have cnew : ∀ i, i < h.size → cfoot c.1 i → d.foot i := fun i hi ⟨a', ha', e⟩ => by have := (hc.2.2.own.lt ha').1; omega
    refine wp_bind (fun t vs h' => t = 0 ∧ ∃ (l m : Sl) (z : List Int) (d2 : DS) (L : List Int), vs = [slv l, slv m] ∧ Chg d.foot h h' ∧ Duo S n h' d2 ∧ Next d d2 h2.size ∧ d2.all.length ≤ d.all.length + 2 * x.length ∧ Lst .i64 h' l z ∧ Lst .i64 h' m z ∧
      OwnL h1.size .u8 h' c.1 L ∧ L.length = c.1.len ∧ (∀ a, l.base = some a → ¬ cfoot c.1 a.block) ∧ (∀ a, m.base = some a → ¬ cfoot c.1 a.block)) ?_ ?_
    · refine ld1 (obK c14) (s_not (wp_ifB (fun hd => ?_) fun hd => ?_))
      · refine ld2 (obK c14) ?_
        rw [natI_def, hlb]
        refine wp_callF (c_turnedF (n := x.length) hc4.2.2 (by rw [List.length_append]; omega) (by omega)) fun p h5 c5 ⟨l', hl', ho5, hp⟩ => ?_
        have c05 : Chg d.foot h h5 := c04.trans c5 cnew
        have ob5 : Own h.size 1 h5 ⟨some ⟨h.size, 0, none⟩, 3, 3⟩ [i64v k, i64v w, slv b] := c5.own (obK c14) fun a ha ⟨a', ha', e⟩ => by cases ha; have := (hc.2.2.own.lt ha').1; dsimp only at e; omega
        have u5 := u4.chg c5 fun i hi ⟨a', ha', e⟩ => nf' a'.block (cblk a' ha') (cne a' ha') (by rw [e]; exact hi)
        have s45 := c5.1
        refine ld2 ob5 (s_grd (leB_ok (by rw [natI_def]; omega) (by rw [natI_def]; omega)) ?_)
        have hpt := OwnL.part ho5 hl'.symm
        simp only [natTo, hlb]
        rw [← nx.p, ← nx.q]
        refine s_feeds M u5 (by omega) hpt hp.lst (fun _ a ha hx => ?_) (by rw [hlen, hl']; omega) (W := fun K => .call (F_ref_Stream_Feed S (some d'.q) p.1) [.one .sl] K) (fun K' h' c' hw => hw) ?_
        · have h6 := (hp.own.lt ha).1
          have h7 := (u4.lo _ hx).2
          omega
        intro y1' y2' h6 d2 z2 c6 u6 nx2 hlen2 hy1' hy2' hb1' hb2'
        have s56 := c6.1
        refine s_ret ⟨rfl, y1'.1, y2'.1, z2, d2, _, rfl, c05.trans c6 (fun i hi hx => ?_), u6, nx.trans nx2 (by omega), by omega, hy1', hy2', c6.ownL ho5 (fun a ha => nf' _ (cblk a ha) (cne a ha)), ?_, fun a ha ⟨a', ha', e⟩ => ?_, fun a ha ⟨a', ha', e⟩ => ?_⟩
        · rcases nx.foot i hx with hh | hh
          · exact hh
          · omega
        · have := ho5.len; exact this.symm
        · have := hb1' a ha; have := cblk a' ha'; omega
        · have := hb2' a ha; have := cblk a' ha'; omega
      · refine s_ret ⟨rfl, y1.1, y2.1, z, d', _, rfl, c04, u4, nx, by omega, hy1.ext e4, hy2.ext e4, hc4.2.2, ?_, fun a ha ⟨a', ha', e⟩ => ?_, fun a ha ⟨a', ha', e⟩ => ?_⟩
        · have := hc4.2.2.len; exact this.symm
        · have := hb1 a ha; have := cblk a' ha'; omega
        · have := hb2 a ha; have := cblk a' ha'; omega
    rintro t vs h5 ⟨rfl, l, m, z', d2, L, rfl, c5, u5, nx5, hl5, hl1, hl2, ho5, hL, q1, q2⟩
    refine s_tag ⟨(l, m, ()), rfl, s_over ho5 fun h6 c6 => s_tag (s_cast0 ?_)⟩
    have u6 := u5.chg c6 fun i hi ⟨a', ha', e⟩ => by
      rcases nx5.foot i hi with hh | hh
      · exact cne a' ha' (by rw [e]; exact hh)
      · have := cblk a' ha'; omega
    refine wp_call (c_sameInts (c6.lst hl1 q1) (c6.lst hl2 q2)) fun v h7 e7 hv => s_ret ⟨rfl, (c5.trans c6 cnew).ext e7, (v.1, ()), rfl, ?_, ⟨d2, u6.ext e7, nx5.mono (by omega), hl5⟩⟩
    have hv : v.1 = decide (z' = z') := hv
    rw [hv]; simp
  · -- Held
    refine wp_call (c_held1 u1) fun y h2 e2 hy => wp_call (c_held2 (u1.ext e2) (by omega)) fun y2 h3 e3 hy2 => s_ret ⟨rfl, Chg.of_ext ((e1.trans e2).trans e3), (_, ()), rfl, ?_, ⟨d, (u1.ext e2).ext e3, Next.refl _ _, by omega⟩⟩
    have hy : y.1 = d.w.length := hy
    have hy2 : y2.1 = d.w.length := hy2
    dsimp only
    rw [hy, hy2]; exact eqI_iff.2 rfl
  · -- Close
    refine wp_callF (c_close1 M u1 hn1 (by omega)) fun y h2 c2 ⟨u2, ho⟩ => wp_callF (c_close2 u2 (Nat.le_trans hn1 c2.1) (by omega)) fun y2 h3 c3 ⟨d', g1, g2, g3, g4, g5, g6, g7, g8, g9⟩ => ?_
    have c13 : Chg d.foot h1 h3 := (c2.mono fun i _ hi => .inl hi).trans c3 fun i _ hi => rfoot_foot (.inl hi)
    have hy := c3.lst ho.lst fun a ha hr => by
      have h3 := (ho.own.lt ha).1
      have h4 := hfl1 _ (rfoot_foot (.inl hr))
      omega
    refine wp_call (c_sameInts hy g8) fun v h4 e4 hv => s_ret ⟨rfl, (Chg.pre e1 c13).ext e4, (v.1, ()), rfl, ?_, ⟨d', g1.ext e4, ⟨g2, g3, g4, fun i hi => ?_⟩, by rw [g5]; simp⟩⟩
    · have hv : v.1 = decide (dec d.enc d.w = dec d.enc d.w) := hv
      rw [hv]; simp
    · left
      rcases hi with hi | ⟨a, ha, hi⟩ | hi | ⟨a, ha, hi⟩
      · left; rw [← g2]; exact hi
      · rw [g6] at ha; cases ha
      · right; right; left; rw [← g3]; exact hi
      · rw [g7] at ha; cases ha
  · exact s_ret ⟨rfl, Chg.of_ext e1, (true, ()), rfl, rfl, ⟨d, u1, Next.refl _ _, by omega⟩⟩
end Go.Sw.Codec

set_option linter.unusedVariables false
set_option linter.unusedSimpArgs false
set_option maxRecDepth 100000
namespace Go.Sw
variable {P : Program} {h : Heap} {Q : Nat → List Value → Heap → Prop}
/-- A new object. -/
theorem s_newV {vs : List Value} {K : Addr → Prog} (hl : vs.length < 2 ^ 63) (hk : ∀ (w : Addr) h', w.block = h.size → Ext h h' → Own h.size 1 h' ⟨some w, vs.length, vs.length⟩ vs → wp P (K w) h' Q) : wp P (.alloc vs K) h Q :=
  fun elem => hk ⟨h.size, 0, none⟩ _ rfl (Ext.push ..) (own_alloc (by simp) (by decide) hl)
/-- l[j], of a list of pointers. -/
theorem s_ptr {n : Nat} {a : Sl} {vs : List Value} {p : Option Addr} {j : Nat} {K : Option Addr → Prog} (ho : Own n 1 h a vs) (hj : vs[j]? = some (.pointer p)) (hk : wp P (K p) h Q) :
    wp P (grd (andB (someB a.base) (inB (j : Int) a.len)) (.load (.one .ptr) (shiftTo a.base (mulN (toN (j : Int)) 1)) K)) h Q := by
  have hl := ho.1
  have hlt := (List.getElem?_eq_some_iff.1 hj).1
  obtain ⟨b, e, c⟩ := ho.rd.2 j _ hj
  rw [e]
  refine s_grd (andB_iff.2 ⟨rfl, inB_ok (by omega) (by omega)⟩) (wp_load1 (b := .ptr) (b.add j) p ?_ c hk)
  simp [shiftTo, mulN, toN]
theorem s_ckptr {n : Nat} {a : Sl} {vs : List Value} {p : Option Addr} {j : Nat} {K : Prog} (ho : Own n 1 h a vs) (hj : vs[j]? = some (.pointer p)) (hk : wp P K h Q) :
    wp P (.check (shiftTo a.base (mulN (toN (j : Int)) 1)) [.pointer p] K) h Q := by
  obtain ⟨b, e, c⟩ := ho.rd.2 j _ hj
  rw [e]
  have : shiftTo (some b) (mulN (toN (j : Int)) 1) = shiftTo (some b) j := by simp [shiftTo, mulN, toN]
  rw [this]
  exact s_ckC c hk
end Go.Sw

namespace Go.Sw.Codec
variable {P : Program} {S : Ids} {h : Heap} {Q : Nat → List Value → Heap → Prop} {n : Nat}

theorem duo_new {p q : Addr} {enc : Int} (he : known enc) (st : Strm S h p enc ⟨none, 0, 0⟩ []) (rt : RStr n h q enc ⟨none, 0, 0⟩ [] 0) (hp : n ≤ p.block) (hne : p.block ≠ q.block) :
    Duo S n h ⟨p, q, enc, ⟨none, 0, 0⟩, ⟨none, 0, 0⟩, [], 0⟩ := by
  have h0 : ((dec enc (([] : List Int).take 0)).length : Int) = 0 := by rw [List.take_nil, dec_nil (by simp)]; rfl
  refine ⟨he, st, by dsimp only; rw [h0]; exact rt, Waits.zero _, ?_, hne, (fun a ha => by cases ha), (fun a ha => by cases ha), (fun a b ha => by cases ha)⟩
  rintro i (rfl | ⟨a, ha, rfl⟩ | rfl | ⟨a, ha, rfl⟩)
  · exact ⟨hp, st.lt⟩
  · cases ha
  · exact rt.lt
  · cases ha

abbrev Pl := Nat → Option DS
def upd (G : Pl) (i : Nat) (d : DS) : Pl := fun j => if j = i then some d else G j
theorem upd_same (G : Pl) (i : Nat) (d : DS) : upd G i d i = some d := by simp [upd]
theorem upd_other (G : Pl) {i j : Nat} (d : DS) (h : j ≠ i) : upd G i d j = G j := by simp [upd, h]

structure Pool (S : Ids) (n : Nat) (h : Heap) (G : Pl) : Prop where
  duo : ∀ i d, G i = some d → Duo S n h d
  apart : ∀ i j d e, i ≠ j → G i = some d → G j = some e → ∀ x, d.foot x → ¬ e.foot x

theorem Pool.chg {G : Pl} {F : Nat → Prop} {h' : Heap} (p : Pool S n h G) (c : Chg F h h') (hF : ∀ i d x, G i = some d → d.foot x → ¬ F x) : Pool S n h' G :=
  ⟨fun i d hi => (p.duo i d hi).chg c fun x hx => hF i d x hi hx, p.apart⟩
theorem Pool.ext {G : Pl} {h' : Heap} (p : Pool S n h G) (e : Ext h h') : Pool S n h' G := p.chg (Chg.of_ext (F := fun _ => False) e) fun _ _ _ _ _ h => h
theorem Pool.lt {G : Pl} (p : Pool S n h G) {i : Nat} {d : DS} (hi : G i = some d) {x : Nat} (hx : d.foot x) : n ≤ x ∧ x < h.size := (p.duo i d hi).lo x hx
theorem Pool.step {G : Pl} {h' : Heap} {i : Nat} {d d' : DS} (p : Pool S n h G) (hi : G i = some d) (c : Chg d.foot h h') (u : Duo S n h' d') (nx : Next d d' h.size) : Pool S n h' (upd G i d') := by
  have key : ∀ j e, j ≠ i → G j = some e → Duo S n h' e ∧ ∀ x, d'.foot x → ¬ e.foot x := fun j e hj he =>
    ⟨(p.duo j e he).chg c fun x hx hy => p.apart i j d e (Ne.symm hj) hi he x hy hx, fun x hx hy => by
      rcases nx.foot x hx with hh | hh
      · exact p.apart i j d e (Ne.symm hj) hi he x hh hy
      · have := (p.lt he hy).2; omega⟩
  refine ⟨fun j e hj => ?_, fun j k e f hjk hj hk x hx hy => ?_⟩
  · by_cases hji : j = i
    · subst hji; rw [upd_same] at hj; cases hj; exact u
    · rw [upd_other _ _ hji] at hj; exact (key j e hji hj).1
  · by_cases hji : j = i
    · subst hji
      rw [upd_same] at hj; cases hj
      rw [upd_other _ _ (Ne.symm hjk)] at hk
      exact (key k f (Ne.symm hjk) hk).2 x hx hy
    · rw [upd_other _ _ hji] at hj
      by_cases hki : k = i
      · subst hki
        rw [upd_same] at hk; cases hk
        exact (key j e hji hj).2 x hy hx
      · rw [upd_other _ _ hki] at hk
        exact p.apart j k e f hjk hj hk x hx hy
theorem Pool.add {G : Pl} {i m : Nat} {d : DS} (p : Pool S n h G) (u : Duo S n h d) (hn : ∀ x, d.foot x → m ≤ x) (ho : ∀ j e x, G j = some e → e.foot x → x < m) : Pool S n h (upd G i d) := by
  refine ⟨fun j e hj => ?_, fun j k e f hjk hj hk x hx hy => ?_⟩
  · by_cases hji : j = i
    · subst hji; rw [upd_same] at hj; cases hj; exact u
    · rw [upd_other _ _ hji] at hj; exact p.duo j e hj
  · by_cases hji : j = i
    · subst hji
      rw [upd_same] at hj; cases hj
      rw [upd_other _ _ (Ne.symm hjk)] at hk
      have := hn x hx; have := ho k f x hk hy; omega
    · rw [upd_other _ _ hji] at hj
      by_cases hki : k = i
      · subst hki
        rw [upd_same] at hk; cases hk
        have := hn x hy; have := ho j e x hj hx; omega
      · rw [upd_other _ _ hki] at hk
        exact p.apart j k e f hjk hj hk x hx hy

def psOf (G : Pl) (m : Nat) : List Value := (List.range m).map fun i => .pointer ((G (2 + i)).map DS.p)
def qsOf (G : Pl) (m : Nat) : List Value := (List.range m).map fun i => .pointer ((G (2 + i)).map DS.q)
theorem psOf_upd {G : Pl} {m i : Nat} {d d' : DS} (hi : G i = some d) (hp : d'.p = d.p) : psOf (upd G i d') m = psOf G m := by
  unfold psOf
  refine List.map_congr_left fun j _ => ?_
  by_cases hj : 2 + j = i
  · rw [hj, upd_same, hi]; simp [hp]
  · rw [upd_other _ _ hj]
theorem qsOf_upd {G : Pl} {m i : Nat} {d d' : DS} (hi : G i = some d) (hp : d'.q = d.q) : qsOf (upd G i d') m = qsOf G m := by
  unfold qsOf
  refine List.map_congr_left fun j _ => ?_
  by_cases hj : 2 + j = i
  · rw [hj, upd_same, hi]; simp [hp]
  · rw [upd_other _ _ hj]
theorem psOf_at {G : Pl} {m j : Nat} {d : DS} (hj : j < m) (hd : G (2 + j) = some d) : (psOf G m)[j]? = some (.pointer (some d.p)) := by
  unfold psOf; rw [List.getElem?_map, List.getElem?_range hj]; simp [hd]
theorem qsOf_at {G : Pl} {m j : Nat} {d : DS} (hj : j < m) (hd : G (2 + j) = some d) : (qsOf G m)[j]? = some (.pointer (some d.q)) := by
  unfold qsOf; rw [List.getElem?_map, List.getElem?_range hj]; simp [hd]
theorem psOf_new {G : Pl} {m : Nat} (d : DS) : psOf (upd G (2 + m) d) (m + 1) = psOf G m ++ [.pointer (some d.p)] := by
  unfold psOf
  rw [List.range_succ, List.map_append]
  congr 1
  · refine List.map_congr_left fun j hj => ?_
    have := List.mem_range.1 hj
    rw [upd_other _ _ (by omega)]
  · simp [upd_same]
theorem qsOf_new {G : Pl} {m : Nat} (d : DS) : qsOf (upd G (2 + m) d) (m + 1) = qsOf G m ++ [.pointer (some d.q)] := by
  unfold qsOf
  rw [List.range_succ, List.map_append]
  congr 1
  · refine List.map_congr_left fun j hj => ?_
    have := List.mem_range.1 hj
    rw [upd_other _ _ (by omega)]
  · simp [upd_same]

/-- The crowd: m streams, from the third on. -/
structure Crowd (S : Ids) (n : Nat) (h : Heap) (G : Pl) (w : Addr) (a b : Sl) (m : Nat) : Prop where
  pool : Pool S n h G
  ow : Own n 1 h ⟨some w, 2, 2⟩ [slv a, slv b]
  oa : Own n 1 h a (psOf G m)
  ob : Own n 1 h b (qsOf G m)
  there : ∀ i, i < m → ∃ d, G (2 + i) = some d
  aw : ∀ q, a.base = some q → q.block ≠ w.block
  bw : ∀ q, b.base = some q → q.block ≠ w.block
  ab : ∀ q r, a.base = some q → b.base = some r → q.block ≠ r.block
  fw : ∀ i d, G i = some d → ¬ d.foot w.block
  fa : ∀ i d q, G i = some d → a.base = some q → ¬ d.foot q.block
  fb : ∀ i d q, G i = some d → b.base = some q → ¬ d.foot q.block
variable {G : Pl} {w : Addr} {a b : Sl} {m : Nat}

theorem Crowd.len (c : Crowd S n h G w a b m) : a.len = m ∧ b.len = m := by
  have h1 := c.oa.1
  have h2 := c.ob.1
  simp [psOf] at h1
  simp [qsOf] at h2
  omega
theorem Crowd.chg {F : Nat → Prop} {h' : Heap} (c : Crowd S n h G w a b m) (x : Chg F h h') (hG : ∀ i d x, G i = some d → d.foot x → ¬ F x) (hw : ¬ F w.block) (ha : ∀ q, a.base = some q → ¬ F q.block) (hb : ∀ q, b.base = some q → ¬ F q.block) : Crowd S n h' G w a b m where
  pool := c.pool.chg x hG
  ow := x.own c.ow fun q hq => by cases hq; exact hw
  oa := x.own c.oa ha
  ob := x.own c.ob hb
  there := c.there
  aw := c.aw
  bw := c.bw
  ab := c.ab
  fw := c.fw
  fa := c.fa
  fb := c.fb
theorem Crowd.ext {h' : Heap} (c : Crowd S n h G w a b m) (e : Ext h h') : Crowd S n h' G w a b m := c.chg (Chg.of_ext (F := fun _ => False) e) (fun _ _ _ _ _ h => h) (fun h => h) (fun _ _ h => h) fun _ _ h => h
theorem Crowd.step {h' : Heap} {i : Nat} {d d' : DS} (c : Crowd S n h G w a b m) (hi : G i = some d) (x : Chg d.foot h h') (u : Duo S n h' d') (nx : Next d d' h.size) : Crowd S n h' (upd G i d') w a b m where
  pool := c.pool.step hi x u nx
  ow := x.own c.ow fun q hq => by cases hq; exact c.fw i d hi
  oa := by rw [psOf_upd hi nx.p]; exact x.own c.oa fun q hq => c.fa i d q hi hq
  ob := by rw [qsOf_upd hi nx.q]; exact x.own c.ob fun q hq => c.fb i d q hi hq
  there := fun j hj => by
    by_cases hji : 2 + j = i
    · exact ⟨d', by rw [hji, upd_same]⟩
    · rw [upd_other _ _ hji]; exact c.there j hj
  aw := c.aw
  bw := c.bw
  ab := c.ab
  fw := fun j e hj hx => by
    by_cases hji : j = i
    · subst hji; rw [upd_same] at hj; cases hj
      rcases nx.foot _ hx with hh | hh
      · exact c.fw j d hi hh
      · have := (c.ow.lt rfl).2; omega
    · rw [upd_other _ _ hji] at hj; exact c.fw j e hj hx
  fa := fun j e q hj hq hx => by
    by_cases hji : j = i
    · subst hji; rw [upd_same] at hj; cases hj
      rcases nx.foot _ hx with hh | hh
      · exact c.fa j d q hi hq hh
      · have := (c.oa.lt hq).2; omega
    · rw [upd_other _ _ hji] at hj; exact c.fa j e q hj hq hx
  fb := fun j e q hj hq hx => by
    by_cases hji : j = i
    · subst hji; rw [upd_same] at hj; cases hj
      rcases nx.foot _ hx with hh | hh
      · exact c.fb j d q hi hq hh
      · have := (c.ob.lt hq).2; omega
    · rw [upd_other _ _ hji] at hj; exact c.fb j e q hj hq hx
theorem Crowd.c0 (c : Crowd S n h G w a b m) : Sw.cell h (w.add 0) = some (slv a) := cells_iff.1 c.ow.cells' 0 _ rfl
theorem Crowd.c1 (c : Crowd S n h G w a b m) : Sw.cell h (w.add 1) = some (slv b) := cells_iff.1 c.ow.cells' 1 _ rfl

/-- All bytes that were fed, of all of them. -/
def Small (G : Pl) (B : Nat) : Prop := ∀ i d, G i = some d → d.all.length ≤ B
theorem Small.upd {B : Nat} {i : Nat} {d : DS} (s : Small G B) (hd : d.all.length ≤ B) : Small (upd G i d) B := fun j e hj => by
  by_cases hji : j = i
  · subst hji; rw [upd_same] at hj; cases hj; exact hd
  · rw [upd_other _ _ hji] at hj; exact s j e hj
theorem Small.mono {B B' : Nat} (s : Small G B) (h : B ≤ B') : Small G B' := fun i d hi => Nat.le_trans (s i d hi) h

theorem bytes_two {x y : Int} : ∀ v, v ∈ [wrapI .u8 x, wrapI .u8 y] → fitsI .u8 v := by
  intro v hv
  simp only [List.mem_cons, List.not_mem_nil, or_false] at hv
  rcases hv with rfl | rfl <;> exact range_u8 _

/-- The program's stream is fed, the document's is not yet. -/
def Midw (S : Ids) (n : Nat) (d : DS) (x : List Int) (h h1 : Heap) (y : Sl × Unit) : Prop :=
  Chg (fun i => i = d.p.block) h h1 ∧ ∃ (ws' : Sl) (v : Int), HeldR d.enc (d.w ++ x) v ∧ Half S n h1 d ws' ((d.w ++ x).drop ((d.w ++ x).length - v.toNat)) ∧
      (∀ a, ws'.base = some a → h.size ≤ a.block) ∧ OwnL h.size .i64 h1 y.1 (dec d.enc ((d.w ++ x).take ((d.w ++ x).length - v.toNat)))
theorem s_feed1 (M : Meth P S) {d : DS} {b : Sl} {x : List Int} {K : Sl × Unit → Prog} (u : Duo S n h d) (hn : n ≤ h.size) (hb : Lst .u8 h b x) (hl : d.all.length + x.length ≤ 1099511627776)
    (hk : ∀ y h1, Midw S n d x h h1 y → wp P (K y) h1 Q) : wp P (.call (F_Stream_Feed S (some d.p) b) [.one .sl] K) h Q :=
  wp_callF (c_feed1 M u hn hb hl) fun y h1 c1 hx => hk y h1 ⟨c1, hx⟩
theorem s_feed2 {d : DS} {b : Sl} {x : List Int} {h1 : Heap} {y1 : Sl × Unit} {K : Sl × Unit → Prog} (hm : Midw S n d x h h1 y1) (u : Duo S n h d) (hn : n ≤ h.size) (hb : Lst .u8 h b x) (hf : x ≠ [] → ∀ a, b.base = some a → ¬ d.foot a.block) (hl : d.all.length + x.length ≤ 1099511627776)
    (hk : ∀ y2 h' d' z, Chg d.foot h h' → Duo S n h' d' → Next d d' h.size → d'.all.length = d.all.length + x.length → Lst .i64 h' y1.1 z → Lst .i64 h' y2.1 z → (∀ a, y1.1.base = some a → h.size ≤ a.block) → (∀ a, y2.1.base = some a → h.size ≤ a.block) → wp P (K y2) h' Q) :
    wp P (.call (F_ref_Stream_Feed S (some d.q) b) [.one .sl] K) h1 Q := by
  obtain ⟨c1, ws', v, hv, hu, hws, ho⟩ := hm
  have hn1 : n ≤ h1.size := Nat.le_trans hn c1.1
  have hb1 := c1.lst0 hb fun hx a ha e => hf hx a ha (.inl e)
  refine wp_callF (c_feed2 hv hu hn1 hb1 (fun hx a ha hr => hf hx a ha (rfoot_foot hr)) hl) fun y2 h2 c2 ⟨d', g1, g2, g3, g4, g5, g6, g7, g8, g9⟩ => ?_
  have c12 : Chg d.foot h h2 := (c1.mono fun i _ hi => .inl hi).trans c2 fun i _ hi => rfoot_foot hi
  refine hk y2 h2 d' _ c12 g1 ⟨g2, g3, g4, fun i hi => ?_⟩ (by rw [g5, List.length_append]) (c2.lst ho.lst fun a ha hr => ?_) g8 (fun a ha => (ho.own.lt ha).1) (fun a ha => by have := g9 a ha; have := c1.1; omega)
  · rcases hi with hi | ⟨a, ha, hi⟩ | hi | ⟨a, ha, hi⟩
    · left; left; rw [← g2]; exact hi
    · right; rw [g6] at ha; have := hws a ha; omega
    · left; right; right; left; rw [← g3]; exact hi
    · rcases g7 a ha with hh | hh
      · left; right; right; right; exact ⟨a, hh, hi⟩
      · right; have := c1.1; omega
  · have h3 := (ho.own.lt ha).1
    have h4 := (u.lo _ (.inr (.inr hr))).2
    omega
theorem s_close2 {d : DS} {h1 : Heap} {y1 : Sl × Unit} {K : Sl × Unit → Prog} (c1 : Chg (fun i => i = d.p.block) h h1) (u1 : Half S n h1 d ⟨none, 0, 0⟩ []) (ho : OwnL h.size .i64 h1 y1.1 (dec d.enc d.w)) (u : Duo S n h d) (hn : n ≤ h.size) (hl : d.all.length ≤ 1099511627776)
    (hk : ∀ y2 h' d' z, Chg d.foot h h' → Duo S n h' d' → Next d d' h.size → d'.all = [] → Lst .i64 h' y1.1 z → Lst .i64 h' y2.1 z → wp P (K y2) h' Q) :
    wp P (.call (F_ref_Stream_Close S (some d.q)) [.one .sl] K) h1 Q := by
  refine wp_callF (c_close2 u1 (Nat.le_trans hn c1.1) hl) fun y2 h3 c3 ⟨d', g1, g2, g3, g4, g5, g6, g7, g8, g9⟩ => ?_
  have c13 : Chg d.foot h h3 := (c1.mono fun i _ hi => .inl hi).trans c3 fun i _ hi => rfoot_foot (.inl hi)
  refine hk y2 h3 d' _ c13 g1 ⟨g2, g3, g4, fun i hi => ?_⟩ g5 (c3.lst ho.lst fun a ha hr => by
      have h3 := (ho.own.lt ha).1
      have h4 := (u.lo _ (rfoot_foot (.inl hr))).2
      omega) g8
  left
  rcases hi with hi | ⟨a, ha, hi⟩ | hi | ⟨a, ha, hi⟩
  · left; rw [← g2]; exact hi
  · rw [g6] at ha; cases ha
  · right; right; left; rw [← g3]; exact hi
  · rw [g7] at ha; cases ha
theorem sameB {z : List Int} {w : Bool × Unit} (hw : w.1 = decide (z = z)) : notB w.1 = false := by rw [hw]; simp [notB]

theorem Midw.crowd {d : DS} {x : List Int} {h1 : Heap} {y : Sl × Unit} {i : Nat} (hm : Midw S n d x h h1 y) (c : Crowd S n h G w a b m) (hi : G i = some d) :
    Own n 1 h1 ⟨some w, 2, 2⟩ [slv a, slv b] ∧ Own n 1 h1 a (psOf G m) ∧ Own n 1 h1 b (qsOf G m) :=
  ⟨hm.1.own c.ow fun q hq e => by cases hq; exact c.fw i d hi (.inl e), hm.1.own c.oa fun q hq e => c.fa i d q hi hq (.inl e), hm.1.own c.ob fun q hq e => c.fb i d q hi hq (.inl e)⟩

/-- ends. -/
theorem c_ends (M : Meth P S) {B : Nat} (c : Crowd S n h G w a b m) (hn : n ≤ h.size) (hB : Small G B) (hb : B ≤ 1099511627000) (hm5 : m ≤ 100) :
    GivesN n P (F_crowd_ends S (some w)) [.one .bool] h fun (y : Bool × Unit) _ => y.1 = true := by
  unfold F_crowd_ends GivesN
  refine wp_while (fun (s : Int × Unit) h' => Keep n h h' ∧ ∃ (i : Nat) (G' : Pl), s.1 = i ∧ i ≤ m ∧ Crowd S n h' G' w a b m ∧ Small G' B) (fun s _ => ((m : Int) - s.1).toNat)
    (fun t vs h' => t = 2 ∧ vs = [] ∧ Keep n h h') ⟨Keep.refl _ _, 0, G, rfl, Nat.zero_le _, c, hB⟩ ?_ ?_
  · rintro ⟨i', u⟩ h1 ⟨k1, i, G', hi, him, c1, s1⟩
    dsimp only at hi ⊢
    subst hi
    obtain ⟨l1, l2⟩ := c1.len
    have hn1 : n ≤ h1.size := Nat.le_trans hn k1.1
    refine s_getF (b := .sl) (x := a) c1.c0 (wp_ifB (fun hc => ?_) fun hc => ?_)
    · rw [ltI_iff, natI_def, l1] at hc
      obtain ⟨d, hd⟩ := c1.there i (by omega)
      have hp := psOf_at (m := m) (by omega) hd
      have hq := qsOf_at (m := m) (by omega) hd
      have u1 := c1.pool.duo _ d hd
      have hsm := s1 _ d hd
      refine s_getF (b := .sl) (x := a) c1.c0 (s_ptr c1.oa hp (s_getF (b := .sl) (x := b) c1.c1 (s_ptr c1.ob hq (wp_call (c_held1 u1) fun y h2 e2 hy => ?_))))
      have c2 := c1.ext e2
      refine s_ckptr c2.ob hq (s_ckC c2.c1 (wp_call (c_held2 (u1.ext e2) (by omega)) fun z h3 e3 hz => ?_))
      have hy : y.1 = d.w.length := hy
      have hz : z.1 = d.w.length := hz
      refine s_neF (by rw [hy, hz]) ?_
      have c3 := c2.ext e3
      refine s_allocL (k := .u8) [wrapI .u8 (addI .i64 130 i), wrapI .u8 195] bytes_two (by simp) fun h4 e4 o4 => ?_
      have c4 := c3.ext e4
      have u4 := ((u1.ext e2).ext e3).ext e4
      refine s_getF (b := .sl) (x := a) c4.c0 (s_ptr c4.oa hp (wp_call (c_copyBytes o4.lst (by simp)) fun v h5 e5 hv => ?_))
      have hv : OwnL h4.size .u8 h5 v.1 _ := hv
      have c5 := c4.ext e5
      have u5 := u4.ext e5
      have e15 := ((e2.trans e3).trans e4).trans e5
      have hn5 : n ≤ h5.size := Nat.le_trans hn1 e15.1
      refine s_ckptr c5.oa hp (s_ckC c5.c0 (s_feed1 M u5 hn5 hv.lst (by simp; omega) fun y1 h6 hm => ?_))
      obtain ⟨w6, a6, b6⟩ := hm.crowd c5 hd
      have cell1 : Sw.cell h6 (w.add 1) = some (slv b) := cells_iff.1 w6.cells' 1 _ rfl
      refine wp_bind (fun t vs h' => t = 0 ∧ vs = [.bool false] ∧ ∃ d', Chg d.foot h5 h' ∧ Crowd S n h' (upd G' (2 + i) d') w a b m ∧ d'.p = d.p ∧ d'.q = d.q ∧ d'.all.length ≤ B + 2) ?_ ?_
      · refine s_getF (b := .sl) (x := b) cell1 (s_ptr b6 hq (s_feed2 hm u5 hn5 (o4.ext e5).lst (fun _ q hq hx => ?_) (by simp; omega) fun y2 h7 d' zz c7 u7 nx hl7 hy1 hy2 _ _ => ?_))
        · cases hq
          have := (c3.pool.lt hd hx).2
          dsimp only at this; omega
        have k7 := c5.step hd c7 u7 nx
        have hd7 : upd G' (2 + i) d' (2 + i) = some d' := upd_same ..
        have hp7 := psOf_at (m := m) (by omega) hd7
        have hq7 := qsOf_at (m := m) (by omega) hd7
        rw [nx.p] at hp7
        rw [nx.q] at hq7
        have hl7' : d'.all.length = d.all.length + 2 := hl7
        refine wp_call (c_sameInts hy1 hy2) fun r h8 e8 hr => ?_
        rw [sameB hr]
        have k8 := k7.ext e8
        have u8 := u7.ext e8
        refine s_ifF (s_getF (b := .sl) (x := a) k8.c0 (s_ptr k8.oa hp7 (s_getF (b := .sl) (x := b) k8.c1 (s_ptr k8.ob hq7 ?_))))
        rw [← nx.p, ← nx.q]
        refine wp_call (c_held1 u8) fun y h9 e9 hy => ?_
        have k9 := k8.ext e9
        rw [← nx.q] at hq7
        refine s_ckptr k9.ob hq7 (s_ckC k9.c1 (wp_call (c_held2 (u8.ext e9) (by omega)) fun z h10 e10 hz => s_ret ⟨rfl, ?_, d', (c7.ext e8).ext (e9.trans e10), k9.ext e10, rfl, rfl, by omega⟩))
        have hy : y.1 = d'.w.length := hy
        have hz : z.1 = d'.w.length := hz
        rw [hy, hz]; simp [neI]
      rintro t vs h7 ⟨rfl, rfl, d', c7, k7, ep, eq, hl7⟩
      have hd7 : upd G' (2 + i) d' (2 + i) = some d' := upd_same ..
      have hp7 := psOf_at (m := m) (by omega) hd7
      have hq7 := qsOf_at (m := m) (by omega) hd7
      have u7 := k7.pool.duo _ d' hd7
      have hn7 : n ≤ h7.size := Nat.le_trans hn5 c7.1
      refine s_tag (s_castB (s_ifF (s_getF (b := .sl) (x := a) k7.c0 (s_ptr k7.oa hp7 (wp_callF (c_close1 M u7 hn7 (by omega)) fun y h8 c8 ⟨u8, ho⟩ => ?_)))))
      have w8 : Own n 1 h8 ⟨some w, 2, 2⟩ [slv a, slv b] := c8.own k7.ow fun q hq e => by cases hq; exact k7.fw _ d' hd7 (.inl e)
      have b8 : Own n 1 h8 b (qsOf (upd G' (2 + i) d') m) := c8.own k7.ob fun q hq e => k7.fb _ d' q hd7 hq (.inl e)
      have cell1 : Sw.cell h8 (w.add 1) = some (slv b) := cells_iff.1 w8.cells' 1 _ rfl
      refine s_getF (b := .sl) (x := b) cell1 (s_ptr b8 hq7 (s_close2 c8 u8 ho u7 hn7 (by omega) fun y2 h9 d2 zz c9 u9 nx9 hall hy1 hy2 => ?_))
      refine wp_call (c_sameInts hy1 hy2) fun r h10 e10 hr => ?_
      rw [sameB hr]
      refine s_ifF ?_
      rw [add_ok (by omega) (by omega)]
      have k10 := (k7.step hd7 c9 u9 nx9).ext e10
      have kk : Keep n h h10 := Keep.trans k1 (Keep.trans (e15.keep hn1) (Keep.trans (c7.keep hn5 fun x hx hy => by have := (c5.pool.lt hd hy).1; omega) (Keep.trans (c9.keep hn7 fun x hx hy => by have := (k7.pool.lt hd7 hy).1; omega) (e10.keep (Nat.le_trans hn7 c9.1)))))
      refine s_ret ⟨fun _ => ⟨((i : Int) + 1, ()), rfl, ⟨kk, i + 1, _, rfl, by omega, k10, fun j e hj => ?_⟩, by dsimp only; omega⟩, fun h => absurd rfl h⟩
      by_cases hji : j = 2 + i
      · subst hji; rw [upd_same] at hj; cases hj; rw [hall]; simp
      · rw [upd_other _ _ hji, upd_other _ _ hji] at hj; exact s1 j e hj
    · rw [ltI_not, natI_def, l1] at hc
      exact s_ret ⟨fun h => absurd h (by decide), fun _ => ⟨rfl, rfl, k1⟩⟩
  · rintro t vs h1 ⟨rfl, rfl, k1⟩
    exact s_tag (s_cast0 (s_ret ⟨rfl, k1, (true, ()), rfl, rfl⟩))

theorem Upd.chgF {F : Nat → Prop} {s : Sl} {a b : Heap} (u : Upd s a b) (hs : ∀ x, s.base = some x → F x.block) : Chg F a b := Chg.of_upd u fun x hx _ => hs x hx

/-- crowded. -/
theorem c_crowded (M : Meth P S) {enc : Int} {B : Nat} (p0 : Pool S n h G) (hno : ∀ i, G (2 + i) = none) (hn : n ≤ h.size) (hB : Small G B) :
    Gives P (F_law1_crowded S enc) [.one .ptr, .one .bool] h fun (y : Option Addr × Bool × Unit) h' => y.2.1 = true ∧ ∃ (G' : Pl) (w : Addr) (a b : Sl) (m : Nat), y.1 = some w ∧ Crowd S n h' G' w a b m ∧ m ≤ 5 ∧ G' 0 = G 0 ∧ G' 1 = G 1 ∧ Small G' (B + 5) := by
  unfold F_law1_crowded Gives
  refine s_newV (by decide) fun w h1 hw0 e1 ow1 => ?_
  have ow1 : Own h.size 1 h1 ⟨some w, 2, 2⟩ [slv ⟨none, 0, 0⟩, slv ⟨none, 0, 0⟩] := ow1
  have c1 : Crowd S n h1 G w ⟨none, 0, 0⟩ ⟨none, 0, 0⟩ 0 := {
    pool := p0.ext e1
    ow := ow1.mono hn
    oa := Own.nil ..
    ob := Own.nil ..
    there := fun i hi => by omega
    aw := fun q hq => by cases hq
    bw := fun q hq => by cases hq
    ab := fun q r hq => by cases hq
    fw := fun i d hi hx => by have := (p0.lt hi hx).2; omega
    fa := fun i d q hi hq => by cases hq
    fb := fun i d q hi hq => by cases hq }
  refine wp_while (fun (s : Int × Unit) h' => Ext h h' ∧ ∃ (i m : Nat) (G' : Pl) (a b : Sl), s.1 = i ∧ i ≤ 5 ∧ m ≤ i ∧ Crowd S n h' G' w a b m ∧ Small G' (B + 5) ∧ (∀ j, m ≤ j → G' (2 + j) = none) ∧ G' 0 = G 0 ∧ G' 1 = G 1 ∧ (∀ q, a.base = some q → h.size ≤ q.block) ∧ (∀ q, b.base = some q → h.size ≤ q.block)) (fun s _ => (5 - s.1).toNat)
    (fun t vs h' => t = 2 ∧ vs = [] ∧ Ext h h' ∧ ∃ (m : Nat) (G' : Pl) (a b : Sl), m ≤ 5 ∧ Crowd S n h' G' w a b m ∧ Small G' (B + 5) ∧ G' 0 = G 0 ∧ G' 1 = G 1) ⟨e1, 0, 0, G, _, _, rfl, by omega, by omega, c1, hB.mono (by omega), fun j _ => hno j, rfl, rfl, fun q hq => (by cases hq), fun q hq => (by cases hq)⟩ ?_ ?_
  · rintro ⟨i', u⟩ h2 ⟨e2, i, m, G', a, b, hi, hi5, hmi, c2, s2, none2, g0, g1, ha, hb⟩
    dsimp only at hi ⊢
    subst hi
    refine wp_ifB (fun hc => ?_) fun hc => ?_
    · rw [ltI_iff] at hc
      have hn2 : n ≤ h2.size := Nat.le_trans hn e2.1
      refine wp_bind (fun t vs h' => t = 0 ∧ vs = [] ∧ Ext h h' ∧ ∃ (m : Nat) (G' : Pl) (a b : Sl), m ≤ i + 1 ∧ Crowd S n h' G' w a b m ∧ Small G' (B + 5) ∧ (∀ j, m ≤ j → G' (2 + j) = none) ∧ G' 0 = G 0 ∧ G' 1 = G 1 ∧ (∀ q, a.base = some q → h.size ≤ q.block) ∧ (∀ q, b.base = some q → h.size ≤ q.block)) ?_ ?_
      · refine bind_val (tys := [.one (.int .i64)]) (fun (y : Int × Unit) _ => True) ?_ fun ⟨(k : Int), _⟩ h3 e3 _ => ?_
        · refine wp_ifB (fun _ => s_ret ⟨rfl, Ext.refl _, (_, ()), rfl, trivial⟩) fun _ => s_ret ⟨rfl, Ext.refl _, (_, ()), rfl, trivial⟩
        dsimp only
        have c3 := c2.ext e3
        refine wp_call c_NewStream fun ⟨sp, (se : Int), _⟩ h4 e4 hs => wp_call (c_ref_New (Nat.le_trans hn2 (e3.trans e4).1)) fun ⟨rp, (re : Int), _⟩ h5 e5 hr => ?_
        dsimp only at hs hr ⊢
        have c5 := (c3.ext e4).ext e5
        have e05 := ((e2.trans e3).trans e4).trans e5
        have hee : se = re ∧ noneB sp = noneB rp ∧ (noneB sp = true ∨ known k) := by
          rcases hs with ⟨hk, h1, h2⟩ | ⟨hk, h2, p, h1, _⟩ <;> rcases hr with ⟨hk', h1', h2'⟩ | ⟨hk', h2', q, h1', _⟩
          · exact ⟨by rw [h2, h2'], by rw [h1, h1'], .inl (by rw [h1]; rfl)⟩
          · exact absurd hk' hk
          · exact absurd hk hk'
          · exact ⟨by rw [h2, h2'], by rw [h1, h1']; rfl, .inr hk⟩
        refine bind_bool False ?_ fun c' h6 e6 hc' => wp_ifB (fun h => (hc'.1 h).elim) fun _ => ?_
        · refine wp_call (c_law1_num _) fun v h6 e6 hv => s_neF ((show v.1 = se from hv).trans hee.1) (s_ret ⟨rfl, e6, _, rfl, ?_⟩)
          rw [hee.2.1]
          have : eqB (noneB rp) (noneB rp) = true := by cases noneB rp <;> rfl
          rw [this]
          exact Iff.intro (fun h => by cases h) False.elim
        have c6 := c5.ext e6
        have e06 := e05.trans e6
        rcases hs with ⟨hk, h1', h2'⟩ | ⟨hk, h2', p, h1', hpb, st⟩
        · rw [h1'] at hee ⊢
          refine bind_bool True (s_ifT (s_ret ⟨rfl, Ext.refl _, true, rfl, Iff.intro (fun _ => trivial) fun _ => rfl⟩)) fun c' h7 e7 hc' => s_boolT (hc'.2 trivial) (s_ret ⟨rfl, rfl, e06.trans e7, m, G', a, b, by omega, c6.ext e7, s2, none2, g0, g1, ha, hb⟩)
        rcases hr with ⟨hk', _⟩ | ⟨_, hre, q, hq, hqb, hqs, rt⟩
        · exact absurd hk hk'
        subst h1'
        subst hq
        refine bind_bool False (s_ifF (s_ret ⟨rfl, Ext.refl _, false, rfl, Iff.intro (fun h => by cases h) False.elim⟩)) fun c' h7 e7 hc' => wp_ifB (fun h => (hc'.1 h).elim) fun _ => ?_
        have e67 := e6.trans e7
        have c7 := c6.ext e7
        have pq : p.block ≠ q.block := by have := st.lt; omega
        have d0 := duo_new hk ((st.ext e5).ext e67) (rt.ext e67) (by have := e3.1; omega) pq
        have hfoot : ∀ x, (DS.mk p q k ⟨none, 0, 0⟩ ⟨none, 0, 0⟩ [] 0).foot x → h3.size ≤ x := by
          rintro x (rfl | ⟨z, hz, rfl⟩ | rfl | ⟨z, hz, rfl⟩)
          · exact hpb
          · cases hz
          · have := e4.1; dsimp only; omega
          · cases hz
        generalize hdd : (DS.mk p q k ⟨none, 0, 0⟩ ⟨none, 0, 0⟩ [] 0) = d at d0 hfoot
        have hdp : d.p = p := by rw [← hdd]
        have hdq : d.q = q := by rw [← hdd]
        have hda : d.all = [] := by rw [← hdd]
        rw [← hdp, ← hdq]
        refine s_allocL (k := .u8) [65, wrapI .u8 (subI .i64 226 i), wrapI .u8 (addI .i64 129 i)] (fun v hv => by
          simp only [List.mem_cons, List.not_mem_nil, or_false] at hv
          rcases hv with rfl | rfl | rfl
          · exact fits_u8.2 (by omega)
          · exact range_u8 _
          · exact range_u8 _) (by simp) fun h8 e8 o8 => wp_call (c_copyBytes o8.lst (by simp)) fun v h9 e9 hv => ?_
        have hv : OwnL h8.size .u8 h9 v.1 _ := hv
        have c9 := (c7.ext e8).ext e9
        have d9 := (d0.ext e8).ext e9
        have e39 : Ext h3 h9 := (((e4.trans e5).trans e67).trans e8).trans e9
        have e09 : Ext h h9 := (e2.trans e3).trans e39
        have hn9 : n ≤ h9.size := Nat.le_trans hn e09.1
        refine s_feed1 M d9 hn9 hv.lst (by rw [hda]; simp) fun y1 h10 hm10 => s_feed2 hm10 d9 hn9 (o8.ext e9).lst (fun _ z hz hx => ?_) (by rw [hda]; simp) fun y2 h11 d' zz c11 u11 nx hl11 hy1 hy2 _ _ => ?_
        · cases hz
          have := (d0.lo _ hx).2
          dsimp only at this; omega
        rw [hda] at hl11
        have hl11' : d'.all.length = 3 := by simpa using hl11
        have f11 : ∀ x, d'.foot x → h3.size ≤ x := fun x hx => by
          rcases nx.foot x hx with hh | hh
          · exact hfoot x hh
          · have := e39.1; omega
        have e03 := e2.trans e3
        have k11 : Crowd S n h11 G' w a b m := c9.chg c11 (fun j e x hj hx hy => by have := (c3.pool.lt hj hx).2; have := hfoot x hy; omega) (fun hy => by have := (c3.ow.lt rfl).2; have := hfoot _ hy; omega)
          (fun z hz hy => by have := (c3.oa.lt hz).2; have := hfoot _ hy; omega) (fun z hz hy => by have := (c3.ob.lt hz).2; have := hfoot _ hy; omega)
        refine wp_call (c_sameInts hy1 hy2) fun r h12 e12 hr => ?_
        rw [sameB hr]
        have k12 := k11.ext e12
        have u12 := u11.ext e12
        have hn12 : n ≤ h12.size := Nat.le_trans hn9 (Nat.le_trans c11.1 e12.1)
        obtain ⟨l1, l2⟩ := k12.len
        have e0c : Ext h h12 := by
          have : Chg d.foot h9 h12 := c11.ext e12
          exact Keep.trans e09 (this.keep e09.1 fun x hx hy => by have := hfoot x hy; have := e03.1; omega)
        refine s_ifF (wp_load1 (b := .sl) _ a rfl k12.c0 (wp_push k12.oa hn12 (new := [.pointer (some d.p)]) rfl (by intro v hv; rw [List.mem_singleton.1 hv]; rfl) rfl (by omega) (by omega) fun ra h13 oa13 la13 ua13 ba13 => ?_))
        have aw := k12.aw
        have ow13 := k12.ow.keep (h' := h13) fun z hz => by cases hz; exact ua13.2.1 _ (k12.ow.lt rfl).2 fun z hz e => aw z hz e
        refine s_setC' (slv ra) ow13 (by simp) rfl fun h14 ow14 u14 => ?_
        have ra_ne : ∀ z, ra.base = some z → z.block ≠ w.block := fun z hz => by
          rcases ba13 z hz with hh | hh
          · exact aw z hh
          · have := (k12.ow.lt rfl).2; omega
        have oa14 : Own n 1 h14 ra (psOf G' m ++ [.pointer (some d.p)]) := oa13.keep fun z hz => u14.2.1 _ (oa13.lt hz).2 fun y hy e => by cases hy; exact ra_ne z hz e.symm
        have ob13 : Own n 1 h13 b (qsOf G' m) := k12.ob.keep fun z hz => ua13.2.1 _ (k12.ob.lt hz).2 fun y hy e => k12.ab y z hy hz e
        have ob14 : Own n 1 h14 b (qsOf G' m) := ob13.keep fun z hz => u14.2.1 _ (ob13.lt hz).2 fun y hy e => by cases hy; exact k12.bw z hz e.symm
        have s12 : h12.size ≤ h13.size := ua13.1
        have s13 : h13.size ≤ h14.size := u14.1
        refine wp_load1 (b := .sl) _ b rfl (cells_iff.1 ow14.cells' 1 _ rfl) (wp_push ob14 (by omega) (new := [.pointer (some d.q)]) rfl (by intro v hv; rw [List.mem_singleton.1 hv]; rfl) rfl (by omega) (by omega) fun rb h15 ob15 lb15 ub15 bb15 => ?_)
        have ow15 := ow14.keep (h' := h15) fun z hz => by cases hz; exact ub15.2.1 _ (ow14.lt rfl).2 fun z hz e => k12.bw z hz e
        refine s_setC' (slv rb) ow15 (by simp) rfl fun h16 ow16 u16 => ?_
        have rb_ne : ∀ z, rb.base = some z → z.block ≠ w.block := fun z hz => by
          rcases bb15 z hz with hh | hh
          · exact k12.bw z hh
          · have := (ow14.lt rfl).2; omega
        have rab : ∀ x y, ra.base = some x → b.base = some y → x.block ≠ y.block := fun x y hx hy e => by
          rcases ba13 x hx with hh | hh
          · exact k12.ab x y hh hy e
          · have := (k12.ob.lt hy).2; omega
        have oa15 : Own n 1 h15 ra (psOf G' m ++ [.pointer (some d.p)]) := oa14.keep fun z hz => ub15.2.1 _ (oa14.lt hz).2 fun y hy e => rab z y hz hy e.symm
        have oa16 : Own n 1 h16 ra (psOf G' m ++ [.pointer (some d.p)]) := oa15.keep fun z hz => u16.2.1 _ (oa15.lt hz).2 fun y hy e => by cases hy; exact ra_ne z hz e.symm
        have ob16 : Own n 1 h16 rb (qsOf G' m ++ [.pointer (some d.q)]) := ob15.keep fun z hz => u16.2.1 _ (ob15.lt hz).2 fun y hy e => by cases hy; exact rb_ne z hz e.symm
        have s15 : h14.size ≤ h15.size := ub15.1
        have s16 : h15.size ≤ h16.size := u16.1
        -- what has changed since h12
        let F : Nat → Prop := fun x => x = w.block ∨ (∃ z, a.base = some z ∧ z.block = x) ∨ (∃ z, b.base = some z ∧ z.block = x)
        have cF : Chg F h12 h16 := (((Chg.of_upd ua13 fun z hz _ => .inr (.inl ⟨z, hz, rfl⟩)).upd u14 fun z hz _ => by cases hz; exact .inl rfl).upd ub15 fun z hz _ => .inr (.inr ⟨z, hz, rfl⟩)).upd u16 fun z hz _ => by cases hz; exact .inl rfl
        have hFG : ∀ j e x, G' j = some e → e.foot x → ¬ F x := fun j e x hj hx => by
          rintro (rfl | ⟨z, hz, rfl⟩ | ⟨z, hz, rfl⟩)
          · exact k12.fw j e hj hx
          · exact k12.fa j e z hj hz hx
          · exact k12.fb j e z hj hz hx
        have hFd : ∀ x, d'.foot x → ¬ F x := fun x hx => by
          have hx3 := f11 x hx
          rintro (rfl | ⟨z, hz, rfl⟩ | ⟨z, hz, rfl⟩)
          · have := (c3.ow.lt rfl).2; omega
          · have := (c3.oa.lt hz).2; omega
          · have := (c3.ob.lt hz).2; omega
        have u16' : Duo S n h16 d' := u12.chg cF hFd
        have p16 : Pool S n h16 G' := k12.pool.chg cF hFG
        have hnew : G' (2 + m) = none := none2 m (Nat.le_refl _)
        have padd : Pool S n h16 (upd G' (2 + m) d') := p16.add (m := h3.size) u16' f11 fun j e x hj hx => (c3.pool.lt hj hx).2
        have aF : ∀ z, ra.base = some z → (a.base = some z ∨ h12.size ≤ z.block) := ba13
        refine s_ret ⟨rfl, rfl, ?_, m + 1, upd G' (2 + m) d', ra, rb, by omega, ?_, s2.upd (by rw [hl11']; omega), fun j hj => by rw [upd_other _ _ (by omega)]; exact none2 j (by omega), by rw [upd_other _ _ (by omega)]; exact g0, by rw [upd_other _ _ (by omega)]; exact g1, ?_, ?_⟩
        · refine Keep.trans e0c (cF.keep e0c.1 fun x hx => ?_)
          rintro (rfl | ⟨z, hz, rfl⟩ | ⟨z, hz, rfl⟩)
          · omega
          · have := ha z hz; omega
          · have := hb z hz; omega
        · exact {
            pool := padd
            ow := ow16
            oa := by rw [psOf_new, nx.p]; exact oa16
            ob := by rw [qsOf_new, nx.q]; exact ob16
            there := fun j hj => by
              by_cases hjm : j = m
              · subst hjm; exact ⟨d', upd_same ..⟩
              · rw [upd_other _ _ (by omega)]; exact k12.there j (by omega)
            aw := ra_ne
            bw := rb_ne
            ab := fun x y hx hy e => by
              rcases bb15 y hy with hh | hh
              · exact rab x y hx hh e
              · have := (oa14.lt hx).2; omega
            fw := fun j e hj hx => by
              by_cases hji : j = 2 + m
              · subst hji; rw [upd_same] at hj; cases hj; exact hFd _ hx (.inl rfl)
              · rw [upd_other _ _ hji] at hj; exact k12.fw j e hj hx
            fa := fun j e z hj hz hx => by
              by_cases hji : j = 2 + m
              · subst hji; rw [upd_same] at hj; cases hj
                rcases ba13 z hz with hh | hh
                · exact hFd _ hx (.inr (.inl ⟨z, hh, rfl⟩))
                · have := (u12.lo _ hx).2; omega
              · rw [upd_other _ _ hji] at hj
                rcases ba13 z hz with hh | hh
                · exact k12.fa j e z hj hh hx
                · have := (k12.pool.lt hj hx).2; omega
            fb := fun j e z hj hz hx => by
              by_cases hji : j = 2 + m
              · subst hji; rw [upd_same] at hj; cases hj
                rcases bb15 z hz with hh | hh
                · exact hFd _ hx (.inr (.inr ⟨z, hh, rfl⟩))
                · have := (u12.lo _ hx).2; omega
              · rw [upd_other _ _ hji] at hj
                rcases bb15 z hz with hh | hh
                · exact k12.fb j e z hj hh hx
                · have := (k12.pool.lt hj hx).2; omega }
        · intro z hz
          rcases ba13 z hz with hh | hh
          · exact ha z hh
          · have := e0c.1; omega
        · intro z hz
          rcases bb15 z hz with hh | hh
          · exact hb z hh
          · have := e0c.1; omega
      · rintro t vs h3 ⟨rfl, rfl, e3, m', G2, a', b', hm', c3, s3, n3, g0', g1', ha', hb'⟩
        refine s_skip (by decide) (s_tag (s_cast0 ?_))
        rw [add_ok (by omega) (by omega)]
        exact s_ret ⟨fun _ => ⟨((i : Int) + 1, ()), rfl, ⟨e3, i + 1, m', G2, a', b', rfl, by omega, hm', c3, s3, n3, g0', g1', ha', hb'⟩, by dsimp only; omega⟩, fun h => absurd rfl h⟩
    · exact s_ret ⟨fun h => absurd h (by decide), fun _ => ⟨rfl, rfl, e2, m, G', a, b, by omega, c2, s2, g0, g1⟩⟩
  · rintro t vs h2 ⟨rfl, rfl, e2, m, G', a, b, hm, c2, s2, g0, g1⟩
    exact s_tag (s_cast0 (s_ret ⟨rfl, e2, (some w, true, ()), rfl, rfl, G', w, a, b, m, rfl, c2, hm, g0, g1, s2⟩))
end Go.Sw.Codec

set_option linter.unusedVariables false
set_option linter.unusedSimpArgs false
set_option maxRecDepth 100000
namespace Go.Sw.Codec
variable {P : Program} {S : Ids} {h : Heap} {Q : Nat → List Value → Heap → Prop} {n : Nat}

/-- Two streams, of the program's and of the document's, or none of both. -/
def Maybe (G : Pl) (i : Nat) (sp rp : Option Addr) : Prop := (G i = none ∧ sp = none ∧ rp = none) ∨ ∃ d, G i = some d ∧ sp = some d.p ∧ rp = some d.q
theorem Maybe.none {G : Pl} {i : Nat} {sp rp : Option Addr} (m : Maybe G i sp rp) : noneB sp = noneB rp := by
  rcases m with ⟨_, rfl, rfl⟩ | ⟨d, _, rfl, rfl⟩ <;> rfl
theorem Maybe.upd {G : Pl} {i j : Nat} {sp rp : Option Addr} {d d' : DS} (m : Maybe G i sp rp) (hj : G j = some d) (hp : d'.p = d.p) (hq : d'.q = d.q) : Maybe (upd G j d') i sp rp := by
  by_cases hij : i = j
  · subst hij
    rcases m with ⟨h, _⟩ | ⟨e, he, h1, h2⟩
    · rw [h] at hj; cases hj
    · rw [he] at hj; cases hj
      exact .inr ⟨d', upd_same .., by rw [hp]; exact h1, by rw [hq]; exact h2⟩
  · unfold Maybe; rw [upd_other _ _ hij]; exact m

abbrev OpSh : Sh := .str (.pair (.int .i64) (.pair (.int .i64) (.pair (.list (.int .u8)) .unit)))
abbrev OpD := OpSh.den

/-- The two streams that a law's script is played on. -/
def two (G : Pl) (h : Heap) (n : Nat) (S : Ids) (r1 r2 r3 r4 : Option Addr × Int × Unit) : Prop :=
  Pool S n h G ∧ Maybe G 0 r1.1 r3.1 ∧ Maybe G 1 r2.1 r4.1 ∧ r1.2.1 = r3.2.1 ∧ r2.2.1 = r4.2.1 ∧ (∀ i, G (2 + i) = none) ∧ (∀ i d, G i = some d → d.all = []) ∧ ∀ i d x, G i = some d → d.foot x → n ≤ x

theorem s_two {enc other : Int} {K : Option Addr × Int × Unit → Option Addr × Int × Unit → Option Addr × Int × Unit → Option Addr × Int × Unit → Prog} (hcont : ∀ r1 r2 r3 r4 h' G, Ext h h' → two G h' h.size S r1 r2 r3 r4 → wp P (K r1 r2 r3 r4) h' Q) :
    wp P (.call (F_codec_NewStream S enc) [(Ty.one B.ptr), (Ty.one (B.int IntKind.i64))] fun (r1 : ((Option Addr) × (Int × Unit))) =>
  .call (F_codec_NewStream S other) [(Ty.one B.ptr), (Ty.one (B.int IntKind.i64))] fun (r2 : ((Option Addr) × (Int × Unit))) =>
  .call (F_ref1_NewStream S enc) [(Ty.one B.ptr), (Ty.one (B.int IntKind.i64))] fun (r3 : ((Option Addr) × (Int × Unit))) =>
  .call (F_ref1_NewStream S other) [(Ty.one B.ptr), (Ty.one (B.int IntKind.i64))] fun (r4 : ((Option Addr) × (Int × Unit))) => K r1 r2 r3 r4) h Q := by
  refine wp_call c_NewStream fun ⟨sp, (se : Int), _⟩ h1 e1 hs => wp_call c_NewStream fun ⟨tp, (te : Int), _⟩ h2 e2 ht => wp_call (c_ref_New (n := h.size) (e1.trans e2).1) fun ⟨rp, (re : Int), _⟩ h3 e3 hr => wp_call (c_ref_New (n := h.size) ((e1.trans e2).trans e3).1) fun ⟨up, (ue : Int), _⟩ h4 e4 hu => ?_
  dsimp only at hs ht hr hu
  have e14 := (e2.trans e3).trans e4
  have P0 : Pool S h.size h4 (fun _ => none) := ⟨fun i d hi => (by cases hi), fun i j d e _ hi => (by cases hi)⟩
  have foot0 : ∀ {p q : Addr} {k : Int} {x : Nat}, (DS.mk p q k ⟨none, 0, 0⟩ ⟨none, 0, 0⟩ [] 0).foot x → x = p.block ∨ x = q.block := by
    rintro p q k x (rfl | ⟨z, hz, rfl⟩ | rfl | ⟨z, hz, rfl⟩)
    · exact .inl rfl
    · cases hz
    · exact .inr rfl
    · cases hz
  -- the first
  have one : ∃ (G : Pl), Pool S h.size h4 G ∧ Maybe G 0 sp rp ∧ se = re ∧ (∀ i, G (1 + i) = none) ∧ (∀ i d, G i = some d → d.all = []) ∧ ∀ i d x, G i = some d → d.foot x → h.size ≤ x ∧ (∃ p q : Addr, sp = some p ∧ rp = some q ∧ (x = p.block ∨ x = q.block)) := by
    rcases hs with ⟨hk, hs1, hs2⟩ | ⟨hk, hs2, p, hs1, hpb, st⟩ <;> rcases hr with ⟨hk', hr1, hr2⟩ | ⟨hk', hr2, q, hr1, hqb, hqs, rt⟩
    · exact ⟨fun _ => none, P0, .inl ⟨rfl, hs1, hr1⟩, by rw [hs2, hr2], fun _ => rfl, fun i d hi => (by cases hi), fun i d x hi => (by cases hi)⟩
    · exact absurd hk' hk
    · exact absurd hk hk'
    · have hne : p.block ≠ q.block := by have := st.lt; have := e2.1; omega
      have d0 := duo_new hk (st.ext e14) (rt.ext e4) hpb hne
      have hn : ∀ x, (DS.mk p q enc ⟨none, 0, 0⟩ ⟨none, 0, 0⟩ [] 0).foot x → h.size ≤ x := fun x hx => by
        rcases foot0 hx with rfl | rfl
        · exact hpb
        · have := e1.1; have := e2.1; omega
      refine ⟨_, P0.add (i := 0) (m := h.size) d0 hn fun j e x hj => (by cases hj), .inr ⟨_, upd_same .., hs1, hr1⟩, by rw [hs2, hr2], fun i => upd_other _ _ (by omega), fun i d hi => ?_, fun i d x hi hx => ?_⟩
      · by_cases h0 : i = 0
        · subst h0; rw [upd_same] at hi; cases hi; rfl
        · rw [upd_other _ _ h0] at hi; cases hi
      · by_cases h0 : i = 0
        · subst h0; rw [upd_same] at hi; cases hi; exact ⟨hn x hx, p, q, hs1, hr1, foot0 hx⟩
        · rw [upd_other _ _ h0] at hi; cases hi
  obtain ⟨G, pG, mG, eG, nG, aG, fG⟩ := one
  rcases ht with ⟨hk, hs1, hs2⟩ | ⟨hk, hs2, p, hs1, hpb, st⟩ <;> rcases hu with ⟨hk', hr1, hr2⟩ | ⟨hk', hr2, q, hr1, hqb, hqs, rt⟩
  · exact hcont _ _ _ _ h4 G (e1.trans e14) ⟨pG, mG, .inl ⟨nG 0, hs1, hr1⟩, eG, by dsimp only; rw [hs2, hr2], fun i => by rw [show 2 + i = 1 + (1 + i) by omega]; exact nG _, aG, fun i d x hi hx => (fG i d x hi hx).1⟩
  · exact absurd hk' hk
  · exact absurd hk hk'
  · have hne : p.block ≠ q.block := by have := st.lt; have := e3.1; omega
    have d0 := duo_new hk (st.ext (e3.trans e4)) rt (n := h.size) (by have := e1.1; omega) hne
    have hap : ∀ j e x, G j = some e → e.foot x → ¬ (DS.mk p q other ⟨none, 0, 0⟩ ⟨none, 0, 0⟩ [] 0).foot x := fun j e x hj hx hy => by
      obtain ⟨_, p', q', hp', hq', hpq⟩ := fG j e x hj hx
      have h1' : p'.block < h1.size ∧ h.size ≤ p'.block := by
        rcases hs with ⟨_, hs1, _⟩ | ⟨_, _, p2, hs1, hpb2, st2⟩
        · rw [hs1] at hp'; cases hp'
        · rw [hs1] at hp'; cases hp'; exact ⟨st2.lt, hpb2⟩
      have h2' : h2.size ≤ q'.block ∧ q'.block < h3.size := by
        rcases hr with ⟨_, hr1, _⟩ | ⟨_, _, q2, hr1, hqb2, hqs2, _⟩
        · rw [hr1] at hq'; cases hq'
        · rw [hr1] at hq'; cases hq'; exact ⟨hqb2, hqs2⟩
      have h3' := st.lt
      have := e2.1
      rcases foot0 hy with rfl | rfl <;> rcases hpq with h | h <;> omega
    have padd : Pool S h.size h4 (upd G 1 ⟨p, q, other, ⟨none, 0, 0⟩, ⟨none, 0, 0⟩, [], 0⟩) := by
      refine ⟨fun j e hj => ?_, fun j k e f hjk hj hk' x hx hy => ?_⟩
      · by_cases h1 : j = 1
        · subst h1; rw [upd_same] at hj; cases hj; exact d0
        · rw [upd_other _ _ h1] at hj; exact pG.duo j e hj
      · by_cases h1 : j = 1
        · subst h1; rw [upd_same] at hj; cases hj
          rw [upd_other _ _ (Ne.symm hjk)] at hk'
          exact hap k f x hk' hy hx
        · rw [upd_other _ _ h1] at hj
          by_cases h2 : k = 1
          · subst h2; rw [upd_same] at hk'; cases hk'
            exact hap j e x hj hx hy
          · rw [upd_other _ _ h2] at hk'; exact pG.apart j k e f hjk hj hk' x hx hy
    refine hcont _ _ _ _ h4 _ (e1.trans e14) ⟨padd, ?_, .inr ⟨_, upd_same .., hs1, hr1⟩, eG, by dsimp only; rw [hs2, hr2], fun i => by rw [upd_other _ _ (by omega), show 2 + i = 1 + (1 + i) by omega]; exact nG _, fun i d hi => ?_, fun i d x hi hx => ?_⟩
    · unfold Maybe; rw [upd_other _ _ (by decide)]; exact mG
    · by_cases h1 : i = 1
      · subst h1; rw [upd_same] at hi; cases hi; rfl
      · rw [upd_other _ _ h1] at hi; exact aG i d hi
    · by_cases h1 : i = 1
      · subst h1; rw [upd_same] at hi; cases hi
        rcases foot0 hx with rfl | rfl
        · have := e1.1; omega
        · have := e1.1; have := e2.1; have := e3.1; omega
      · rw [upd_other _ _ h1] at hi; exact (fG i d x hi hx).1


/-- One step of the script, on the stream of number k, if there is one. -/
theorem s_one (M : Meth P S) {G : Pl} {w : Addr} {a b : Sl} {m B : Nat} {j : Nat} {sp rp : Option Addr} {k who : Int} {s : Sl} {x : List Int} {K : Bool × Unit → Prog} (c : Crowd S n h G w a b m) (hn : n ≤ h.size) (hm : Maybe G j sp rp) (hsp : noneB sp = false) (hB : Small G B) (hb : Lst .u8 h s x)
    (hs : x ≠ [] → ∀ q, s.base = some q → ∀ i d, G i = some d → ¬ d.foot q.block) (hl : B + 2 * x.length ≤ 1099511627776)
    (hk : ∀ h' G' y, Chg (fun z => ∃ i d, G i = some d ∧ d.foot z) h h' → Crowd S n h' G' w a b m → (∀ i sp rp, Maybe G i sp rp → Maybe G' i sp rp) → Small G' (B + 2 * x.length) → (∀ i d z, G' i = some d → d.foot z → (∃ d0, G i = some d0 ∧ d0.foot z) ∨ h.size ≤ z) → y.1 = true → wp P (K y) h' Q) :
    wp P (.call (F_law1_played S sp rp (k, who, s, ())) [.one .bool] K) h Q := by
  rcases hm with ⟨_, rfl, _⟩ | ⟨d, hd, rfl, rfl⟩
  · cases hsp
  have u := c.pool.duo _ d hd
  have hsm := hB _ d hd
  refine wp_callF (c_played M (k := k) (w := who) u hn hb (fun hx q hq => hs hx q hq _ d hd) (by omega)) fun y h' c' ⟨hy, ⟨d', u', nx, hl'⟩⟩ => ?_
  refine hk h' (upd G j d') y (c'.mono fun i _ hx => ⟨j, d, hd, hx⟩) (c.step hd c' u' nx) (fun i sp rp mm => mm.upd hd nx.p nx.q) ((hB.mono (by omega)).upd (by omega)) (fun i e z hi hz => ?_) hy
  by_cases hij : i = j
  · subst hij; rw [upd_same] at hi; cases hi
    rcases nx.foot z hz with hh | hh
    · exact .inl ⟨d, hd, hh⟩
    · exact .inr hh
  · rw [upd_other _ _ hij] at hi; exact .inl ⟨e, hi, hz⟩

theorem rem2_no (w : Int) : eqI (remI .i64 w 2) 0 = true ∨ neI (remI .i64 w 2) 0 = true := by
  by_cases h : remI .i64 w 2 = 0
  · exact .inl (eqI_iff.2 h)
  · exact .inr (neI_iff.2 h)

theorem c_streams (M : Meth P S) {enc other : Int} {x : Sl × List OpD} (ho : (Sh.list OpSh).ok h x) (htot : (x.2.map fun o => 4 * o.2.2.1.2.length).sum ≤ 1099511620000) :
    Gives P (F_law1_streams S enc other x.1) [.one .bool] h fun (y : Bool × Unit) _ => y.1 = true := by
  unfold F_law1_streams Gives
  refine s_two fun r1 r2 r3 r4 h1 G e1 ⟨p1, m1, m2, q1, q2, hno, hall, hlo⟩ => ?_
  have hB : Small G 0 := fun i d hi => by rw [hall i d hi]; exact Nat.le_refl _
  refine bind_bool False ?_ fun c' h2 e2 hc' => wp_ifB (fun h => (hc'.1 h).elim) fun _ => ?_
  · refine wp_call (c_law1_num _) fun v h2 e2 hv => s_neF ((show v.1 = r1.2.1 from hv).trans q1) (wp_call (c_law1_num _) fun v h3 e3 hv => s_neF ((show v.1 = r2.2.1 from hv).trans q2) ?_)
    have hs : ∀ a, eqB a a = true := fun a => by cases a <;> rfl
    rw [m1.none, m2.none, hs, hs]
    exact s_ifF (s_ret ⟨rfl, e2.trans e3, false, rfl, Iff.intro (fun h => by cases h) False.elim⟩)
  have e12 := e1.trans e2
  refine wp_call (c_crowded M (p1.ext e2) hno e12.1 hB) fun ⟨wp', (ok : Bool), _⟩ h3 e3 ⟨hok, G', w, a, b, m, hw, cr, hm5, g0, g1, hB'⟩ => ?_
  have hok : ok = true := hok
  have hw : wp' = some w := hw
  subst hok
  subst hw
  have e13 := e12.trans e3
  have m1' : Maybe G' 0 r1.1 r3.1 := by unfold Maybe; rw [g0]; exact m1
  have m2' : Maybe G' 1 r2.1 r4.1 := by unfold Maybe; rw [g1]; exact m2
  refine s_ifF ?_
  refine wp_while (fun (s : Int × Unit) h' => Ext h h' ∧ ∃ (i : Nat) (G' : Pl), s.1 = i ∧ i ≤ x.2.length ∧ Crowd S h.size h' G' w a b m ∧ Maybe G' 0 r1.1 r3.1 ∧ Maybe G' 1 r2.1 r4.1 ∧ Small G' (5 + ((x.2.take i).map fun o => 4 * o.2.2.1.2.length).sum)) (fun s _ => ((x.2.length : Int) - s.1).toNat)
    (fun t vs h' => t = 2 ∧ vs = [] ∧ Ext h h' ∧ ∃ (G' : Pl), Crowd S h.size h' G' w a b m ∧ Small G' 1099511625000) ⟨e13, 0, G', rfl, by omega, cr, m1', m2', by simpa using hB'⟩ ?_ ?_
  · rintro ⟨i', u⟩ h4 ⟨e4, i, G2, hi, hil, c4, n1, n2, s4⟩
    dsimp only at hi ⊢
    subst hi
    have hxl := ho.len
    have hlen := ho.2.1
    have hmax := ho.2.2.1
    refine wp_ifB (fun hc => ?_) fun hc => ?_
    · rw [ltI_iff, natI_def, hxl] at hc
      obtain ⟨o, hio⟩ : ∃ o, x.2[i]? = some o := ⟨x.2[i]'(by omega), List.getElem?_eq_getElem (by omega)⟩
      have hst := sum_take (fun o : OpD => 4 * o.2.2.1.2.length) hio
      have hsl := sum_take_le (fun o : OpD => 4 * o.2.2.1.2.length) x.2 (i + 1)
      have hoe := ho.el hio
      refine s_atSh (ho.ext e4) (by omega) (by simpa using hio) rfl (z := (o.1, o.2.1, o.2.2.1.1, ())) rfl ?_
      dsimp only
      refine s_newV (by simp) fun ad h5 had e5 o5 => s_putV [i64v o.1, i64v o.2.1, slv o.2.2.1.1] o5 rfl (by intro v hv; simp only [List.mem_cons, List.not_mem_nil, or_false] at hv; rcases hv with rfl | rfl | rfl <;> rfl) fun h6 o6 u6 z6 => ?_
      have e46 : Ext h4 h6 := by
        refine ⟨by have := e5.1; omega, fun q hq => (u6.2.1 q (by have := e5.1; omega) fun z hz e => by cases hz; omega).trans (e5.2.1 q hq), fun z hz => u6.2.2 z (e5.2.2 z hz)⟩
      have c6 := c4.ext e46
      have e06 := e4.trans e46
      obtain ⟨ko, wo, so, uo⟩ := o
      obtain ⟨so, lo⟩ := so
      dsimp only at hst ⊢
      have hlst : Lst .u8 h so lo := Sh.lst hoe.2.2.1
      have ld1 : ∀ {K : Int → Prog} {Q : Nat → List Value → Heap → Prop} {h'}, Ext h6 h' → wp P (K wo) h' Q → wp P (.load (.one (.int .i64)) (shiftTo (some ad) 1) K) h' Q := fun e hk => wp_load1 (b := .int .i64) _ wo rfl (cells_iff.1 (o6.ext e).cells' 1 _ rfl) hk
      have ldA : ∀ {K : Int × Int × Sl × Unit → Prog} {Q : Nat → List Value → Heap → Prop} {h'}, Ext h6 h' → wp P (K (ko, wo, so, ())) h' Q → wp P (.load (.agg [.int .i64, .int .i64, .sl]) (some ad) K) h' Q := fun e hk => ⟨ad, rfl, (ko, wo, so, ()), (o6.ext e).cells', hk⟩
      have hfree : ∀ {h' : Heap} {G'' : Pl}, Pool S h.size h' G'' → lo ≠ [] → ∀ q, so.base = some q → ∀ i d, G'' i = some d → ¬ d.foot q.block := fun {h'} {G''} pp hne q hq i d hi hx => by
        obtain ⟨y0, l0, hl0⟩ : ∃ y l, lo = y :: l := by cases lo with | nil => exact absurd rfl hne | cons y l => exact ⟨y, l, rfl⟩
        obtain ⟨q', eq, cq⟩ := hlst.rd.at (i := 0) (by rw [hl0]; simp)
        rw [hq] at eq; cases eq
        have := cell_lt cq
        rw [add_block] at this
        have := (pp.lt hi hx).1
        omega
      let F : Nat → Prop := fun z => ∃ i d, G2 i = some d ∧ d.foot z
      have hFad : ¬ F ad.block := fun ⟨j, e, hj, hx⟩ => by have := (c4.pool.lt hj hx).2; omega
      have hF0 : ∀ z, z < h.size → ¬ F z := fun z hz ⟨j, e, hj, hx⟩ => by have := (c4.pool.lt hj hx).1; omega
      have hn6 : h.size ≤ h6.size := e06.1
      -- the first stream
      refine wp_bind (fun t vs h' => t = 0 ∧ vs = [.bool true] ∧ Chg F h6 h' ∧ ∃ (G' : Pl), Crowd S h.size h' G' w a b m ∧ Maybe G' 0 r1.1 r3.1 ∧ Maybe G' 1 r2.1 r4.1 ∧ Small G' (5 + ((x.2.take i).map fun o => 4 * o.2.2.1.2.length).sum + 2 * lo.length) ∧
        (∀ j e z, G' j = some e → e.foot z → F z ∨ h6.size ≤ z)) ?_ ?_
      · refine bind_val (tys := [.one .bool]) (fun (y : Bool × Unit) _ => y.1 = true → noneB r1.1 = false) ?_ fun ⟨(y : Bool), _⟩ h7 e7 hy => ?_
        · refine ld1 (Ext.refl _) (s_not (wp_ifB (fun hd => wp_ifB (fun he => ?_) fun he => ?_) fun hd => ?_))
          · exact s_ret ⟨rfl, Ext.refl _, (_, ()), rfl, fun _ => notB_iff.1 he⟩
          · exact s_ret ⟨rfl, Ext.refl _, (false, ()), rfl, fun h => by cases h⟩
          · exact s_ret ⟨rfl, Ext.refl _, (false, ()), rfl, fun h => by cases h⟩
        dsimp only at hy ⊢
        have c7 := c6.ext e7
        refine wp_ifB (fun hd => ldA e7 ?_) fun hd => s_ret ⟨rfl, rfl, Chg.of_ext e7, G2, c7, n1, n2, s4.mono (by omega), fun j e z hj hx => .inl ⟨j, e, hj, hx⟩⟩
        refine s_one M c7 (Nat.le_trans hn6 e7.1) n1 (hy hd) s4 ((hlst.ext e06).ext e7) (hfree c7.pool) (by omega) fun h8 G3 y c8 k8 mm s8 f8 hy => s_ret ⟨rfl, by rw [hy], Chg.pre e7 c8, G3, k8, mm _ _ _ n1, mm _ _ _ n2, s8, fun j e z hj hx => ?_⟩
        rcases f8 j e z hj hx with ⟨d0, h0, h1⟩ | hh
        · exact .inl ⟨j, d0, h0, h1⟩
        · right; have := e7.1; omega
      rintro t vs h7 ⟨rfl, rfl, c7, G3, k7, n1', n2', s7, f7⟩
      have o7 := c7.own o6 fun z hz hx => by cases hz; exact hFad hx
      have hn7 : h.size ≤ h7.size := Nat.le_trans hn6 c7.1
      have hl7 : Lst .u8 h7 so lo := hlst.ext (Keep.trans e06 (c7.keep hn6 hF0))
      refine s_tag (s_castB ?_)
      refine wp_bind (fun t vs h' => t = 0 ∧ vs = [.bool true] ∧ Ext h h' ∧ ∃ (G' : Pl), Crowd S h.size h' G' w a b m ∧ Maybe G' 0 r1.1 r3.1 ∧ Maybe G' 1 r2.1 r4.1 ∧ Small G' (5 + ((x.2.take i).map fun o => 4 * o.2.2.1.2.length).sum + 4 * lo.length)) ?_ ?_
      · refine bind_val (tys := [.one .bool]) (fun (y : Bool × Unit) _ => y.1 = true → noneB r2.1 = false) ?_ fun ⟨(y : Bool), _⟩ h8 e8 hy => ?_
        · refine wp_load1 (b := .int .i64) _ wo rfl (cells_iff.1 o7.cells' 1 _ rfl) (s_not (wp_ifB (fun hd => wp_ifB (fun he => ?_) fun he => ?_) fun hd => ?_))
          · exact s_ret ⟨rfl, Ext.refl _, (_, ()), rfl, fun _ => notB_iff.1 he⟩
          · exact s_ret ⟨rfl, Ext.refl _, (false, ()), rfl, fun h => by cases h⟩
          · exact s_ret ⟨rfl, Ext.refl _, (false, ()), rfl, fun h => by cases h⟩
        dsimp only at hy ⊢
        have c8 := k7.ext e8
        have e07 : Ext h h7 := Keep.trans e06 (c7.keep hn6 hF0)
        refine wp_ifB (fun hd => ⟨ad, rfl, (ko, wo, so, ()), (o7.ext e8).cells', ?_⟩) fun hd => s_ret ⟨rfl, rfl, e07.trans e8, G3, c8, n1', n2', s7.mono (by omega)⟩
        refine s_one M c8 (Nat.le_trans hn7 e8.1) n2' (hy hd) s7 (hl7.ext e8) (hfree c8.pool) (by omega) fun h9 G4 y c9 k9 mm s9 f9 hy => s_ret ⟨rfl, by rw [hy], Keep.trans e07 (Keep.trans (e8.keep hn7) (c9.keep (Nat.le_trans hn7 e8.1) fun z hz ⟨j, e, hj, hx⟩ => by have := (c8.pool.lt hj hx).1; omega)), G4, k9, mm _ _ _ n1', mm _ _ _ n2', s9.mono (by omega)⟩
      rintro t vs h8 ⟨rfl, rfl, e8, G4, k8, n1'', n2'', s8⟩
      refine s_tag (s_castB (s_ifF ?_))
      rw [add_ok (by omega) (by omega)]
      exact s_ret ⟨fun _ => ⟨((i : Int) + 1, ()), rfl, ⟨e8, i + 1, G4, rfl, by omega, k8, n1'', n2'', s8.mono (by omega)⟩, by dsimp only; omega⟩, fun h => absurd rfl h⟩
    · rw [ltI_not, natI_def, hxl] at hc
      refine s_ret ⟨fun h => absurd h (by decide), fun _ => ⟨rfl, rfl, e4, G2, c4, s4.mono ?_⟩⟩
      have := sum_take_le (fun o : OpD => 4 * o.2.2.1.2.length) x.2 i
      omega
  · rintro t vs h4 ⟨rfl, rfl, e4, G2, c4, s4⟩
    refine s_tag (s_cast0 (wp_callN (c_ends M c4 e4.1 s4 (by omega) (by omega)) fun y h5 k5 hy => s_ret ⟨rfl, Keep.trans e4 k5, (y.1, ()), rfl, hy⟩))

theorem c_short {x : Sl × List OpD} (ho : (Sh.list OpSh).ok h x) : Gives P (F_law1_short S x.1) [.one .bool] h fun (y : Bool × Unit) _ => True := by
  have hxl := ho.len
  have hlen := ho.2.1
  have hmax := ho.2.2.1
  unfold F_law1_short Gives
  refine wp_while (fun (s : Int × Int × Unit) h' => Ext h h' ∧ ∃ i : Nat, s.2.1 = i ∧ i ≤ x.2.length) (fun s _ => ((x.2.length : Int) - s.2.1).toNat) (fun t vs h' => t = 2 ∧ Ext h h' ∧ ∃ v, vs = [i64v v]) ⟨Ext.refl _, 0, rfl, by omega⟩ ?_ ?_
  · rintro ⟨(v : Int), i', u⟩ h1 ⟨e1, i, hi, hil⟩
    dsimp only at hi ⊢
    subst hi
    refine bind_bool (i < x.2.length ∧ leI v 16777216 = true) ?_ fun b h2 e2 hb => wp_ifB (fun hc => ?_) fun hc => s_ret ⟨fun h => absurd h (by decide), fun _ => ⟨rfl, e1.trans e2, _, rfl⟩⟩
    · refine wp_ifB (fun hc => s_ret ⟨rfl, Ext.refl _, _, rfl, ?_⟩) fun hc => s_ret ⟨rfl, Ext.refl _, false, rfl, ?_⟩
      · rw [ltI_iff, natI_def, hxl] at hc
        exact ⟨fun h => ⟨by omega, h⟩, fun h => h.2⟩
      · rw [ltI_not, natI_def, hxl] at hc
        exact Iff.intro (fun h => by cases h) fun h => by omega
    · have hlt := (hb.1 hc).1
      obtain ⟨o, hio⟩ : ∃ o, x.2[i]? = some o := ⟨x.2[i], List.getElem?_eq_getElem hlt⟩
      refine s_fieldSh ((ho.ext e1).ext e2) (by omega) (by simpa using hio) rfl (b := .sl) (z := o.2.2.1.1) rfl ?_
      rw [add_ok (a := (i : Int)) (by omega) (by omega)]
      exact s_ret ⟨fun _ => ⟨(_, (i : Int) + 1, ()), rfl, ⟨e1.trans e2, i + 1, rfl, by omega⟩, by dsimp only; omega⟩, fun h => absurd rfl h⟩
  · rintro t vs h1 ⟨rfl, e1, v, rfl⟩
    refine s_tag (s_castI (bind_val (tys := [.one .bool]) (fun _ _ => True) ?_ fun y h2 e2 _ => s_ret ⟨rfl, e1.trans e2, (y.1, ()), rfl, trivial⟩))
    refine wp_ifB (fun _ => wp_ifB (fun _ => s_ret ⟨rfl, Ext.refl _, (_, ()), rfl, trivial⟩) fun _ => s_ret ⟨rfl, Ext.refl _, (false, ()), rfl, trivial⟩) fun _ => s_ret ⟨rfl, Ext.refl _, (false, ()), rfl, trivial⟩

theorem c_CodecStream (M : Meth P S) {enc other : Int} {x : Sl × List OpD} (ho : (Sh.list OpSh).ok h x) (htot : (x.2.map fun o => 4 * o.2.2.1.2.length).sum ≤ 1099511620000) :
    Gives P (F_law1_CodecStream S enc other x.1) [.one .bool] h fun (y : Bool × Unit) _ => y.1 = true := by
  unfold F_law1_CodecStream Gives
  refine s_allocL (k := .u8) [195, 169, 226] (bytes_fit rfl) (by simp) fun h1 e1 o1 => ?_
  generalize (⟨h.size, 0, none⟩ : Addr) = a1 at o1 ⊢
  refine s_newV (by simp) fun a2 h2 ha2 e2 o2 => ?_
  let ops : List OpD := [(1, 0, (⟨some a1, 3, 3⟩, [195, 169, 226]), ()), (2, 0, (⟨none, 0, 0⟩, []), ()), (2, 1, (⟨none, 0, 0⟩, []), ())]
  have o2c := o2.cells'
  have hbytes : (Sh.list (.int .u8)).ok h2 (⟨some a1, 3, 3⟩, [195, 169, 226]) := by
    have := o1.ext e2
    refine ⟨rfl, Nat.le_refl _, (by decide : 3 < 2 ^ 63), fun i y hi => ⟨a1, rfl, cells_iff.2 fun j v hj => ?_, ?_⟩⟩
    · cases j with
      | zero =>
        simp [Sh.cells] at hj; subst hj
        rw [add_zero']
        have hlt := (List.getElem?_eq_some_iff.1 hi).1
        have := this.lst.cell (j := i) hlt
        rw [List.getD_eq_getElem?_getD, hi] at this
        simpa [Sh.size] using this
      | succ j => simp [Sh.cells] at hj
    · exact this.wf y (List.mem_of_getElem? hi)
  have hnil : (Sh.list (.int .u8)).ok h2 (⟨none, 0, 0⟩, []) := ⟨rfl, Nat.le_refl _, (by decide : 0 < 2 ^ 63), fun i y hi => by simp at hi⟩
  have hops : (Sh.list OpSh).ok h2 (⟨some a2, 3, 3⟩, ops) := by
    refine ⟨rfl, Nat.le_refl _, (by decide : 3 < 2 ^ 63), fun i y hi => ⟨a2, rfl, cells_iff.2 fun j v hj => ?_, ?_⟩⟩
    · rw [add_add]
      refine cells_iff.1 o2c _ _ ?_
      match i, hi with
      | 0, hi => simp [ops] at hi; subst hi; match j, hj with | 0, hj => exact hj | 1, hj => exact hj | 2, hj => exact hj | j + 3, hj => simp [Sh.cells] at hj
      | 1, hi => simp [ops] at hi; subst hi; match j, hj with | 0, hj => exact hj | 1, hj => exact hj | 2, hj => exact hj | j + 3, hj => simp [Sh.cells] at hj
      | 2, hi => simp [ops] at hi; subst hi; match j, hj with | 0, hj => exact hj | 1, hj => exact hj | 2, hj => exact hj | j + 3, hj => simp [Sh.cells] at hj
      | i + 3, hi => simp [ops] at hi
    · match i, hi with
      | 0, hi => simp [ops] at hi; subst hi; exact ⟨(show fitsI .i64 (1 : Int) from fits_i64.2 (by decide)), (show fitsI .i64 (0 : Int) from fits_i64.2 (by decide)), hbytes, trivial⟩
      | 1, hi => simp [ops] at hi; subst hi; exact ⟨(show fitsI .i64 (2 : Int) from fits_i64.2 (by decide)), (show fitsI .i64 (0 : Int) from fits_i64.2 (by decide)), hnil, trivial⟩
      | 2, hi => simp [ops] at hi; subst hi; exact ⟨(show fitsI .i64 (2 : Int) from fits_i64.2 (by decide)), (show fitsI .i64 (1 : Int) from fits_i64.2 (by decide)), hnil, trivial⟩
      | i + 3, hi => simp [ops] at hi
  refine wp_call (c_streams M (x := (⟨some a2, 3, 3⟩, ops)) hops (by simp [ops])) fun y h3 e3 hy => ?_
  have hy : y.1 = true := hy
  have e13 := (e1.trans e2).trans e3
  refine bind_bool True ?_ fun b h4 e4 hb => s_ret ⟨rfl, e13.trans e4, (b, ()), rfl, hb.2 trivial⟩
  rw [hy]
  refine s_ifT (wp_call (c_short (ho.ext e13)) fun z h4 e4 _ => wp_ifB (fun _ => s_ret ⟨rfl, e4, true, rfl, Iff.intro (fun _ => trivial) fun _ => rfl⟩) fun _ => ?_)
  exact wp_call (c_streams M ((ho.ext e13).ext e4) htot) fun y h5 e5 hy => s_ret ⟨rfl, e4.trans e5, y.1, rfl, Iff.intro (fun _ => trivial) fun _ => hy⟩

theorem ints_wt (x : Sl × List Int) {k : IntKind} : (Sh.list (.int k)).wt x = x.2.length + 1 := by
  have : ∀ l : List Int, (l.map fun _ : Int => 1).sum = l.length := by
    intro l
    induction l with
    | nil => rfl
    | cons y l ih => rw [List.map_cons, List.sum_cons, ih, List.length_cons]; omega
  show (x.2.map fun _ : Int => 1).sum + 1 = _
  rw [this]
theorem tot_wt (x : Sl × List OpD) : (x.2.map fun o => 4 * o.2.2.1.2.length).sum ≤ 4 * (Sh.list OpSh).wt x := by
  have : ∀ l : List OpD, (l.map fun o => 4 * o.2.2.1.2.length).sum ≤ 4 * (l.map OpSh.wt).sum := by
    intro l
    induction l with
    | nil => simp
    | cons y l ih =>
      have h : y.2.2.1.2.length ≤ OpSh.wt y := by
        have := ints_wt y.2.2.1 (k := .u8)
        simp only [Sh.wt] at this ⊢
        omega
      simp only [List.map_cons, List.sum_cons]; omega
  have := this x.2
  simp only [Sh.wt] at this ⊢
  omega
end Go.Sw.Codec

set_option linter.unusedVariables false
set_option linter.unusedSimpArgs false
set_option maxRecDepth 100000
namespace Go.Sw.Codec
variable {P : Program} {S : Ids} {h : Heap} {Q : Nat → List Value → Heap → Prop} {n : Nat}

abbrev CallSh : Sh := .str (.pair (.int .i64) (.pair (.int .i64) (.pair (.int .i64) (.pair (.int .i64) (.pair (.list (.int .u8)) (.pair (.list (.int .i64)) .unit))))))
abbrev CallD := CallSh.den

theorem c_plays (M : Meth P S) {k w e v : Int} {s t : Sl} {x y : List Int} (hs : Lst .u8 h s x) (ht : Lst .i64 h t y) (hx : x.length ≤ 2199023255) (hy : y.length ≤ 2199023255) :
    Gives P (F_law1_plays S (k, w, e, v, s, t, ())) [.one .bool] h fun (z : Bool × Unit) _ => z.1 = true := by
  unfold F_law1_plays Gives
  refine s_newV (by simp) fun a h1 ha e1 o1 => ?_
  have L0 : ∀ {K : Int → Prog} {Q : Nat → List Value → Heap → Prop}, wp P (K k) h1 Q → wp P (.load (.one (.int .i64)) (shiftTo (some a) 0) K) h1 Q := fun hk => wp_load1 (b := .int .i64) _ k rfl (cells_iff.1 o1.cells' 0 _ rfl) hk
  have L2 : ∀ {K : Int → Prog} {Q : Nat → List Value → Heap → Prop}, wp P (K e) h1 Q → wp P (.load (.one (.int .i64)) (shiftTo (some a) 2) K) h1 Q := fun hk => wp_load1 (b := .int .i64) _ e rfl (cells_iff.1 o1.cells' 2 _ rfl) hk
  have L3 : ∀ {K : Int → Prog} {Q : Nat → List Value → Heap → Prop}, wp P (K v) h1 Q → wp P (.load (.one (.int .i64)) (shiftTo (some a) 3) K) h1 Q := fun hk => wp_load1 (b := .int .i64) _ v rfl (cells_iff.1 o1.cells' 3 _ rfl) hk
  have L4 : ∀ {K : Sl → Prog} {Q : Nat → List Value → Heap → Prop}, wp P (K s) h1 Q → wp P (.load (.one .sl) (shiftTo (some a) 4) K) h1 Q := fun hk => wp_load1 (b := .sl) _ s rfl (cells_iff.1 o1.cells' 4 _ rfl) hk
  have L5 : ∀ {K : Sl → Prog} {Q : Nat → List Value → Heap → Prop}, wp P (K t) h1 Q → wp P (.load (.one .sl) (shiftTo (some a) 5) K) h1 Q := fun hk => wp_load1 (b := .sl) _ t rfl (cells_iff.1 o1.cells' 5 _ rfl) hk
  have hs1 := hs.ext e1
  have ht1 := ht.ext e1
  refine L0 (wp_ifB (fun _ => ?_) fun _ => wp_ifB (fun _ => ?_) fun _ => wp_ifB (fun _ => ?_) fun _ => wp_ifB (fun _ => ?_) fun _ => wp_ifB (fun _ => ?_) fun _ => wp_ifB (fun _ => ?_) fun _ => s_ret ⟨rfl, e1, (true, ()), rfl, rfl⟩)
  · exact L2 (L4 (wp_call (c_decoded M hs1 (by omega)) fun z h2 e2 hz => s_ret ⟨rfl, e1.trans e2, (z.1, ()), rfl, hz⟩))
  · exact L2 (L5 (wp_call (c_encoded M ht1 (by omega)) fun z h2 e2 hz => s_ret ⟨rfl, e1.trans e2, (z.1, ()), rfl, hz⟩))
  · exact L2 (L3 (wp_call (c_sized M.sizes e v) fun z h2 e2 hz => s_ret ⟨rfl, e1.trans e2, (z.1, ()), rfl, hz⟩))
  · exact L2 (L4 (L3 (wp_call (c_tokens M hs1 (by omega)) fun z h2 e2 hz => s_ret ⟨rfl, e1.trans e2, (z.1, ()), rfl, hz⟩)))
  · exact L2 (L4 (wp_call (c_marked hs1 (by omega)) fun z h2 e2 hz => s_ret ⟨rfl, e1.trans e2, (z.1, ()), rfl, hz⟩))
  · exact L4 (wp_call (c_guessed hs1 (by omega)) fun z h2 e2 hz => s_ret ⟨rfl, e1.trans e2, (z.1, ()), rfl, hz⟩)

theorem c_fits {x : Sl × List CallD} (ho : (Sh.list CallSh).ok h x) : Gives P (F_law1_fits S x.1) [.one .bool] h fun (y : Bool × Unit) _ => True := by
  have hxl := ho.len
  have hlen := ho.2.1
  have hmax := ho.2.2.1
  unfold F_law1_fits Gives
  refine wp_while (fun (s : Int × Int × Unit) h' => Ext h h' ∧ ∃ i : Nat, s.2.1 = i ∧ i ≤ x.2.length) (fun s _ => ((x.2.length : Int) - s.2.1).toNat) (fun t vs h' => t = 2 ∧ Ext h h' ∧ ∃ v, vs = [i64v v]) ⟨Ext.refl _, 0, rfl, by omega⟩ ?_ ?_
  · rintro ⟨(v : Int), i', u⟩ h1 ⟨e1, i, hi, hil⟩
    dsimp only at hi ⊢
    subst hi
    refine bind_bool (i < x.2.length ∧ leI v 67108864 = true) ?_ fun b h2 e2 hb => wp_ifB (fun hc => ?_) fun hc => s_ret ⟨fun h => absurd h (by decide), fun _ => ⟨rfl, e1.trans e2, _, rfl⟩⟩
    · refine wp_ifB (fun hc => s_ret ⟨rfl, Ext.refl _, _, rfl, ?_⟩) fun hc => s_ret ⟨rfl, Ext.refl _, false, rfl, ?_⟩
      · rw [ltI_iff, natI_def, hxl] at hc
        exact ⟨fun h => ⟨by omega, h⟩, fun h => h.2⟩
      · rw [ltI_not, natI_def, hxl] at hc
        exact Iff.intro (fun h => by cases h) fun h => by omega
    · have hlt := (hb.1 hc).1
      obtain ⟨o, hio⟩ : ∃ o, x.2[i]? = some o := ⟨x.2[i], List.getElem?_eq_getElem hlt⟩
      refine s_fieldSh ((ho.ext e1).ext e2) (by omega) (by simpa using hio) rfl (b := .sl) (z := o.2.2.2.2.1.1) rfl ?_
      refine s_fieldSh ((ho.ext e1).ext e2) (by omega) (by simpa using hio) rfl (b := .sl) (z := o.2.2.2.2.2.1.1) rfl ?_
      rw [add_ok (a := (i : Int)) (by omega) (by omega)]
      exact s_ret ⟨fun _ => ⟨(_, (i : Int) + 1, ()), rfl, ⟨e1.trans e2, i + 1, rfl, by omega⟩, by dsimp only; omega⟩, fun h => absurd rfl h⟩
  · rintro t vs h1 ⟨rfl, e1, v, rfl⟩
    refine s_tag (s_castI (bind_val (tys := [.one .bool]) (fun _ _ => True) ?_ fun y h2 e2 _ => s_ret ⟨rfl, e1.trans e2, (y.1, ()), rfl, trivial⟩))
    refine wp_ifB (fun _ => wp_ifB (fun _ => s_ret ⟨rfl, Ext.refl _, (_, ()), rfl, trivial⟩) fun _ => s_ret ⟨rfl, Ext.refl _, (false, ()), rfl, trivial⟩) fun _ => s_ret ⟨rfl, Ext.refl _, (false, ()), rfl, trivial⟩

theorem c_CodecAll (M : Meth P S) {h00 : Heap} {enc other : Int} {x : Sl × List CallD} (ho : (Sh.list CallSh).ok h00 x) (htot : (x.2.map fun o => 4 * o.2.2.2.2.1.2.length).sum ≤ 1099511620000) (hL : ∀ o ∈ x.2, o.2.2.2.2.1.2.length ≤ 2199023255 ∧ o.2.2.2.2.2.1.2.length ≤ 2199023255) :
    Gives P (F_law1_CodecAll S enc other x.1) [.one .bool] h00 fun (y : Bool × Unit) _ => y.1 = true := by
  unfold F_law1_CodecAll Gives
  refine wp_call (c_fits ho) fun ⟨ft, _⟩ h e0 _ => wp_ifB (fun _ => s_ret ⟨rfl, e0, (true, ()), rfl, rfl⟩) fun _ => wp_mono _ (Q := fun t vs h' => t = 0 ∧ Ext h h' ∧ ∃ y : Bool × Unit, vs = Ts.inj [.one .bool] y ∧ y.1 = true) (fun t vs h' k => ⟨k.1, e0.trans k.2.1, k.2.2⟩) ?_
  replace ho := ho.ext e0
  refine s_two fun r1 r2 r3 r4 h1 G e1 ⟨p1, m1, m2, q1, q2, hno, hall, hlo⟩ => ?_
  have hB : Small G 0 := fun i d hi => by rw [hall i d hi]; exact Nat.le_refl _
  refine bind_bool False ?_ fun c' h2 e2 hc' => wp_ifB (fun h => (hc'.1 h).elim) fun _ => ?_
  · refine wp_call (c_law1_num _) fun v h2 e2 hv => s_neF ((show v.1 = r1.2.1 from hv).trans q1) (wp_call (c_law1_num _) fun v h3 e3 hv => s_neF ((show v.1 = r2.2.1 from hv).trans q2) ?_)
    have hs : ∀ a, eqB a a = true := fun a => by cases a <;> rfl
    rw [m1.none, m2.none, hs, hs]
    exact s_ifF (s_ret ⟨rfl, e2.trans e3, false, rfl, Iff.intro (fun h => by cases h) False.elim⟩)
  have e12 := e1.trans e2
  refine wp_call (c_crowded M (p1.ext e2) hno e12.1 hB) fun ⟨wp', (ok : Bool), _⟩ h3 e3 ⟨hok, G', w, a, b, m, hw, cr, hm5, g0, g1, hB'⟩ => ?_
  have hok : ok = true := hok
  have hw : wp' = some w := hw
  subst hok
  subst hw
  have e13 := e12.trans e3
  have m1' : Maybe G' 0 r1.1 r3.1 := by unfold Maybe; rw [g0]; exact m1
  have m2' : Maybe G' 1 r2.1 r4.1 := by unfold Maybe; rw [g1]; exact m2
  refine bind_bool True ?_ fun ok h4 e4 hok => ?_
  · refine s_ifT (s_allocL (k := .u8) [195, 169] (bytes_fit rfl) (by simp) fun h4 e4 o4 => wp_call (c_decoded M o4.lst (by decide)) fun z h5 e5 hz => s_ret ⟨rfl, e4.trans e5, z.1, rfl, Iff.intro (fun _ => trivial) fun _ => hz⟩)
  have hok := hok.2 trivial
  subst hok
  replace e13 := e13.trans e4
  replace cr := cr.ext e4
  refine wp_while (fun (s : Bool × Int × Unit) h' => s.1 = true ∧ Ext h h' ∧ ∃ (i : Nat) (G' : Pl), s.2.1 = i ∧ i ≤ x.2.length ∧ Crowd S h.size h' G' w a b m ∧ Maybe G' 0 r1.1 r3.1 ∧ Maybe G' 1 r2.1 r4.1 ∧ Small G' (5 + ((x.2.take i).map fun o => 4 * o.2.2.2.2.1.2.length).sum)) (fun s _ => ((x.2.length : Int) - s.2.1).toNat)
    (fun t vs h' => t = 2 ∧ vs = [.bool true] ∧ Ext h h' ∧ ∃ (G' : Pl), Crowd S h.size h' G' w a b m ∧ Small G' 1099511625000) ⟨rfl, e13, 0, G', rfl, by omega, cr, m1', m2', by simpa using hB'⟩ ?_ ?_
  · rintro ⟨(ok : Bool), i', u⟩ h4 ⟨hok, e4, i, G2, hi, hil, c4, n1, n2, s4⟩
    dsimp only at hi hok ⊢
    subst hi
    subst hok
    have hxl := ho.len
    have hlen := ho.2.1
    have hmax := ho.2.2.1
    refine bind_bool (i < x.2.length) ?_ fun bb h5 e5 hb => wp_ifB (fun hc => ?_) fun hc => ?_
    · refine wp_ifB (fun hc => s_ret ⟨rfl, Ext.refl _, _, rfl, ?_⟩) fun hc => s_ret ⟨rfl, Ext.refl _, false, rfl, ?_⟩
      · rw [ltI_iff, natI_def, hxl] at hc
        exact ⟨fun h => by omega, fun h => rfl⟩
      · rw [ltI_not, natI_def, hxl] at hc
        exact Iff.intro (fun h => by cases h) fun h => by omega
    · have hlt := hb.1 hc
      replace e4 := e4.trans e5
      replace c4 := c4.ext e5
      obtain ⟨o, hio⟩ : ∃ o, x.2[i]? = some o := ⟨x.2[i], List.getElem?_eq_getElem hlt⟩
      have hmem := List.mem_of_getElem? hio
      have hLo := hL o hmem
      have hst := sum_take (fun o : CallD => 4 * o.2.2.2.2.1.2.length) hio
      have hsl := sum_take_le (fun o : CallD => 4 * o.2.2.2.2.1.2.length) x.2 (i + 1)
      have hoe := ho.el hio
      refine wp_bind (fun t vs h' => t = 0 ∧ vs = [.bool true] ∧ Ext h h' ∧ ∃ (G' : Pl), Crowd S h.size h' G' w a b m ∧ Maybe G' 0 r1.1 r3.1 ∧ Maybe G' 1 r2.1 r4.1 ∧ Small G' (5 + ((x.2.take (i + 1)).map fun o => 4 * o.2.2.2.2.1.2.length).sum)) ?_ ?_
      · refine s_atSh (ho.ext e4) (by omega) (by simpa using hio) rfl (z := (o.1, o.2.1, o.2.2.1, o.2.2.2.1, o.2.2.2.2.1.1, o.2.2.2.2.2.1.1, ())) rfl ?_
        dsimp only
        refine s_newV (by simp) fun ad h6 had e6 o6 => s_putV [i64v o.1, i64v o.2.1, i64v o.2.2.1, i64v o.2.2.2.1, slv o.2.2.2.2.1.1, slv o.2.2.2.2.2.1.1] o6 rfl (by intro v hv; simp only [List.mem_cons, List.not_mem_nil, or_false] at hv; rcases hv with rfl | rfl | rfl | rfl | rfl | rfl <;> rfl) fun h7 o7 u7 z7 => ?_
        have e57 : Ext h5 h7 := by
          refine ⟨by have := e6.1; omega, fun q hq => (u7.2.1 q (by have := e6.1; omega) fun z hz e => by cases hz; omega).trans (e6.2.1 q hq), fun z hz => u7.2.2 z (e6.2.2 z hz)⟩
        have c7 := c4.ext e57
        have e07 := e4.trans e57
        obtain ⟨ko, wo, eo, no, so, to, uo⟩ := o
        obtain ⟨so, lo⟩ := so
        obtain ⟨to, mo⟩ := to
        dsimp only at hst hLo ⊢
        have hlst : Lst .u8 h7 so lo := (Sh.lst hoe.2.2.2.2.1).ext e07
        have hlst2 : Lst .i64 h7 to mo := (Sh.lst hoe.2.2.2.2.2.1).ext e07
        have hlst0 : Lst .u8 h so lo := Sh.lst hoe.2.2.2.2.1
        have hn7 : h.size ≤ h7.size := e07.1
        have ld0 : ∀ {K : Int → Prog} {Q : Nat → List Value → Heap → Prop} {h'}, Ext h7 h' → wp P (K ko) h' Q → wp P (.load (.one (.int .i64)) (shiftTo (some ad) 0) K) h' Q := fun e hk => wp_load1 (b := .int .i64) _ ko rfl (cells_iff.1 (o7.ext e).cells' 0 _ rfl) hk
        have ld1 : ∀ {K : Int → Prog} {Q : Nat → List Value → Heap → Prop} {h'}, Ext h7 h' → wp P (K wo) h' Q → wp P (.load (.one (.int .i64)) (shiftTo (some ad) 1) K) h' Q := fun e hk => wp_load1 (b := .int .i64) _ wo rfl (cells_iff.1 (o7.ext e).cells' 1 _ rfl) hk
        have ld4 : ∀ {K : Sl → Prog} {Q : Nat → List Value → Heap → Prop} {h'}, Ext h7 h' → wp P (K so) h' Q → wp P (.load (.one .sl) (shiftTo (some ad) 4) K) h' Q := fun e hk => wp_load1 (b := .sl) _ so rfl (cells_iff.1 (o7.ext e).cells' 4 _ rfl) hk
        have ldA : ∀ {K : Int × Int × Int × Int × Sl × Sl × Unit → Prog} {Q : Nat → List Value → Heap → Prop} {h'}, Ext h7 h' → wp P (K (ko, wo, eo, no, so, to, ())) h' Q → wp P (.load (.agg [.int .i64, .int .i64, .int .i64, .int .i64, .sl, .sl]) (some ad) K) h' Q := fun e hk => ⟨ad, rfl, (ko, wo, eo, no, so, to, ()), (o7.ext e).cells', hk⟩
        have hfree : ∀ {h' : Heap} {G'' : Pl}, Pool S h.size h' G'' → lo ≠ [] → ∀ q, so.base = some q → ∀ i d, G'' i = some d → ¬ d.foot q.block := fun {h'} {G''} pp hne q hq i d hi hx => by
          obtain ⟨y0, l0, hl0⟩ : ∃ y l, lo = y :: l := by cases lo with | nil => exact absurd rfl hne | cons y l => exact ⟨y, l, rfl⟩
          obtain ⟨q', eq, cq⟩ := hlst0.rd.at (i := 0) (by rw [hl0]; simp)
          rw [hq] at eq; cases eq
          have := cell_lt cq
          rw [add_block] at this
          have := (pp.lt hi hx).1
          omega
        refine ld0 (Ext.refl _) (wp_ifB (fun hgt => ldA (Ext.refl _) (wp_call (c_plays M hlst hlst2 hLo.1 hLo.2) fun z h8 e8 hz => ?_)) fun hgt => ?_)
        · have hz : z.1 = true := hz
          exact s_ret ⟨rfl, by rw [hz], e07.trans e8, G2, c7.ext e8, n1, n2, s4.mono (by omega)⟩
        refine bind_val (tys := [.one .bool]) (fun (y : Bool × Unit) _ => y.1 = true → noneB r1.1 = false) ?_ fun ⟨(y : Bool), _⟩ h8 e8 hy => ?_
        · refine ld1 (Ext.refl _) (s_not (wp_ifB (fun hd => wp_ifB (fun he => ?_) fun he => ?_) fun hd => ?_))
          · exact s_ret ⟨rfl, Ext.refl _, (_, ()), rfl, fun _ => notB_iff.1 he⟩
          · exact s_ret ⟨rfl, Ext.refl _, (false, ()), rfl, fun h => by cases h⟩
          · exact s_ret ⟨rfl, Ext.refl _, (false, ()), rfl, fun h => by cases h⟩
        dsimp only at hy ⊢
        have c8 := c7.ext e8
        have hn8 : h.size ≤ h8.size := Nat.le_trans hn7 e8.1
        have hun : ∀ {h9 h10 : Heap} {G3 : Pl}, Ext h7 h9 → Pool S h.size h9 G3 → Chg (fun z => ∃ i d, G3 i = some d ∧ d.foot z) h9 h10 → Ext h h10 := fun {h9 h10 G3} e9 pp cc => Keep.trans (e07.trans e9) (cc.keep (Nat.le_trans hn7 e9.1) fun z hz ⟨j, e, hj, hx⟩ => by have := (pp.lt hj hx).1; omega)
        refine wp_ifB (fun hd => ?_) fun hd => ?_
        · refine ld0 e8 (ld1 e8 (ld4 e8 ?_))
          refine s_one M c8 hn8 n1 (hy hd) s4 (hlst.ext e8) (hfree c8.pool) (by omega) fun h9 G3 y c9 k9 mm s9 f9 hy => s_ret ⟨rfl, by rw [hy], hun e8 c8.pool c9, G3, k9, mm _ _ _ n1, mm _ _ _ n2, s9.mono (by omega)⟩
        refine bind_val (tys := [.one .bool]) (fun (y : Bool × Unit) _ => y.1 = true → noneB r2.1 = false) ?_ fun ⟨(y : Bool), _⟩ h9 e9 hy => ?_
        · refine ld1 e8 (s_not (wp_ifB (fun hd => wp_ifB (fun he => ?_) fun he => ?_) fun hd => ?_))
          · exact s_ret ⟨rfl, Ext.refl _, (_, ()), rfl, fun _ => notB_iff.1 he⟩
          · exact s_ret ⟨rfl, Ext.refl _, (false, ()), rfl, fun h => by cases h⟩
          · exact s_ret ⟨rfl, Ext.refl _, (false, ()), rfl, fun h => by cases h⟩
        dsimp only at hy ⊢
        have c9 := c8.ext e9
        have e89 := e8.trans e9
        refine wp_ifB (fun hd => ?_) fun hd => s_ret ⟨rfl, rfl, e07.trans e89, G2, c9, n1, n2, s4.mono (by omega)⟩
        refine ld0 e89 (ld1 e89 (ld4 e89 ?_))
        exact s_one M c9 (Nat.le_trans hn8 e9.1) n2 (hy hd) s4 (hlst.ext e89) (hfree c9.pool) (by omega) fun h10 G3 y c10 k10 mm s10 f10 hy => s_ret ⟨rfl, by rw [hy], hun e89 c9.pool c10, G3, k10, mm _ _ _ n1, mm _ _ _ n2, s10.mono (by omega)⟩
      · rintro t vs h6 ⟨rfl, rfl, e6, G3, k6, m1, m2, s6⟩
        refine s_tag (s_castB ?_)
        rw [add_ok (by omega) (by omega)]
        exact s_ret ⟨fun _ => ⟨(true, (i : Int) + 1, ()), rfl, ⟨rfl, e6, i + 1, G3, rfl, by omega, k6, m1, m2, s6⟩, by dsimp only; omega⟩, fun h => absurd rfl h⟩
    · refine s_ret ⟨fun h => absurd h (by decide), fun _ => ⟨rfl, rfl, e4.trans e5, G2, c4.ext e5, s4.mono ?_⟩⟩
      have := sum_take_le (fun o : CallD => 4 * o.2.2.2.2.1.2.length) x.2 i
      omega
  · rintro t vs h4 ⟨rfl, rfl, e4, G2, c4, s4⟩
    refine s_tag (s_castB ?_)
    refine wp_bind (fun t vs h' => t = 0 ∧ vs = [.bool true] ∧ Ext h h') (s_ifT (wp_callN (c_ends M c4 e4.1 s4 (by omega) (by omega)) fun y h5 k5 hy => s_ret ⟨rfl, by rw [show y.1 = true from hy], Keep.trans e4 k5⟩)) ?_
    rintro t vs h5 ⟨rfl, rfl, e5⟩
    exact s_tag (s_castB (s_ret ⟨rfl, e5, (true, ()), rfl, rfl⟩))

theorem all_wt {x : Sl × List CallD} {w : Nat} (h : (Sh.list CallSh).wt x ≤ w) : (x.2.map fun o => 4 * o.2.2.2.2.1.2.length).sum ≤ 4 * w ∧ ∀ o ∈ x.2, o.2.2.2.2.1.2.length ≤ w ∧ o.2.2.2.2.2.1.2.length ≤ w := by
  have one : ∀ y : CallD, y.2.2.2.2.1.2.length + y.2.2.2.2.2.1.2.length ≤ CallSh.wt y := fun y => by
    have h1 := ints_wt y.2.2.2.2.1 (k := .u8)
    have h2 := ints_wt y.2.2.2.2.2.1 (k := .i64)
    simp only [Sh.wt] at h1 h2 ⊢
    omega
  have : ∀ l : List CallD, (l.map fun o => 4 * o.2.2.2.2.1.2.length).sum ≤ 4 * (l.map CallSh.wt).sum ∧ ∀ o ∈ l, CallSh.wt o ≤ (l.map CallSh.wt).sum := by
    intro l
    induction l with
    | nil => simp
    | cons y l ih =>
      have h := one y
      simp only [List.map_cons, List.sum_cons]
      refine ⟨by omega, fun o ho => ?_⟩
      rcases List.mem_cons.1 ho with rfl | ho
      · omega
      · have := ih.2 o ho; omega
  have h3 := this x.2
  have h4 : (x.2.map CallSh.wt).sum + 1 ≤ w := h
  refine ⟨by omega, fun o ho => ?_⟩
  have h5 := one o
  have h6 := h3.2 o ho
  omega
end Go.Sw.Codec
