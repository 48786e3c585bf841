/-
  Codec: the document's stream: what may be the beginning of a longer row.
-/
import Derived.Test.YtfgknhffpccamaaSwC19
set_option linter.unusedVariables false
set_option linter.unusedSimpArgs false
set_option maxRecDepth 100000
namespace Go.Sw.Codec
variable {P : Program} {S : Ids} {h : Heap} {Q : Nat → List Value → Heap → Prop}

/-- Filled up to a longer row. -/
def fill (l : List Int) (n : Nat) (f : Int) : List Int := l ++ List.replicate (n - l.length) f
theorem fill_len {l : List Int} {n : Nat} {f : Int} (h : l.length ≤ n) : (fill l n f).length = n := by simp [fill]; omega
theorem fill_bytes {l : List Int} {n : Nat} {f : Int} (hb : isBytes l) (hf : 0 ≤ f ∧ f ≤ 255) : isBytes (fill l n f) := by
  intro x hx
  rcases List.mem_append.1 hx with h | h
  · exact hb x h
  · rw [(List.mem_replicate.1 h).2]; exact fits_u8.2 hf
def Begins (l : List Int) (n : Nat) (f : Int) : Prop := (first8 (fill l n f)).2 = n

theorem begin_more {l : List Int} (hb : isBytes l) (hl : 0 < l.length) {n : Nat} {f : Int} (hf : 0 ≤ f ∧ f ≤ 255) (hn : l.length < n) (h : Begins l n f) : moreE 1 l := by
  by_cases hm : moreE 1 l
  · exact hm
  · exfalso
    have h1 := first_stable (enc := 1) (x := List.replicate (n - l.length) f) (fill_bytes (n := n) hb hf) hl hm
    have h2 := firstF_size (enc := 1) hl hb
    unfold Begins fill at h
    rw [show first8 (l ++ List.replicate (n - l.length) f) = firstF 1 (l ++ List.replicate (n - l.length) f) from rfl, h1] at h
    omega

theorem more_begin {l : List Int} (hb : isBytes l) (hl : 0 < l.length) (h3 : l.length ≤ 3) (h : moreE 1 l) : ∃ n : Nat, l.length < n ∧ n ≤ 4 ∧ ∃ f, (f = 128 ∨ f = 191) ∧ Begins l n f := by
  unfold moreE at h
  rw [if_pos rfl] at h
  obtain ⟨q1, q2, q3⟩ := h
  have c0 := hb.at 0
  have hle := rowG_le (l.getD 0 0) (l.getD 1 0) (l.getD 2 0) (l.getD 3 0) c0.1 c0.2
  have hbn := bounds_n (l.getD 0 0) c0.1 c0.2
  have hrow : rowF l = ((l.length : Int), (rowF l).2) := by rw [← q2]
  obtain ⟨n, hn⟩ : ∃ n : Nat, (rowF l).2 = n := ⟨(rowF l).2.toNat, by omega⟩
  have hn4 : n ≤ 4 := by have : (rowF l).2 = (boundsF (l.getD 0 0)).1 := hle.1; omega
  rw [hn] at hrow q1 q3
  rw [q2] at q3
  unfold rowF at hrow
  rw [more_is c0.1 c0.2 _ _ (by omega) q3 q1] at hrow
  obtain ⟨m1, m2, m3, m4, m5⟩ := hrow
  have done : ∀ f, (f = 128 ∨ f = 191) → rowF (fill l n f) = ((n : Int), (n : Int)) → ∃ n : Nat, l.length < n ∧ n ≤ 4 ∧ ∃ f, (f = 128 ∨ f = 191) ∧ Begins l n f := fun f hf hr => by
    refine ⟨n, by omega, hn4, f, hf, ?_⟩
    unfold Begins
    rw [meant_val (fill_bytes hb (by omega)) (by omega) hn4 hr]
  have g : ∀ f i, (fill l n f).getD i 0 = if i < l.length then l.getD i 0 else if i < n then f else 0 := by
    intro f i
    unfold fill
    rw [List.getD_eq_getElem?_getD]
    split
    · rename_i h; rw [List.getElem?_append_left h, List.getD_eq_getElem?_getD]
    · rename_i h
      rw [List.getElem?_append_right (by omega), List.getElem?_replicate]
      split
      · rename_i h2; rw [if_pos (by omega)]; rfl
      · rename_i h2; rw [if_neg (by omega)]; rfl
  have cb := bounds_cases (l.getD 0 0) c0.1 c0.2
  have b1 := hb.at 1
  have b2 := hb.at 2
  have key : ∀ f, (f = 128 ∨ f = 191) → (l.length = 1 → (boundsF (l.getD 0 0)).2.1 ≤ f ∧ f ≤ (boundsF (l.getD 0 0)).2.2) → rowF (fill l n f) = ((n : Int), (n : Int)) := by
    intro f hf hfb
    have g0 : (fill l n f).getD 0 0 = l.getD 0 0 := by rw [g, if_pos hl]
    have g1 : (1 < l.length → (fill l n f).getD 1 0 = l.getD 1 0) ∧ (l.length = 1 → (fill l n f).getD 1 0 = f) := ⟨fun h => by rw [g, if_pos h], fun h => by rw [g, if_neg (by omega), if_pos (by omega)]⟩
    have g2 : (2 < l.length → (fill l n f).getD 2 0 = l.getD 2 0) ∧ (l.length ≤ 2 → 2 < n → (fill l n f).getD 2 0 = f) := ⟨fun h => by rw [g, if_pos h], fun h h' => by rw [g, if_neg (by omega), if_pos (by omega)]⟩
    have g3 : (3 < n → (fill l n f).getD 3 0 = f) := fun h' => by rw [g, if_neg (by omega), if_pos (by omega)]
    unfold rowF
    rw [g0]
    generalize (fill l n f).getD 1 0 = y1 at *
    generalize (fill l n f).getD 2 0 = y2 at *
    generalize (fill l n f).getD 3 0 = y3 at *
    generalize l.getD 0 0 = x0 at *
    generalize l.getD 1 0 = x1 at *
    generalize l.getD 2 0 = x2 at *
    unfold contF at *
    unfold rowG contF
    generalize (boundsF x0).1 = m at *
    generalize (boundsF x0).2.1 = lo at *
    generalize (boundsF x0).2.2 = hi at *
    have hl3 : l.length = 1 ∨ l.length = 2 ∨ l.length = 3 := by omega
    have hy1 : lo ≤ y1 ∧ y1 ≤ hi := by
      rcases hl3 with e | e | e
      · rw [g1.2 e]; exact hfb e
      · rw [g1.1 (by omega)]; exact m3 (by omega)
      · rw [g1.1 (by omega)]; exact m3 (by omega)
    have hy2 : 2 < n → 128 ≤ y2 ∧ y2 ≤ 191 := fun h => by
      rcases hl3 with e | e | e
      · rw [g2.2 (by omega) h]; omega
      · rw [g2.2 (by omega) h]; omega
      · rw [g2.1 (by omega)]; exact (m5 (by omega)).1
    have hy3 : 3 < n → 128 ≤ y3 ∧ y3 ≤ 191 := fun h => by rw [g3 h]; omega
    rw [if_neg (by omega), if_neg (fun h => h hy1)]
    by_cases n2 : n = 2
    · rw [if_pos (.inl (by omega))]; simp only [Prod.mk.injEq]; omega
    rw [if_neg (by intro h; rcases h with h | h; omega; exact h (hy2 (by omega)))]
    by_cases n3 : n = 3
    · rw [if_pos (.inl (by omega))]; simp only [Prod.mk.injEq]; omega
    rw [if_neg (by intro h; rcases h with h | h; omega; exact h (hy3 (by omega)))]
    simp only [Prod.mk.injEq]; omega
  by_cases hf : (boundsF (l.getD 0 0)).2.1 ≤ 128 ∧ 128 ≤ (boundsF (l.getD 0 0)).2.2
  · exact done 128 (.inl rfl) (key 128 (.inl rfl) fun _ => hf)
  · refine done 191 (.inr rfl) (key 191 (.inr rfl) fun _ => ?_)
    rcases cb with ⟨c, e⟩ | ⟨c, d, e⟩ | ⟨c, d, e⟩ | ⟨c, e⟩ | ⟨c, e⟩ | ⟨c, d, d', e⟩ | ⟨c, e⟩ | ⟨c, d, e⟩ | ⟨c, e⟩ | ⟨c, e⟩ <;> rw [e] at m1 hf ⊢ <;> dsimp only at m1 hf ⊢ <;> omega

theorem c_beginning {b : Sl} {l : List Int} {a : Nat} (hb : Lst .u8 h b l) (ha : a < l.length) (h3 : l.length ≤ a + 3) (hl : l.length < 2 ^ 61) :
    Gives P (F_ref1_beginning S b (a : Int)) [.one .bool] h fun (x : Bool × Unit) _ => (x.1 = true ↔ moreE 1 (l.drop a)) := by
  have hlb := hb.len
  have hby : isBytes l := hb.wf
  have hd := hby.drop a
  have hdl : (l.drop a).length = l.length - a := List.length_drop
  unfold F_ref1_beginning Gives
  have hnl : natI b.len = (l.length : Int) := by rw [natI_def, hlb]
  rw [hnl, sub_ok (by omega) (by omega), add_ok (by omega) (by omega)]
  refine wp_while (fun (s : Int × Unit) h' => Ext h h' ∧ ∃ n : Nat, s.1 = n ∧ (l.drop a).length < n ∧ n ≤ 5 ∧ ∀ m : Nat, (l.drop a).length < m → m < n → ∀ f, (f = 128 ∨ f = 191) → ¬ Begins (l.drop a) m f) (fun s _ => (5 - s.1).toNat)
    (fun t vs h' => Ext h h' ∧ ((t = 2 ∧ vs = [] ∧ ¬ moreE 1 (l.drop a)) ∨ (t = 1 ∧ vs = [.bool true] ∧ moreE 1 (l.drop a)))) ⟨Ext.refl _, l.length - a + 1, by dsimp only; omega, by omega, by omega, fun m h1 h2 => by omega⟩ ?_ ?_
  · rintro ⟨n', u⟩ h1 ⟨e1, n, hn, hn1, hn5, hno⟩
    dsimp only at hn ⊢
    subst hn
    refine wp_ifB (fun hc => ?_) fun hc => ?_
    · rw [leI_iff] at hc
      refine wp_while (fun (s : Int × Unit) h' => Ext h h' ∧ 0 ≤ s.1 ∧ s.1 ≤ 2 ∧ (0 < s.1 → ¬ Begins (l.drop a) n 128) ∧ (1 < s.1 → ¬ Begins (l.drop a) n 191)) (fun s _ => (2 - s.1).toNat)
        (fun t vs h' => Ext h h' ∧ ((t = 4 ∧ vs = [] ∧ ¬ Begins (l.drop a) n 128 ∧ ¬ Begins (l.drop a) n 191) ∨ (t = 1 ∧ vs = [.bool true] ∧ moreE 1 (l.drop a)))) ⟨e1, by dsimp only; omega, by dsimp only; omega, fun h => by dsimp only at h; omega, fun h => by dsimp only at h; omega⟩ ?_ ?_
      · rintro ⟨(k : Int), u⟩ h2 ⟨e2, k0, k1, hk1, hk2⟩
        dsimp only at k0 k1 hk1 hk2 ⊢
        refine wp_ifB (fun hd2 => ?_) fun hd2 => ?_
        · rw [ltI_iff] at hd2
          obtain ⟨f, hff, hfk⟩ : ∃ f : Int, wrapI .u8 (addI .i64 128 (mulI .i64 63 k)) = f ∧ ((k = 0 ∧ f = 128) ∨ (k = 1 ∧ f = 191)) := by
            have hk : k = 0 ∨ k = 1 := by omega
            rcases hk with rfl | rfl
            · exact ⟨128, by decide, .inl ⟨rfl, rfl⟩⟩
            · exact ⟨191, by decide, .inr ⟨rfl, rfl⟩⟩
          rw [hff]
          have hfb : 0 ≤ f ∧ f ≤ 255 := by omega
          refine wp_while (fun (s : Sl × Int × Unit) h' => Ext h2 h' ∧ ∃ i : Nat, s.2.1 = i ∧ i ≤ n ∧ OwnL h2.size .u8 h' s.1 ((fill (l.drop a) n f).take i)) (fun s _ => (n - s.2.1.toNat))
            (fun t vs h' => t = 6 ∧ Ext h2 h' ∧ ∃ x : Sl × Unit, vs = Ts.inj [.one .sl] x ∧ OwnL h2.size .u8 h' x.1 (fill (l.drop a) n f)) ⟨Ext.refl _, 0, rfl, Nat.zero_le _, OwnL.nil ..⟩ ?_ ?_
          · rintro ⟨s, i', u⟩ h3' ⟨e3, i, hi, hin, ho⟩
            dsimp only at hi ho ⊢
            subst hi
            have e03 := e2.trans e3
            have hfl := fill_len (l := l.drop a) (n := n) (f := f) (by omega)
            refine wp_ifB (fun hx => ?_) fun hx => ?_
            · rw [ltI_iff] at hx
              have hgi : (fill (l.drop a) n f).getD i 0 = if i < (l.drop a).length then l.getD (a + i) 0 else f := by
                unfold fill
                rw [List.getD_eq_getElem?_getD]
                split
                · rename_i h; rw [List.getElem?_append_left h, ← List.getD_eq_getElem?_getD, getD_drop]
                · rename_i h; rw [List.getElem?_append_right (by omega), List.getElem?_replicate, if_pos (by omega)]; rfl
              have htk : (fill (l.drop a) n f).take (i + 1) = (fill (l.drop a) n f).take i ++ [(fill (l.drop a) n f).getD i 0] := by
                rw [List.take_add_one, List.getElem?_eq_getElem (by omega), List.getD_eq_getElem?_getD, List.getElem?_eq_getElem (by omega)]; rfl
              refine wp_bind (fun t vs h' => t = 0 ∧ vs = [.int .u8 ((fill (l.drop a) n f).getD i 0)] ∧ Ext h2 h' ∧ OwnL h2.size .u8 h' s ((fill (l.drop a) n f).take i)) ?_ ?_
              · refine wp_ifB (fun hy => ?_) fun hy => ?_
                · rw [ltI_iff] at hy
                  rw [add_ok (by omega) (by omega)]
                  refine s_at (hb.ext e03) (by omega) (by omega) fun _ => s_ret ⟨rfl, ?_, e3, ho⟩
                  rw [hgi, if_pos (by omega), show ((a : Int) + (i : Int)).toNat = a + i by omega]
                · rw [ltI_not] at hy
                  exact s_ret ⟨rfl, by rw [hgi, if_neg (by omega)], e3, ho⟩
              rintro t vs h4 ⟨rfl, rfl, e4, ho⟩
              refine s_tag (s_castI (s_push ho e4.1 (by have := (fill_bytes (n := n) (f := f) hd hfb).at i; exact fits_u8.2 this) (by rw [List.length_take]; omega) (by rw [List.length_take]; omega) fun s' h5 k5 o5 u5 b5 => ?_))
              rw [← htk] at o5
              rw [add_ok (by omega) (by omega)]
              exact s_ret ⟨fun _ => ⟨(s', (i : Int) + 1, ()), rfl, ⟨Keep.trans e4 k5, i + 1, rfl, by omega, o5⟩, by dsimp only; omega⟩, fun h => absurd rfl h⟩
            · rw [ltI_not] at hx
              rw [List.take_of_length_le (by omega)] at ho
              exact s_ret ⟨fun h => absurd h (by decide), fun _ => ⟨rfl, e3, (s, ()), rfl, ho⟩⟩
          rintro t vs h3' ⟨ht, e3, x, hx, ho⟩
          refine s_exit ht x hx (wp_call (c_eightAt (a := 0) ho.lst (by rw [fill_len (by omega)]; omega) (by rw [fill_len (by omega)]; omega)) fun ⟨(y1 : Int), (y2 : Int), w⟩ h4 e4 hy => ?_)
          have hy : (y1, y2) = first8 ((fill (l.drop a) n f).drop 0) := hy
          rw [List.drop_zero] at hy
          have hy2 : y2 = (first8 (fill (l.drop a) n f)).2 := by rw [← hy]
          dsimp only
          have e24 := e2.trans (e3.trans e4)
          refine wp_ifB (fun hz => ?_) fun hz => ?_
          · rw [eqI_iff] at hz
            have hbg : Begins (l.drop a) n f := by unfold Begins; rw [← hy2]; exact hz
            exact s_ret ⟨fun h => absurd h (by decide), fun _ => ⟨e24, .inr ⟨rfl, rfl, begin_more hd (by omega) hfb hn1 hbg⟩⟩⟩
          · rw [eqI_not] at hz
            have hbg : ¬ Begins (l.drop a) n f := by unfold Begins; rw [← hy2]; exact hz
            rw [add_ok (by omega) (by omega)]
            refine s_ret ⟨fun _ => ⟨(k + 1, ()), rfl, ⟨e24, by dsimp only; omega, by dsimp only; omega, fun h => ?_, fun h => ?_⟩, by dsimp only; omega⟩, fun h => absurd rfl h⟩
            · rcases hfk with ⟨q, rfl⟩ | ⟨q, rfl⟩
              · exact hbg
              · exact hk1 (by omega)
            · dsimp only at h
              rcases hfk with ⟨q, rfl⟩ | ⟨q, rfl⟩
              · omega
              · exact hbg
        · rw [ltI_not] at hd2
          exact s_ret ⟨fun h => absurd h (by decide), fun _ => ⟨e2, .inl ⟨rfl, rfl, hk1 (by omega), hk2 (by omega)⟩⟩⟩
      · rintro t vs h2 ⟨e2, ⟨rfl, rfl, g1, g2⟩ | ⟨rfl, rfl, g⟩⟩
        · refine s_tag (s_cast0 ?_)
          rw [add_ok (by omega) (by omega)]
          refine s_ret ⟨fun _ => ⟨((n : Int) + 1, ()), rfl, ⟨e2, n + 1, rfl, by omega, by omega, fun m h1 h2 f hf => ?_⟩, by dsimp only; omega⟩, fun h => absurd rfl h⟩
          by_cases hm : m = n
          · subst hm
            rcases hf with rfl | rfl
            · exact g1
            · exact g2
          · exact hno m h1 (by omega) f hf
        · exact s_skip (by decide) (s_tag (s_castB (s_ret ⟨fun h => absurd h (by decide), fun _ => ⟨e2, .inr ⟨rfl, rfl, g⟩⟩⟩)))
    · rw [leI_not] at hc
      refine s_ret ⟨fun h => absurd h (by decide), fun _ => ⟨e1, .inl ⟨rfl, rfl, fun hm => ?_⟩⟩⟩
      obtain ⟨m, h1, h2, f, hf, hg⟩ := more_begin hd (by omega) (by omega) hm
      exact hno m h1 (by omega) f hf hg
  · rintro t vs h1 ⟨e1, ⟨rfl, rfl, g⟩ | ⟨rfl, rfl, g⟩⟩
    · exact s_tag (s_cast0 (s_ret ⟨rfl, e1, (false, ()), rfl, Iff.intro (fun h => by cases h) fun h => absurd h g⟩))
    · exact s_skip (by decide) (s_tag (s_castB (s_ret ⟨rfl, e1, (true, ()), rfl, Iff.intro (fun _ => g) fun _ => rfl⟩)))

end Go.Sw.Codec
