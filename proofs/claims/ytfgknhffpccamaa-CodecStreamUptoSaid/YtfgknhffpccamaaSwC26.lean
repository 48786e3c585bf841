/-
  Codec: one step of a script, of two streams that have seen the same.
-/
import Derived.Test.YtfgknhffpccamaaSwC25
set_option linter.unusedVariables false
set_option linter.unusedSimpArgs false
set_option maxRecDepth 100000
namespace Go.Sw.Codec
variable {P : Program} {S : Ids} {h : Heap} {Q : Nat → List Value → Heap → Prop} {n : Nat}

abbrev cfoot (c : Sl) (i : Nat) : Prop := ∃ a, c.base = some a ∧ a.block = i

theorem Half.foot_p {d : DS} : d.foot d.p.block := .inl rfl
theorem rfoot_foot {d : DS} {i : Nat} (h : rfoot d.q d.rs i) : d.foot i := .inr (.inr h)

/-- Both are fed the same. -/
theorem s_feeds (M : Meth P S) {d : DS} {b b' : Sl} {x : List Int} {K : Sl × Unit → Sl × Unit → Prog} (u : Duo S n h d) (hn : n ≤ h.size) (hb : Lst .u8 h b x) (hb' : Lst .u8 h b' x) (hf : x ≠ [] → ∀ a, b'.base = some a → ¬ d.foot a.block) (hl : d.all.length + x.length ≤ 1099511627776)
    {W : (Sl × Unit → Prog) → Prog} (hW : ∀ (K' : Sl × Unit → Prog) (h' : Heap), Chg (fun i => i = d.p.block) h h' → wp P (.call (F_ref_Stream_Feed S (some d.q) b') [.one .sl] K') h' Q → wp P (W K') h' Q)
    (hk : ∀ y1 y2 h' d' z, Chg d.foot h h' → Duo S n h' d' → Next d d' h.size → d'.all.length = d.all.length + x.length → Lst .i64 h' y1.1 z → Lst .i64 h' y2.1 z → (∀ a, y1.1.base = some a → h.size ≤ a.block) → (∀ a, y2.1.base = some a → h.size ≤ a.block) → wp P (K y1 y2) h' Q) :
    wp P (.call (F_Stream_Feed S (some d.p) b) [.one .sl] fun y1 => W fun y2 => K y1 y2) h Q := by
  refine wp_callF (c_feed1 M u hn hb hl) fun y1 h1 c1 ⟨ws', v, hv, hu, hws, ho⟩ => hW _ h1 c1 ?_
  have hn1 : n ≤ h1.size := Nat.le_trans hn c1.1
  have hb1 := c1.lst0 hb' fun hx a ha e => hf hx a ha (.inl e)
  refine wp_callF (c_feed2 hv hu hn1 hb1 (fun hx a ha hr => hf hx a ha (rfoot_foot hr)) hl) fun y2 h2 c2 ⟨d', g1, g2, g3, g4, g5, g6, g7, g8, g9⟩ => ?_
  have c12 : Chg d.foot h h2 := (c1.mono fun i _ hi => .inl hi).trans c2 fun i _ hi => rfoot_foot hi
  refine hk y1 y2 h2 d' _ c12 g1 ⟨g2, g3, g4, fun i hi => ?_⟩ (by rw [g5, List.length_append]) (c2.lst ho.lst fun a ha hr => ?_) g8 (fun a ha => (ho.own.lt ha).1) (fun a ha => by have := g9 a ha; have := c1.1; omega)
  · rcases hi with hi | ⟨a, ha, hi⟩ | hi | ⟨a, ha, hi⟩
    · left; left; rw [← g2]; exact hi
    · right; rw [g6] at ha; have := hws a ha; omega
    · left; right; right; left; rw [← g3]; exact hi
    · rcases g7 a ha with hh | hh
      · left; right; right; right; exact ⟨a, hh, hi⟩
      · right; have := c1.1; omega
  · have h3 := (ho.own.lt ha).1
    have h4 := (u.lo _ (.inr (.inr hr))).2
    omega

theorem Next.mono {d d' : DS} {m m' : Nat} (a : Next d d' m') (hm : m ≤ m') : Next d d' m := ⟨a.p, a.q, a.enc, fun i hi => (a.foot i hi).imp id fun h => Nat.le_trans hm h⟩
theorem Lent.chg {F : Nat → Prop} {m : Nat} {k : IntKind} {M : Int → Int} {l : List Int} {x : Sl × Unit} {h h' : Heap} (hc : Lent m k M l x h) (c : Chg F h h') (hf : ∀ a, x.1.base = some a → ¬ F a.block) : Lent m k M l x h' :=
  ⟨hc.1, hc.2.1, c.ownL hc.2.2 hf⟩

/-- What was lent is written over. -/
theorem s_over {m : Nat} {c : Sl} {L : List Int} {K : Nat → List Value → Prog} (ho : OwnL m .u8 h c L) (hk : ∀ h', Chg (cfoot c) h h' → wp P (K 3 []) h' Q) :
    wp P (.bind (.loop [(Ty.one (B.int IntKind.i64))] ((0 : Int), ()) fun (r100 : (Int × Unit)) =>
            ifB (ltI r100.1 (natI c.len))
              (grd (andB (someB c.base) (inB r100.1 c.len)) <|
              .store (shiftTo c.base (mulN (toN r100.1) 1)) [(Value.int IntKind.u8 (wrapI IntKind.u8 (mulI IntKind.i64 17 r100.1)))] <|
              .ret 0 [(Value.int IntKind.i64 (addI IntKind.i64 r100.1 1))]) <|
            .ret 3 []) K) h Q := by
  have hlen := ho.len
  have hcap := ho.own.2.1
  have hmax := ho.own.2.2.1
  refine wp_while (fun (s : Int × Unit) h' => Chg (cfoot c) h h' ∧ 0 ≤ s.1 ∧ s.1 ≤ L.length ∧ ∃ l' : List Int, l'.length = L.length ∧ OwnL m .u8 h' c l') (fun s _ => L.length - s.1.toNat)
    (fun t vs h' => t = 3 ∧ vs = [] ∧ Chg (cfoot c) h h') ⟨Chg.refl _ _, by simp, by simp, L, rfl, ho⟩ ?_ ?_
  · rintro ⟨(i : Int), u⟩ h' ⟨k, h0, h1, l', hl', ho⟩
    dsimp only at h0 h1 ⊢
    refine wp_ifB (fun hc => ?_) fun hc => ?_
    · rw [ltI_iff, natI_def, hlen] at hc
      refine s_set ho h0 (by omega) (range_u8 _) fun h2 o2 u2 z2 => ?_
      rw [add_ok (by omega) (by omega)]
      exact s_ret ⟨fun _ => ⟨(i + 1, ()), rfl, ⟨k.upd u2 fun a ha _ => ⟨a, ha, rfl⟩, by dsimp only; omega, by dsimp only; omega, _, by simpa using hl', o2⟩, by dsimp only; omega⟩, fun h => absurd rfl h⟩
    · exact s_ret ⟨fun h => absurd h (by decide), fun _ => ⟨rfl, rfl, k⟩⟩
  · rintro t vs h' ⟨rfl, rfl, k⟩
    exact hk h' k

/-- What a step leaves. -/
structure Played (S : Ids) (n : Nat) (d : DS) (h : Heap) (m : Nat) (h' : Heap) : Prop where
  ex : ∃ d', Duo S n h' d' ∧ Next d d' h.size ∧ d'.all.length ≤ d.all.length + m

theorem c_played (M : Meth P S) {d : DS} {k w : Int} {b : Sl} {x : List Int} (u : Duo S n h d) (hn : n ≤ h.size) (hb : Lst .u8 h b x) (hf : x ≠ [] → ∀ a, b.base = some a → ¬ d.foot a.block) (hl : d.all.length + 2 * x.length ≤ 1099511627776) :
    GivesF d.foot P (F_law1_played S (some d.p) (some d.q) (k, w, b, ())) [.one .bool] h fun y h' => y.1 = true ∧ Played S n d h (2 * x.length) h' := by
  have hlb := hb.len
  unfold F_law1_played GivesF
  dsimp only
  intro elem
  have o1 : Own h.size 1 (h.push (.cells [i64v k, i64v w, slv b].toArray elem)) ⟨some ⟨h.size, 0, none⟩, 3, 3⟩ [i64v k, i64v w, slv b] := own_alloc rfl (by decide) (by decide)
  have e1 : Ext h (h.push (.cells [i64v k, i64v w, slv b].toArray elem)) := Ext.push ..
  have z1 : (h.push (.cells [i64v k, i64v w, slv b].toArray elem)).size = h.size + 1 := by simp
  generalize (h.push (.cells [i64v k, i64v w, slv b].toArray elem)) = h1 at o1 e1 z1 ⊢
  have u1 := u.ext e1
  have hn1 : n ≤ h1.size := Nat.le_trans hn e1.1
  have hfl : ∀ i, d.foot i → i < h.size := fun i hi => (u.lo i hi).2
  have hfl1 : ∀ i, d.foot i → i < h1.size := fun i hi => by have := hfl i hi; omega
  have obK : ∀ {h'}, Chg d.foot h1 h' → Own h.size 1 h' ⟨some ⟨h.size, 0, none⟩, 3, 3⟩ [i64v k, i64v w, slv b] := fun c => c.own o1 fun a ha hx => by cases ha; have := hfl _ hx; dsimp only at this; omega
  have ld0 : ∀ {h'} {K : Int → Prog} {Q : Nat → List Value → Heap → Prop}, Own h.size 1 h' ⟨some ⟨h.size, 0, none⟩, 3, 3⟩ [i64v k, i64v w, slv b] → wp P (K k) h' Q → wp P (.load (.one (.int .i64)) (shiftTo (some ⟨h.size, 0, none⟩) 0) K) h' Q := fun c hk =>
    wp_load1 (b := .int .i64) _ k rfl (cells_iff.1 c.cells' 0 _ rfl) hk
  have ld1 : ∀ {h'} {K : Int → Prog} {Q : Nat → List Value → Heap → Prop}, Own h.size 1 h' ⟨some ⟨h.size, 0, none⟩, 3, 3⟩ [i64v k, i64v w, slv b] → wp P (K w) h' Q → wp P (.load (.one (.int .i64)) (shiftTo (some ⟨h.size, 0, none⟩) 1) K) h' Q := fun c hk =>
    wp_load1 (b := .int .i64) _ w rfl (cells_iff.1 c.cells' 1 _ rfl) hk
  have ld2 : ∀ {h'} {K : Sl → Prog} {Q : Nat → List Value → Heap → Prop}, Own h.size 1 h' ⟨some ⟨h.size, 0, none⟩, 3, 3⟩ [i64v k, i64v w, slv b] → wp P (K b) h' Q → wp P (.load (.one .sl) (shiftTo (some ⟨h.size, 0, none⟩) 2) K) h' Q := fun c hk =>
    wp_load1 (b := .sl) _ b rfl (cells_iff.1 c.cells' 2 _ rfl) hk
  refine ld0 o1 (wp_ifB (fun hc => ?_) fun hc => wp_ifB (fun hc2 => ?_) fun hc2 => wp_ifB (fun hc3 => ?_) fun hc3 => ?_)
  · -- Feed
    refine ld2 o1 (wp_call (c_lend (hb.ext e1) (by omega)) fun c h2 e2 hc => ld2 (o1.ext e2) ?_)
    have hc1 := hc.1
    have hcap := hc.2.2.own.2.2.1
    have u2 := u1.ext e2
    have e12 := e1.trans e2
    simp only [cutBase_zero, subZero, natTo, hlb]
    refine s_grd (leB_ok (by rw [natI_def]; omega) (by rw [natI_def]; omega)) ?_
    have cne : ∀ a, c.1.base = some a → ¬ d.foot a.block := fun a ha hx => by have := (hc.2.2.own.lt ha).1; have := hfl1 _ hx; omega
    refine s_feeds M u2 (Nat.le_trans hn1 e2.1) (lent_take hc _ (by omega) (by omega)) (hb.ext e12) hf (by omega) (W := fun K => .load (.one .sl) (shiftTo (some ⟨h.size, 0, none⟩) 2) fun (l7 : Sl) => .call (F_ref_Stream_Feed S (some d.q) l7) [.one .sl] K)
      (fun K' h' c' hw => ld2 ((c'.mono (G := d.foot) fun i _ hi => .inl hi).own (o1.ext e2) fun a ha hx => by cases ha; have := hfl _ hx; dsimp only at this; omega) hw) ?_
    intro y1 y2 h3 d' z c3 u3 nx hlen hy1 hy2 hb1 hb2
    have c13 : Chg d.foot h1 h3 := Chg.pre e2 c3
    have hc3 := hc.chg c3 cne
    have hb3 := c3.lst0 (hb.ext e12) hf
    have nf' : ∀ i, i < h2.size → ¬ d.foot i → ¬ d'.foot i := fun i hi hx hy => by
      rcases nx.foot i hy with hh | hh
      · exact hx hh
      · omega
    have cblk : ∀ a, c.1.base = some a → a.block < h2.size := fun a ha => (hc.2.2.own.lt ha).2
    refine bind_bool False ?_ fun c' h4 e4 hc' => wp_ifB (fun h => (hc'.1 h).elim) fun _ => ?_
    · refine wp_call (c_sameInts hy1 hy2) fun w h4 e4 hw => wp_ifB (fun hn => ?_) fun _ => ld2 ((obK c13).ext e4) (wp_call (c_kept (Lent.ext hc3 e4) (hb3.ext e4)) fun v h5 e5 hv => s_ret ⟨rfl, e4.trans e5, _, rfl, ?_⟩)
      · have hw : w.1 = decide (z = z) := hw
        rw [notB_iff, hw] at hn; simp at hn
      · have hv : v.1 = true := hv
        rw [hv]; simp [notB]
    have c14 : Chg d.foot h1 h4 := c13.ext e4
    have c04 : Chg d.foot h h4 := Chg.pre e1 c14
    have hc4 := Lent.ext hc3 e4
    have u4 := u3.ext e4
    have s34 := e4.1
    have s23 := c3.1
    have s12 := e2.1
    have cnew : ∀ i, i < h.size → cfoot c.1 i → d.foot i := fun i hi ⟨a', ha', e⟩ => by have := (hc.2.2.own.lt ha').1; omega
    refine wp_bind (fun t vs h' => t = 0 ∧ ∃ (l m : Sl) (z : List Int) (d2 : DS) (L : List Int), vs = [slv l, slv m] ∧ Chg d.foot h h' ∧ Duo S n h' d2 ∧ Next d d2 h2.size ∧ d2.all.length ≤ d.all.length + 2 * x.length ∧ Lst .i64 h' l z ∧ Lst .i64 h' m z ∧
      OwnL h1.size .u8 h' c.1 L ∧ L.length = c.1.len ∧ (∀ a, l.base = some a → ¬ cfoot c.1 a.block) ∧ (∀ a, m.base = some a → ¬ cfoot c.1 a.block)) ?_ ?_
    · refine ld1 (obK c14) (s_not (wp_ifB (fun hd => ?_) fun hd => ?_))
      · refine ld2 (obK c14) ?_
        rw [natI_def, hlb]
        refine wp_callF (c_turnedF (n := x.length) hc4.2.2 (by rw [List.length_append]; omega) (by omega)) fun p h5 c5 ⟨l', hl', ho5, hp⟩ => ?_
        have c05 : Chg d.foot h h5 := c04.trans c5 cnew
        have ob5 : Own h.size 1 h5 ⟨some ⟨h.size, 0, none⟩, 3, 3⟩ [i64v k, i64v w, slv b] := c5.own (obK c14) fun a ha ⟨a', ha', e⟩ => by cases ha; have := (hc.2.2.own.lt ha').1; dsimp only at e; omega
        have u5 := u4.chg c5 fun i hi ⟨a', ha', e⟩ => nf' a'.block (cblk a' ha') (cne a' ha') (by rw [e]; exact hi)
        have s45 := c5.1
        refine ld2 ob5 (s_grd (leB_ok (by rw [natI_def]; omega) (by rw [natI_def]; omega)) ?_)
        have hpt := OwnL.part ho5 hl'.symm
        simp only [natTo, hlb]
        rw [← nx.p, ← nx.q]
        refine s_feeds M u5 (by omega) hpt hp.lst (fun _ a ha hx => ?_) (by rw [hlen, hl']; omega) (W := fun K => .call (F_ref_Stream_Feed S (some d'.q) p.1) [.one .sl] K) (fun K' h' c' hw => hw) ?_
        · have h6 := (hp.own.lt ha).1
          have h7 := (u4.lo _ hx).2
          omega
        intro y1' y2' h6 d2 z2 c6 u6 nx2 hlen2 hy1' hy2' hb1' hb2'
        have s56 := c6.1
        refine s_ret ⟨rfl, y1'.1, y2'.1, z2, d2, _, rfl, c05.trans c6 (fun i hi hx => ?_), u6, nx.trans nx2 (by omega), by omega, hy1', hy2', c6.ownL ho5 (fun a ha => nf' _ (cblk a ha) (cne a ha)), ?_, fun a ha ⟨a', ha', e⟩ => ?_, fun a ha ⟨a', ha', e⟩ => ?_⟩
        · rcases nx.foot i hx with hh | hh
          · exact hh
          · omega
        · have := ho5.len; exact this.symm
        · have := hb1' a ha; have := cblk a' ha'; omega
        · have := hb2' a ha; have := cblk a' ha'; omega
      · refine s_ret ⟨rfl, y1.1, y2.1, z, d', _, rfl, c04, u4, nx, by omega, hy1.ext e4, hy2.ext e4, hc4.2.2, ?_, fun a ha ⟨a', ha', e⟩ => ?_, fun a ha ⟨a', ha', e⟩ => ?_⟩
        · have := hc4.2.2.len; exact this.symm
        · have := hb1 a ha; have := cblk a' ha'; omega
        · have := hb2 a ha; have := cblk a' ha'; omega
    rintro t vs h5 ⟨rfl, l, m, z', d2, L, rfl, c5, u5, nx5, hl5, hl1, hl2, ho5, hL, q1, q2⟩
    refine s_tag ⟨(l, m, ()), rfl, s_over ho5 fun h6 c6 => s_tag (s_cast0 ?_)⟩
    have u6 := u5.chg c6 fun i hi ⟨a', ha', e⟩ => by
      rcases nx5.foot i hi with hh | hh
      · exact cne a' ha' (by rw [e]; exact hh)
      · have := cblk a' ha'; omega
    refine wp_call (c_sameInts (c6.lst hl1 q1) (c6.lst hl2 q2)) fun v h7 e7 hv => s_ret ⟨rfl, (c5.trans c6 cnew).ext e7, (v.1, ()), rfl, ?_, ⟨d2, u6.ext e7, nx5.mono (by omega), hl5⟩⟩
    have hv : v.1 = decide (z' = z') := hv
    rw [hv]; simp
  · -- Held
    refine wp_call (c_held1 u1) fun y h2 e2 hy => wp_call (c_held2 (u1.ext e2) (by omega)) fun y2 h3 e3 hy2 => s_ret ⟨rfl, Chg.of_ext ((e1.trans e2).trans e3), (_, ()), rfl, ?_, ⟨d, (u1.ext e2).ext e3, Next.refl _ _, by omega⟩⟩
    have hy : y.1 = d.w.length := hy
    have hy2 : y2.1 = d.w.length := hy2
    dsimp only
    rw [hy, hy2]; exact eqI_iff.2 rfl
  · -- Close
    refine wp_callF (c_close1 M u1 hn1 (by omega)) fun y h2 c2 ⟨u2, ho⟩ => wp_callF (c_close2 u2 (Nat.le_trans hn1 c2.1) (by omega)) fun y2 h3 c3 ⟨d', g1, g2, g3, g4, g5, g6, g7, g8, g9⟩ => ?_
    have c13 : Chg d.foot h1 h3 := (c2.mono fun i _ hi => .inl hi).trans c3 fun i _ hi => rfoot_foot (.inl hi)
    have hy := c3.lst ho.lst fun a ha hr => by
      have h3 := (ho.own.lt ha).1
      have h4 := hfl1 _ (rfoot_foot (.inl hr))
      omega
    refine wp_call (c_sameInts hy g8) fun v h4 e4 hv => s_ret ⟨rfl, (Chg.pre e1 c13).ext e4, (v.1, ()), rfl, ?_, ⟨d', g1.ext e4, ⟨g2, g3, g4, fun i hi => ?_⟩, by rw [g5]; simp⟩⟩
    · have hv : v.1 = decide (dec d.enc d.w = dec d.enc d.w) := hv
      rw [hv]; simp
    · left
      rcases hi with hi | ⟨a, ha, hi⟩ | hi | ⟨a, ha, hi⟩
      · left; rw [← g2]; exact hi
      · rw [g6] at ha; cases ha
      · right; right; left; rw [← g3]; exact hi
      · rw [g7] at ha; cases ha
  · exact s_ret ⟨rfl, Chg.of_ext e1, (true, ()), rfl, rfl, ⟨d, u1, Next.refl _ _, by omega⟩⟩
end Go.Sw.Codec
