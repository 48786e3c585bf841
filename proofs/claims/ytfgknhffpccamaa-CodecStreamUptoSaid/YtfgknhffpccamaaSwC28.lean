/-
  Codec: the law CodecStream.
-/
import Derived.Test.YtfgknhffpccamaaSwC27
import Derived.Test.YtfgknhffpccamaaSwU4
set_option linter.unusedVariables false
set_option linter.unusedSimpArgs false
set_option maxRecDepth 100000
namespace Go.Sw.Codec
variable {P : Program} {S : Ids} {h : Heap} {Q : Nat → List Value → Heap → Prop} {n : Nat}

/-- Two streams, of the program's and of the document's, or none of both. -/
def Maybe (G : Pl) (i : Nat) (sp rp : Option Addr) : Prop := (G i = none ∧ sp = none ∧ rp = none) ∨ ∃ d, G i = some d ∧ sp = some d.p ∧ rp = some d.q
theorem Maybe.none {G : Pl} {i : Nat} {sp rp : Option Addr} (m : Maybe G i sp rp) : noneB sp = noneB rp := by
  rcases m with ⟨_, rfl, rfl⟩ | ⟨d, _, rfl, rfl⟩ <;> rfl
theorem Maybe.upd {G : Pl} {i j : Nat} {sp rp : Option Addr} {d d' : DS} (m : Maybe G i sp rp) (hj : G j = some d) (hp : d'.p = d.p) (hq : d'.q = d.q) : Maybe (upd G j d') i sp rp := by
  by_cases hij : i = j
  · subst hij
    rcases m with ⟨h, _⟩ | ⟨e, he, h1, h2⟩
    · rw [h] at hj; cases hj
    · rw [he] at hj; cases hj
      exact .inr ⟨d', upd_same .., by rw [hp]; exact h1, by rw [hq]; exact h2⟩
  · unfold Maybe; rw [upd_other _ _ hij]; exact m

abbrev OpSh : Sh := .str (.pair (.int .i64) (.pair (.int .i64) (.pair (.list (.int .u8)) .unit)))
abbrev OpD := OpSh.den

/-- The two streams that a law's script is played on. -/
def two (G : Pl) (h : Heap) (n : Nat) (S : Ids) (r1 r2 r3 r4 : Option Addr × Int × Unit) : Prop :=
  Pool S n h G ∧ Maybe G 0 r1.1 r3.1 ∧ Maybe G 1 r2.1 r4.1 ∧ r1.2.1 = r3.2.1 ∧ r2.2.1 = r4.2.1 ∧ (∀ i, G (2 + i) = none) ∧ (∀ i d, G i = some d → d.all = []) ∧ ∀ i d x, G i = some d → d.foot x → n ≤ x

theorem s_two {enc other : Int} {K : Option Addr × Int × Unit → Option Addr × Int × Unit → Option Addr × Int × Unit → Option Addr × Int × Unit → Prog} (hcont : ∀ r1 r2 r3 r4 h' G, Ext h h' → two G h' h.size S r1 r2 r3 r4 → wp P (K r1 r2 r3 r4) h' Q) :
    wp P (.call (F_codec_NewStream S enc) [(Ty.one B.ptr), (Ty.one (B.int IntKind.i64))] fun (r1 : ((Option Addr) × (Int × Unit))) =>
  .call (F_codec_NewStream S other) [(Ty.one B.ptr), (Ty.one (B.int IntKind.i64))] fun (r2 : ((Option Addr) × (Int × Unit))) =>
  .call (F_ref1_NewStream S enc) [(Ty.one B.ptr), (Ty.one (B.int IntKind.i64))] fun (r3 : ((Option Addr) × (Int × Unit))) =>
  .call (F_ref1_NewStream S other) [(Ty.one B.ptr), (Ty.one (B.int IntKind.i64))] fun (r4 : ((Option Addr) × (Int × Unit))) => K r1 r2 r3 r4) h Q := by
  refine wp_call c_NewStream fun ⟨sp, (se : Int), _⟩ h1 e1 hs => wp_call c_NewStream fun ⟨tp, (te : Int), _⟩ h2 e2 ht => wp_call (c_ref_New (n := h.size) (e1.trans e2).1) fun ⟨rp, (re : Int), _⟩ h3 e3 hr => wp_call (c_ref_New (n := h.size) ((e1.trans e2).trans e3).1) fun ⟨up, (ue : Int), _⟩ h4 e4 hu => ?_
  dsimp only at hs ht hr hu
  have e14 := (e2.trans e3).trans e4
  have P0 : Pool S h.size h4 (fun _ => none) := ⟨fun i d hi => (by cases hi), fun i j d e _ hi => (by cases hi)⟩
  have foot0 : ∀ {p q : Addr} {k : Int} {x : Nat}, (DS.mk p q k ⟨none, 0, 0⟩ ⟨none, 0, 0⟩ [] 0).foot x → x = p.block ∨ x = q.block := by
    rintro p q k x (rfl | ⟨z, hz, rfl⟩ | rfl | ⟨z, hz, rfl⟩)
    · exact .inl rfl
    · cases hz
    · exact .inr rfl
    · cases hz
  -- the first
  have one : ∃ (G : Pl), Pool S h.size h4 G ∧ Maybe G 0 sp rp ∧ se = re ∧ (∀ i, G (1 + i) = none) ∧ (∀ i d, G i = some d → d.all = []) ∧ ∀ i d x, G i = some d → d.foot x → h.size ≤ x ∧ (∃ p q : Addr, sp = some p ∧ rp = some q ∧ (x = p.block ∨ x = q.block)) := by
    rcases hs with ⟨hk, hs1, hs2⟩ | ⟨hk, hs2, p, hs1, hpb, st⟩ <;> rcases hr with ⟨hk', hr1, hr2⟩ | ⟨hk', hr2, q, hr1, hqb, hqs, rt⟩
    · exact ⟨fun _ => none, P0, .inl ⟨rfl, hs1, hr1⟩, by rw [hs2, hr2], fun _ => rfl, fun i d hi => (by cases hi), fun i d x hi => (by cases hi)⟩
    · exact absurd hk' hk
    · exact absurd hk hk'
    · have hne : p.block ≠ q.block := by have := st.lt; have := e2.1; omega
      have d0 := duo_new hk (st.ext e14) (rt.ext e4) hpb hne
      have hn : ∀ x, (DS.mk p q enc ⟨none, 0, 0⟩ ⟨none, 0, 0⟩ [] 0).foot x → h.size ≤ x := fun x hx => by
        rcases foot0 hx with rfl | rfl
        · exact hpb
        · have := e1.1; have := e2.1; omega
      refine ⟨_, P0.add (i := 0) (m := h.size) d0 hn fun j e x hj => (by cases hj), .inr ⟨_, upd_same .., hs1, hr1⟩, by rw [hs2, hr2], fun i => upd_other _ _ (by omega), fun i d hi => ?_, fun i d x hi hx => ?_⟩
      · by_cases h0 : i = 0
        · subst h0; rw [upd_same] at hi; cases hi; rfl
        · rw [upd_other _ _ h0] at hi; cases hi
      · by_cases h0 : i = 0
        · subst h0; rw [upd_same] at hi; cases hi; exact ⟨hn x hx, p, q, hs1, hr1, foot0 hx⟩
        · rw [upd_other _ _ h0] at hi; cases hi
  obtain ⟨G, pG, mG, eG, nG, aG, fG⟩ := one
  rcases ht with ⟨hk, hs1, hs2⟩ | ⟨hk, hs2, p, hs1, hpb, st⟩ <;> rcases hu with ⟨hk', hr1, hr2⟩ | ⟨hk', hr2, q, hr1, hqb, hqs, rt⟩
  · exact hcont _ _ _ _ h4 G (e1.trans e14) ⟨pG, mG, .inl ⟨nG 0, hs1, hr1⟩, eG, by dsimp only; rw [hs2, hr2], fun i => by rw [show 2 + i = 1 + (1 + i) by omega]; exact nG _, aG, fun i d x hi hx => (fG i d x hi hx).1⟩
  · exact absurd hk' hk
  · exact absurd hk hk'
  · have hne : p.block ≠ q.block := by have := st.lt; have := e3.1; omega
    have d0 := duo_new hk (st.ext (e3.trans e4)) rt (n := h.size) (by have := e1.1; omega) hne
    have hap : ∀ j e x, G j = some e → e.foot x → ¬ (DS.mk p q other ⟨none, 0, 0⟩ ⟨none, 0, 0⟩ [] 0).foot x := fun j e x hj hx hy => by
      obtain ⟨_, p', q', hp', hq', hpq⟩ := fG j e x hj hx
      have h1' : p'.block < h1.size ∧ h.size ≤ p'.block := by
        rcases hs with ⟨_, hs1, _⟩ | ⟨_, _, p2, hs1, hpb2, st2⟩
        · rw [hs1] at hp'; cases hp'
        · rw [hs1] at hp'; cases hp'; exact ⟨st2.lt, hpb2⟩
      have h2' : h2.size ≤ q'.block ∧ q'.block < h3.size := by
        rcases hr with ⟨_, hr1, _⟩ | ⟨_, _, q2, hr1, hqb2, hqs2, _⟩
        · rw [hr1] at hq'; cases hq'
        · rw [hr1] at hq'; cases hq'; exact ⟨hqb2, hqs2⟩
      have h3' := st.lt
      have := e2.1
      rcases foot0 hy with rfl | rfl <;> rcases hpq with h | h <;> omega
    have padd : Pool S h.size h4 (upd G 1 ⟨p, q, other, ⟨none, 0, 0⟩, ⟨none, 0, 0⟩, [], 0⟩) := by
      refine ⟨fun j e hj => ?_, fun j k e f hjk hj hk' x hx hy => ?_⟩
      · by_cases h1 : j = 1
        · subst h1; rw [upd_same] at hj; cases hj; exact d0
        · rw [upd_other _ _ h1] at hj; exact pG.duo j e hj
      · by_cases h1 : j = 1
        · subst h1; rw [upd_same] at hj; cases hj
          rw [upd_other _ _ (Ne.symm hjk)] at hk'
          exact hap k f x hk' hy hx
        · rw [upd_other _ _ h1] at hj
          by_cases h2 : k = 1
          · subst h2; rw [upd_same] at hk'; cases hk'
            exact hap j e x hj hx hy
          · rw [upd_other _ _ h2] at hk'; exact pG.apart j k e f hjk hj hk' x hx hy
    refine hcont _ _ _ _ h4 _ (e1.trans e14) ⟨padd, ?_, .inr ⟨_, upd_same .., hs1, hr1⟩, eG, by dsimp only; rw [hs2, hr2], fun i => by rw [upd_other _ _ (by omega), show 2 + i = 1 + (1 + i) by omega]; exact nG _, fun i d hi => ?_, fun i d x hi hx => ?_⟩
    · unfold Maybe; rw [upd_other _ _ (by decide)]; exact mG
    · by_cases h1 : i = 1
      · subst h1; rw [upd_same] at hi; cases hi; rfl
      · rw [upd_other _ _ h1] at hi; exact aG i d hi
    · by_cases h1 : i = 1
      · subst h1; rw [upd_same] at hi; cases hi
        rcases foot0 hx with rfl | rfl
        · have := e1.1; omega
        · have := e1.1; have := e2.1; have := e3.1; omega
      · rw [upd_other _ _ h1] at hi; exact (fG i d x hi hx).1


/-- One step of the script, on the stream of number k, if there is one. -/
theorem s_one (M : Meth P S) {G : Pl} {w : Addr} {a b : Sl} {m B : Nat} {j : Nat} {sp rp : Option Addr} {k who : Int} {s : Sl} {x : List Int} {K : Bool × Unit → Prog} (c : Crowd S n h G w a b m) (hn : n ≤ h.size) (hm : Maybe G j sp rp) (hsp : noneB sp = false) (hB : Small G B) (hb : Lst .u8 h s x)
    (hs : x ≠ [] → ∀ q, s.base = some q → ∀ i d, G i = some d → ¬ d.foot q.block) (hl : B + 2 * x.length ≤ 1099511627776)
    (hk : ∀ h' G' y, Chg (fun z => ∃ i d, G i = some d ∧ d.foot z) h h' → Crowd S n h' G' w a b m → (∀ i sp rp, Maybe G i sp rp → Maybe G' i sp rp) → Small G' (B + 2 * x.length) → (∀ i d z, G' i = some d → d.foot z → (∃ d0, G i = some d0 ∧ d0.foot z) ∨ h.size ≤ z) → y.1 = true → wp P (K y) h' Q) :
    wp P (.call (F_law1_played S sp rp (k, who, s, ())) [.one .bool] K) h Q := by
  rcases hm with ⟨_, rfl, _⟩ | ⟨d, hd, rfl, rfl⟩
  · cases hsp
  have u := c.pool.duo _ d hd
  have hsm := hB _ d hd
  refine wp_callF (c_played M (k := k) (w := who) u hn hb (fun hx q hq => hs hx q hq _ d hd) (by omega)) fun y h' c' ⟨hy, ⟨d', u', nx, hl'⟩⟩ => ?_
  refine hk h' (upd G j d') y (c'.mono fun i _ hx => ⟨j, d, hd, hx⟩) (c.step hd c' u' nx) (fun i sp rp mm => mm.upd hd nx.p nx.q) ((hB.mono (by omega)).upd (by omega)) (fun i e z hi hz => ?_) hy
  by_cases hij : i = j
  · subst hij; rw [upd_same] at hi; cases hi
    rcases nx.foot z hz with hh | hh
    · exact .inl ⟨d, hd, hh⟩
    · exact .inr hh
  · rw [upd_other _ _ hij] at hi; exact .inl ⟨e, hi, hz⟩

theorem rem2_no (w : Int) : eqI (remI .i64 w 2) 0 = true ∨ neI (remI .i64 w 2) 0 = true := by
  by_cases h : remI .i64 w 2 = 0
  · exact .inl (eqI_iff.2 h)
  · exact .inr (neI_iff.2 h)

theorem c_streams (M : Meth P S) {enc other : Int} {x : Sl × List OpD} (ho : (Sh.list OpSh).ok h x) (htot : (x.2.map fun o => 4 * o.2.2.1.2.length).sum ≤ 1099511620000) :
    Gives P (F_law1_streams S enc other x.1) [.one .bool] h fun (y : Bool × Unit) _ => y.1 = true := by
  unfold F_law1_streams Gives
  refine s_two fun r1 r2 r3 r4 h1 G e1 ⟨p1, m1, m2, q1, q2, hno, hall, hlo⟩ => ?_
  have hB : Small G 0 := fun i d hi => by rw [hall i d hi]; exact Nat.le_refl _
  refine bind_bool False ?_ fun c' h2 e2 hc' => wp_ifB (fun h => (hc'.1 h).elim) fun _ => ?_
  · refine wp_call (c_law1_num _) fun v h2 e2 hv => s_neF ((show v.1 = r1.2.1 from hv).trans q1) (wp_call (c_law1_num _) fun v h3 e3 hv => s_neF ((show v.1 = r2.2.1 from hv).trans q2) ?_)
    have hs : ∀ a, eqB a a = true := fun a => by cases a <;> rfl
    rw [m1.none, m2.none, hs, hs]
    exact s_ifF (s_ret ⟨rfl, e2.trans e3, false, rfl, Iff.intro (fun h => by cases h) False.elim⟩)
  have e12 := e1.trans e2
  refine wp_call (c_crowded M (p1.ext e2) hno e12.1 hB) fun ⟨wp', (ok : Bool), _⟩ h3 e3 ⟨hok, G', w, a, b, m, hw, cr, hm5, g0, g1, hB'⟩ => ?_
  have hok : ok = true := hok
  have hw : wp' = some w := hw
  subst hok
  subst hw
  have e13 := e12.trans e3
  have m1' : Maybe G' 0 r1.1 r3.1 := by unfold Maybe; rw [g0]; exact m1
  have m2' : Maybe G' 1 r2.1 r4.1 := by unfold Maybe; rw [g1]; exact m2
  refine s_ifF ?_
  refine wp_while (fun (s : Int × Unit) h' => Ext h h' ∧ ∃ (i : Nat) (G' : Pl), s.1 = i ∧ i ≤ x.2.length ∧ Crowd S h.size h' G' w a b m ∧ Maybe G' 0 r1.1 r3.1 ∧ Maybe G' 1 r2.1 r4.1 ∧ Small G' (5 + ((x.2.take i).map fun o => 4 * o.2.2.1.2.length).sum)) (fun s _ => ((x.2.length : Int) - s.1).toNat)
    (fun t vs h' => t = 2 ∧ vs = [] ∧ Ext h h' ∧ ∃ (G' : Pl), Crowd S h.size h' G' w a b m ∧ Small G' 1099511625000) ⟨e13, 0, G', rfl, by omega, cr, m1', m2', by simpa using hB'⟩ ?_ ?_
  · rintro ⟨i', u⟩ h4 ⟨e4, i, G2, hi, hil, c4, n1, n2, s4⟩
    dsimp only at hi ⊢
    subst hi
    have hxl := ho.len
    have hlen := ho.2.1
    have hmax := ho.2.2.1
    refine wp_ifB (fun hc => ?_) fun hc => ?_
    · rw [ltI_iff, natI_def, hxl] at hc
      obtain ⟨o, hio⟩ : ∃ o, x.2[i]? = some o := ⟨x.2[i]'(by omega), List.getElem?_eq_getElem (by omega)⟩
      have hst := sum_take (fun o : OpD => 4 * o.2.2.1.2.length) hio
      have hsl := sum_take_le (fun o : OpD => 4 * o.2.2.1.2.length) x.2 (i + 1)
      have hoe := ho.el hio
      refine s_atSh (ho.ext e4) (by omega) (by simpa using hio) rfl (z := (o.1, o.2.1, o.2.2.1.1, ())) rfl ?_
      dsimp only
      refine s_newV (by simp) fun ad h5 had e5 o5 => s_putV [i64v o.1, i64v o.2.1, slv o.2.2.1.1] o5 rfl (by intro v hv; simp only [List.mem_cons, List.not_mem_nil, or_false] at hv; rcases hv with rfl | rfl | rfl <;> rfl) fun h6 o6 u6 z6 => ?_
      have e46 : Ext h4 h6 := by
        refine ⟨by have := e5.1; omega, fun q hq => (u6.2.1 q (by have := e5.1; omega) fun z hz e => by cases hz; omega).trans (e5.2.1 q hq), fun z hz => u6.2.2 z (e5.2.2 z hz)⟩
      have c6 := c4.ext e46
      have e06 := e4.trans e46
      obtain ⟨ko, wo, so, uo⟩ := o
      obtain ⟨so, lo⟩ := so
      dsimp only at hst ⊢
      have hlst : Lst .u8 h so lo := Sh.lst hoe.2.2.1
      have ld1 : ∀ {K : Int → Prog} {Q : Nat → List Value → Heap → Prop} {h'}, Ext h6 h' → wp P (K wo) h' Q → wp P (.load (.one (.int .i64)) (shiftTo (some ad) 1) K) h' Q := fun e hk => wp_load1 (b := .int .i64) _ wo rfl (cells_iff.1 (o6.ext e).cells' 1 _ rfl) hk
      have ldA : ∀ {K : Int × Int × Sl × Unit → Prog} {Q : Nat → List Value → Heap → Prop} {h'}, Ext h6 h' → wp P (K (ko, wo, so, ())) h' Q → wp P (.load (.agg [.int .i64, .int .i64, .sl]) (some ad) K) h' Q := fun e hk => ⟨ad, rfl, (ko, wo, so, ()), (o6.ext e).cells', hk⟩
      have hfree : ∀ {h' : Heap} {G'' : Pl}, Pool S h.size h' G'' → lo ≠ [] → ∀ q, so.base = some q → ∀ i d, G'' i = some d → ¬ d.foot q.block := fun {h'} {G''} pp hne q hq i d hi hx => by
        obtain ⟨y0, l0, hl0⟩ : ∃ y l, lo = y :: l := by cases lo with | nil => exact absurd rfl hne | cons y l => exact ⟨y, l, rfl⟩
        obtain ⟨q', eq, cq⟩ := hlst.rd.at (i := 0) (by rw [hl0]; simp)
        rw [hq] at eq; cases eq
        have := cell_lt cq
        rw [add_block] at this
        have := (pp.lt hi hx).1
        omega
      let F : Nat → Prop := fun z => ∃ i d, G2 i = some d ∧ d.foot z
      have hFad : ¬ F ad.block := fun ⟨j, e, hj, hx⟩ => by have := (c4.pool.lt hj hx).2; omega
      have hF0 : ∀ z, z < h.size → ¬ F z := fun z hz ⟨j, e, hj, hx⟩ => by have := (c4.pool.lt hj hx).1; omega
      have hn6 : h.size ≤ h6.size := e06.1
      -- the first stream
      refine wp_bind (fun t vs h' => t = 0 ∧ vs = [.bool true] ∧ Chg F h6 h' ∧ ∃ (G' : Pl), Crowd S h.size h' G' w a b m ∧ Maybe G' 0 r1.1 r3.1 ∧ Maybe G' 1 r2.1 r4.1 ∧ Small G' (5 + ((x.2.take i).map fun o => 4 * o.2.2.1.2.length).sum + 2 * lo.length) ∧
        (∀ j e z, G' j = some e → e.foot z → F z ∨ h6.size ≤ z)) ?_ ?_
      · refine bind_val (tys := [.one .bool]) (fun (y : Bool × Unit) _ => y.1 = true → noneB r1.1 = false) ?_ fun ⟨(y : Bool), _⟩ h7 e7 hy => ?_
        · refine ld1 (Ext.refl _) (s_not (wp_ifB (fun hd => wp_ifB (fun he => ?_) fun he => ?_) fun hd => ?_))
          · exact s_ret ⟨rfl, Ext.refl _, (_, ()), rfl, fun _ => notB_iff.1 he⟩
          · exact s_ret ⟨rfl, Ext.refl _, (false, ()), rfl, fun h => by cases h⟩
          · exact s_ret ⟨rfl, Ext.refl _, (false, ()), rfl, fun h => by cases h⟩
        dsimp only at hy ⊢
        have c7 := c6.ext e7
        refine wp_ifB (fun hd => ldA e7 ?_) fun hd => s_ret ⟨rfl, rfl, Chg.of_ext e7, G2, c7, n1, n2, s4.mono (by omega), fun j e z hj hx => .inl ⟨j, e, hj, hx⟩⟩
        refine s_one M c7 (Nat.le_trans hn6 e7.1) n1 (hy hd) s4 ((hlst.ext e06).ext e7) (hfree c7.pool) (by omega) fun h8 G3 y c8 k8 mm s8 f8 hy => s_ret ⟨rfl, by rw [hy], Chg.pre e7 c8, G3, k8, mm _ _ _ n1, mm _ _ _ n2, s8, fun j e z hj hx => ?_⟩
        rcases f8 j e z hj hx with ⟨d0, h0, h1⟩ | hh
        · exact .inl ⟨j, d0, h0, h1⟩
        · right; have := e7.1; omega
      rintro t vs h7 ⟨rfl, rfl, c7, G3, k7, n1', n2', s7, f7⟩
      have o7 := c7.own o6 fun z hz hx => by cases hz; exact hFad hx
      have hn7 : h.size ≤ h7.size := Nat.le_trans hn6 c7.1
      have hl7 : Lst .u8 h7 so lo := hlst.ext (Keep.trans e06 (c7.keep hn6 hF0))
      refine s_tag (s_castB ?_)
      refine wp_bind (fun t vs h' => t = 0 ∧ vs = [.bool true] ∧ Ext h h' ∧ ∃ (G' : Pl), Crowd S h.size h' G' w a b m ∧ Maybe G' 0 r1.1 r3.1 ∧ Maybe G' 1 r2.1 r4.1 ∧ Small G' (5 + ((x.2.take i).map fun o => 4 * o.2.2.1.2.length).sum + 4 * lo.length)) ?_ ?_
      · refine bind_val (tys := [.one .bool]) (fun (y : Bool × Unit) _ => y.1 = true → noneB r2.1 = false) ?_ fun ⟨(y : Bool), _⟩ h8 e8 hy => ?_
        · refine wp_load1 (b := .int .i64) _ wo rfl (cells_iff.1 o7.cells' 1 _ rfl) (s_not (wp_ifB (fun hd => wp_ifB (fun he => ?_) fun he => ?_) fun hd => ?_))
          · exact s_ret ⟨rfl, Ext.refl _, (_, ()), rfl, fun _ => notB_iff.1 he⟩
          · exact s_ret ⟨rfl, Ext.refl _, (false, ()), rfl, fun h => by cases h⟩
          · exact s_ret ⟨rfl, Ext.refl _, (false, ()), rfl, fun h => by cases h⟩
        dsimp only at hy ⊢
        have c8 := k7.ext e8
        have e07 : Ext h h7 := Keep.trans e06 (c7.keep hn6 hF0)
        refine wp_ifB (fun hd => ⟨ad, rfl, (ko, wo, so, ()), (o7.ext e8).cells', ?_⟩) fun hd => s_ret ⟨rfl, rfl, e07.trans e8, G3, c8, n1', n2', s7.mono (by omega)⟩
        refine s_one M c8 (Nat.le_trans hn7 e8.1) n2' (hy hd) s7 (hl7.ext e8) (hfree c8.pool) (by omega) fun h9 G4 y c9 k9 mm s9 f9 hy => s_ret ⟨rfl, by rw [hy], Keep.trans e07 (Keep.trans (e8.keep hn7) (c9.keep (Nat.le_trans hn7 e8.1) fun z hz ⟨j, e, hj, hx⟩ => by have := (c8.pool.lt hj hx).1; omega)), G4, k9, mm _ _ _ n1', mm _ _ _ n2', s9.mono (by omega)⟩
      rintro t vs h8 ⟨rfl, rfl, e8, G4, k8, n1'', n2'', s8⟩
      refine s_tag (s_castB (s_ifF ?_))
      rw [add_ok (by omega) (by omega)]
      exact s_ret ⟨fun _ => ⟨((i : Int) + 1, ()), rfl, ⟨e8, i + 1, G4, rfl, by omega, k8, n1'', n2'', s8.mono (by omega)⟩, by dsimp only; omega⟩, fun h => absurd rfl h⟩
    · rw [ltI_not, natI_def, hxl] at hc
      refine s_ret ⟨fun h => absurd h (by decide), fun _ => ⟨rfl, rfl, e4, G2, c4, s4.mono ?_⟩⟩
      have := sum_take_le (fun o : OpD => 4 * o.2.2.1.2.length) x.2 i
      omega
  · rintro t vs h4 ⟨rfl, rfl, e4, G2, c4, s4⟩
    refine s_tag (s_cast0 (wp_callN (c_ends M c4 e4.1 s4 (by omega) (by omega)) fun y h5 k5 hy => s_ret ⟨rfl, Keep.trans e4 k5, (y.1, ()), rfl, hy⟩))

theorem c_short {x : Sl × List OpD} (ho : (Sh.list OpSh).ok h x) : Gives P (F_law1_short S x.1) [.one .bool] h fun (y : Bool × Unit) _ => True := by
  have hxl := ho.len
  have hlen := ho.2.1
  have hmax := ho.2.2.1
  unfold F_law1_short Gives
  refine wp_while (fun (s : Int × Int × Unit) h' => Ext h h' ∧ ∃ i : Nat, s.2.1 = i ∧ i ≤ x.2.length) (fun s _ => ((x.2.length : Int) - s.2.1).toNat) (fun t vs h' => t = 2 ∧ Ext h h' ∧ ∃ v, vs = [i64v v]) ⟨Ext.refl _, 0, rfl, by omega⟩ ?_ ?_
  · rintro ⟨(v : Int), i', u⟩ h1 ⟨e1, i, hi, hil⟩
    dsimp only at hi ⊢
    subst hi
    refine bind_bool (i < x.2.length ∧ leI v 16777216 = true) ?_ fun b h2 e2 hb => wp_ifB (fun hc => ?_) fun hc => s_ret ⟨fun h => absurd h (by decide), fun _ => ⟨rfl, e1.trans e2, _, rfl⟩⟩
    · refine wp_ifB (fun hc => s_ret ⟨rfl, Ext.refl _, _, rfl, ?_⟩) fun hc => s_ret ⟨rfl, Ext.refl _, false, rfl, ?_⟩
      · rw [ltI_iff, natI_def, hxl] at hc
        exact ⟨fun h => ⟨by omega, h⟩, fun h => h.2⟩
      · rw [ltI_not, natI_def, hxl] at hc
        exact Iff.intro (fun h => by cases h) fun h => by omega
    · have hlt := (hb.1 hc).1
      obtain ⟨o, hio⟩ : ∃ o, x.2[i]? = some o := ⟨x.2[i], List.getElem?_eq_getElem hlt⟩
      refine s_fieldSh ((ho.ext e1).ext e2) (by omega) (by simpa using hio) rfl (b := .sl) (z := o.2.2.1.1) rfl ?_
      rw [add_ok (a := (i : Int)) (by omega) (by omega)]
      exact s_ret ⟨fun _ => ⟨(_, (i : Int) + 1, ()), rfl, ⟨e1.trans e2, i + 1, rfl, by omega⟩, by dsimp only; omega⟩, fun h => absurd rfl h⟩
  · rintro t vs h1 ⟨rfl, e1, v, rfl⟩
    refine s_tag (s_castI (bind_val (tys := [.one .bool]) (fun _ _ => True) ?_ fun y h2 e2 _ => s_ret ⟨rfl, e1.trans e2, (y.1, ()), rfl, trivial⟩))
    refine wp_ifB (fun _ => wp_ifB (fun _ => s_ret ⟨rfl, Ext.refl _, (_, ()), rfl, trivial⟩) fun _ => s_ret ⟨rfl, Ext.refl _, (false, ()), rfl, trivial⟩) fun _ => s_ret ⟨rfl, Ext.refl _, (false, ()), rfl, trivial⟩

theorem c_CodecStream (M : Meth P S) {enc other : Int} {x : Sl × List OpD} (ho : (Sh.list OpSh).ok h x) (htot : (x.2.map fun o => 4 * o.2.2.1.2.length).sum ≤ 1099511620000) :
    Gives P (F_law1_CodecStream S enc other x.1) [.one .bool] h fun (y : Bool × Unit) _ => y.1 = true := by
  unfold F_law1_CodecStream Gives
  refine s_allocL (k := .u8) [195, 169, 226] (bytes_fit rfl) (by simp) fun h1 e1 o1 => ?_
  generalize (⟨h.size, 0, none⟩ : Addr) = a1 at o1 ⊢
  refine s_newV (by simp) fun a2 h2 ha2 e2 o2 => ?_
  let ops : List OpD := [(1, 0, (⟨some a1, 3, 3⟩, [195, 169, 226]), ()), (2, 0, (⟨none, 0, 0⟩, []), ()), (2, 1, (⟨none, 0, 0⟩, []), ())]
  have o2c := o2.cells'
  have hbytes : (Sh.list (.int .u8)).ok h2 (⟨some a1, 3, 3⟩, [195, 169, 226]) := by
    have := o1.ext e2
    refine ⟨rfl, Nat.le_refl _, (by decide : 3 < 2 ^ 63), fun i y hi => ⟨a1, rfl, cells_iff.2 fun j v hj => ?_, ?_⟩⟩
    · cases j with
      | zero =>
        simp [Sh.cells] at hj; subst hj
        rw [add_zero']
        have hlt := (List.getElem?_eq_some_iff.1 hi).1
        have := this.lst.cell (j := i) hlt
        rw [List.getD_eq_getElem?_getD, hi] at this
        simpa [Sh.size] using this
      | succ j => simp [Sh.cells] at hj
    · exact this.wf y (List.mem_of_getElem? hi)
  have hnil : (Sh.list (.int .u8)).ok h2 (⟨none, 0, 0⟩, []) := ⟨rfl, Nat.le_refl _, (by decide : 0 < 2 ^ 63), fun i y hi => by simp at hi⟩
  have hops : (Sh.list OpSh).ok h2 (⟨some a2, 3, 3⟩, ops) := by
    refine ⟨rfl, Nat.le_refl _, (by decide : 3 < 2 ^ 63), fun i y hi => ⟨a2, rfl, cells_iff.2 fun j v hj => ?_, ?_⟩⟩
    · rw [add_add]
      refine cells_iff.1 o2c _ _ ?_
      match i, hi with
      | 0, hi => simp [ops] at hi; subst hi; match j, hj with | 0, hj => exact hj | 1, hj => exact hj | 2, hj => exact hj | j + 3, hj => simp [Sh.cells] at hj
      | 1, hi => simp [ops] at hi; subst hi; match j, hj with | 0, hj => exact hj | 1, hj => exact hj | 2, hj => exact hj | j + 3, hj => simp [Sh.cells] at hj
      | 2, hi => simp [ops] at hi; subst hi; match j, hj with | 0, hj => exact hj | 1, hj => exact hj | 2, hj => exact hj | j + 3, hj => simp [Sh.cells] at hj
      | i + 3, hi => simp [ops] at hi
    · match i, hi with
      | 0, hi => simp [ops] at hi; subst hi; exact ⟨(show fitsI .i64 (1 : Int) from fits_i64.2 (by decide)), (show fitsI .i64 (0 : Int) from fits_i64.2 (by decide)), hbytes, trivial⟩
      | 1, hi => simp [ops] at hi; subst hi; exact ⟨(show fitsI .i64 (2 : Int) from fits_i64.2 (by decide)), (show fitsI .i64 (0 : Int) from fits_i64.2 (by decide)), hnil, trivial⟩
      | 2, hi => simp [ops] at hi; subst hi; exact ⟨(show fitsI .i64 (2 : Int) from fits_i64.2 (by decide)), (show fitsI .i64 (1 : Int) from fits_i64.2 (by decide)), hnil, trivial⟩
      | i + 3, hi => simp [ops] at hi
  refine wp_call (c_streams M (x := (⟨some a2, 3, 3⟩, ops)) hops (by simp [ops])) fun y h3 e3 hy => ?_
  have hy : y.1 = true := hy
  have e13 := (e1.trans e2).trans e3
  refine bind_bool True ?_ fun b h4 e4 hb => s_ret ⟨rfl, e13.trans e4, (b, ()), rfl, hb.2 trivial⟩
  rw [hy]
  refine s_ifT (wp_call (c_short (ho.ext e13)) fun z h4 e4 _ => wp_ifB (fun _ => s_ret ⟨rfl, e4, true, rfl, Iff.intro (fun _ => trivial) fun _ => rfl⟩) fun _ => ?_)
  exact wp_call (c_streams M ((ho.ext e13).ext e4) htot) fun y h5 e5 hy => s_ret ⟨rfl, e4.trans e5, y.1, rfl, Iff.intro (fun _ => trivial) fun _ => hy⟩

theorem ints_wt (x : Sl × List Int) {k : IntKind} : (Sh.list (.int k)).wt x = x.2.length + 1 := by
  have : ∀ l : List Int, (l.map fun _ : Int => 1).sum = l.length := by
    intro l
    induction l with
    | nil => rfl
    | cons y l ih => rw [List.map_cons, List.sum_cons, ih, List.length_cons]; omega
  show (x.2.map fun _ : Int => 1).sum + 1 = _
  rw [this]
theorem tot_wt (x : Sl × List OpD) : (x.2.map fun o => 4 * o.2.2.1.2.length).sum ≤ 4 * (Sh.list OpSh).wt x := by
  have : ∀ l : List OpD, (l.map fun o => 4 * o.2.2.1.2.length).sum ≤ 4 * (l.map OpSh.wt).sum := by
    intro l
    induction l with
    | nil => simp
    | cons y l ih =>
      have h : y.2.2.1.2.length ≤ OpSh.wt y := by
        have := ints_wt y.2.2.1 (k := .u8)
        simp only [Sh.wt] at this ⊢
        omega
      simp only [List.map_cons, List.sum_cons]; omega
  have := this x.2
  simp only [Sh.wt] at this ⊢
  omega
end Go.Sw.Codec
