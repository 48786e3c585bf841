/-
  Codec: Encode, the program's and the document's; the law CodecEncode.
-/
import Derived.Test.YtfgknhffpccamaaSwC6
set_option linter.unusedVariables false
set_option linter.unusedSimpArgs false
set_option maxRecDepth 100000
namespace Go.Sw.Codec
variable {P : Program} {S : Ids} {h : Heap} {Q : Nat → List Value → Heap → Prop}

def known (enc : Int) : Prop := 1 ≤ enc ∧ enc ≤ 4

theorem coder_known {enc : Int} (he : known enc) : isIface (coder S enc) = true ∧ isNilIface (coder S enc) = false := by
  unfold known at he
  have : enc = 1 ∨ enc = 2 ∨ enc = 3 ∨ enc = 4 := by omega
  rcases this with rfl | rfl | rfl | rfl <;> exact ⟨rfl, rfl⟩
theorem coder_unknown {enc : Int} (he : ¬ known enc) : coder S enc = .nilIface := by
  unfold known at he
  unfold coder
  rw [if_neg (by omega), if_neg (by omega), if_neg (by omega), if_neg (by omega)]

/-- The methods that the coders have. -/
structure Meth (P : Program) (S : Ids) : Prop where
  size8 : ∀ a, Inv P (.iface S.t_codec_eight (.agg #[])) S.m_size [.int .i64 a] (F_eight_size S () a)
  size16 : ∀ r a, Inv P (.iface S.t_codec_sixteen (.agg #[.int .i64 r])) S.m_size [.int .i64 a] (F_sixteen_size S (r, ()) a)
  size1 : ∀ a, Inv P (.iface S.t_codec_latin (.agg #[])) S.m_size [.int .i64 a] (F_latin_size S () a)
  put8 : ∀ (s : Sl) a, Inv P (.iface S.t_codec_eight (.agg #[])) S.m_put [.slice s.base s.len s.cap, .int .i64 a] (F_eight_put S () s a)
  put16 : ∀ r (s : Sl) a, Inv P (.iface S.t_codec_sixteen (.agg #[.int .i64 r])) S.m_put [.slice s.base s.len s.cap, .int .i64 a] (F_sixteen_put S (r, ()) s a)
  put1 : ∀ (s : Sl) a, Inv P (.iface S.t_codec_latin (.agg #[])) S.m_put [.slice s.base s.len s.cap, .int .i64 a] (F_latin_put S () s a)
  first8 : ∀ (s : Sl), Inv P (.iface S.t_codec_eight (.agg #[])) S.m_first [.slice s.base s.len s.cap] (F_eight_first S () s)
  first16 : ∀ r (s : Sl), Inv P (.iface S.t_codec_sixteen (.agg #[.int .i64 r])) S.m_first [.slice s.base s.len s.cap] (F_sixteen_first S (r, ()) s)
  first1 : ∀ (s : Sl), Inv P (.iface S.t_codec_latin (.agg #[])) S.m_first [.slice s.base s.len s.cap] (F_latin_first S () s)
  last8 : ∀ (s : Sl), Inv P (.iface S.t_codec_eight (.agg #[])) S.m_last [.slice s.base s.len s.cap] (F_eight_last S () s)
  last16 : ∀ r (s : Sl), Inv P (.iface S.t_codec_sixteen (.agg #[.int .i64 r])) S.m_last [.slice s.base s.len s.cap] (F_sixteen_last S (r, ()) s)
  last1 : ∀ (s : Sl), Inv P (.iface S.t_codec_latin (.agg #[])) S.m_last [.slice s.base s.len s.cap] (F_latin_last S () s)
  held8 : ∀ (s : Sl), Inv P (.iface S.t_codec_eight (.agg #[])) S.m_held [.slice s.base s.len s.cap] (F_eight_held S () s)
  held16 : ∀ r (s : Sl), Inv P (.iface S.t_codec_sixteen (.agg #[.int .i64 r])) S.m_held [.slice s.base s.len s.cap] (F_sixteen_held S (r, ()) s)
  held1 : ∀ (s : Sl), Inv P (.iface S.t_codec_latin (.agg #[])) S.m_held [.slice s.base s.len s.cap] (F_latin_held S () s)
  nils : ∀ enc, known enc → NilOk P (.func (.method S.m_first) #[coder S enc] #[]) ∧ NilOk P (.func (.method S.m_last) #[coder S enc] #[])

theorem known_cases {enc : Int} (he : known enc) : enc = 1 ∨ enc = 2 ∨ enc = 3 ∨ enc = 4 := by unfold known at he; omega

theorem i_size (M : Meth P S) {enc a : Int} (he : known enc) {K : Int × Unit → Prog} (hk : ∀ (x : Int × Unit) h', Ext h h' → x.1 = sizeF enc a → wp P (K x) h' Q) :
    wp P (.invoke (coder S enc) S.m_size [.int .i64 a] [.one (.int .i64)] K) h Q := by
  rcases known_cases he with rfl | rfl | rfl | rfl
  · exact wp_inv (M.size8 a) (c_eight_size a) hk
  · exact wp_inv (M.size16 0 a) (c_sixteen_size 0 a 2 (.inl rfl)) hk
  · exact wp_inv (M.size16 1 a) (c_sixteen_size 1 a 3 (.inr rfl)) hk
  · exact wp_inv (M.size1 a) (c_latin_size a) hk

theorem i_put (M : Meth P S) {n : Nat} {enc a : Int} (he : known enc) {out : Sl} {l : List Int} (ho : OwnL n .u8 h out l) (hn : n ≤ h.size) (hf : 0 < sizeF enc a) (hroom : l.length + 4 ≤ 140737488355328)
    {K : Sl × Unit → Prog} (hk : ∀ (x : Sl × Unit) h', Keep n h h' → Put1 n out h enc l a x h' → wp P (K x) h' Q) :
    wp P (.invoke (coder S enc) S.m_put [.slice out.base out.len out.cap, .int .i64 a] [.one .sl] K) h Q := by
  rcases known_cases he with rfl | rfl | rfl | rfl
  · exact wp_invN (M.put8 out a) (c_eight_put ho hn hf hroom) hk
  · exact wp_invN (M.put16 0 out a) (c_sixteen_put ho hn (.inl ⟨rfl, rfl⟩) hf hroom) hk
  · exact wp_invN (M.put16 1 out a) (c_sixteen_put ho hn (.inr ⟨rfl, rfl⟩) hf hroom) hk
  · exact wp_invN (M.put1 out a) (c_latin_put ho hn hf hroom) hk

/-- What Encode answers. -/
def EncR (enc : Int) (l : List Int) (b : List Int) (at_ e : Int) : Prop :=
  (¬ known enc ∧ b = [] ∧ at_ = 0 ∧ e = 10) ∨
  (known enc ∧ (∃ i : Nat, i < l.length ∧ (∀ a, a ∈ l.take i → 0 < sizeF enc a) ∧ ¬ 0 < sizeF enc (l.getD i 0) ∧ b = [] ∧ at_ = i ∧ e = 11)) ∨
  (known enc ∧ (∀ a, a ∈ l → 0 < sizeF enc a) ∧ b = l.flatMap (putF enc) ∧ at_ = 0 ∧ e = 0)

theorem getD_mem_take {l : List Int} {i j : Nat} (hi : i < j) (hl : i < l.length) : l.getD i 0 ∈ l.take j := by
  rw [List.getD_eq_getElem?_getD, List.getElem?_eq_getElem hl]
  exact List.mem_of_getElem? (i := i) (by rw [List.getElem?_take, if_pos hi]; exact List.getElem?_eq_getElem hl)
theorem getD_mem {l : List Int} {i : Nat} (hl : i < l.length) : l.getD i 0 ∈ l := by
  rw [List.getD_eq_getElem?_getD, List.getElem?_eq_getElem hl]; exact List.getElem_mem hl

theorem EncR.fn {enc : Int} {l b b' : List Int} {p p' e e' : Int} (h : EncR enc l b p e) (h' : EncR enc l b' p' e') : b = b' ∧ p = p' ∧ e = e' := by
  rcases h with ⟨hk, rfl, rfl, rfl⟩ | ⟨hk, i, hi, h1, h2, rfl, rfl, rfl⟩ | ⟨hk, h1, rfl, rfl, rfl⟩ <;> rcases h' with ⟨hk', rfl, rfl, rfl⟩ | ⟨hk', i', hi', h1', h2', rfl, rfl, rfl⟩ | ⟨hk', h1', rfl, rfl, rfl⟩
  all_goals first | exact absurd hk' hk | exact absurd hk hk' | skip
  · exact ⟨rfl, rfl, rfl⟩
  · have : i = i' := by
      by_cases hlt : i < i'
      · exact absurd (h1' _ (getD_mem_take hlt hi)) h2
      · by_cases hlt' : i' < i
        · exact absurd (h1 _ (getD_mem_take hlt' hi')) h2'
        · omega
    subst this; exact ⟨rfl, rfl, rfl⟩
  · exact absurd (h1' _ (getD_mem hi)) h2
  · exact absurd (h1 _ (getD_mem hi')) h2'
  · exact ⟨rfl, rfl, rfl⟩

def tri : List Ty := [.one .sl, .one (.int .i64), .one (.int .i64)]
/-- Encode's answer in memory. -/
def EncA (n : Nat) (enc : Int) (l : List Int) (x : Sl × Int × Int × Unit) (h' : Heap) : Prop := ∃ b, OwnL n .u8 h' x.1 b ∧ EncR enc l b x.2.1 x.2.2.1

theorem flat_succ {enc : Int} {l : List Int} {i : Nat} (hi : i < l.length) : (l.take (i + 1)).flatMap (putF enc) = (l.take i).flatMap (putF enc) ++ putF enc (l.getD i 0) := by
  rw [List.take_add_one, List.flatMap_append, List.getD_eq_getElem?_getD, List.getElem?_eq_getElem hi]
  simp
theorem mem_take_succ {l : List Int} {i : Nat} (hi : i < l.length) {p : Int → Prop} (h : ∀ a, a ∈ l.take i → p a) (hp : p (l.getD i 0)) : ∀ a, a ∈ l.take (i + 1) → p a := by
  intro a ha
  rw [List.take_add_one, List.getElem?_eq_getElem hi, List.mem_append] at ha
  rcases ha with ha | ha
  · exact h a ha
  · simp at ha; subst ha
    rw [List.getD_eq_getElem?_getD, List.getElem?_eq_getElem hi] at hp; exact hp
theorem flat_len {enc : Int} : ∀ {l : List Int}, (∀ a, a ∈ l → 0 < sizeF enc a) → (l.flatMap (putF enc)).length ≤ 4 * l.length := by
  intro l
  induction l with
  | nil => intro _; simp
  | cons a l ih =>
    intro h
    have h1 := ih fun b hb => h b (List.mem_cons_of_mem _ hb)
    have h2 := size_of_fits (h a (List.mem_cons_self ..))
    have h3 := sizeF_le enc a
    simp only [List.flatMap_cons, List.length_append, List.length_cons]
    omega
theorem flat_len_ge {enc : Int} : ∀ {l : List Int}, (∀ a, a ∈ l → 0 < sizeF enc a) → l.length ≤ (l.flatMap (putF enc)).length := by
  intro l
  induction l with
  | nil => intro _; simp
  | cons a l ih =>
    intro h
    have h1 := ih fun b hb => h b (List.mem_cons_of_mem _ hb)
    have h0 := h a (List.mem_cons_self ..)
    have h2 := size_of_fits h0
    simp only [List.flatMap_cons, List.length_append, List.length_cons]
    omega

theorem c_Encode (M : Meth P S) {enc : Int} {s : Sl} {l : List Int} (hs : Lst .i64 h s l) (hl : l.length ≤ 1099511627776) : Gives P (F_codec_Encode S enc s) tri h (EncA h.size enc l) := by
  have hsl := hs.len
  unfold F_codec_Encode
  refine wp_call (c_of enc) fun c h1 e1 hc => ?_
  have hc : c.1 = coder S enc := hc
  rw [hc]
  by_cases hk : ¬ known enc
  · rw [coder_unknown hk]
    exact s_grd rfl (s_ifT (s_ret ⟨rfl, e1, (⟨none, 0, 0⟩, 0, 10, ()), rfl, [], OwnL.nil .., .inl ⟨hk, rfl, rfl, rfl⟩⟩))
  have hk := Classical.not_not.1 hk
  obtain ⟨k1, k2⟩ := coder_known (S := S) hk
  rw [k1, k2]
  refine s_grd rfl (s_ifF ?_)
  refine wp_while (fun (s : Sl × Int × Unit) h' => Keep h.size h h' ∧ 0 ≤ s.2.1 ∧ s.2.1 ≤ l.length ∧ (∀ a, a ∈ l.take s.2.1.toNat → 0 < sizeF enc a) ∧ OwnL h.size .u8 h' s.1 ((l.take s.2.1.toNat).flatMap (putF enc))) (fun s _ => l.length - s.2.1.toNat)
    (fun t vs h' => Keep h.size h h' ∧ (t = 2 ∧ (∃ x : Sl × Unit, vs = Ts.inj [.one .sl] x ∧ (∀ a, a ∈ l → 0 < sizeF enc a) ∧ OwnL h.size .u8 h' x.1 (l.flatMap (putF enc))) ∨
      t = 1 ∧ ∃ i : Nat, vs = [.slice none 0 0, .int .i64 i, .int .i64 11] ∧ i < l.length ∧ (∀ a, a ∈ l.take i → 0 < sizeF enc a) ∧ ¬ 0 < sizeF enc (l.getD i 0))) ⟨e1, by simp, by simp, by simp, OwnL.nil ..⟩ ?_ ?_
  · rintro ⟨out, (i : Int), u⟩ h' ⟨k, i0, i1, hfit, o⟩
    dsimp only at i0 i1 hfit o ⊢
    refine wp_ifB (fun hi => ?_) fun hi => ?_
    · rw [ltI_iff, natI_def, hsl] at hi
      refine s_at (hs.ext k) i0 (by omega) fun _ => i_size M hk fun x h2 e2 hx => wp_ifB (fun hz => ?_) fun hz => ?_
      · rw [eqI_iff, hx] at hz
        refine s_ret ⟨fun h => absurd h (by decide), fun _ => ⟨Keep.trans k (e2.keep k.1), .inr ⟨rfl, i.toNat, ?_, by omega, hfit, by omega⟩⟩⟩
        rw [Int.toNat_of_nonneg i0]
      · rw [eqI_not, hx] at hz
        have hp : 0 < sizeF enc (l.getD i.toNat 0) := by have := sizeF_pos enc (l.getD i.toNat 0); omega
        have hfl := flat_len hfit
        rw [List.length_take] at hfl
        refine i_put M hk (o.ext e2) (by have := k.1; have := e2.1; omega) hp (by omega) fun y h3 k3 ⟨o3, _⟩ => ?_
        rw [add_ok (by omega) (by omega)]
        refine s_ret ⟨fun _ => ⟨(y.1, i + 1, ()), rfl, ⟨Keep.trans (Keep.trans k (e2.keep k.1)) k3, by dsimp only; omega, by dsimp only; omega, ?_, ?_⟩, by dsimp only; omega⟩, fun h => absurd rfl h⟩
        · dsimp only; rw [show (i + 1).toNat = i.toNat + 1 by omega]; exact mem_take_succ (by omega) hfit hp
        · dsimp only; rw [show (i + 1).toNat = i.toNat + 1 by omega, flat_succ (by omega)]; exact o3
    · rw [ltI_not, natI_def, hsl] at hi
      rw [List.take_of_length_le (by omega)] at hfit o
      exact s_ret ⟨fun h => absurd h (by decide), fun _ => ⟨k, .inl ⟨rfl, (out, ()), rfl, hfit, o⟩⟩⟩
  · rintro t vs h' ⟨k, ⟨ht, x, hv, hfit, o⟩ | ⟨ht, i, hv, hi, hfit, hz⟩⟩
    · exact s_exit ht x hv (s_ret ⟨rfl, k, (x.1, 0, 0, ()), rfl, _, o, .inr (.inr ⟨hk, hfit, rfl, rfl, rfl⟩)⟩)
    · exact s_skip (by omega) (s_exit ht (⟨none, 0, 0⟩, (i : Int), 11, ()) hv (s_ret ⟨rfl, k, (⟨none, 0, 0⟩, (i : Int), 11, ()), rfl, [], OwnL.nil .., .inr (.inl ⟨hk, i, hi, hfit, hz, rfl, rfl, rfl⟩)⟩))

theorem c_known (enc : Int) : Gives P (F_ref1_known S enc) [.one .bool] h fun (x : Bool × Unit) _ => (x.1 = true ↔ known enc) := by
  unfold F_ref1_known
  refine bind_bool (known enc) ?_ fun b h' e hb => s_ret ⟨rfl, e, (b, ()), rfl, hb⟩
  refine wp_ifB (fun hc => ?_) fun hc => ?_
  · rw [geI_iff] at hc
    exact s_ret ⟨rfl, Ext.refl _, _, rfl, by rw [leI_iff]; unfold known; omega⟩
  · rw [geI_not] at hc
    exact s_ret ⟨rfl, Ext.refl _, _, rfl, by unfold known; exact ⟨(fun h => by cases h), (fun h => by omega)⟩⟩

theorem c_ref_Encode {enc : Int} {s : Sl} {l : List Int} (hs : Lst .i64 h s l) (hl : l.length ≤ 1099511627776) : Gives P (F_ref1_Encode S enc s) tri h (EncA h.size enc l) := by
  have hsl := hs.len
  unfold F_ref1_Encode
  refine wp_call (c_known enc) fun c h1 e1 hc => ?_
  have hc : c.1 = true ↔ known enc := hc
  refine wp_ifB (fun hk => ?_) fun hk => ?_
  · rw [notB_iff] at hk
    have hk : ¬ known enc := fun h => by rw [hc.2 h] at hk; cases hk
    exact s_ret ⟨rfl, e1, (⟨none, 0, 0⟩, 0, 10, ()), rfl, [], OwnL.nil .., .inl ⟨hk, rfl, rfl, rfl⟩⟩
  rw [notB_not] at hk
  have hk := hc.1 hk
  refine wp_while (fun (s : Sl × Int × Unit) h' => Keep h.size h h' ∧ 0 ≤ s.2.1 ∧ s.2.1 ≤ l.length ∧ (∀ a, a ∈ l.take s.2.1.toNat → 0 < sizeF enc a) ∧ OwnL h.size .u8 h' s.1 ((l.take s.2.1.toNat).flatMap (putF enc))) (fun s _ => l.length - s.2.1.toNat)
    (fun t vs h' => Keep h.size h h' ∧ (t = 2 ∧ (∃ x : Sl × Unit, vs = Ts.inj [.one .sl] x ∧ (∀ a, a ∈ l → 0 < sizeF enc a) ∧ OwnL h.size .u8 h' x.1 (l.flatMap (putF enc))) ∨
      t = 1 ∧ ∃ i : Nat, vs = [.slice none 0 0, .int .i64 i, .int .i64 11] ∧ i < l.length ∧ (∀ a, a ∈ l.take i → 0 < sizeF enc a) ∧ ¬ 0 < sizeF enc (l.getD i 0))) ⟨e1, by simp, by simp, by simp, OwnL.nil ..⟩ ?_ ?_
  · rintro ⟨out, (i : Int), u⟩ h' ⟨k, i0, i1, hfit, o⟩
    dsimp only at i0 i1 hfit o ⊢
    refine wp_ifB (fun hi => ?_) fun hi => ?_
    · rw [ltI_iff, natI_def, hsl] at hi
      refine s_at (hs.ext k) i0 (by omega) fun _ => wp_call (c_ref_Fits enc _) fun x h2 e2 hx => wp_ifB (fun hz => ?_) fun hz => ?_
      · rw [notB_iff, hx] at hz
        refine s_ret ⟨fun h => absurd h (by decide), fun _ => ⟨Keep.trans k (e2.keep k.1), .inr ⟨rfl, i.toNat, ?_, by omega, hfit, by simpa using hz⟩⟩⟩
        rw [Int.toNat_of_nonneg i0]
      · rw [notB_not, hx] at hz
        have hp : 0 < sizeF enc (l.getD i.toNat 0) := by simpa using hz
        have hfl := flat_len hfit
        rw [List.length_take] at hfl
        have k2 : Keep h.size h h2 := Keep.trans k (e2.keep k.1)
        refine s_at (hs.ext k2) i0 (by omega) fun _ => wp_call (c_ref_Put hp) fun y h3 e3 ⟨hy, hyf⟩ => ?_
        have k3 : Keep h.size h h3 := Keep.trans k2 (e3.keep k2.1)
        have hyl : y.1.len = (putF enc (l.getD i.toNat 0)).length := hy.len
        have hne0 : ∀ a b, y.1.base = some a → out.base = some b → b.block ≠ a.block := fun a b ha hb => by
          have := hyf a ha; have := ((o.ext e2).own.lt hb).2; omega
        have hpl := size_of_fits hp
        have hsz := sizeF_le enc (l.getD i.toNat 0)
        generalize hw : putF enc (l.getD i.toNat 0) = w at hy hyl hpl
        have hwf : ∀ j, fitsI .u8 (w.getD j 0) := by
          intro j
          have hu := (fits_iff enc (l.getD i.toNat 0)).1 hp
          have hall : ∀ x, x ∈ w → fitsI .u8 x := by
            intro x hx
            rw [← hw] at hx
            rw [fits_u8]
            unfold putF eightB unitB at hx
            generalize l.getD i.toNat 0 = a at *
            (repeat' split at hx) <;> simp at hx <;> omega
          rw [List.getD_eq_getElem?_getD]
          cases hj : w[j]? with
          | none => exact fits_zero _
          | some x => exact hall x (List.mem_of_getElem? hj)
        refine wp_while (fun (s : Sl × Int × Unit) h' => Keep h.size h h' ∧ 0 ≤ s.2.1 ∧ s.2.1 ≤ w.length ∧ OwnL h.size .u8 h' s.1 ((l.take i.toNat).flatMap (putF enc) ++ w.take s.2.1.toNat) ∧ Ints .u8 h' y.1 w ∧ ∀ a b, y.1.base = some a → s.1.base = some b → b.block ≠ a.block) (fun s _ => w.length - s.2.1.toNat)
          (fun t vs h' => t = 4 ∧ ∃ x : Sl × Unit, vs = Ts.inj [.one .sl] x ∧ Keep h.size h h' ∧ OwnL h.size .u8 h' x.1 ((l.take i.toNat).flatMap (putF enc) ++ w)) ⟨k3, by simp, by simp, by simpa using (o.ext e2).ext e3, hy, hne0⟩ ?_ ?_
        · rintro ⟨s', (j : Int), u'⟩ h4 ⟨k4, j0, j1, o4, hy4, hne⟩
          dsimp only at j0 j1 o4 hne ⊢
          refine wp_ifB (fun hj => ?_) fun hj => ?_
          · rw [ltI_iff, natI_def, hyl] at hj
            refine wp_at hy4 j0 (by omega) ?_
            have hlt : (w.take j.toNat).length ≤ 4 := by rw [List.length_take]; omega
            have hyb : ∀ a, y.1.base = some a → a.block < h4.size := fun a ha => by
              obtain ⟨a', e', c'⟩ := hy4.at (i := j.toNat) (by omega)
              rw [ha] at e'; cases e'
              have := cell_lt c'; simpa using this
            refine s_push o4 k4.1 (hwf _) (by rw [List.length_append]; omega) (by rw [List.length_append]; omega) fun z h5 k5 o5 u5 b5 => ?_
            rw [add_ok (by omega) (by omega)]
            refine s_ret ⟨fun _ => ⟨(z, j + 1, ()), rfl, ⟨Keep.trans k4 k5, by dsimp only; omega, by dsimp only; omega, ?_, ?_, ?_⟩, by dsimp only; omega⟩, fun h => absurd rfl h⟩
            · dsimp only
              have : w.take (j + 1).toNat = w.take j.toNat ++ [w.getD j.toNat 0] := by
                rw [show (j + 1).toNat = j.toNat + 1 by omega, List.take_add_one, List.getD_eq_getElem?_getD, List.getElem?_eq_getElem (by omega)]; rfl
              rw [this, ← List.append_assoc]; exact o5
            · refine ⟨hy4.1, fun m v hm => ?_⟩
              obtain ⟨a, ea, ca⟩ := hy4.2 m v hm
              refine ⟨a, ea, ?_⟩
              have := u5.2.1 a.block (hyb a ea) fun b hb e => hne a b ea hb e
              unfold cell at ca ⊢
              rw [add_block] at ca ⊢
              rw [this]; exact ca
            · intro a b ha hb
              rcases b5 b hb with hb | hb
              · exact hne a b ha hb
              · have := hyb a ha; omega
          · rw [ltI_not, natI_def, hyl] at hj
            rw [List.take_of_length_le (l := w) (by omega)] at o4
            exact s_ret ⟨fun h => absurd h (by decide), fun _ => ⟨rfl, (s', ()), rfl, k4, o4⟩⟩
        · rintro t vs h4 ⟨ht, x, hv, k4, o4⟩
          refine s_exit ht x hv ?_
          rw [add_ok (by omega) (by omega)]
          refine s_ret ⟨fun _ => ⟨(x.1, i + 1, ()), rfl, ⟨k4, by dsimp only; omega, by dsimp only; omega, ?_, ?_⟩, by dsimp only; omega⟩, fun h => absurd rfl h⟩
          · dsimp only; rw [show (i + 1).toNat = i.toNat + 1 by omega]; exact mem_take_succ (by omega) hfit hp
          · dsimp only; rw [show (i + 1).toNat = i.toNat + 1 by omega, flat_succ (by omega), hw]; exact o4
    · rw [ltI_not, natI_def, hsl] at hi
      rw [List.take_of_length_le (by omega)] at hfit o
      exact s_ret ⟨fun h => absurd h (by decide), fun _ => ⟨k, .inl ⟨rfl, (out, ()), rfl, hfit, o⟩⟩⟩
  · rintro t vs h' ⟨k, ⟨ht, x, hv, hfit, o⟩ | ⟨ht, i, hv, hi, hfit, hz⟩⟩
    · exact s_exit ht x hv (s_ret ⟨rfl, k, (x.1, 0, 0, ()), rfl, _, o, .inr (.inr ⟨hk, hfit, rfl, rfl, rfl⟩)⟩)
    · exact s_skip (by omega) (s_exit ht (⟨none, 0, 0⟩, (i : Int), 11, ()) hv (s_ret ⟨rfl, k, (⟨none, 0, 0⟩, (i : Int), 11, ()), rfl, [], OwnL.nil .., .inr (.inl ⟨hk, i, hi, hfit, hz, rfl, rfl, rfl⟩)⟩))

theorem EncA.ext {n : Nat} {enc : Int} {l : List Int} {x : Sl × Int × Int × Unit} {h' : Heap} (hx : EncA n enc l x h) (e : Ext h h') : EncA n enc l x h' := let ⟨b, o, r⟩ := hx; ⟨b, o.ext e, r⟩

theorem enc_nil {enc b p e} (h : EncR enc [] b p e) : b = [] ∧ p = 0 := by
  rcases h with ⟨_, rfl, rfl, rfl⟩ | ⟨_, i, hi, _⟩ | ⟨_, _, rfl, rfl, rfl⟩
  · exact ⟨rfl, rfl⟩
  · simp at hi
  · exact ⟨rfl, rfl⟩

theorem c_law1_num (e : Int) : Gives P (F_law1_num S e) [.one (.int .i64)] h fun (x : Int × Unit) _ => x.1 = e := ⟨rfl, Ext.refl h, (e, ()), rfl, rfl⟩

theorem c_encoded (M : Meth P S) {enc : Int} {b : Sl} {l : List Int} (hb : Lst .i64 h b l) (hl : l.length ≤ 2199023255) : Gives P (F_law1_encoded S enc b) [.one .bool] h fun (x : Bool × Unit) _ => x.1 = Bool.true := by
  have hlb := hb.len
  unfold F_law1_encoded
  refine wp_call (c_lendInts hb (by omega)) fun c h1 e1 hc => ?_
  have hc1 := hc.1
  have hb1 := hb.ext e1
  simp only [cutBase_zero, subZero, natTo, hlb]
  refine s_leB (by simp [natI]) (by rw [natI_def]; omega) (wp_call (c_Encode M hc.part (by omega)) fun x h2 e2 hx => wp_call (c_ref_Encode (hb1.ext e2) (by omega)) fun y h3 e3 hy => ?_)
  refine wp_call (c_Encode M (Lst.nil (by decide)) (by simp)) fun x0 h4 e4 hx0 => wp_call (c_ref_Encode (Lst.nil (by decide)) (by simp)) fun y0 h5 e5 hy0 => ?_
  have e05 := (((e1.trans e2).trans e3).trans e4).trans e5
  obtain ⟨bx, ox, rx⟩ := hx
  obtain ⟨by_, oy, ry⟩ := hy
  obtain ⟨bx0, ox0, rx0⟩ := hx0
  obtain ⟨by0, oy0, ry0⟩ := hy0
  obtain ⟨q1, q2, q3⟩ := rx.fn ry
  obtain ⟨z1, z2, z3⟩ := rx0.fn ry0
  obtain ⟨n1, n2⟩ := enc_nil rx0
  refine bind_bool False ?_ fun c' h6 e6 hc' => wp_ifB (fun h => (hc'.1 h).elim) fun _ => ?_
  · refine wp_ifB (fun hn => ?_) fun _ => wp_ifB (fun hn => ?_) fun _ => ?_
    · rw [neI_iff, natI_def, ox0.len, n1] at hn; simp at hn
    · rw [neI_iff] at hn; exact absurd n2 hn
    · refine wp_call (c_law1_num _) fun v h6 e6 hv => s_ret ⟨rfl, e6, _, rfl, ?_⟩
      have hv : v.1 = x0.2.2.1 := hv
      rw [hv, neI_iff, z3]; simp
  have hc6 := ((((hc.ext e2).ext e3).ext e4).ext e5).ext e6
  have hb6 := ((((hb1.ext e2).ext e3).ext e4).ext e5).ext e6
  refine bind_bool False ?_ fun c' h7 e7 hc' => wp_ifB (fun h => (hc'.1 h).elim) fun _ => ?_
  · refine wp_call (c_law1_num _) fun v h7 e7 hv => wp_ifB (fun hn => ?_) fun _ => wp_ifB (fun hn => ?_) fun _ => ?_
    · have hv : v.1 = x.2.2.1 := hv
      rw [neI_iff, hv] at hn; exact absurd q3 hn
    · rw [neI_iff] at hn; exact absurd q2 hn
    · refine wp_call (c_sameBytes (((((ox.ext e3).ext e4).ext e5).ext e6).ext e7).lst ((((oy.ext e4).ext e5).ext e6).ext e7).lst) fun w h8 e8 hw => wp_ifB (fun hn => ?_) fun _ => ?_
      · have hw : w.1 = decide (bx = by_) := hw
        rw [notB_iff, hw, q1] at hn; simp at hn
      · refine wp_call (c_keptInts ((hc6.ext e7).ext e8) ((hb6.ext e7).ext e8)) fun v h9 e9 hv => s_ret ⟨rfl, (e7.trans e8).trans e9, _, rfl, ?_⟩
        have hv : v.1 = true := hv
        simp [hv, notB]
  have hc7 := hc6.ext e7
  have e07 : Keep h.size h h7 := Keep.trans e05 ((e6.trans e7).keep e05.1)
  refine wp_while (fun (s : Int × Unit) h' => Keep h.size h h' ∧ 0 ≤ s.1 ∧ s.1 ≤ l.length ∧ ∃ l' : List Int, l'.length = l.length ∧ OwnL h.size .i64 h' c.1 (l' ++ marks markI l.length (c.1.cap - l.length))) (fun s _ => l.length - s.1.toNat)
    (fun t vs h' => t = 2 ∧ vs = [] ∧ Keep h.size h h' ∧ ∃ l' : List Int, l'.length = l.length ∧ OwnL h.size .i64 h' c.1 (l' ++ marks markI l.length (c.1.cap - l.length))) ⟨e07, by simp, by simp, l, rfl, hc7.2.2⟩ ?_ ?_
  · rintro ⟨(i : Int), u⟩ h' ⟨k, h0, h1, l', hl', ho⟩
    dsimp only at h0 h1 ⊢
    refine wp_ifB (fun hc => ?_) fun hc => ?_
    · rw [ltI_iff, natI_def] at hc
      have hlt : (i : Int) < ((l' ++ marks markI l.length (c.1.cap - l.length)).length : Int) := by rw [List.length_append]; omega
      refine s_at ho.lst h0 hlt fun _ => s_set ho h0 hlt (range_i64 _) fun h2 o2 u2 z2 => ?_
      rw [add_ok (by omega) (by omega)]
      refine s_ret ⟨fun _ => ⟨(i + 1, ()), rfl, ⟨Keep.trans k (Upd.ext_of u2 (fun a ha => (ho.own.lt ha).1) k.1), by dsimp only; omega, by dsimp only; omega, ?_⟩, by dsimp only; omega⟩, fun h => absurd rfl h⟩
      rw [List.set_append_left i.toNat _ (by omega)] at o2
      exact ⟨_, by simpa using hl', o2⟩
    · exact s_ret ⟨fun h => absurd h (by decide), fun _ => ⟨rfl, rfl, k, l', hl', ho⟩⟩
  · rintro t vs h8 ⟨ht, hv, k8, l', hl', ho⟩
    have hp := OwnL.part ho hl'.symm
    refine s_exit ht () hv (s_leB (by simp [natI]) (by rw [natI_def]; omega) (wp_call (c_copyInts hp (by omega)) fun z h9 e9 hz => ?_))
    refine s_leB (by simp [natI]) (by rw [natI_def]; omega) (wp_call (c_Encode M (hp.ext e9) (by omega)) fun x h10 e10 hx => wp_call (c_ref_Encode (hz.lst.ext e10) (by omega)) fun y h11 e11 hy => ?_)
    obtain ⟨bx, ox, rx⟩ := hx
    obtain ⟨by_, oy, ry⟩ := hy
    obtain ⟨q1, q2, q3⟩ := rx.fn ry
    have e11' : Keep h.size h h11 := Keep.trans k8 (((e9.trans e10).trans e11).keep k8.1)
    refine bind_bool True ?_ fun c' h12 e12 hc' => s_ret ⟨rfl, Keep.trans e11' (e12.keep e11'.1), _, rfl, hc'.2 trivial⟩
    refine wp_call (c_law1_num _) fun v h12 e12 hv => wp_ifB (fun _ => wp_ifB (fun _ => ?_) fun hn => ?_) fun hn => ?_
    · refine wp_call (c_sameBytes ((ox.ext e11).ext e12).lst (oy.ext e12).lst) fun w h13 e13 hw => s_ret ⟨rfl, e12.trans e13, _, rfl, ?_⟩
      have hw : w.1 = decide (bx = by_) := hw
      rw [hw, q1]; simp
    · rw [eqI_not] at hn; exact absurd q2 hn
    · have hv : v.1 = x.2.2.1 := hv
      rw [eqI_not, hv] at hn; exact absurd q3 hn

theorem c_CodecEncode (M : Meth P S) {enc : Int} {b : Sl} {l : List Int} (hb : Lst .i64 h b l) (hl : l.length ≤ 2199023255) : Gives P (F_law1_CodecEncode S enc b) [.one .bool] h fun (x : Bool × Unit) _ => x.1 = Bool.true := by
  unfold F_law1_CodecEncode
  refine bind_bool True ?_ fun c' h9 e9 hc' => s_ret ⟨rfl, e9, _, rfl, hc'.2 trivial⟩
  refine s_allocL (k := .i64) [233] (by intro x hx; simp at hx; subst hx; rw [fits_i64]; decide) (by simp) fun h1 e1 o1 => ?_
  refine wp_call (c_encoded M o1.lst (by decide)) fun x h2 e2 hx => wp_ifB (fun _ => ?_) fun hn => no_tf hx hn
  exact wp_call (c_encoded M ((hb.ext e1).ext e2) hl) fun y h3 e3 hy => s_ret ⟨rfl, (e1.trans e2).trans e3, _, rfl, by rw [hy]; simp⟩
end Go.Sw.Codec
