/-
  Codec: Next and Prev, the program's and the document's; the laws CodecTokens and CodecWalk.
-/
import Derived.Test.YtfgknhffpccamaaSwC14
set_option linter.unusedVariables false
set_option linter.unusedSimpArgs false
set_option maxRecDepth 100000
namespace Go.Sw.Codec
variable {P : Program} {S : Ids} {h : Heap} {Q : Nat → List Value → Heap → Prop}

theorem c_latin_last {b : Sl} {l : List Int} (hb : Lst .u8 h b l) (hl : 0 < l.length) (hbd : l.length < 2 ^ 62) : Gives P (F_latin_last S () b) duo h fun (x : Int × Int × Unit) _ => LastR 4 l x.1 x.2.1 := by
  have hlb := hb.len
  have b0 := hb.byte (l.length - 1)
  have hr := last1 hb.wf hl
  unfold F_latin_last
  refine s_alloc0 fun h1 e1 => ?_
  rw [natI_def, hlb, sub_ok (by omega) (by omega)]
  refine hlb ▸ s_at (hb.ext e1) (by omega) (by omega) fun _ => ?_
  rw [show ((b.len : Int) - 1).toNat = l.length - 1 by omega, wrap_ok (by omega) (by omega)]
  exact s_ret ⟨rfl, e1, (_, 1, ()), rfl, hr⟩

theorem c_eight_last {b : Sl} {l : List Int} (hb : Lst .u8 h b l) (hl : 0 < l.length) (hbd : l.length < 2 ^ 62) : Gives P (F_eight_last S () b) duo h fun (x : Int × Int × Unit) _ => LastR 1 l x.1 x.2.1 := by
  have hlb := hb.len
  have hby : isBytes l := hb.wf
  have b0 := hb.byte (l.length - 1)
  unfold F_eight_last
  refine s_alloc0 fun h1 e1 => ?_
  simp only [natI_def, hlb]
  refine wp_while (fun (s : Int × Unit) h' => Ext h h' ∧ 1 ≤ s.1 ∧ s.1 ≤ 5 ∧ s.1 ≤ l.length + 1 ∧ ∀ j : Nat, 1 ≤ j → (j : Int) < s.1 → ¬ (0 ≤ (first8 (l.drop (l.length - j))).1 ∧ (first8 (l.drop (l.length - j))).2 = j)) (fun s _ => (5 - s.1).toNat)
    (fun t vs h' => Ext h h' ∧ (t = 2 ∧ vs = [] ∧ LastR 1 l (-1 - l.getD (l.length - 1) 0) 1 ∨ t = 1 ∧ ∃ a n : Int, vs = [.int .i64 a, .int .i64 n] ∧ LastR 1 l a n)) ⟨e1, by simp, by simp, by dsimp only; omega, fun j h1 h2 => by dsimp only at h2; omega⟩ ?_ ?_
  · rintro ⟨(k : Int), u⟩ h' ⟨e, k0, k1, k2, hno⟩
    dsimp only at k0 k1 k2 hno ⊢
    refine bind_bool (k ≤ 4 ∧ k ≤ l.length) ?_ fun c h2 e2 hc => wp_ifB (fun h3 => ?_) fun h3 => ?_
    · refine wp_ifB (fun hc => ?_) fun hc => ?_
      · rw [leI_iff] at hc
        exact s_ret ⟨rfl, Ext.refl _, _, rfl, by rw [leI_iff]; omega⟩
      · rw [leI_not] at hc
        exact s_ret ⟨rfl, Ext.refl _, _, rfl, ⟨(fun h => by cases h), fun h => by omega⟩⟩
    · obtain ⟨q1, q2⟩ := hc.1 h3
      obtain ⟨k, rfl⟩ := Int.eq_ofNat_of_zero_le (show 0 ≤ k by omega)
      rw [sub_ok (by omega) (by omega), toN_def, show ((l.length : Int) - (k : Int)).toNat = l.length - k by omega]
      have e02 := e.trans e2
      have ht := (hb.ext e02).tail (i := l.length - k) (by omega)
      rw [hlb] at ht
      refine s_load0 (s_grd (leB_ok (by omega) (by omega)) (wp_call (c_eight_first ht (by rw [List.length_drop]; omega)) fun ⟨(a : Int), (n : Int), _⟩ h4 e4 hx => ?_))
      have hx : (a, n) = first8 (l.drop (l.length - k)) := hx
      dsimp only
      refine bind_bool (n = k ∧ 0 ≤ a) ?_ fun c h5 e5 hc5 => wp_ifB (fun h6 => ?_) fun h6 => ?_
      · refine wp_ifB (fun hq => ?_) fun hq => ?_
        · rw [eqI_iff] at hq
          exact s_ret ⟨rfl, Ext.refl _, _, rfl, by rw [geI_iff]; omega⟩
        · rw [eqI_not] at hq
          exact s_ret ⟨rfl, Ext.refl _, _, rfl, ⟨(fun h => by cases h), fun h => absurd h.1 hq⟩⟩
      · obtain ⟨g1, g2⟩ := hc5.1 h6
        refine s_ret ⟨fun h => absurd h (by decide), fun _ => ⟨(e02.trans e4).trans e5, .inr ⟨rfl, a, n, rfl, ?_⟩⟩⟩
        have := last8_found hby (j := k) (by omega) (by omega) (by rw [← hx]; exact g2) (by rw [← hx]; exact g1)
        rw [← hx] at this
        rw [g1]; exact this
      · rw [add_ok (by omega) (by omega)]
        refine s_ret ⟨fun _ => ⟨((k : Int) + 1, ()), rfl, ⟨(e02.trans e4).trans e5, by dsimp only; omega, by dsimp only; omega, by dsimp only; omega, fun j j1 j2 => ?_⟩, by dsimp only; omega⟩, fun h => absurd rfl h⟩
        dsimp only at j2
        by_cases hj : j = k
        · subst hj
          intro hh
          rw [← hx] at hh
          rw [hc5.2 ⟨hh.2, hh.1⟩] at h6; cases h6
        · exact hno j j1 (by omega)
    · refine s_ret ⟨fun h => absurd h (by decide), fun _ => ⟨e.trans e2, .inl ⟨rfl, rfl, last8_raw hby hl fun j j1 j4 jl => hno j j1 ?_⟩⟩⟩
      have hn : ¬ (k ≤ 4 ∧ k ≤ l.length) := fun h => by rw [hc.2 h] at h3; cases h3
      omega
  · rintro t vs h' ⟨e, ⟨ht, hv, hf⟩ | ⟨ht, a, n, hv, hf⟩⟩
    · refine s_exit ht () hv ?_
      rw [sub_ok (by omega) (by omega)]
      refine hlb ▸ s_at (hb.ext e) (by omega) (by omega) fun _ => ?_
      rw [show ((b.len : Int) - 1).toNat = l.length - 1 by omega, wrap_ok (by omega) (by omega), sub_ok (by omega) (by omega)]
      exact s_ret ⟨rfl, e, (_, 1, ()), rfl, hf⟩
    · exact s_skip (by omega) (s_exit ht (a, n, ()) hv (s_ret ⟨rfl, e, (a, n, ()), rfl, hf⟩))

theorem c_sixteen_last {b : Sl} {l : List Int} {r enc : Int} (hr : le16 r enc) (hb : Lst .u8 h b l) (hl : 0 < l.length) (hbd : l.length < 2 ^ 62) : Gives P (F_sixteen_last S (r, ()) b) duo h fun (x : Int × Int × Unit) _ => LastR enc l x.1 x.2.1 := by
  have hlb := hb.len
  have hby : isBytes l := hb.wf
  have b0 := hb.byte (l.length - 1)
  have hr0 : fitsI .i64 r := by unfold le16 at hr; rw [fits_i64]; omega
  have h16 : enc ≠ 1 ∧ enc ≠ 4 := by unfold le16 at hr; omega
  have u2 := unit_bound (enc := enc) hby (l.length - 2)
  have u4 := unit_bound (enc := enc) hby (l.length - 4)
  unfold F_sixteen_last
  dsimp only
  refine s_allocL [r] (fun x hx => by rw [List.mem_singleton.1 hx]; exact hr0) (by simp) fun h1 e1 o1 => s_not ?_
  simp only [natI_def, hlb]
  rw [rem_ok (by omega)]
  refine wp_ifB (fun hc => ?_) fun hc => ?_
  · rw [eqI_iff] at hc
    rw [sub_ok (by omega) (by omega)]
    refine hlb ▸ s_at (hb.ext e1) (by omega) (by omega) fun _ => ?_
    rw [show ((b.len : Int) - 1).toNat = l.length - 1 by omega, wrap_ok (by omega) (by omega), sub_ok (by omega) (by omega)]
    exact s_ret ⟨rfl, e1, (_, 1, ()), rfl, last16_odd hby h16 (by omega)⟩
  rw [eqI_not] at hc
  have hev := last16_even (enc := enc) hby h16 hl (by omega)
  have two : ∀ {h'}, Ext h h' → Lst .u8 h' ⟨cutBase b.base b.cap (l.length - 2) 1, subN l.length (l.length - 2), subN b.cap (l.length - 2)⟩ (l.drop (l.length - 2)) := fun e => by
    have := (hb.ext e).tail (i := l.length - 2) (by omega); rwa [hlb] at this
  have four : ∀ {h'}, Ext h h' → Lst .u8 h' ⟨cutBase b.base b.cap (l.length - 4) 1, subN l.length (l.length - 4), subN b.cap (l.length - 4)⟩ (l.drop (l.length - 4)) := fun e => by
    have := (hb.ext e).tail (i := l.length - 4) (by omega); rwa [hlb] at this
  have n2 : toN (subI .i64 (l.length : Int) 2) = l.length - 2 := by rw [sub_ok (by omega) (by omega), toN_def]; omega
  have c2 : leB (subI .i64 (l.length : Int) 2) l.length = true := by rw [sub_ok (by omega) (by omega)]; exact leB_ok (by omega) (by omega)
  rw [n2, c2]
  refine s_loadA o1.lst (s_grd rfl (wp_call (c_unit hr (two e1) (by rw [List.length_drop]; omega)) fun ⟨(u : Int), _⟩ h2 e2 hu => ?_))
  have hu : u = unitF enc (l.drop (l.length - 2)) 0 := hu
  rw [unitF_drop] at hu
  subst hu
  dsimp only
  have e12 := e1.trans e2
  refine bind_bool (56320 ≤ unitF enc l (l.length - 2) ∧ unitF enc l (l.length - 2) < 57344 ∧ 4 ≤ l.length ∧ 55296 ≤ unitF enc l (l.length - 4) ∧ unitF enc l (l.length - 4) < 56320) ?_ fun c h5 e5 hc5 => wp_ifB (fun h6 => ?_) fun h6 => ?_
  · refine wp_call (c_low u2.1 u2.2) fun x h3 e3 hx => wp_ifB (fun h4 => ?_) fun h4 => ?_
    · have q := hx.1 h4
      refine wp_ifB (fun h5 => ?_) fun h5 => ?_
      · rw [geI_iff] at h5
        have n4 : toN (subI .i64 (l.length : Int) 4) = l.length - 4 := by rw [sub_ok (by omega) (by omega), toN_def]; omega
        have c4 : leB (subI .i64 (l.length : Int) 4) l.length = true := by rw [sub_ok (by omega) (by omega)]; exact leB_ok (by omega) (by omega)
        rw [n4, c4]
        refine s_loadA (o1.ext (e2.trans e3)).lst (s_grd rfl (wp_call (c_unit hr (four (e12.trans e3)) (by rw [List.length_drop]; omega)) fun ⟨(v : Int), _⟩ h6 e6 hv => ?_))
        have hv : v = unitF enc (l.drop (l.length - 4)) 0 := hv
        rw [unitF_drop] at hv
        subst hv
        dsimp only
        refine wp_call (c_high u4.1 u4.2) fun y h7 e7 hy => s_ret ⟨rfl, (e3.trans e6).trans e7, _, rfl, ?_⟩
        have hy : y.1 = true ↔ _ := hy
        rw [hy]; omega
      · rw [geI_not] at h5
        exact s_ret ⟨rfl, e3, _, rfl, ⟨(fun h => by cases h), fun h => by omega⟩⟩
    · have : ¬ (56320 ≤ unitF enc l (l.length - 2) ∧ unitF enc l (l.length - 2) < 57344) := fun h => by rw [hx.2 h] at h4; cases h4
      exact s_ret ⟨rfl, e3, _, rfl, ⟨(fun h => by cases h), fun h => absurd ⟨h.1, h.2.1⟩ this⟩⟩
  · have hp := hc5.1 h6
    rw [if_pos hp] at hev
    have n4 : toN (subI .i64 (l.length : Int) 4) = l.length - 4 := by rw [sub_ok (by omega) (by omega), toN_def]; omega
    have c4 : leB (subI .i64 (l.length : Int) 4) l.length = true := by rw [sub_ok (by omega) (by omega)]; exact leB_ok (by omega) (by omega)
    rw [n4, c4]
    refine s_loadA (o1.ext (e2.trans e5)).lst (s_grd rfl (wp_call (c_sixteen_first hr (four (e12.trans e5)) (by rw [List.length_drop]; omega)) fun x h7 e7 hx => s_ret ⟨rfl, (e12.trans e5).trans e7, x, rfl, ?_⟩))
    have hx : (x.1, x.2.1) = first16 enc (l.drop (l.length - 4)) := hx
    rw [← hx] at hev
    exact hev
  · have hn : ¬ _ := fun h => by rw [hc5.2 h] at h6; cases h6
    rw [if_neg hn] at hev
    refine s_loadA (o1.ext (e2.trans e5)).lst (s_grd rfl (wp_call (c_unit hr (two (e12.trans e5)) (by rw [List.length_drop]; omega)) fun ⟨(v : Int), _⟩ h7 e7 hv => s_ret ⟨rfl, (e12.trans e5).trans e7, (v, 2, ()), rfl, ?_⟩))
    have hv : v = unitF enc (l.drop (l.length - 2)) 0 := hv
    rw [unitF_drop] at hv
    subst hv
    exact hev

theorem i_last (M : Meth P S) {enc : Int} (he : known enc) {s : Sl} {l : List Int} (hs : Lst .u8 h s l) (hl : 0 < l.length) (hbd : l.length < 2 ^ 62)
    {K : Int × Int × Unit → Prog} (hk : ∀ (x : Int × Int × Unit) h', Ext h h' → LastR enc l x.1 x.2.1 → wp P (K x) h' Q) :
    wp P (.invoke (coder S enc) S.m_last [.slice s.base s.len s.cap] duo K) h Q := by
  rcases known_cases he with rfl | rfl | rfl | rfl
  · exact wp_inv (M.last8 s) (c_eight_last hs hl hbd) hk
  · exact wp_inv (M.last16 0 s) (c_sixteen_last (.inl ⟨rfl, rfl⟩) hs hl hbd) hk
  · exact wp_inv (M.last16 1 s) (c_sixteen_last (.inr ⟨rfl, rfl⟩) hs hl hbd) hk
  · exact wp_inv (M.last1 s) (c_latin_last hs hl hbd) hk
end Go.Sw.Codec
