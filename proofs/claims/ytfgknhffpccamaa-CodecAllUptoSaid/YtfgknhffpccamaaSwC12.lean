/-
  Codec: the laws CodecBack and CodecScalars.
-/
import Derived.Test.YtfgknhffpccamaaSwC11
set_option linter.unusedVariables false
set_option linter.unusedSimpArgs false
set_option maxRecDepth 100000
namespace Go.Sw.Codec
variable {P : Program} {S : Ids} {h : Heap} {Q : Nat → List Value → Heap → Prop}

def wholeF (enc : Int) : Int := enc % 4 + 1
theorem wholeF_known (enc : Int) : known (wholeF enc) := by unfold known wholeF; omega
theorem c_whole (enc : Int) : Gives P (F_law1_whole S enc) [.one (.int .i64)] h fun (x : Int × Unit) _ => x.1 = wholeF enc := by
  unfold F_law1_whole
  rw [and3, add_ok (by omega) (by omega)]
  exact s_ret ⟨rfl, Ext.refl _, (_, ()), rfl, rfl⟩

theorem Meth.sizes (M : Meth P S) : Sizes P S := ⟨M.size8, M.size16, M.size1⟩

/-- Tests that are known. -/
theorem s_eqT {a b : Int} {X Y : Prog} (e : a = b) (hk : wp P X h Q) : wp P (ifB (eqI a b) X Y) h Q := wp_ifB (fun _ => hk) fun hn => by rw [eqI_not] at hn; exact absurd e hn
theorem s_neF {a b : Int} {X Y : Prog} (e : a = b) (hk : wp P Y h Q) : wp P (ifB (neI a b) X Y) h Q := wp_ifB (fun hn => by rw [neI_iff] at hn; exact absurd e hn) fun _ => hk
theorem s_gtT {a b : Int} {X Y : Prog} (e : b < a) (hk : wp P X h Q) : wp P (ifB (gtI a b) X Y) h Q := wp_ifB (fun _ => hk) fun hn => by rw [gtI_not] at hn; omega
theorem s_gtF {a b : Int} {X Y : Prog} (e : a ≤ b) (hk : wp P Y h Q) : wp P (ifB (gtI a b) X Y) h Q := wp_ifB (fun hn => by rw [gtI_iff] at hn; omega) fun _ => hk
theorem s_boolT {b : Bool} {X Y : Prog} (e : b = true) (hk : wp P X h Q) : wp P (ifB b X Y) h Q := wp_ifB (fun _ => hk) fun hn => by rw [e] at hn; cases hn
theorem s_notF {b : Bool} {X Y : Prog} (e : b = true) (hk : wp P Y h Q) : wp P (ifB (notB b) X Y) h Q := wp_ifB (fun hn => by rw [notB_iff, e] at hn; cases hn) fun _ => hk

/-- Decode of an encoding that there is. -/
theorem DecA.known {n : Nat} {enc : Int} {l : List Int} {x : Sl × Int × Unit} {h1 : Heap} (hk : known enc) (hx : DecA n enc l x h1) : OwnL n .i64 h1 x.1 (dec enc l) ∧ x.2.1 = 0 := by
  rcases hx with ⟨_, o, e⟩ | ⟨k, _⟩
  · exact ⟨o, e⟩
  · exact absurd hk k
/-- Encode of atoms that fit. -/
theorem EncA.fits {n : Nat} {enc : Int} {l : List Int} {x : Sl × Int × Int × Unit} {h1 : Heap} (hk : known enc) (hf : ∀ a, a ∈ l → 0 < sizeF enc a) (hx : EncA n enc l x h1) : OwnL n .u8 h1 x.1 (l.flatMap (putF enc)) ∧ x.2.1 = 0 ∧ x.2.2.1 = 0 := by
  obtain ⟨b, o, r⟩ := hx
  obtain ⟨rfl, e1, e2⟩ := r.fn (.inr (.inr ⟨hk, hf, rfl, rfl, rfl⟩))
  exact ⟨o, e1, e2⟩

theorem sizes_sum {enc : Int} : ∀ {l : List Int}, (∀ a, a ∈ l → 0 < sizeF enc a) → ((l.flatMap (putF enc)).length : Int) = (l.map (sizeF enc)).sum := by
  intro l
  induction l with
  | nil => intro _; rfl
  | cons a l ih =>
    intro h
    have h1 := putF_len (h a (List.mem_cons_self ..))
    have h2 := ih fun b hb => h b (List.mem_cons_of_mem _ hb)
    simp only [List.flatMap_cons, List.length_append, List.map_cons, List.sum_cons]
    omega
theorem sum_succ {enc : Int} {l : List Int} {i : Nat} (hi : i < l.length) : ((l.take (i + 1)).map (sizeF enc)).sum = ((l.take i).map (sizeF enc)).sum + sizeF enc (l.getD i 0) := by
  rw [List.take_add_one, List.getElem?_eq_getElem hi, List.getD_eq_getElem?_getD, List.getElem?_eq_getElem hi, List.map_append, List.sum_append]
  simp

theorem c_CodecBack (M : Meth P S) {enc : Int} {b : Sl} {l : List Int} (hb : Lst .u8 h b l) (hl : l.length ≤ 1099511627776) : Gives P (F_law1_CodecBack S enc b) [.one .bool] h fun (x : Bool × Unit) _ => x.1 = Bool.true := by
  have hlb := hb.len
  have hby : isBytes l := hb.wf
  have hk := wholeF_known enc
  unfold F_law1_CodecBack
  refine wp_call (c_whole enc) fun ⟨(k : Int), _⟩ h1 e1 hk' => ?_
  have hk' : k = wholeF enc := hk'
  subst hk'
  dsimp only
  generalize wholeF enc = k at *
  refine wp_call (c_copyBytes (hb.ext e1) (by omega)) fun c h2 e2 hc => wp_call (c_Decode M (OwnL.lst hc) (by omega)) fun x h3 e3 hx => ?_
  obtain ⟨ox, ex⟩ := DecA.known hk hx
  have hxl := ox.len
  have hdl := dec_len (enc := k) _ l rfl hby
  obtain ⟨p1, p2⟩ := dec_put hk _ l rfl hby
  have hbd : l.length < 2 ^ 62 := by omega
  have hpos : 0 < l.length → 0 < (dec k l).length := fun hp => by rw [dec_cons hby hp]; simp
  have e13 := (e1.trans e2).trans e3
  refine bind_bool False ?_ fun c' h4 e4 hc' => wp_ifB (fun h => (hc'.1 h).elim) fun _ => ?_
  · refine wp_call (c_law1_num _) fun v h4 e4 hv => ?_
    have hv : v.1 = x.2.1 := hv
    refine s_neF (hv.trans ex) (wp_ifB (fun hg => ?_) fun hg => ?_)
    · rw [gtI_iff, natI_def, hlb] at hg
      refine wp_ifB (fun hq => ?_) fun hq => s_ret ⟨rfl, e4, _, rfl, ?_⟩
      · rw [eqI_iff, natI_def, hxl] at hq
        have := hpos (by omega); omega
      · rw [gtI_iff, natI_def, natI_def, hxl, hlb]; simp; omega
    · refine s_ret ⟨rfl, e4, _, rfl, ?_⟩
      rw [gtI_iff, natI_def, natI_def, hxl, hlb]; simp; omega
  have ox4 := ox.ext e4
  have e14 := e13.trans e4
  refine wp_while (fun (s : Int × Int × Unit) h' => Ext h h' ∧ Ext h4 h' ∧ 0 ≤ s.2.1 ∧ s.2.1 ≤ (dec k l).length ∧ s.1 = (((dec k l).take s.2.1.toNat).map (sizeF k)).sum ∧ 0 ≤ s.1 ∧ s.1 ≤ 4 * s.2.1) (fun s _ => ((dec k l).length - s.2.1).toNat)
    (fun t vs h' => t = 2 ∧ Ext h h' ∧ Ext h4 h' ∧ vs = [.int .i64 ((dec k l).map (sizeF k)).sum]) ⟨e14, Ext.refl _, by simp, by simp, by simp, by simp, by simp⟩ ?_ ?_
  · rintro ⟨(n : Int), (i : Int), u⟩ h' ⟨e, e5, i0, i1, hn, n0, n1⟩
    dsimp only at i0 i1 hn n0 n1 ⊢
    refine wp_ifB (fun hi => ?_) fun hi => ?_
    · rw [ltI_iff, natI_def, hxl] at hi
      have hfit := p1 _ (getD_mem (l := dec k l) (i := i.toNat) (by omega))
      have hsz := sizeF_le k ((dec k l).getD i.toNat 0)
      refine s_at (ox4.ext e5).lst i0 (by omega) fun _ => wp_call (c_Fits M.sizes k _) fun y h6 e6 hy => s_notF (hy.trans (by simpa using hfit)) ?_
      refine s_at ((ox4.ext e5).ext e6).lst i0 (by omega) fun _ => wp_call (c_Size M.sizes k _) fun z h7 e7 hz => ?_
      have hz : z.1 = sizeF k ((dec k l).getD i.toNat 0) := hz
      rw [hz, add_ok (by omega) (by omega), add_ok (by omega) (by omega)]
      refine s_ret ⟨fun _ => ⟨(n + sizeF k ((dec k l).getD i.toNat 0), i + 1, ()), rfl, ⟨(e.trans e6).trans e7, (e5.trans e6).trans e7, by dsimp only; omega, by dsimp only; omega, ?_, by dsimp only; omega, by dsimp only; omega⟩, by dsimp only; omega⟩, fun h => absurd rfl h⟩
      dsimp only
      rw [show (i + 1).toNat = i.toNat + 1 by omega, sum_succ (by omega), hn]
    · rw [ltI_not, natI_def, hxl] at hi
      refine s_ret ⟨fun h => absurd h (by decide), fun _ => ⟨rfl, e, e5, ?_⟩⟩
      rw [List.take_of_length_le (by omega)] at hn
      rw [hn]
  · rintro t vs h5 ⟨ht, e, e5, hv⟩
    rw [← sizes_sum p1, p2] at hv
    refine s_exit ht ((l.length : Int), ()) hv ?_
    dsimp only
    refine wp_call (c_Encode M (ox4.ext e5).lst (by omega)) fun y h6 e6 hy => ?_
    obtain ⟨oy, ey1, ey2⟩ := EncA.fits hk p1 hy
    rw [p2] at oy
    refine s_allocL (k := .i64) [65] (by intro x hx; simp at hx; subst hx; rw [fits_i64]; decide) (by simp) fun h7 e7 o7 => ?_
    have hf65 : ∀ a, a ∈ [(65 : Int)] → 0 < sizeF k a := by
      intro a ha; simp at ha; subst ha
      rcases known_cases hk with rfl | rfl | rfl | rfl <;> decide
    refine wp_call (c_Encode M o7.lst (by simp)) fun z h8 e8 hz => ?_
    obtain ⟨oz, ez1, ez2⟩ := EncA.fits hk hf65 hz
    have hzl := oz.len
    have hge := flat_len_ge hf65
    have e08 := ((e.trans e6).trans e7).trans e8
    refine bind_bool True ?_ fun c' h10 e10 hc' => s_ret ⟨rfl, e08.trans e10, _, rfl, hc'.2 trivial⟩
    refine wp_call (c_law1_num _) fun v h9 e9 hv => s_eqT ((show v.1 = y.2.2.1 from hv).trans ey2) (wp_call (c_law1_num _) fun v h10 e10 hv => s_eqT ((show v.1 = z.2.2.1 from hv).trans ez2) ?_)
    refine s_gtT (by rw [natI_def]; rw [List.length_singleton] at hge; omega) (s_eqT ey1 (s_eqT (by rw [natI_def, hlb]) ?_))
    refine wp_call (c_sameBytes ((hb.ext e08).ext (e9.trans e10)) (((oy.ext e7).ext e8).ext (e9.trans e10)).lst) fun w h11 e11 hw => s_ret ⟨rfl, (e9.trans e10).trans e11, _, rfl, ?_⟩
    have hw : w.1 = decide (l = l) := hw
    rw [hw]; simp

def scalarP (enc n : Int) : Int := if enc = 4 then n % 256 else if n % 2097152 > 1114111 ∨ (55296 ≤ n % 2097152 ∧ n % 2097152 < 57344) then n % 2097152 % 2048 else n % 2097152
theorem scalarP_ok {enc : Int} (he : known enc) (n : Int) : 0 < sizeF enc (scalarP enc n) ∧ scalarF (scalarP enc n) ∧ fitsI .i64 (scalarP enc n) := by
  rw [fits_i64, fits_iff]
  unfold known at he
  unfold scalarP scalarF
  (repeat' split) <;> omega

theorem c_scalar (enc n : Int) : Gives P (F_law1_scalar S enc n) [.one (.int .i64)] h fun (x : Int × Unit) _ => x.1 = scalarP enc n := by
  unfold F_law1_scalar scalarP
  rw [and255, and2097151, and2047]
  refine wp_ifB (fun hc => ?_) fun hc => ?_
  · rw [eqI_iff] at hc
    rw [if_pos hc]
    exact s_ret ⟨rfl, Ext.refl _, (n % 256, ()), rfl, rfl⟩
  rw [eqI_not] at hc
  rw [if_neg hc]
  refine bind_bool (n % 2097152 > 1114111 ∨ (55296 ≤ n % 2097152 ∧ n % 2097152 < 57344)) ?_ fun c h2 e2 hc2 => wp_ifB (fun h3 => ?_) fun h3 => ?_
  · refine wp_ifB (fun h1 => ?_) fun h1 => wp_ifB (fun h2 => ?_) fun h2 => ?_
    all_goals refine s_ret ⟨rfl, Ext.refl _, _, rfl, ?_⟩
    · rw [gtI_iff] at h1; simp; omega
    · rw [gtI_not] at h1; rw [geI_iff] at h2; rw [ltI_iff]; omega
    · rw [gtI_not] at h1; rw [geI_not] at h2; simp; omega
  · rw [if_pos (hc2.1 h3)]
    exact s_ret ⟨rfl, e2, (_, ()), rfl, rfl⟩
  · rw [if_neg fun hh => by rw [hc2.2 hh] at h3; cases h3]
    exact s_ret ⟨rfl, e2, (_, ()), rfl, rfl⟩

theorem c_CodecScalars (M : Meth P S) {enc : Int} {b : Sl} {l : List Int} (hb : Lst .i64 h b l) (hl : l.length ≤ 1099511627) : Gives P (F_law1_CodecScalars S enc b) [.one .bool] h fun (x : Bool × Unit) _ => x.1 = Bool.true := by
  have hlb := hb.len
  have hk := wholeF_known enc
  unfold F_law1_CodecScalars
  refine wp_call (c_whole enc) fun ⟨(k : Int), _⟩ h1 e1 hk' => ?_
  have hk' : k = wholeF enc := hk'
  subst hk'
  dsimp only
  generalize wholeF enc = k at *
  have f65 : fitsI .i64 65 := by rw [fits_i64]; decide
  refine s_allocL (k := .i64) [65] (by intro x hx; simp at hx; subst hx; exact f65) (by simp) fun h2 e2 o2 => ?_
  have e12 := e1.trans e2
  refine wp_while (fun (s : Sl × Int × Unit) h' => Keep h.size h h' ∧ 0 ≤ s.2.1 ∧ s.2.1 ≤ l.length ∧ OwnL h.size .i64 h' s.1 (65 :: (l.take s.2.1.toNat).map (scalarP k))) (fun s _ => (l.length - s.2.1).toNat)
    (fun t vs h' => t = 2 ∧ ∃ x : Sl × Unit, vs = Ts.inj [.one .sl] x ∧ Keep h.size h h' ∧ OwnL h.size .i64 h' x.1 (65 :: l.map (scalarP k))) ⟨e12, by simp, by simp, by simpa using o2.mono e1.1⟩ ?_ ?_
  · rintro ⟨s, (i : Int), u⟩ h' ⟨e, i0, i1, ho⟩
    dsimp only at i0 i1 ho ⊢
    refine wp_ifB (fun hi => ?_) fun hi => ?_
    · rw [ltI_iff, natI_def, hlb] at hi
      refine s_at (hb.ext e) i0 (by omega) fun _ => wp_call (c_scalar k _) fun x h3 e3 hx => ?_
      have hx : x.1 = scalarP k (l.getD i.toNat 0) := hx
      rw [hx]
      refine s_push (ho.ext e3) (by have := e.1; have := e3.1; omega) (scalarP_ok hk _).2.2 (by simp; omega) (by simp; omega) fun r h4 k4 o4 _ _ => ?_
      rw [add_ok (by omega) (by omega)]
      refine s_ret ⟨fun _ => ⟨(r, i + 1, ()), rfl, ⟨Keep.trans (Keep.trans e (e3.keep e.1)) k4, by dsimp only; omega, by dsimp only; omega, ?_⟩, by dsimp only; omega⟩, fun h => absurd rfl h⟩
      dsimp only
      have : l.take (i + 1).toNat = l.take i.toNat ++ [l.getD i.toNat 0] := by
        rw [show (i + 1).toNat = i.toNat + 1 by omega, List.take_add_one, List.getD_eq_getElem?_getD, List.getElem?_eq_getElem (by omega)]; rfl
      rw [this, List.map_append]; exact o4
    · rw [ltI_not, natI_def, hlb] at hi
      rw [List.take_of_length_le (by omega)] at ho
      exact s_ret ⟨fun h => absurd h (by decide), fun _ => ⟨rfl, (s, ()), rfl, e, ho⟩⟩
  · rintro t vs h3 ⟨ht, x, hv, e, ho⟩
    refine s_exit ht x hv ?_
    have hall : ∀ a, a ∈ 65 :: l.map (scalarP k) → 0 < sizeF k a ∧ scalarF a := by
      intro a ha
      rcases List.mem_cons.1 ha with rfl | ha
      · refine ⟨?_, .inl (by decide)⟩
        rcases known_cases hk with rfl | rfl | rfl | rfl <;> decide
      · obtain ⟨n, _, rfl⟩ := List.mem_map.1 ha
        exact ⟨(scalarP_ok hk n).1, (scalarP_ok hk n).2.1⟩
    have hxl := ho.len
    generalize hm : 65 :: l.map (scalarP k) = m at *
    have hml : m.length = l.length + 1 := by rw [← hm]; simp
    refine wp_call (c_copyInts ho.lst (by omega)) fun c h4 e4 hc => wp_call (c_Encode M (OwnL.lst hc) (by omega)) fun y h5 e5 hy => ?_
    obtain ⟨oy, ey1, ey2⟩ := EncA.fits hk (fun a ha => (hall a ha).1) hy
    have hyl := oy.len
    have hge := flat_len_ge fun a ha => (hall a ha).1
    have hle := flat_len fun a ha => (hall a ha).1
    have e05 : Keep h.size h h5 := Keep.trans e ((e4.trans e5).keep e.1)
    refine bind_bool False ?_ fun c' h6 e6 hc' => wp_ifB (fun h => (hc'.1 h).elim) fun _ => ?_
    · refine wp_call (c_law1_num _) fun v h6 e6 hv => s_neF ((show v.1 = y.2.2.1 from hv).trans ey2) (s_neF ey1 (s_ret ⟨rfl, e6, _, rfl, ?_⟩))
      rw [ltI_iff, natI_def, natI_def, hyl, hxl]
      exact ⟨fun h => by omega, fun h => h.elim⟩
    refine wp_call (c_Decode M (oy.ext e6).lst (by omega)) fun z h7 e7 hz => ?_
    obtain ⟨oz, ez⟩ := DecA.known hk hz
    rw [dec_of_put hk hall] at oz
    have e07 : Keep h.size h h7 := Keep.trans e05 ((e6.trans e7).keep e05.1)
    refine bind_bool True ?_ fun c' h10 e10 hc' => s_ret ⟨rfl, Keep.trans e07 (e10.keep e07.1), _, rfl, hc'.2 trivial⟩
    refine wp_call (c_law1_num _) fun v h8 e8 hv => s_eqT ((show v.1 = z.2.1 from hv).trans ez) (wp_call (c_sameInts (((((ho.ext e4).ext e5).ext e6).ext e7).ext e8).lst (oz.ext e8).lst) fun w h9 e9 hw => s_ret ⟨rfl, e8.trans e9, _, rfl, ?_⟩)
    have hw : w.1 = decide (m = m) := hw
    rw [hw]; simp
end Go.Sw.Codec
