/-
  Codec: Guess; the law CodecGuess.
-/
import Derived.Test.YtfgknhffpccamaaSwC20
set_option linter.unusedVariables false
set_option linter.unusedSimpArgs false
set_option maxRecDepth 100000
namespace Go.Sw.Codec
variable {P : Program} {S : Ids} {h : Heap} {Q : Nat → List Value → Heap → Prop}

theorem s_flt {r : Option Nat} {v : Nat} {K : Nat → Prog} (e : r = some v) (hk : wp P (K v) h Q) : wp P (.flt r K) h Q := ⟨v, e, hk⟩
abbrev fv (x : Nat) : Value := .float .f64 x
abbrev iv64 (x : Int) : Value := .int .i64 x

theorem c_zeros {b : Sl} {l : List Int} {p u : Nat} (hb : Lst .u8 h b l) (hp : p ≤ 1) (hu : 1 ≤ u) (hul : 2 * u ≤ l.length) (hl : l.length ≤ 1099511627776) :
    Gives P (F_codec_zeros S b (p : Int) (u : Int)) [.one (.flt .f64)] h fun (x : Nat × Unit) _ => x.1 = quo1 (zc l p (2 * u)) u := by
  have hlb := hb.len
  unfold F_codec_zeros Gives
  rw [mul64 (a := 2) (b := (u : Int)) (by omega) (by omega)]
  refine wp_while (fun (s : Int × Int × Unit) h' => Ext h h' ∧ ∃ i : Nat, s.2.1 = i ∧ i ≤ 2 * u + 1 ∧ i % 2 = p ∧ s.1 = zc l p i) (fun s _ => (2 * u + 1 - s.2.1.toNat))
    (fun t vs h' => t = 2 ∧ vs = [iv64 (zc l p (2 * u))] ∧ Ext h h') ⟨Ext.refl h, p, rfl, by omega, by omega, ?_⟩ ?_ ?_
  · dsimp only
    have h01 : p = 0 ∨ p = 1 := by omega
    rcases h01 with rfl | rfl
    · rfl
    · rw [zc_succ, zc_zero, if_neg (by omega)]; rfl
  · rintro ⟨n, i', w⟩ h1 ⟨e1, i, hi, hil, hip, hn⟩
    dsimp only at hi hn ⊢
    subst hi; subst hn
    have hz := zc_le l p i
    refine wp_ifB (fun hc => ?_) fun hc => ?_
    · rw [ltI_iff] at hc
      refine wp_bind (fun t vs h' => t = 0 ∧ vs = [iv64 (zc l p (i + 2))] ∧ Ext h h') ?_ ?_
      · have h2 : zc l p (i + 2) = zc l p i + if l.getD i 0 = 0 then 1 else 0 := by
          rw [show i + 2 = (i + 1) + 1 from rfl, zc_succ, zc_succ]
          by_cases hx : l.getD i 0 = 0
          · rw [if_pos ⟨hip, hx⟩, if_neg (by omega), if_pos hx]
          · rw [if_neg (fun h => hx h.2), if_neg (by omega), if_neg hx]
        refine s_at (hb.ext e1) (by omega) (by omega) fun _ => ?_
        rw [Int.toNat_natCast]
        refine wp_ifB (fun hd => ?_) fun hd => ?_
        · rw [eqI_iff] at hd
          rw [add_ok (by omega) (by omega)]
          exact s_ret ⟨rfl, by rw [h2, if_pos hd]; rfl, e1⟩
        · rw [eqI_not] at hd
          exact s_ret ⟨rfl, by rw [h2, if_neg hd]; rfl, e1⟩
      · rintro t vs h2 ⟨rfl, rfl, e2⟩
        refine s_tag (s_castI ?_)
        rw [add_ok (a := (i : Int)) (by omega) (by omega)]
        exact s_ret ⟨fun _ => ⟨(_, (i : Int) + 2, ()), rfl, ⟨e2, i + 2, rfl, by omega, by omega, rfl⟩, by dsimp only; omega⟩, fun h => absurd rfl h⟩
    · rw [ltI_not] at hc
      refine s_ret ⟨fun h => absurd h (by decide), fun _ => ⟨rfl, ?_, e1⟩⟩
      have h01 : i = 2 * u ∨ i = 2 * u + 1 := by omega
      rcases h01 with rfl | rfl
      · rfl
      · rw [zc_succ, if_neg (by omega)]; rfl
  · rintro t vs h1 ⟨rfl, rfl, e1⟩
    exact s_tag (s_castI (s_flt (quo1_is (by omega) (by omega)).1 (s_ret ⟨rfl, e1, (_, ()), rfl, rfl⟩)))

/-- Of the two ways in which the middle ends. -/
def Mid (l : List Int) (t : Nat) (vs : List Value) : Prop := (t = 1 ∧ vs = [iv64 (guessF l).1, fv (guessF l).2]) ∨ (t = 0 ∧ vs = [] ∧ guessF l = restF l)

theorem half_is {b : Sl} {l : List Int} (hb : Lst .u8 h b l) (hl : l.length ≤ 1099511627776) : quoI .i64 (natI b.len) 2 = ((l.length / 2 : Nat) : Int) := by
  rw [natI_def, hb.len, quo_ok (by omega) (by omega) (by omega)]; omega

/-- What is asked of the two shares. -/
theorem mid_asks {l : List Int} (hd : (detF l).1 = 0) (hu : 0 < l.length / 2) (hm : ∀ t vs h', Ext h h' → Mid l t vs → Q t vs h') :
    wp P (.bind
        (ifB (geF .f64 (loF l) 4602678819172646912)
          (.ret 0 [.bool (leF .f64 (hiF l) 4593671619917905920)]) <|
        .ret 0 [.bool false]) fun k143 vs144 =>
      ifB (eqN k143 0)
        (.cast [.one .bool] vs144 fun (r145 : Bool × Unit) =>
        ifB r145.1
          (.ret 1 [.int .i64 2, .float .f64 (loF l)]) <|
        .bind
          (ifB (geF .f64 (hiF l) 4602678819172646912)
            (.ret 0 [.bool (leF .f64 (loF l) 4593671619917905920)]) <|
          .ret 0 [.bool false]) fun k149 vs150 =>
        ifB (eqN k149 0)
          (.cast [.one .bool] vs150 fun (r151 : Bool × Unit) =>
          ifB r151.1
            (.ret 1 [.int .i64 3, .float .f64 (hiF l)]) <|
          .ret 0 []) <|
        .fail) <|
      .fail) h Q := by
  have g : guessF l = if geF .f64 (loF l) halfF = true ∧ leF .f64 (hiF l) eighthF = true then (2, loF l) else if geF .f64 (hiF l) halfF = true ∧ leF .f64 (loF l) eighthF = true then (3, hiF l) else restF l := by
    unfold guessF
    rw [if_neg (by rw [hd]; simp)]
    simp only [hu, true_and]
  refine bind_bool (geF .f64 (loF l) halfF = true ∧ leF .f64 (hiF l) eighthF = true) ?_ fun b h1 e1 hb => ?_
  · refine wp_ifB (fun hc => s_ret ⟨rfl, Ext.refl _, _, rfl, Iff.intro (fun x => ⟨hc, x⟩) fun x => x.2⟩) fun hc => s_ret ⟨rfl, Ext.refl _, false, rfl, Iff.intro (fun x => by cases x) fun x => ?_⟩
    rw [show geF .f64 (loF l) 4602678819172646912 = true from x.1] at hc; cases hc
  dsimp only
  refine wp_ifB (fun hc => s_ret (hm _ _ _ e1 (.inl ⟨rfl, ?_⟩))) fun hc => ?_
  · rw [g, if_pos (hb.1 hc)]
  have hno : ¬ (geF .f64 (loF l) halfF = true ∧ leF .f64 (hiF l) eighthF = true) := fun x => by rw [hb.2 x] at hc; cases hc
  rw [if_neg hno] at g
  refine bind_bool (geF .f64 (hiF l) halfF = true ∧ leF .f64 (loF l) eighthF = true) ?_ fun b h2 e2 hb => ?_
  · refine wp_ifB (fun hc => s_ret ⟨rfl, Ext.refl _, _, rfl, Iff.intro (fun x => ⟨hc, x⟩) fun x => x.2⟩) fun hc => s_ret ⟨rfl, Ext.refl _, false, rfl, Iff.intro (fun x => by cases x) fun x => ?_⟩
    rw [show geF .f64 (hiF l) 4602678819172646912 = true from x.1] at hc; cases hc
  dsimp only
  refine wp_ifB (fun hc => s_ret (hm _ _ _ (e1.trans e2) (.inl ⟨rfl, ?_⟩))) fun hc => s_ret (hm _ _ _ (e1.trans e2) (.inr ⟨rfl, rfl, ?_⟩))
  · rw [g, if_pos (hb.1 hc)]
  · rw [g, if_neg (fun x => by rw [hb.2 x] at hc; cases hc)]

theorem rest_asks {l : List Int} (hb : isBytes l) (hl : l.length ≤ 1099511627776) (hm : Q 0 [iv64 (restF l).1, fv (restF l).2] h) :
    wp P (ifB (eqI (negs (dec 1 l) : Int) 0)
        (.ret 0 [.int .i64 1, .float .f64 4607182418800017408]) <|
      .flt (quoF .f64 (intF .f64 (subI .i64 (hc l : Int) (negs (dec 1 l) : Int))) (intF .f64 (hc l : Int))) fun k260 =>
      ifB (geF .f64 k260 4604930618986332160)
        (.ret 0 [.int .i64 1, .float .f64 k260]) <|
      .flt (subF .f64 4607182418800017408 k260) fun k261 =>
      .ret 0 [.int .i64 4, .float .f64 k261]) h Q := by
  have hn := negs_hc _ l rfl hb
  have hh := hc_le l
  unfold restF at hm
  refine wp_ifB (fun hc => ?_) fun hc => ?_
  · rw [eqI_iff] at hc
    rw [if_pos (by omega)] at hm
    exact s_ret hm
  · rw [eqI_not] at hc
    rw [if_neg (by omega)] at hm
    rw [sub_ok (by omega) (by omega)]
    have hq := quo1_is (a := (Codec.hc l : Int) - negs (dec 1 l)) (b := (Codec.hc l : Int)) (by omega) (by omega)
    refine s_flt hq.1 (wp_ifB (fun hd => ?_) fun hd => ?_)
    · rw [if_pos (show geF .f64 (goodF l) manyF = true from hd)] at hm
      exact s_ret hm
    · rw [if_neg (show ¬ geF .f64 (goodF l) manyF = true from fun x => by rw [show geF .f64 (quo1 ((Codec.hc l : Int) - negs (dec 1 l)) (Codec.hc l)) 4604930618986332160 = true from x] at hd; cases hd)] at hm
      exact s_flt (sub1_is hq.2).1 (s_ret hm)

abbrev GuessA (l : List Int) (x : Int × Nat × Unit) : Prop := x.1 = (guessF l).1 ∧ x.2.1 = (guessF l).2

theorem c_Guess {b : Sl} {l : List Int} (hb : Lst .u8 h b l) (hl : l.length ≤ 1099511627776) : Gives P (F_codec_Guess S b) [.one (.int .i64), .one (.flt .f64)] h fun (x : Int × Nat × Unit) _ => GuessA l x := by
  have hlb := hb.len
  have hcap := hb.cap
  have hby : isBytes l := hb.wf
  unfold F_codec_Guess Gives
  refine wp_call (c_Detect hb) fun ⟨(d : Int), (d2 : Int), w⟩ h1 e1 hd => ?_
  have hd : (d, d2) = detF l := hd
  have hd1 : (detF l).1 = d := by rw [← hd]
  dsimp only
  refine wp_ifB (fun hc => ?_) fun hc => ?_
  · rw [neI_iff] at hc
    have g : guessF l = (d, oneF) := by unfold guessF; rw [hd1, if_pos hc]
    exact s_ret ⟨rfl, e1, (d, oneF, ()), rfl, by rw [g], by rw [g]⟩
  rw [neI_not] at hc
  rw [hc] at hd1
  rw [half_is hb hl]
  refine wp_bind (fun t vs h' => Ext h h' ∧ Mid l t vs) (s_not (wp_ifB (fun hu => ?_) fun hu => ?_)) ?_
  · rw [gtI_iff] at hu
    refine wp_call (c_zeros (p := 0) (u := l.length / 2) (hb.ext e1) (by omega) (by omega) (by omega) hl) fun x h2 e2 hx => wp_call (c_zeros (p := 1) (u := l.length / 2) ((hb.ext e1).ext e2) (by omega) (by omega) (by omega) hl) fun y h3 e3 hy => ?_
    obtain ⟨x, w1⟩ := x
    obtain ⟨y, w2⟩ := y
    have hx : x = hiF l := hx
    have hy : y = loF l := hy
    subst hx; subst hy
    exact mid_asks hd1 (by omega) fun t vs h' e hm => ⟨((e1.trans e2).trans e3).trans e, hm⟩
  · rw [gtI_not] at hu
    refine s_ret ⟨e1, .inr ⟨rfl, rfl, ?_⟩⟩
    unfold guessF
    rw [if_neg (by rw [hd1]; simp), if_neg (fun x => by omega), if_neg (fun x => by omega)]
  rintro t vs h2 ⟨e2, ⟨rfl, rfl⟩ | ⟨rfl, rfl, hr⟩⟩
  · exact s_tag ⟨((guessF l).1, (guessF l).2, ()), rfl, s_ret ⟨rfl, e2, ((guessF l).1, (guessF l).2, ()), rfl, rfl, rfl⟩⟩
  refine s_skip (by decide) (s_tag (s_cast0 ?_))
  refine wp_while (fun (s : Int × Int × Int × Unit) h' => Ext h h' ∧ ∃ (i q r : Nat), s.2.2.1 = i ∧ s.1 = q ∧ s.2.1 = r ∧ i ≤ l.length ∧ Codec.hc l = q + Codec.hc (l.drop i) ∧ negs (dec 1 l) = r + negs (dec 1 (l.drop i))) (fun s _ => l.length - s.2.2.1.toNat)
    (fun t vs h' => t = 3 ∧ vs = [iv64 (Codec.hc l), iv64 (negs (dec 1 l))] ∧ Ext h h') ⟨e2, 0, 0, 0, rfl, rfl, rfl, Nat.zero_le _, by simp, by simp⟩ ?_ ?_
  · rintro ⟨q', r', i', w⟩ h3 ⟨e3, i, q, r, hi, hq, hr, hil, hh, hn⟩
    dsimp only at hi hq hr ⊢
    subst hi; subst hq; subst hr
    have b1 := hc_le l
    have b2 := negs_le (dec 1 l)
    have b3 := dec_len (enc := 1) _ l rfl hby
    refine wp_ifB (fun hc => ?_) fun hc => ?_
    · rw [ltI_iff, natI_def, hlb] at hc
      have hlt : 0 < (l.drop i).length := by rw [List.length_drop]; omega
      have ht := (hb.ext e3).tail (i := i) (by omega)
      rw [toN_def, Int.toNat_natCast]
      refine s_grd (leB_ok (by omega) (by omega)) (wp_call (c_eight_first ht hlt) fun ⟨(a : Int), (n : Int), w1⟩ h4 e4 hx => ?_)
      have hx : (a, n) = first8 (l.drop i) := hx
      have hs := firstF_size (enc := 1) hlt (hby.drop i)
      rw [show firstF 1 (l.drop i) = first8 (l.drop i) from rfl] at hs
      obtain ⟨f1, f2⟩ := first_high (hby.drop i) hlt
      have hdc := dec_cons (enc := 1) (hby.drop i) hlt
      rw [show firstF 1 (l.drop i) = first8 (l.drop i) from rfl] at hdc
      rw [hdc, negs_cons] at hn
      rw [f1] at hh
      rw [← hx] at hs f2 hh hn
      dsimp only at hs f2 hh hn ⊢
      rw [List.drop_drop] at hh hn
      rw [getD_drop, Nat.add_zero] at hh f2
      rw [List.length_drop] at hs
      have e34 := e3.trans e4
      refine wp_bind (fun t vs h' => t = 0 ∧ vs = [iv64 ((r + (if a < 0 then 1 else 0) : Nat) : Int)] ∧ Ext h h') ?_ ?_
      · refine wp_ifB (fun hd => ?_) fun hd => ?_
        · rw [ltI_iff] at hd
          rw [add_ok (by omega) (by omega), if_pos hd]
          exact s_ret ⟨rfl, rfl, e34⟩
        · rw [ltI_not] at hd
          rw [if_neg (by omega)]
          exact s_ret ⟨rfl, rfl, e34⟩
      rintro t vs h5 ⟨rfl, rfl, e5⟩
      refine s_tag (s_castI (wp_bind (fun t vs h' => t = 0 ∧ vs = [iv64 ((q + (if 128 ≤ l.getD i 0 then n.toNat else 0) : Nat) : Int)] ∧ Ext h h') ?_ ?_))
      · refine s_at (hb.ext e5) (by omega) (by omega) fun _ => ?_
        rw [Int.toNat_natCast]
        refine wp_ifB (fun hd => ?_) fun hd => ?_
        · rw [geI_iff] at hd
          rw [if_pos hd] at hh ⊢
          rw [add_ok (by omega) (by omega)]
          exact s_ret ⟨rfl, by congr 2; omega, e5⟩
        · rw [geI_not] at hd
          rw [if_neg (by omega)]
          exact s_ret ⟨rfl, rfl, e5⟩
      rintro t vs h6 ⟨rfl, rfl, e6⟩
      refine s_tag (s_castI ?_)
      rw [add_ok (a := (i : Int)) (by omega) (by omega)]
      refine s_ret ⟨fun _ => ⟨(_, _, (i : Int) + n, ()), rfl, ⟨e6, i + n.toNat, _, _, by dsimp only; omega, rfl, rfl, by omega, by omega, by omega⟩, by dsimp only; omega⟩, fun h => absurd rfl h⟩
    · rw [ltI_not, natI_def, hlb] at hc
      have hd0 : l.drop i = [] := List.drop_of_length_le (by omega)
      rw [hd0] at hh hn
      rw [show dec 1 ([] : List Int) = [] from rfl] at hn
      have z1 : Codec.hc [] = 0 := rfl
      have z2 : negs [] = 0 := rfl
      refine s_ret ⟨fun h => absurd h (by decide), fun _ => ⟨rfl, ?_, e3⟩⟩
      rw [hh, hn, z1, z2]; rfl
  · rintro t vs h3 ⟨rfl, rfl, e3⟩
    refine s_tag (s_castII (rest_asks hby hl ?_))
    exact ⟨rfl, e3, ((restF l).1, (restF l).2, ()), rfl, by rw [hr], by rw [hr]⟩

theorem c_ref_Guess {b : Sl} {l : List Int} (hb : Lst .u8 h b l) (hl : l.length ≤ 1099511627776) : Gives P (F_ref1_Guess S b) [.one (.int .i64), .one (.flt .f64)] h fun (x : Int × Nat × Unit) _ => GuessA l x := by
  have hlb := hb.len
  have hby : isBytes l := hb.wf
  unfold F_ref1_Guess Gives
  refine wp_call (c_ref_Detect hb (by omega)) fun ⟨(d : Int), (d2 : Int), w⟩ h1 e1 hd => ?_
  have hd : (d, d2) = detF l := hd
  have hd1 : (detF l).1 = d := by rw [← hd]
  dsimp only
  refine wp_ifB (fun hc => ?_) fun hc => ?_
  · rw [neI_iff] at hc
    have g : guessF l = (d, oneF) := by unfold guessF; rw [hd1, if_pos hc]
    exact s_ret ⟨rfl, e1, (d, oneF, ()), rfl, by rw [g], by rw [g]⟩
  rw [neI_not] at hc
  rw [hc] at hd1
  rw [half_is hb hl]
  refine s_not (wp_bind (fun t vs h' => Ext h h' ∧ Mid l t vs) (wp_ifB (fun hu => ?_) fun hu => ?_) ?_)
  · rw [gtI_iff] at hu
    rw [mul64 (a := 2) (b := ((l.length / 2 : Nat) : Int)) (by omega) (by omega)]
    refine s_allocL (k := .i64) [0, 0] (fun x hx => by simp only [List.mem_cons, List.not_mem_nil, or_false] at hx; rcases hx with rfl | rfl <;> exact fits_zero _) (by simp) fun h2 e2 o2 => s_storeL (l := [0, 0]) [0, 0] o2 rfl (fun x hx => by simp only [List.mem_cons, List.not_mem_nil, or_false] at hx; rcases hx with rfl | rfl <;> exact fits_zero _) fun h3 o3 u3 z3 => ?_
    have e03 : Ext h h3 := Keep.trans (e1.trans e2) (Upd.ext_of u3 (by intro a ha; cases ha; exact e1.1) (by have := e1.1; have := e2.1; omega))
    refine wp_while (fun (s : Int × Unit) h' => Ext h h' ∧ ∃ i : Nat, s.1 = i ∧ i ≤ 2 * (l.length / 2) ∧ OwnL h1.size .i64 h' ⟨some ⟨h1.size, 0, none⟩, 2, 2⟩ [(zc l 0 i : Int), (zc l 1 i : Int)]) (fun s _ => 2 * (l.length / 2) - s.1.toNat)
      (fun t vs h' => t = 2 ∧ vs = [] ∧ Ext h h' ∧ OwnL h1.size .i64 h' ⟨some ⟨h1.size, 0, none⟩, 2, 2⟩ [(zc l 0 (2 * (l.length / 2)) : Int), (zc l 1 (2 * (l.length / 2)) : Int)]) ⟨e03, 0, rfl, Nat.zero_le _, o3⟩ ?_ ?_
    · rintro ⟨i', w⟩ h4 ⟨e4, i, hi, hil, o4⟩
      dsimp only at hi ⊢
      subst hi
      have hz0 := zc_le l 0 i
      have hz1 := zc_le l 1 i
      refine wp_ifB (fun hc => ?_) fun hc => ?_
      · rw [ltI_iff] at hc
        refine wp_bind (fun t vs h' => t = 0 ∧ vs = [] ∧ Ext h h' ∧ OwnL h1.size .i64 h' ⟨some ⟨h1.size, 0, none⟩, 2, 2⟩ [(zc l 0 (i + 1) : Int), (zc l 1 (i + 1) : Int)]) ?_ ?_
        · refine s_at (hb.ext e4) (by omega) (by omega) fun _ => ?_
          rw [Int.toNat_natCast]
          have hrem : remI .i64 (i : Int) 2 = ((i % 2 : Nat) : Int) := by rw [rem_ok (by omega)]; omega
          rw [hrem]
          refine wp_ifB (fun hd => ?_) fun hd => ?_
          · rw [eqI_iff] at hd
            have hmul : mulN (toN ((i % 2 : Nat) : Int)) 1 = i % 2 := by rw [mulN_def, toN_def, Int.toNat_natCast, Nat.mul_one]
            rw [hmul]
            have h01 : i % 2 = 0 ∨ i % 2 = 1 := by omega
            have s0 : zc l 0 (i + 1) = zc l 0 i + if i % 2 = 0 ∧ l.getD i 0 = 0 then 1 else 0 := zc_succ ..
            have s1 : zc l 1 (i + 1) = zc l 1 i + if i % 2 = 1 ∧ l.getD i 0 = 0 then 1 else 0 := zc_succ ..
            rcases h01 with hm | hm
            · rw [if_pos ⟨hm, hd⟩] at s0
              rw [if_neg (by omega)] at s1
              rw [hm]
              refine s_not (s_grd (inB_ok (by omega) (by omega)) (s_loadL o4.lst (j := 0) (by simp) (s_grd (inB_ok (by omega) (by omega)) ?_)))
              show wp P (.store (shiftTo (some ⟨h1.size, 0, none⟩) 0) [.int .i64 (addI .i64 (zc l 0 i : Int) 1)] _) h4 _
              rw [add_ok (by omega) (by omega)]
              refine s_setA o4 (j := 0) (by simp) (fits_i64.2 ⟨by omega, by omega⟩) fun h5 o5 u5 z5 => s_ret ⟨rfl, rfl, ?_, ?_⟩
              · exact Keep.trans e4 (Upd.ext_of u5 (by intro a ha; cases ha; exact e1.1) (by have := e4.1; omega))
              · rw [s0, s1]; simpa using o5
            · rw [if_pos ⟨hm, hd⟩] at s1
              rw [if_neg (by omega)] at s0
              rw [hm]
              refine s_not (s_grd (inB_ok (by omega) (by omega)) (s_loadL o4.lst (j := 1) (by simp) (s_grd (inB_ok (by omega) (by omega)) ?_)))
              show wp P (.store (shiftTo (some ⟨h1.size, 0, none⟩) 1) [.int .i64 (addI .i64 (zc l 1 i : Int) 1)] _) h4 _
              rw [add_ok (by omega) (by omega)]
              refine s_setA o4 (j := 1) (by simp) (fits_i64.2 ⟨by omega, by omega⟩) fun h5 o5 u5 z5 => s_ret ⟨rfl, rfl, ?_, ?_⟩
              · exact Keep.trans e4 (Upd.ext_of u5 (by intro a ha; cases ha; exact e1.1) (by have := e4.1; omega))
              · rw [s0, s1]; simpa using o5
          · rw [eqI_not] at hd
            have s0 : zc l 0 (i + 1) = zc l 0 i + if i % 2 = 0 ∧ l.getD i 0 = 0 then 1 else 0 := zc_succ ..
            have s1 : zc l 1 (i + 1) = zc l 1 i + if i % 2 = 1 ∧ l.getD i 0 = 0 then 1 else 0 := zc_succ ..
            rw [if_neg (fun x => hd x.2)] at s0 s1
            exact s_ret ⟨rfl, rfl, e4, by rw [s0, s1]; exact o4⟩
        rintro t vs h5 ⟨rfl, rfl, e5, o5⟩
        refine s_tag (s_cast0 ?_)
        rw [add_ok (by omega) (by omega)]
        exact s_ret ⟨fun _ => ⟨((i : Int) + 1, ()), rfl, ⟨e5, i + 1, rfl, by omega, o5⟩, by dsimp only; omega⟩, fun h => absurd rfl h⟩
      · rw [ltI_not] at hc
        have : i = 2 * (l.length / 2) := by omega
        subst this
        exact s_ret ⟨fun h => absurd h (by decide), fun _ => ⟨rfl, rfl, e4, o4⟩⟩
    rintro t vs h4 ⟨rfl, rfl, e4, o4⟩
    refine s_tag (s_cast0 (s_loadL o4.lst (j := 0) (by simp) (s_flt (quo1_is (by omega) (by omega)).1 (s_loadL o4.lst (j := 1) (by simp) (s_flt (quo1_is (by omega) (by omega)).1 ?_)))))
    exact mid_asks hd1 (by omega) fun t vs h' e hm => ⟨e4.trans e, hm⟩
  · rw [gtI_not] at hu
    refine s_ret ⟨e1, .inr ⟨rfl, rfl, ?_⟩⟩
    unfold guessF
    rw [if_neg (by rw [hd1]; simp), if_neg (fun x => by omega), if_neg (fun x => by omega)]
  rintro t vs h2 ⟨e2, ⟨rfl, rfl⟩ | ⟨rfl, rfl, hr⟩⟩
  · exact s_tag ⟨((guessF l).1, (guessF l).2, ()), rfl, s_ret ⟨rfl, e2, ((guessF l).1, (guessF l).2, ()), rfl, rfl, rfl⟩⟩
  refine s_skip (by decide) (s_tag (s_cast0 ?_))
  refine wp_while (fun (s : Int × Int × Unit) h' => Ext h h' ∧ ∃ i : Nat, s.2.1 = i ∧ i ≤ l.length ∧ s.1 = Codec.hc (l.take i)) (fun s _ => l.length - s.2.1.toNat)
    (fun t vs h' => t = 4 ∧ vs = [iv64 (Codec.hc l)] ∧ Ext h h') ⟨e2, 0, rfl, Nat.zero_le _, rfl⟩ ?_ ?_
  · rintro ⟨q', i', w⟩ h3 ⟨e3, i, hi, hil, hq⟩
    dsimp only at hi hq ⊢
    subst hi; subst hq
    have b1 := hc_le (l.take i)
    rw [List.length_take] at b1
    refine wp_ifB (fun hx => ?_) fun hx => ?_
    · rw [ltI_iff, natI_def, hlb] at hx
      have htk : l.take (i + 1) = l.take i ++ [l.getD i 0] := by
        rw [List.take_add_one, List.getElem?_eq_getElem (by omega), List.getD_eq_getElem?_getD, List.getElem?_eq_getElem (by omega)]; rfl
      have hs : Codec.hc (l.take (i + 1)) = Codec.hc (l.take i) + if 128 ≤ l.getD i 0 then 1 else 0 := by rw [htk, hc_append, hc_one]
      refine wp_bind (fun t vs h' => t = 0 ∧ vs = [iv64 (Codec.hc (l.take (i + 1)))] ∧ Ext h h') ?_ ?_
      · refine s_at (hb.ext e3) (by omega) (by omega) fun _ => ?_
        rw [Int.toNat_natCast]
        refine wp_ifB (fun hd => ?_) fun hd => ?_
        · rw [geI_iff] at hd
          rw [add_ok (by omega) (by omega)]
          exact s_ret ⟨rfl, by rw [hs, if_pos hd]; rfl, e3⟩
        · rw [geI_not] at hd
          exact s_ret ⟨rfl, by rw [hs, if_neg (by omega)]; rfl, e3⟩
      rintro t vs h4 ⟨rfl, rfl, e4⟩
      refine s_tag (s_castI ?_)
      rw [add_ok (a := (i : Int)) (by omega) (by omega)]
      exact s_ret ⟨fun _ => ⟨(_, (i : Int) + 1, ()), rfl, ⟨e4, i + 1, rfl, by omega, rfl⟩, by dsimp only; omega⟩, fun h => absurd rfl h⟩
    · rw [ltI_not, natI_def, hlb] at hx
      rw [List.take_of_length_le (by omega)]
      exact s_ret ⟨fun h => absurd h (by decide), fun _ => ⟨rfl, rfl, e3⟩⟩
  rintro t vs h3 ⟨rfl, rfl, e3⟩
  refine s_tag (s_castI (wp_call (c_ref_Decode (enc := Int.ofNat 1) (hb.ext e3) (by omega)) fun x h4 e4 hx => ?_))
  obtain ⟨ox, _⟩ := DecA.known (by unfold known; decide) hx
  have ox : OwnL h3.size .i64 h4 x.1 (dec 1 l) := ox
  have hxl := ox.len
  have b3 := dec_len (enc := 1) _ l rfl hby
  have e34 := e3.trans e4
  refine wp_while (fun (s : Int × Int × Unit) h' => Ext h4 h' ∧ ∃ i : Nat, s.2.1 = i ∧ i ≤ (dec 1 l).length ∧ s.1 = negs ((dec 1 l).take i)) (fun s _ => (dec 1 l).length - s.2.1.toNat)
    (fun t vs h' => t = 6 ∧ vs = [iv64 (negs (dec 1 l))] ∧ Ext h4 h') ⟨Ext.refl _, 0, rfl, Nat.zero_le _, rfl⟩ ?_ ?_
  · rintro ⟨q', i', w⟩ h5 ⟨e5, i, hi, hil, hq⟩
    dsimp only at hi hq ⊢
    subst hi; subst hq
    have b1 := negs_le ((dec 1 l).take i)
    rw [List.length_take] at b1
    refine wp_ifB (fun hx => ?_) fun hx => ?_
    · rw [ltI_iff, natI_def, hxl] at hx
      have htk : (dec 1 l).take (i + 1) = (dec 1 l).take i ++ [(dec 1 l).getD i 0] := by
        rw [List.take_add_one, List.getElem?_eq_getElem (by omega), List.getD_eq_getElem?_getD, List.getElem?_eq_getElem (by omega)]; rfl
      have hs : negs ((dec 1 l).take (i + 1)) = negs ((dec 1 l).take i) + if (dec 1 l).getD i 0 < 0 then 1 else 0 := by rw [htk, negs_append, negs_one]
      refine wp_bind (fun t vs h' => t = 0 ∧ vs = [iv64 (negs ((dec 1 l).take (i + 1)))] ∧ Ext h4 h') ?_ ?_
      · refine s_at (ox.ext e5).lst (by omega) (by omega) fun _ => ?_
        rw [Int.toNat_natCast]
        refine wp_ifB (fun hd => ?_) fun hd => ?_
        · rw [ltI_iff] at hd
          rw [add_ok (by omega) (by omega)]
          exact s_ret ⟨rfl, by rw [hs, if_pos hd]; rfl, e5⟩
        · rw [ltI_not] at hd
          exact s_ret ⟨rfl, by rw [hs, if_neg (by omega)]; rfl, e5⟩
      rintro t vs h6 ⟨rfl, rfl, e6⟩
      refine s_tag (s_castI ?_)
      rw [add_ok (a := (i : Int)) (by omega) (by omega)]
      exact s_ret ⟨fun _ => ⟨(_, (i : Int) + 1, ()), rfl, ⟨e6, i + 1, rfl, by omega, rfl⟩, by dsimp only; omega⟩, fun h => absurd rfl h⟩
    · rw [ltI_not, natI_def, hxl] at hx
      rw [List.take_of_length_le (by omega)]
      exact s_ret ⟨fun h => absurd h (by decide), fun _ => ⟨rfl, rfl, e5⟩⟩
  rintro t vs h5 ⟨rfl, rfl, e5⟩
  refine s_tag (s_castI (rest_asks hby hl ?_))
  exact ⟨rfl, e34.trans e5, ((restF l).1, (restF l).2, ()), rfl, by rw [hr], by rw [hr]⟩

theorem c_guessed {b : Sl} {l : List Int} (hb : Lst .u8 h b l) (hl : l.length ≤ 1099511627775) : Gives P (F_law1_guessed S b) [.one .bool] h fun (x : Bool × Unit) _ => x.1 = Bool.true := by
  have hlb := hb.len
  unfold F_law1_guessed
  refine wp_call (c_lend hb (by omega)) fun c h1 e1 hc => ?_
  have hc1 := hc.1
  have hb1 := hb.ext e1
  simp only [cutBase_zero, subZero, natTo, hlb]
  refine s_leB (by simp [natI]) (by rw [natI_def]; omega) (wp_call (c_Guess hc.part (by omega)) fun ⟨(x1 : Int), (x2 : Nat), wx⟩ h2 e2 hx => wp_call (c_ref_Guess (hb1.ext e2) (by omega)) fun ⟨(y1 : Int), (y2 : Nat), wy⟩ h3 e3 hy => ?_)
  obtain ⟨hx1, hx2⟩ := hx
  obtain ⟨hy1, hy2⟩ := hy
  dsimp only at hx1 hx2 hy1 hy2 ⊢
  have hnum := guess_num (l := l) hb.wf (by omega)
  have hc3 := (hc.ext e2).ext e3
  have hb3 := (hb1.ext e2).ext e3
  have e03 := (e1.trans e2).trans e3
  refine bind_bool False ?_ fun c' h6 e6 hc' => wp_ifB (fun h => (hc'.1 h).elim) fun _ => ?_
  · rw [show neI x1 y1 = false from neI_not.2 (by rw [hx1, hy1]), show neF .f64 x2 y2 = false by rw [hx2, hy2]; exact Fl.ne_self hnum]
    refine s_ifF (s_ifF (wp_call (c_kept hc3 hb3) fun v h8 e8 hv => s_ret ⟨rfl, e8, _, rfl, ?_⟩))
    have hv : v.1 = true := hv
    rw [hv]; simp [notB]
  · have ho := (hc3.ext e6).2.2
    have e06 := e03.trans e6
    refine wp_callN (c_turned (n := l.length) ho (by have := e06.1; have := e1.1; have := e2.1; have := e3.1; have := e6.1; omega) (by rw [List.length_append]; omega) (by omega)) fun z h7 k7 ⟨l', hl', ho', hz⟩ => ?_
    have hp := OwnL.part ho' hl'.symm
    refine s_leB (by simp [natI]) (by rw [natI_def]; omega) (wp_call (c_Guess hp (by omega)) fun ⟨(x1 : Int), (x2 : Nat), wx⟩ h8 e8 hx => wp_call (c_ref_Guess (hz.ext e8) (by omega)) fun ⟨(y1 : Int), (y2 : Nat), wy⟩ h9 e9 hy => ?_)
    obtain ⟨hx1, hx2⟩ := hx
    obtain ⟨hy1, hy2⟩ := hy
    dsimp only at hx1 hx2 hy1 hy2 ⊢
    have hnum := guess_num (l := l') hz.wf (by omega)
    have e07 : Keep h.size h h7 := Keep.trans e06 k7
    have e09 : Keep h.size h h9 := Keep.trans e07 ((e8.trans e9).keep e07.1)
    refine bind_bool True ?_ fun c' h10 e10 hc' => s_ret ⟨rfl, Keep.trans e09 (e10.keep e09.1), _, rfl, hc'.2 trivial⟩
    rw [show eqI x1 y1 = true from eqI_iff.2 (by rw [hx1, hy1])]
    refine s_ifT (s_ret ⟨rfl, Ext.refl _, _, rfl, Iff.intro (fun _ => trivial) fun _ => ?_⟩)
    unfold eqF
    rw [hx2, hy2, show FloatKind.f64.format = Ieee.double from rfl, Fl.order_self hnum]; rfl

theorem c_CodecGuess {b : Sl} {l : List Int} (hb : Lst .u8 h b l) (hl : l.length ≤ 1099511627775) : Gives P (F_law1_CodecGuess S b) [.one .bool] h fun (x : Bool × Unit) _ => x.1 = Bool.true := by
  unfold F_law1_CodecGuess
  refine bind_bool True ?_ fun c' h9 e9 hc' => s_ret ⟨rfl, e9, _, rfl, hc'.2 trivial⟩
  refine s_allocL (k := .u8) [65, 233] (bytes_fit rfl) (by simp) fun h1 e1 o1 => ?_
  refine wp_call (c_guessed o1.lst (by decide)) fun x h2 e2 hx => wp_ifB (fun _ => ?_) fun hn => no_tf hx hn
  exact wp_call (c_guessed ((hb.ext e1).ext e2) hl) fun y h3 e3 hy => s_ret ⟨rfl, (e1.trans e2).trans e3, _, rfl, by rw [hy]; simp⟩

end Go.Sw.Codec
