/-
  Codec: Next and Prev, the program's and the document's; the laws CodecTokens and CodecWalk.
-/
import Derived.Test.YtfgknhffpccamaaSwC15
set_option linter.unusedVariables false
set_option linter.unusedSimpArgs false
set_option maxRecDepth 100000
namespace Go.Sw.Codec
variable {P : Program} {S : Ids} {h : Heap} {Q : Nat → List Value → Heap → Prop}

theorem s_nilok {x : Value} {K : Prog} (hx : NilOk P x) (hk : wp P K h Q) : wp P (.nilok x K) h Q := ⟨hx, hk⟩

/-- What Next answers. -/
def NextR (enc : Int) (l : List Int) (at_ : Int) (x : Int × Int × Unit) : Prop :=
  ((¬ known enc ∨ at_ < 0 ∨ l.length ≤ at_) ∧ x.1 = 0 ∧ x.2.1 = 0) ∨ (known enc ∧ 0 ≤ at_ ∧ at_ < l.length ∧ (x.1, x.2.1) = firstF enc (l.drop at_.toNat))
/-- What Prev answers. -/
def PrevR (enc : Int) (l : List Int) (at_ : Int) (x : Int × Int × Unit) : Prop :=
  ((¬ known enc ∨ at_ ≤ 0 ∨ l.length < at_) ∧ x.1 = 0 ∧ x.2.1 = 0) ∨ (known enc ∧ 0 < at_ ∧ at_ ≤ l.length ∧ LastR enc (l.take at_.toNat) x.1 x.2.1)

theorem NextR.fn {enc : Int} {l : List Int} {at_ : Int} {x y : Int × Int × Unit} (hx : NextR enc l at_ x) (hy : NextR enc l at_ y) : x.1 = y.1 ∧ x.2.1 = y.2.1 := by
  rcases hx with ⟨h, a, b⟩ | ⟨h1, h2, h3, e⟩ <;> rcases hy with ⟨h', a', b'⟩ | ⟨h1', h2', h3', e'⟩
  · exact ⟨a.trans a'.symm, b.trans b'.symm⟩
  · rcases h with h | h | h
    · exact absurd h1' h
    · omega
    · omega
  · rcases h' with h | h | h
    · exact absurd h1 h
    · omega
    · omega
  · rw [← e'] at e; injection e with e1 e2; exact ⟨e1, e2⟩
theorem PrevR.fn {enc : Int} {l : List Int} (hb : isBytes l) {at_ : Int} {x y : Int × Int × Unit} (hx : PrevR enc l at_ x) (hy : PrevR enc l at_ y) : x.1 = y.1 ∧ x.2.1 = y.2.1 := by
  rcases hx with ⟨h, a, b⟩ | ⟨h1, h2, h3, e⟩ <;> rcases hy with ⟨h', a', b'⟩ | ⟨h1', h2', h3', e'⟩
  · exact ⟨a.trans a'.symm, b.trans b'.symm⟩
  · rcases h with h | h | h
    · exact absurd h1' h
    · omega
    · omega
  · rcases h' with h | h | h
    · exact absurd h1 h
    · omega
    · omega
  · exact e.fn (hb.take _) e'

theorem c_Next (M : Meth P S) {enc at_ : Int} {b : Sl} {l : List Int} (hb : Lst .u8 h b l) : Gives P (F_codec_Next S enc b at_) duo h fun (x : Int × Int × Unit) _ => NextR enc l at_ x := by
  have hlb := hb.len
  unfold F_codec_Next
  refine wp_call (c_of enc) fun c h1 e1 hc => ?_
  have hc : c.1 = coder S enc := hc
  rw [hc]
  refine bind_bool (¬ known enc ∨ at_ < 0 ∨ l.length ≤ at_) ?_ fun c h2 e2 hc2 => wp_ifB (fun h3 => ?_) fun h3 => ?_
  · by_cases hk : ¬ known enc
    · rw [coder_unknown hk]
      exact s_grd rfl (s_ifT (s_ret ⟨rfl, Ext.refl _, _, rfl, ⟨fun _ => .inl hk, fun _ => rfl⟩⟩))
    have hk := Classical.not_not.1 hk
    obtain ⟨k1, k2⟩ := coder_known (S := S) hk
    rw [k1, k2]
    refine s_grd rfl (s_ifF (wp_ifB (fun hc => ?_) fun hc => ?_))
    · rw [ltI_iff] at hc
      exact s_ret ⟨rfl, Ext.refl _, _, rfl, ⟨fun _ => .inr (.inl hc), fun _ => rfl⟩⟩
    · rw [ltI_not] at hc
      refine s_ret ⟨rfl, Ext.refl _, _, rfl, ?_⟩
      rw [geI_iff, natI_def, hlb]
      exact ⟨fun h => .inr (.inr h), fun h => by rcases h with h | h | h; exact absurd hk h; omega; exact h⟩
  · exact s_ret ⟨rfl, e1.trans e2, (0, 0, ()), rfl, .inl ⟨hc2.1 h3, rfl, rfl⟩⟩
  · have hn : ¬ (¬ known enc ∨ at_ < 0 ∨ l.length ≤ at_) := fun h => by rw [hc2.2 h] at h3; cases h3
    have hk : known enc := Classical.not_not.1 fun h => hn (.inl h)
    have h0 : 0 ≤ at_ := by
      by_cases h : at_ < 0
      · exact absurd (.inr (.inl h)) hn
      · omega
    have h1' : at_ < l.length := by
      by_cases h : (l.length : Int) ≤ at_
      · exact absurd (.inr (.inr h)) hn
      · omega
    rw [toN_def]
    refine s_grd (leB_ok h0 (by omega)) (s_nilok (M.nils enc hk).1 (i_first M hk (s := ⟨_, _, _⟩) (((hb.ext (e1.trans e2)).tail (i := at_.toNat) (by omega))) (by rw [List.length_drop]; omega) fun x h4 e4 hx => s_ret ⟨rfl, (e1.trans e2).trans e4, x, rfl, .inr ⟨hk, h0, h1', hx⟩⟩))

theorem Lst.head {k : IntKind} {s : Sl} {l : List Int} (hr : Lst k h s l) {i : Nat} (hi : i ≤ l.length) : Lst k h ⟨s.base, i, s.cap⟩ (l.take i) :=
  hr.take hi (by have := hr.cap; have := hr.len; omega) hr.max

theorem c_Prev (M : Meth P S) {enc at_ : Int} {b : Sl} {l : List Int} (hb : Lst .u8 h b l) (hl : l.length < 2 ^ 62) : Gives P (F_codec_Prev S enc b at_) duo h fun (x : Int × Int × Unit) _ => PrevR enc l at_ x := by
  have hlb := hb.len
  have hcap := hb.cap
  unfold F_codec_Prev
  refine wp_call (c_of enc) fun c h1 e1 hc => ?_
  have hc : c.1 = coder S enc := hc
  rw [hc]
  refine bind_bool (¬ known enc ∨ at_ ≤ 0 ∨ l.length < at_) ?_ fun c h2 e2 hc2 => wp_ifB (fun h3 => ?_) fun h3 => ?_
  · by_cases hk : ¬ known enc
    · rw [coder_unknown hk]
      exact s_grd rfl (s_ifT (s_ret ⟨rfl, Ext.refl _, _, rfl, ⟨fun _ => .inl hk, fun _ => rfl⟩⟩))
    have hk := Classical.not_not.1 hk
    obtain ⟨k1, k2⟩ := coder_known (S := S) hk
    rw [k1, k2]
    refine s_grd rfl (s_ifF (wp_ifB (fun hc => ?_) fun hc => ?_))
    · rw [leI_iff] at hc
      exact s_ret ⟨rfl, Ext.refl _, _, rfl, ⟨fun _ => .inr (.inl hc), fun _ => rfl⟩⟩
    · rw [leI_not] at hc
      refine s_ret ⟨rfl, Ext.refl _, _, rfl, ?_⟩
      rw [gtI_iff, natI_def, hlb]
      exact ⟨fun h => .inr (.inr h), fun h => by rcases h with h | h | h; exact absurd hk h; omega; exact h⟩
  · exact s_ret ⟨rfl, e1.trans e2, (0, 0, ()), rfl, .inl ⟨hc2.1 h3, rfl, rfl⟩⟩
  · have hn : ¬ (¬ known enc ∨ at_ ≤ 0 ∨ l.length < at_) := fun h => by rw [hc2.2 h] at h3; cases h3
    have hk : known enc := Classical.not_not.1 fun h => hn (.inl h)
    have h0 : 0 < at_ := by
      by_cases h : at_ ≤ 0
      · exact absurd (.inr (.inl h)) hn
      · omega
    have h1' : at_ ≤ l.length := by
      by_cases h : (l.length : Int) < at_
      · exact absurd (.inr (.inr h)) hn
      · omega
    rw [toN_def, cutBase_zero, subZero, subZero]
    refine s_grd (leB_ok (by omega) (by omega)) (s_nilok (M.nils enc hk).2 (i_last M hk (s := ⟨_, _, _⟩) ((Lst.head (hb.ext (e1.trans e2)) (i := at_.toNat) (by omega))) (by rw [List.length_take]; omega) (by rw [List.length_take]; omega) fun x h4 e4 hx => s_ret ⟨rfl, (e1.trans e2).trans e4, x, rfl, .inr ⟨hk, h0, h1', hx⟩⟩))

theorem c_ref_Next {enc at_ : Int} {b : Sl} {l : List Int} (hb : Lst .u8 h b l) (hl : l.length < 2 ^ 62) : Gives P (F_ref1_Next S enc b at_) duo h fun (x : Int × Int × Unit) _ => NextR enc l at_ x := by
  have hlb := hb.len
  unfold F_ref1_Next
  refine wp_call (c_known enc) fun c h1 e1 hc => ?_
  have hc : c.1 = true ↔ known enc := hc
  refine bind_bool (¬ known enc ∨ at_ < 0 ∨ l.length ≤ at_) ?_ fun c h2 e2 hc2 => wp_ifB (fun h3 => ?_) fun h3 => ?_
  · refine wp_ifB (fun hk => ?_) fun hk => ?_
    · rw [notB_iff] at hk
      exact s_ret ⟨rfl, Ext.refl _, _, rfl, ⟨fun _ => .inl (fun h => by rw [hc.2 h] at hk; cases hk), fun _ => rfl⟩⟩
    rw [notB_not] at hk
    have hk := hc.1 hk
    refine wp_ifB (fun hc => ?_) fun hc => ?_
    · rw [ltI_iff] at hc
      exact s_ret ⟨rfl, Ext.refl _, _, rfl, ⟨fun _ => .inr (.inl hc), fun _ => rfl⟩⟩
    · rw [ltI_not] at hc
      refine s_ret ⟨rfl, Ext.refl _, _, rfl, ?_⟩
      rw [geI_iff, natI_def, hlb]
      exact ⟨fun h => .inr (.inr h), fun h => by rcases h with h | h | h; exact absurd hk h; omega; exact h⟩
  · exact s_ret ⟨rfl, e1.trans e2, (0, 0, ()), rfl, .inl ⟨hc2.1 h3, rfl, rfl⟩⟩
  · have hn : ¬ (¬ known enc ∨ at_ < 0 ∨ l.length ≤ at_) := fun h => by rw [hc2.2 h] at h3; cases h3
    have hk : known enc := Classical.not_not.1 fun h => hn (.inl h)
    have h0 : 0 ≤ at_ := by
      by_cases h : at_ < 0
      · exact absurd (.inr (.inl h)) hn
      · omega
    have h1' : at_ < l.length := by
      by_cases h : (l.length : Int) ≤ at_
      · exact absurd (.inr (.inr h)) hn
      · omega
    rw [toN_def]
    have ht := (hb.ext (e1.trans e2)).tail (i := at_.toNat) (by omega)
    refine s_grd (leB_ok h0 (by omega)) (wp_call (c_ref_At (a := 0) ht (by rw [List.length_drop]; omega) (by rw [List.length_drop]; omega)) fun x h4 e4 hx => s_ret ⟨rfl, (e1.trans e2).trans e4, x, rfl, .inr ⟨hk, h0, h1', ?_⟩⟩)
    rw [List.drop_zero] at hx; exact hx

theorem c_ref_Prev {enc at_ : Int} {b : Sl} {l : List Int} (hb : Lst .u8 h b l) (hl : l.length < 2 ^ 62) : Gives P (F_ref1_Prev S enc b at_) duo h fun (x : Int × Int × Unit) _ => PrevR enc l at_ x := by
  have hlb := hb.len
  have hcap := hb.cap
  have hby : isBytes l := hb.wf
  unfold F_ref1_Prev
  refine wp_call (c_known enc) fun c h1 e1 hc => ?_
  have hc : c.1 = true ↔ known enc := hc
  refine bind_bool (¬ known enc ∨ at_ ≤ 0 ∨ l.length < at_) ?_ fun c h2 e2 hc2 => wp_ifB (fun h3 => ?_) fun h3 => ?_
  · refine wp_ifB (fun hk => ?_) fun hk => ?_
    · rw [notB_iff] at hk
      exact s_ret ⟨rfl, Ext.refl _, _, rfl, ⟨fun _ => .inl (fun h => by rw [hc.2 h] at hk; cases hk), fun _ => rfl⟩⟩
    rw [notB_not] at hk
    have hk := hc.1 hk
    refine wp_ifB (fun hc => ?_) fun hc => ?_
    · rw [leI_iff] at hc
      exact s_ret ⟨rfl, Ext.refl _, _, rfl, ⟨fun _ => .inr (.inl hc), fun _ => rfl⟩⟩
    · rw [leI_not] at hc
      refine s_ret ⟨rfl, Ext.refl _, _, rfl, ?_⟩
      rw [gtI_iff, natI_def, hlb]
      exact ⟨fun h => .inr (.inr h), fun h => by rcases h with h | h | h; exact absurd hk h; omega; exact h⟩
  · exact s_ret ⟨rfl, e1.trans e2, (0, 0, ()), rfl, .inl ⟨hc2.1 h3, rfl, rfl⟩⟩
  have hn : ¬ (¬ known enc ∨ at_ ≤ 0 ∨ l.length < at_) := fun h => by rw [hc2.2 h] at h3; cases h3
  have hk : known enc := Classical.not_not.1 fun h => hn (.inl h)
  have h0 : 0 < at_ := by
    by_cases h : at_ ≤ 0
    · exact absurd (.inr (.inl h)) hn
    · omega
  have h1' : at_ ≤ l.length := by
    by_cases h : (l.length : Int) < at_
    · exact absurd (.inr (.inr h)) hn
    · omega
  rw [toN_def, cutBase_zero, subZero, subZero]
  obtain ⟨m, rfl⟩ := Int.eq_ofNat_of_zero_le (show 0 ≤ at_ by omega)
  rw [Int.toNat_natCast]
  have hbt : isBytes (l.take m) := hby.take m
  have htl : (l.take m).length = m := by rw [List.length_take]; omega
  refine wp_while (fun (s : Int × Int × Int × Unit) h' => Ext h h' ∧ ∃ i : Nat, s.2.2.1 = i ∧ i ≤ m ∧ Bnd enc (l.take m) i ∧ (0 < i → ∃ k : Nat, Bnd enc (l.take m) k ∧ k < m ∧ firstF enc ((l.take m).drop k) = (s.1, s.2.1) ∧ (k : Int) + s.2.1 = i)) (fun s _ => ((m : Int) - s.2.2.1).toNat)
    (fun t vs h' => Ext h h' ∧ t = 2 ∧ ∃ a n : Int, vs = [.int .i64 a, .int .i64 n] ∧ LastR enc (l.take m) a n) ⟨e1.trans e2, 0, rfl, by omega, .zero, fun h => by omega⟩ ?_ ?_
  · rintro ⟨(a : Int), (n : Int), (i' : Int), u⟩ h' ⟨e, i, hi, him, hbn, hlast⟩
    dsimp only at hi hlast ⊢
    subst hi
    refine wp_ifB (fun hi => ?_) fun hi => ?_
    · rw [ltI_iff] at hi
      have hs := firstF_size (enc := enc) (l := (l.take m).drop i) (by rw [List.length_drop]; omega) (hbt.drop i)
      rw [List.length_drop] at hs
      refine s_grd (leB_ok (by omega) (by omega)) (wp_call (c_ref_At (a := i) (Lst.head (hb.ext e) (i := m) (by omega)) (by omega) (by omega)) fun ⟨(x : Int), (y : Int), _⟩ h4 e4 hx => ?_)
      have hx : (x, y) = firstF enc ((l.take m).drop i) := hx
      have hy : y = (firstF enc ((l.take m).drop i)).2 := congrArg Prod.snd hx
      dsimp only
      rw [add_ok (by omega) (by omega)]
      have hst := hbn.step (by omega)
      rw [← hy] at hst
      exact s_ret ⟨fun _ => ⟨(x, y, (i : Int) + y, ()), rfl, ⟨e.trans e4, i + y.toNat, by dsimp only; omega, by omega, hst, fun _ => ⟨i, hbn, by omega, hx.symm, by dsimp only; omega⟩⟩, by dsimp only; omega⟩, fun h => absurd rfl h⟩
    · rw [ltI_not] at hi
      obtain ⟨k, kb, km, kf, ke⟩ := hlast (by omega)
      refine s_ret ⟨fun h => absurd h (by decide), fun _ => ⟨e, rfl, a, n, rfl, k, kb, by omega, kf, by omega⟩⟩
  · rintro t vs h' ⟨e, ht, a, n, hv, hlast⟩
    exact s_exit ht (a, n, ()) hv (s_ret ⟨rfl, e, (a, n, ()), rfl, .inr ⟨hk, h0, h1', by rw [Int.toNat_natCast]; exact hlast⟩⟩)

theorem c_tokens (M : Meth P S) {enc at_ : Int} {b : Sl} {l : List Int} (hb : Lst .u8 h b l) (hl : l.length ≤ 1099511627776) : Gives P (F_law1_tokens S enc b at_) [.one .bool] h fun (x : Bool × Unit) _ => x.1 = Bool.true := by
  have hlb := hb.len
  unfold F_law1_tokens
  refine wp_call (c_lend hb (by omega)) fun c h1 e1 hc => ?_
  have hc1 := hc.1
  have hb1 := hb.ext e1
  simp only [cutBase_zero, subZero, natTo, hlb]
  refine s_leB (by simp [natI]) (by rw [natI_def]; omega) (wp_call (c_Next M hc.part) fun x h2 e2 hx => s_leB (by simp [natI]) (by rw [natI_def]; omega) (wp_call (c_Prev M (hc.part.ext e2) (by omega)) fun y h3 e3 hy => ?_))
  refine wp_call (c_ref_Next ((hb1.ext e2).ext e3) (by omega)) fun z h4 e4 hz => wp_call (c_ref_Prev (((hb1.ext e2).ext e3).ext e4) (by omega)) fun w h5 e5 hw => ?_
  have e05 := (((e1.trans e2).trans e3).trans e4).trans e5
  obtain ⟨p1, p2⟩ := NextR.fn hx hz
  obtain ⟨q1, q2⟩ := PrevR.fn hb.wf hy hw
  have hc5 := (((hc.ext e2).ext e3).ext e4).ext e5
  have hb5 := (((hb1.ext e2).ext e3).ext e4).ext e5
  refine bind_bool False ?_ fun c' h6 e6 hc' => wp_ifB (fun h => (hc'.1 h).elim) fun _ => ?_
  · refine s_neF p1 (s_neF p2 (s_neF q1 (s_neF q2 ?_)))
    refine wp_call (c_kept hc5 hb5) fun v h6 e6 hv => s_ret ⟨rfl, e6, _, rfl, ?_⟩
    have hv : v.1 = true := hv
    simp [hv, notB]
  · have ho := (hc5.ext e6).2.2
    have e06 := e05.trans e6
    refine wp_callN (c_turned (n := l.length) ho e06.1 (by rw [List.length_append]; omega) (by omega)) fun z h7 k7 ⟨l', hl', ho', hz⟩ => ?_
    have hp := OwnL.part ho' hl'.symm
    refine s_leB (by simp [natI]) (by rw [natI_def]; omega) (wp_call (c_Next M hp) fun x h8 e8 hx => s_leB (by simp [natI]) (by rw [natI_def]; omega) (wp_call (c_Prev M (hp.ext e8) (by omega)) fun y h9 e9 hy => ?_))
    refine wp_call (c_ref_Next ((hz.ext e8).ext e9) (by omega)) fun z2 h10 e10 hz2 => wp_call (c_ref_Prev (((hz.ext e8).ext e9).ext e10) (by omega)) fun w h11 e11 hw => ?_
    obtain ⟨p1, p2⟩ := NextR.fn hx hz2
    obtain ⟨q1, q2⟩ := PrevR.fn hz.wf hy hw
    have e07 : Keep h.size h h7 := Keep.trans e06 k7
    have e11' : Keep h.size h h11 := Keep.trans e07 ((((e8.trans e9).trans e10).trans e11).keep e07.1)
    refine bind_bool True ?_ fun c' h12 e12 hc' => s_ret ⟨rfl, Keep.trans e11' (e12.keep e11'.1), _, rfl, hc'.2 trivial⟩
    exact s_eqT p1 (s_eqT p2 (s_eqT q1 (s_ret ⟨rfl, Ext.refl _, _, rfl, by rw [eqI_iff]; simp [q2]⟩)))

theorem c_CodecTokens (M : Meth P S) {enc at_ : Int} {b : Sl} {l : List Int} (hb : Lst .u8 h b l) (hl : l.length ≤ 1099511627776) : Gives P (F_law1_CodecTokens S enc b at_) [.one .bool] h fun (x : Bool × Unit) _ => x.1 = Bool.true := by
  unfold F_law1_CodecTokens
  refine bind_bool True ?_ fun c' h9 e9 hc' => s_ret ⟨rfl, e9, _, rfl, hc'.2 trivial⟩
  refine s_allocL (k := .u8) [195, 169] (bytes_fit rfl) (by simp) fun h1 e1 o1 => ?_
  refine wp_call (c_tokens M o1.lst (by decide)) fun x h2 e2 hx => wp_ifB (fun _ => ?_) fun hn => no_tf hx hn
  exact wp_call (c_tokens M ((hb.ext e1).ext e2) hl) fun y h3 e3 hy => s_ret ⟨rfl, (e1.trans e2).trans e3, _, rfl, by rw [hy]; simp⟩

theorem c_CodecWalk (M : Meth P S) {enc : Int} {b : Sl} {l : List Int} (hb : Lst .u8 h b l) (hl : l.length ≤ 1099511627776) : Gives P (F_law1_CodecWalk S enc b) [.one .bool] h fun (x : Bool × Unit) _ => x.1 = Bool.true := by
  have hlb := hb.len
  have hby : isBytes l := hb.wf
  have hk := wholeF_known enc
  unfold F_law1_CodecWalk
  refine wp_call (c_whole enc) fun ⟨(k : Int), _⟩ h1 e1 hk' => ?_
  have hk' : k = wholeF enc := hk'
  subst hk'
  dsimp only
  generalize wholeF enc = k at *
  refine wp_call (c_copyBytes (hb.ext e1) (by omega)) fun c h2 e2 hc => wp_call (c_Decode M (OwnL.lst hc) (by omega)) fun x h3 e3 hx => ?_
  obtain ⟨ox, ex⟩ := DecA.known hk hx
  have hxl := ox.len
  have hdl := dec_len (enc := k) _ l rfl hby
  have hpos : 0 < l.length → 0 < (dec k l).length := fun hp => by rw [dec_cons hby hp]; simp
  have e13 := (e1.trans e2).trans e3
  refine bind_bool False ?_ fun c' h4 e4 hc' => wp_ifB (fun h => (hc'.1 h).elim) fun _ => ?_
  · refine wp_call (c_law1_num _) fun v h4 e4 hv => ?_
    have hv : v.1 = x.2.1 := hv
    refine s_neF (hv.trans ex) (wp_ifB (fun hg => ?_) fun hg => ?_)
    · rw [gtI_iff, natI_def, hlb] at hg
      refine s_ret ⟨rfl, e4, _, rfl, ?_⟩
      rw [eqI_iff, natI_def, hxl]
      have := hpos (by omega)
      exact ⟨fun h => by omega, fun h => h.elim⟩
    · exact s_ret ⟨rfl, e4, _, rfl, ⟨(fun h => by cases h), fun h => h.elim⟩⟩
  have e14 := e13.trans e4
  refine s_allocL (k := .u8) [0, 0] (bytes_fit rfl) (by simp) fun h5 e5 o5 => ?_
  refine wp_call (c_Next M o5.lst) fun ⟨(ya : Int), (yn : Int), _⟩ h6 e6 hy => ?_
  have e46 := e5.trans e6
  refine bind_bool False ?_ fun c' h7 e7 hc' => wp_ifB (fun h => (hc'.1 h).elim) fun _ => ?_
  · rcases hy with ⟨hn, _⟩ | ⟨_, _, _, hf⟩
    · exfalso
      rcases hn with hn | hn | hn
      · exact hn hk
      · exact absurd hn (by decide)
      · exact absurd hn (by simp)
    · have hs := firstF_size (enc := k) (l := [0, 0]) (by simp) (bytes_fit rfl)
      have h2 : yn = (firstF k [0, 0]).2 := congrArg Prod.snd hf
      have h1 : ya = 0 := by
        have : ya = (firstF k [0, 0]).1 := congrArg Prod.fst hf
        rw [this]
        rcases known_cases hk with rfl | rfl | rfl | rfl <;> decide
      exact s_neF h1 (s_ret ⟨rfl, Ext.refl _, _, rfl, by rw [ltI_iff]; dsimp only; exact ⟨fun h => by omega, fun h => h.elim⟩⟩)
  have e17 := (e14.trans e46).trans e7
  have ox7 := ((ox.ext e4).ext e46).ext e7
  refine wp_while (fun (s : Int × Int × Unit) h' => Ext h h' ∧ Ext h7 h' ∧ ∃ at_ i : Nat, s.1 = at_ ∧ s.2.1 = i ∧ i ≤ (dec k l).length ∧ Bnd k l at_ ∧ (dec k l).drop i = dec k (l.drop at_)) (fun s _ => ((dec k l).length - s.2.1).toNat)
    (fun t vs h' => t = 2 ∧ Ext h h' ∧ vs = [.int .i64 l.length]) ⟨e17, Ext.refl _, 0, 0, rfl, rfl, by omega, .zero, rfl⟩ ?_ ?_
  · rintro ⟨(at' : Int), (i' : Int), u⟩ h' ⟨e, e', at_, i, ha, hi, him, hbn, hd⟩
    dsimp only at ha hi ⊢
    subst ha
    subst hi
    have hal := hbn.le hby
    refine wp_ifB (fun hi => ?_) fun hi => ?_
    · rw [ltI_iff, natI_def, hxl] at hi
      have hne : 0 < (l.drop at_).length := by
        by_cases hz : (l.drop at_).length = 0
        · rw [dec_nil hz] at hd
          have := congrArg List.length hd
          rw [List.length_drop] at this; simp at this; omega
        · omega
      have hs := firstF_size (enc := k) hne (hby.drop at_)
      rw [List.length_drop] at hs hne
      have hcons := dec_cons (enc := k) (hby.drop at_) (by rw [List.length_drop]; omega)
      rw [← hd, List.drop_eq_getElem_cons (i := i) (by omega), List.drop_drop] at hcons
      injection hcons with hc1 hc2
      have hget : (dec k l).getD i 0 = (firstF k (l.drop at_)).1 := by
        rw [List.getD_eq_getElem?_getD, List.getElem?_eq_getElem (by omega)]; exact hc1
      refine wp_call (c_Next M (hb.ext e)) fun ⟨(ya : Int), (yn : Int), _⟩ h8 e8 hy => ?_
      have hy' : (ya, yn) = firstF k (l.drop at_) := by
        rcases hy with ⟨hn, _⟩ | ⟨_, _, _, hf⟩
        · exfalso
          rcases hn with hn | hn | hn
          · exact hn hk
          · omega
          · omega
        · rw [Int.toNat_natCast] at hf; exact hf
      have y1 : ya = (firstF k (l.drop at_)).1 := congrArg Prod.fst hy'
      have y2 : yn = (firstF k (l.drop at_)).2 := congrArg Prod.snd hy'
      dsimp only
      have hadd : addI .i64 (at_ : Int) yn = (at_ : Int) + yn := add_ok (by omega) (by omega)
      rw [hadd]
      refine bind_bool False ?_ fun c' h9 e9 hc' => wp_ifB (fun h => (hc'.1 h).elim) fun _ => ?_
      · refine s_at ((ox7.ext e').ext e8).lst (by omega) (by omega) fun _ => s_neF (y1.trans (by rw [Int.toNat_natCast, hget])) ?_
        refine wp_ifB (fun hn => by rw [ltI_iff] at hn; omega) fun _ => wp_ifB (fun hn => by rw [gtI_iff] at hn; omega) fun _ => s_ret ⟨rfl, Ext.refl _, _, rfl, ?_⟩
        rw [gtI_iff, natI_def, hlb]
        exact ⟨fun h => by omega, fun h => h.elim⟩
      have e09 := (e.trans e8).trans e9
      refine wp_call (c_Prev M (hb.ext e09) (by omega)) fun ⟨(za : Int), (zn : Int), _⟩ h10 e10 hz => ?_
      have hst := hbn.step (by omega)
      have hlt := last_take hby hbn (by omega)
      have hz' : za = ya ∧ zn = yn := by
        rcases hz with ⟨hn, _⟩ | ⟨_, _, _, hf⟩
        · exfalso
          rcases hn with hn | hn | hn
          · exact hn hk
          · omega
          · omega
        · rw [show ((at_ : Int) + yn).toNat = at_ + (firstF k (l.drop at_)).2.toNat by omega] at hf
          have := hf.fn (hby.take _) hlt
          exact ⟨this.1.trans y1.symm, this.2.trans y2.symm⟩
      refine bind_bool False ?_ fun c' h11 e11 hc' => wp_ifB (fun h => (hc'.1 h).elim) fun _ => ?_
      · refine s_neF hz'.1 (s_ret ⟨rfl, Ext.refl _, _, rfl, ?_⟩)
        rw [neI_iff, hz'.2]; simp
      rw [add_ok (by omega) (by omega)]
      refine s_ret ⟨fun _ => ⟨((at_ : Int) + yn, (i : Int) + 1, ()), rfl, ⟨(e09.trans e10).trans e11, (((e'.trans e8).trans e9).trans e10).trans e11, at_ + (firstF k (l.drop at_)).2.toNat, i + 1, by dsimp only; omega, rfl, by omega, hst, hc2⟩, by dsimp only; omega⟩, fun h => absurd rfl h⟩
    · rw [ltI_not, natI_def, hxl] at hi
      refine s_ret ⟨fun h => absurd h (by decide), fun _ => ⟨rfl, e, ?_⟩⟩
      rw [List.drop_of_length_le (by omega)] at hd
      have : at_ = l.length := by
        by_cases hz : at_ < l.length
        · rw [dec_cons (hby.drop at_) (by rw [List.length_drop]; omega)] at hd; cases hd
        · omega
      rw [this]
  · rintro t vs h8 ⟨ht, e, hv⟩
    refine s_exit ht ((l.length : Int), ()) hv ?_
    dsimp only
    refine wp_call (c_Next M (hb.ext e)) fun y h9 e9 hy => wp_call (c_Prev M ((hb.ext e).ext e9) (by omega)) fun z h10 e10 hz => ?_
    have hy' : y.1 = 0 ∧ y.2.1 = 0 := by
      rcases hy with ⟨_, h⟩ | ⟨_, _, h, _⟩
      · exact h
      · omega
    have hz' : z.1 = 0 ∧ z.2.1 = 0 := by
      rcases hz with ⟨_, h⟩ | ⟨_, h, _⟩
      · exact h
      · exact absurd h (by decide)
    refine bind_bool True ?_ fun c' h11 e11 hc' => s_ret ⟨rfl, ((e.trans e9).trans e10).trans e11, _, rfl, hc'.2 trivial⟩
    exact s_eqT (by rw [natI_def, hlb]) (s_eqT hy'.1 (s_eqT hy'.2 (s_eqT hz'.1 (s_ret ⟨rfl, Ext.refl _, _, rfl, by rw [eqI_iff]; simp [hz'.2]⟩))))
end Go.Sw.Codec
