/-
  Codec: all atoms, the program's and the document's; the law CodecDecode.
-/
import Derived.Test.YtfgknhffpccamaaSwC9
set_option linter.unusedVariables false
set_option linter.unusedSimpArgs false
set_option maxRecDepth 100000
namespace Go.Sw.Codec
variable {P : Program} {S : Ids} {h : Heap} {Q : Nat → List Value → Heap → Prop}

theorem zeros_one {v : Value} : ∀ n, zeros [v] n = List.replicate n v := by
  intro n; induction n with
  | zero => rfl
  | succ n ih => simp [zeros, ih, List.replicate_succ]

/-- make with length 0. -/
theorem s_mk0 {k : IntKind} {bytes : Nat} {c : Int} {K : Sl → Prog} (h0 : 0 ≤ c) (h1 : c < 2 ^ 63) (h2 : bytes * c ≤ 2 ^ 48)
    (hk : ∀ h' r, Ext h h' → OwnL h.size k h' r [] → wp P (K r) h' Q) : wp P (.mk bytes [.int k 0] 0 c K) h Q := by
  refine ⟨⟨by decide, h0, h1, h2⟩, fun elem => hk _ _ (Ext.push ..) ⟨⟨by simp, by simp, by dsimp only; omega, ?_⟩, by simp⟩⟩
  refine ⟨rfl, rfl, Nat.le_refl _, _, elem, Array.getElem?_push_size, ?_, by simp⟩
  rw [zeros_one]; simp

theorem firstF_fits {enc : Int} {l : List Int} (hb : isBytes l) : fitsI .i64 (firstF enc l).1 := by
  rw [fits_i64]
  have b0 := hb.at 0
  have u0 := unit_bound (enc := enc) hb 0
  have u2 := unit_bound (enc := enc) hb 2
  have hle := rowG_le (l.getD 0 0) (l.getD 1 0) (l.getD 2 0) (l.getD 3 0) b0.1 b0.2
  have hbn := bounds_n (l.getD 0 0) b0.1 b0.2
  have hm0 : 0 ≤ maskF (rowF l).2 (l.getD 0 0) ∧ maskF (rowF l).2 (l.getD 0 0) < 256 := by unfold maskF; (repeat' split) <;> omega
  have hrf : rowF l = rowG (l.getD 0 0) (l.getD 1 0) (l.getD 2 0) (l.getD 3 0) := rfl
  rw [← hrf] at hle
  have hv := valP_small (l := l) hm0.1 hm0.2 (i := ((rowF l).2 - 1).toNat) (by omega)
  unfold firstF first8 first16
  (repeat' split) <;> dsimp only <;> omega

theorem c_all (M : Meth P S) {enc : Int} (he : known enc) {b : Sl} {l : List Int} (hb : Lst .u8 h b l) (hl : l.length ≤ 8796093022208) : Gives P (F_codec_all S (coder S enc) b) [.one .sl] h fun (x : Sl × Unit) h' => OwnL h.size .i64 h' x.1 (dec enc l) := by
  have hlb := hb.len
  have hby : isBytes l := hb.wf
  unfold F_codec_all
  simp only [natI_def]
  refine s_mk0 (k := .i64) (by omega) (by omega) (by omega) fun h1 r e1 o1 => ?_
  refine wp_while (fun (s : Sl × Sl × Unit) h' => Keep h.size h h' ∧ ∃ (k : Nat) (pre : List Int), k ≤ l.length ∧ pre.length ≤ k ∧ Lst .u8 h s.1 (l.drop k) ∧ OwnL h.size .i64 h' s.2.1 pre ∧ pre ++ dec enc (l.drop k) = dec enc l) (fun s _ => s.1.len)
    (fun t vs h' => t = 2 ∧ ∃ x : Sl × Unit, vs = Ts.inj [.one .sl] x ∧ Keep h.size h h' ∧ OwnL h.size .i64 h' x.1 (dec enc l)) ⟨e1, 0, [], by omega, by simp, hb, o1, by simp⟩ ?_ ?_
  · rintro ⟨c, out, u⟩ h' ⟨k', k, pre, hk, hp, hc, ho, hd⟩
    dsimp only at hc ho ⊢
    have hcl := hc.len
    have hcc := hc.cap
    have hcm := hc.max
    rw [List.length_drop] at hcl
    refine wp_ifB (fun hi => ?_) fun hi => ?_
    · rw [gtI_iff] at hi
      have hpos : 0 < (l.drop k).length := by rw [List.length_drop]; omega
      have hsz := firstF_size (enc := enc) hpos (hby.drop k)
      rw [List.length_drop] at hsz
      refine i_first M he (hc.ext k') hpos fun x h2 e2 hx => ?_
      have hx1 : x.1 = (firstF enc (l.drop k)).1 := congrArg Prod.fst hx
      have hx2 : x.2.1 = (firstF enc (l.drop k)).2 := congrArg Prod.snd hx
      rw [hx1, hx2]
      refine s_push (ho.ext e2) (by have := k'.1; have := e2.1; omega) (firstF_fits (hby.drop k)) (by omega) (by omega) fun r h3 k3 o3 _ _ => ?_
      refine s_grd (leB_ok (by omega) (by omega)) ?_
      have ht := hc.tail (i := (firstF enc (l.drop k)).2.toNat) (by rw [List.length_drop]; omega)
      rw [List.drop_drop] at ht
      refine s_ret ⟨fun _ => ⟨(⟨_, _, _⟩, r, ()), rfl, ⟨Keep.trans (Keep.trans k' (e2.keep k'.1)) k3, k + (firstF enc (l.drop k)).2.toNat, pre ++ [(firstF enc (l.drop k)).1], by omega, by rw [List.length_append]; simp; omega, ht, o3, ?_⟩, ?_⟩, fun h => absurd rfl h⟩
      · rw [← hd, dec_cons (hby.drop k) hpos, List.drop_drop, List.append_assoc]; rfl
      · show c.len - toN (firstF enc (l.drop k)).2 < c.len; rw [toN_def]; omega
    · rw [gtI_not] at hi
      rw [dec_nil (by rw [List.length_drop]; omega), List.append_nil] at hd
      exact s_ret ⟨fun h => absurd h (by decide), fun _ => ⟨rfl, (out, ()), rfl, k', hd ▸ ho⟩⟩
  · rintro t vs h' ⟨ht, x, hv, k, o⟩
    exact s_exit ht x hv (s_ret ⟨rfl, k, x, rfl, o⟩)

def slint : List Ty := [.one .sl, .one (.int .i64)]
/-- Decode's answer. -/
def DecA (n : Nat) (enc : Int) (l : List Int) (x : Sl × Int × Unit) (h' : Heap) : Prop :=
  (known enc ∧ OwnL n .i64 h' x.1 (dec enc l) ∧ x.2.1 = 0) ∨ (¬ known enc ∧ OwnL n .i64 h' x.1 [] ∧ x.2.1 = 10)
theorem DecA.both {n n' : Nat} {enc : Int} {l : List Int} {x y : Sl × Int × Unit} {h1 h2 : Heap} (hx : DecA n enc l x h1) (hy : DecA n' enc l y h2) : ∃ m, OwnL n .i64 h1 x.1 m ∧ OwnL n' .i64 h2 y.1 m ∧ x.2.1 = y.2.1 ∧ (l = [] → m = []) := by
  rcases hx with ⟨k, o, e⟩ | ⟨k, o, e⟩ <;> rcases hy with ⟨k', o', e'⟩ | ⟨k', o', e'⟩
  · exact ⟨_, o, o', e.trans e'.symm, fun h => by subst h; rfl⟩
  · exact absurd k k'
  · exact absurd k' k
  · exact ⟨_, o, o', e.trans e'.symm, fun _ => rfl⟩

theorem c_Decode (M : Meth P S) {enc : Int} {b : Sl} {l : List Int} (hb : Lst .u8 h b l) (hl : l.length ≤ 8796093022208) : Gives P (F_codec_Decode S enc b) slint h (DecA h.size enc l) := by
  unfold F_codec_Decode
  refine wp_call (c_of enc) fun c h1 e1 hc => ?_
  have hc : c.1 = coder S enc := hc
  rw [hc]
  by_cases hk : ¬ known enc
  · rw [coder_unknown hk]
    exact s_grd rfl (s_ifT (s_ret ⟨rfl, e1, (⟨none, 0, 0⟩, 10, ()), rfl, .inr ⟨hk, OwnL.nil .., rfl⟩⟩))
  have hk := Classical.not_not.1 hk
  obtain ⟨k1, k2⟩ := coder_known (S := S) hk
  rw [k1, k2]
  refine s_grd rfl (s_ifF (wp_call (c_all M hk (hb.ext e1) hl) fun x h2 e2 hx => s_ret ⟨rfl, e1.trans e2, (x.1, 0, ()), rfl, .inl ⟨hk, OwnL.mono hx e1.1, rfl⟩⟩))

/-! ### The document's -/

theorem mtP_small {a : Int} {l : List Int} (hb : isBytes l) (h0 : -240 ≤ a) (h1 : a ≤ 255) : ∀ i : Nat, i ≤ 3 → -70000000 ≤ mtP a l i ∧ mtP a l i ≤ 70000000 := by
  have b1 := hb.at 1
  have b2 := hb.at 2
  have b3 := hb.at 3
  intro i hi
  have : i = 0 ∨ i = 1 ∨ i = 2 ∨ i = 3 := by omega
  rcases this with rfl | rfl | rfl | rfl <;> simp only [mtP, Nat.reduceAdd] <;> omega

theorem leadF_at (m : Nat) (h4 : m ≤ 4) : [0, 0, 192, 224, 240].getD m (0 : Int) = leadF m := by
  have : m = 0 ∨ m = 1 ∨ m = 2 ∨ m = 3 ∨ m = 4 := by omega
  rcases this with rfl | rfl | rfl | rfl | rfl <;> rfl
theorem leadF_bound (m : Nat) : 0 ≤ leadF m ∧ leadF m ≤ 240 := by unfold leadF; (repeat' split) <;> omega

theorem c_meant {b : Sl} {l : List Int} {a : Nat} {m : Int} (hb : Lst .u8 h b l) (h1 : 1 ≤ m) (h4 : m ≤ 4) (hm : a + m ≤ l.length) :
    Gives P (F_ref1_meant S b (a : Int) m) [.one (.int .i64)] h fun (x : Int × Unit) _ => x.1 = meantF m.toNat (l.drop a) := by
  have hlb := hb.len
  have hbd := hb.bound
  have hby : isBytes l := hb.wf
  have b0 := hby.at a
  have hlf := leadF_bound m.toNat
  unfold F_ref1_meant
  refine s_allocL (k := .i64) [0, 0, 0, 0, 0] (by intro x hx; simp at hx; subst hx; exact fits_zero _) (by simp) fun h1' e1 o1 => ?_
  refine s_storeL (l := [0, 0, 0, 0, 0]) [0, 0, 192, 224, 240] o1 rfl (by intro x hx; rw [fits_i64]; simp at hx; omega) fun h2 o2 u2 z2 => ?_
  have e2 : Ext h h2 := Keep.trans e1 (Upd.ext_of u2 (by intro x hx; cases hx; exact Nat.le_refl _) e1.size)
  refine s_at (hb.ext e2) (by omega) (by omega) fun _ => s_grd (inB_ok (by omega) (by omega)) ?_
  have hload : ∀ {K : Int → Prog} {Q}, wp P (K (leadF m.toNat)) h2 Q → wp P (.load (.one (.int .i64)) (shiftTo (Option.some ⟨h.size, 0, none⟩) (mulN (toN m) 1)) K) h2 Q := by
    intro K Q hk
    rw [mulN_def, toN_def, Nat.mul_one]
    rw [← leadF_at m.toNat (by omega)] at hk
    exact s_loadL o2.lst (by simp; omega) hk
  refine hload ?_
  rw [Int.toNat_natCast, wrap_ok (by omega) (by omega), sub_ok (by omega) (by omega)]
  have hd0 : l.getD a 0 = (l.drop a).getD 0 0 := by rw [getD_drop, Nat.add_zero]
  have hdb := (hby.drop a).at 0
  rw [hd0]
  refine wp_while (fun (s : Int × Int × Unit) h' => Ext h h' ∧ 1 ≤ s.2.1 ∧ s.2.1 ≤ m ∧ s.1 = mtP ((l.drop a).getD 0 0 - leadF m.toNat) (l.drop a) (s.2.1 - 1).toNat) (fun s _ => (m - s.2.1).toNat)
    (fun t vs h' => t = 2 ∧ Ext h h' ∧ vs = [.int .i64 (meantF m.toNat (l.drop a))]) ⟨e2, by simp, by dsimp only; omega, rfl⟩ ?_ ?_
  · rintro ⟨(x : Int), (i : Int), u⟩ h' ⟨e, i0, i1, ha⟩
    dsimp only at i0 i1 ha ⊢
    refine wp_ifB (fun hi => ?_) fun hi => ?_
    · rw [ltI_iff] at hi
      have hs := mtP_small (hby.drop a) (a := (l.drop a).getD 0 0 - leadF m.toNat) (by omega) (by omega) (i - 1).toNat (by omega)
      rw [← ha] at hs
      rw [add_ok (a := (a : Int)) (by omega) (by omega)]
      have hbi := hby.at ((a : Int) + i).toNat
      refine s_at (hb.ext e) (by omega) (by omega) fun _ => ?_
      rw [wrap_ok (by omega) (by omega), mul_ok (by omega) (by omega), add_ok (a := x * 64) (by omega) (by omega), sub_ok (by omega) (by omega), add_ok (by omega) (by omega)]
      refine s_ret ⟨fun _ => ⟨(x * 64 + l.getD ((a : Int) + i).toNat 0 - 128, i + 1, ()), rfl, ⟨e, by dsimp only; omega, by dsimp only; omega, ?_⟩, by dsimp only; omega⟩, fun h => absurd rfl h⟩
      dsimp only
      rw [show (i + 1 - 1).toNat = (i - 1).toNat + 1 by omega]
      show _ = mtP _ _ (i - 1).toNat * 64 + (l.drop a).getD ((i - 1).toNat + 1) 0 - 128
      rw [getD_drop l a ((i - 1).toNat + 1), show a + ((i - 1).toNat + 1) = ((a : Int) + i).toNat by omega, ha]
    · rw [ltI_not] at hi
      refine s_ret ⟨fun h => absurd h (by decide), fun _ => ⟨rfl, e, ?_⟩⟩
      unfold meantF
      rw [ha, show (i - 1).toNat = m.toNat - 1 by omega]
  · rintro t vs h' ⟨ht, e, hv⟩
    exact s_exit ht (_, ()) hv (s_ret ⟨rfl, e, (_, ()), rfl, rfl⟩)

theorem begF_drop (l m : List Int) (a : Nat) : begF l a m = begF (l.drop a) 0 m := by unfold begF; rw [List.drop_zero]

theorem cast_pair {x y : Int} {m : Nat} (hx : x = (m : Int)) (hy : y = (m : Int)) : (x, y) = ((m : Int), (m : Int)) := by rw [hx, hy]

theorem c_eightAt {b : Sl} {l : List Int} {a : Nat} (hb : Lst .u8 h b l) (ha : a < l.length) (hl : l.length < 2 ^ 62) :
    Gives P (F_ref1_eightAt S b (a : Int)) duo h fun (x : Int × Int × Unit) _ => (x.1, x.2.1) = first8 (l.drop a) := by
  have hlb := hb.len
  have hby : isBytes l := hb.wf
  have hd := hby.drop a
  have b0 := hby.at a
  unfold F_ref1_eightAt
  refine wp_while (fun (s : Int × Unit) h' => Ext h h' ∧ 1 ≤ s.1 ∧ s.1 ≤ 5 ∧ s.1 ≤ l.length - a + 1 ∧ ∀ m : Nat, 1 ≤ m → (m : Int) < s.1 → rowF (l.drop a) ≠ ((m : Int), (m : Int))) (fun s _ => (5 - s.1).toNat)
    (fun t vs h' => Ext h h' ∧ (t = 2 ∧ vs = [] ∧ first8 (l.drop a) = (-1 - l.getD a 0, 1) ∨ t = 1 ∧ vs = [.int .i64 (first8 (l.drop a)).1, .int .i64 (first8 (l.drop a)).2])) ⟨Ext.refl _, by simp, by simp, by dsimp only; omega, fun m h1 h2 => by dsimp only at h2; omega⟩ ?_ ?_
  · rintro ⟨(m : Int), u⟩ h' ⟨e, m0, m1, m2, hno⟩
    dsimp only at m0 m1 m2 hno ⊢
    refine bind_bool (m ≤ 4 ∧ a + m ≤ l.length) ?_ fun c h2 e2 hc => wp_ifB (fun h3 => ?_) fun h3 => ?_
    · refine wp_ifB (fun hc => ?_) fun hc => ?_
      · rw [leI_iff] at hc
        refine s_ret ⟨rfl, Ext.refl _, _, rfl, ?_⟩
        rw [add_ok (by omega) (by omega), leI_iff, natI_def, hlb]; omega
      · rw [leI_not] at hc
        exact s_ret ⟨rfl, Ext.refl _, _, rfl, ⟨(fun h => by cases h), fun h => by omega⟩⟩
    · obtain ⟨q1, q2⟩ := hc.1 h3
      obtain ⟨m, rfl⟩ := Int.eq_ofNat_of_zero_le (show 0 ≤ m by omega)
      have hci := cand_iff hd (m := m) (by omega) (by omega) (by rw [List.length_drop]; omega)
      have e02 := e.trans e2
      refine wp_bind (fun t vs h' => Ext h h' ∧ (t = 0 ∧ vs = [] ∧ ¬ cand m (l.drop a) ∨ t = 1 ∧ cand m (l.drop a) ∧ vs = [.int .i64 (meantF m (l.drop a)), .int .i64 m])) ?_ ?_
      · refine wp_call (c_meant (hb.ext e02) (by omega) (by omega) (by omega)) fun ⟨(x : Int), _⟩ h4 e4 hx => ?_
        have hx : x = meantF (m : Int).toNat (l.drop a) := hx
        rw [Int.toNat_natCast] at hx
        subst hx
        dsimp only
        refine wp_call (c_ref_Scalar _) fun s h5 e5 hs => ?_
        have hs : s.1 = decide (scalarF (meantF m (l.drop a))) := hs
        refine wp_ifB (fun hn => ?_) fun hn => ?_
        · rw [notB_iff, hs] at hn
          exact s_ret ⟨(e02.trans e4).trans e5, .inl ⟨rfl, rfl, fun hcd => by have := hcd.1; simp [this] at hn⟩⟩
        rw [notB_not, hs] at hn
        have hsc : scalarF (meantF m (l.drop a)) := of_decide_eq_true hn
        have hsc' : 0 ≤ meantF m (l.drop a) ∧ meantF m (l.drop a) ≤ 1114111 := by unfold scalarF at hsc; omega
        refine wp_call (c_ref_eight hsc'.1 hsc'.2) fun y h6 e6 ⟨hy, hyf⟩ => ?_
        have e06 := ((e02.trans e4).trans e5).trans e6
        have hyl : y.1.len = (eightB (meantF m (l.drop a))).length := hy.len
        have hle : (eightB (meantF m (l.drop a))).length ≤ 4 := by rw [len_eight]; (repeat' split) <;> omega
        have hyL : Lst .u8 h6 ⟨y.1.base, y.1.len, y.1.len⟩ (eightB (meantF m (l.drop a))) := ⟨⟨hy.1, hy.2⟩, Nat.le_refl _, by dsimp only; omega, fun z hz => by
          rw [fits_u8]
          unfold eightB at hz
          generalize meantF m (l.drop a) = w at *
          (repeat' split at hz) <;> simp at hz <;> omega⟩
        have hbeg : Gives P (F_ref1_begins S b (a : Int) y.1) [.one .bool] h6 fun (x : Bool × Unit) _ => x.1 = begF (l.drop a) 0 (eightB (meantF m (l.drop a))) := by
          rw [← begF_drop]
          have := c_begins (P := P) (S := S) (hb.ext e06) hyL (at_ := (a : Int)) (by omega) (by omega) (by omega) hl
          exact this
        refine wp_call hbeg fun z h7 e7 hz => ?_
        have hz : z.1 = begF (l.drop a) 0 (eightB (meantF m (l.drop a))) := hz
        refine bind_bool (cand m (l.drop a)) ?_ fun c h8 e8 hc8 => wp_ifB (fun h9 => ?_) fun h9 => ?_
        · refine wp_ifB (fun hq => ?_) fun hq => ?_
          · rw [eqI_iff, natI_def, hyl] at hq
            refine s_ret ⟨rfl, Ext.refl _, _, rfl, ?_⟩
            rw [hz]
            exact ⟨fun h => ⟨hsc, by omega, h⟩, fun h => h.2.2⟩
          · rw [eqI_not, natI_def, hyl] at hq
            exact s_ret ⟨rfl, Ext.refl _, _, rfl, ⟨(fun h => by cases h), fun h => by have := h.2.1; omega⟩⟩
        · exact s_ret ⟨(e06.trans e7).trans e8, .inr ⟨rfl, hc8.1 h9, rfl⟩⟩
        · exact s_ret ⟨(e06.trans e7).trans e8, .inl ⟨rfl, rfl, fun hcd => by rw [hc8.2 hcd] at h9; cases h9⟩⟩
      · rintro t vs h4 ⟨e4, ⟨ht, hv, hn⟩ | ⟨ht, hcd, hv⟩⟩
        · refine s_skip (by omega) (s_exit ht () hv ?_)
          rw [add_ok (by omega) (by omega)]
          refine s_ret ⟨fun _ => ⟨((m : Int) + 1, ()), rfl, ⟨e4, by dsimp only; omega, by dsimp only; omega, by dsimp only; omega, fun j j1 j2 => ?_⟩, by dsimp only; omega⟩, fun h => absurd rfl h⟩
          dsimp only at j2
          by_cases hj : j = m
          · subst hj; exact fun hr => hn (hci.2 hr)
          · exact hno j j1 (by omega)
        · refine s_exit ht (meantF m (l.drop a), (m : Int), ()) hv (s_ret ⟨fun h => absurd h (by decide), fun _ => ⟨e4, .inr ⟨rfl, ?_⟩⟩⟩)
          rw [meant_val hd (m := m) (by omega) (by omega) (hci.1 hcd)]
    · refine s_ret ⟨fun h => absurd h (by decide), fun _ => ⟨e.trans e2, .inl ⟨rfl, rfl, ?_⟩⟩⟩
      have hn : ¬ (m ≤ 4 ∧ a + m ≤ l.length) := fun h => by rw [hc.2 h] at h3; cases h3
      rw [raw_val hd (by rw [List.length_drop]; omega) fun j j1 j4 jl => hno j j1 (by rw [List.length_drop] at jl; omega), getD_drop, Nat.add_zero]
  · rintro t vs h' ⟨e, ⟨ht, hv, hf⟩ | ⟨ht, hv⟩⟩
    · refine s_exit ht () hv (s_at (hb.ext e) (by omega) (by omega) fun _ => ?_)
      rw [Int.toNat_natCast, wrap_ok (by omega) (by omega), sub_ok (by omega) (by omega)]
      exact s_ret ⟨rfl, e, (-1 - l.getD a 0, 1, ()), rfl, hf.symm⟩
    · exact s_skip (by omega) (s_exit ht (_, _, ()) hv (s_ret ⟨rfl, e, (_, _, ()), rfl, rfl⟩))

theorem c_unitAt {enc : Int} {b : Sl} {l : List Int} {a : Nat} (hb : Lst .u8 h b l) (hl : l.length < 2 ^ 62) (ha : a ≤ l.length + 4) :
    Gives P (F_ref1_unitAt S enc b (a : Int)) [.one (.int .i64)] h fun (x : Int × Unit) _ => x.1 = if a + 2 ≤ l.length then unitF enc l a else -1 := by
  have hlb := hb.len
  have hby : isBytes l := hb.wf
  have b0 := hby.at a
  have b1 := hby.at (a + 1)
  unfold F_ref1_unitAt
  simp only [natI_def, hlb]
  rw [add_ok (by omega) (by omega)]
  refine wp_ifB (fun hc => ?_) fun hc => ?_
  · rw [gtI_iff] at hc
    rw [if_neg (by omega)]
    exact s_ret ⟨rfl, Ext.refl _, (-1, ()), rfl, rfl⟩
  rw [gtI_not] at hc
  rw [if_pos (by omega), add_ok (by omega) (by omega)]
  unfold unitF
  refine wp_ifB (fun h2 => ?_) fun h2 => ?_
  · rw [eqI_iff] at h2
    rw [if_pos h2]
    refine hlb ▸ s_at hb (by omega) (by omega) fun _ => s_at hb (by omega) (by omega) fun _ => ?_
    rw [Int.toNat_natCast, show ((a : Int) + 1).toNat = a + 1 by omega, wrap_ok (by omega) (by omega), wrap_ok (by omega) (by omega), mul_ok (by omega) (by omega), add_ok (by omega) (by omega)]
    exact s_ret ⟨rfl, Ext.refl _, (_, ()), rfl, rfl⟩
  · rw [eqI_not] at h2
    rw [if_neg h2]
    refine hlb ▸ s_at hb (by omega) (by omega) fun _ => s_at hb (by omega) (by omega) fun _ => ?_
    rw [Int.toNat_natCast, show ((a : Int) + 1).toNat = a + 1 by omega, wrap_ok (by omega) (by omega), wrap_ok (by omega) (by omega), mul_ok (by omega) (by omega), add_ok (by omega) (by omega)]
    exact s_ret ⟨rfl, Ext.refl _, (_, ()), rfl, rfl⟩

theorem c_ref_At {enc : Int} {b : Sl} {l : List Int} {a : Nat} (hb : Lst .u8 h b l) (ha : a < l.length) (hl : l.length < 2 ^ 62) :
    Gives P (F_ref1_At S enc b (a : Int)) duo h fun (x : Int × Int × Unit) _ => (x.1, x.2.1) = firstF enc (l.drop a) := by
  have hlb := hb.len
  have hby : isBytes l := hb.wf
  have b0 := hby.at a
  have hd0 : (l.drop a).getD 0 0 = l.getD a 0 := by rw [getD_drop, Nat.add_zero]
  have u0 := unit_bound (enc := enc) hby a
  have u2 := unit_bound (enc := enc) hby (a + 2)
  have hu0 : unitF enc (l.drop a) 0 = unitF enc l a := unitF_drop enc l a
  have hu2 : unitF enc (l.drop a) 2 = unitF enc l (a + 2) := by unfold unitF; rw [getD_drop, getD_drop]
  unfold F_ref1_At firstF
  refine wp_ifB (fun hc => ?_) fun hc => ?_
  · rw [eqI_iff] at hc
    rw [if_pos hc]
    exact wp_call (c_eightAt hb ha hl) fun x h2 e2 hx => s_ret ⟨rfl, e2, x, rfl, hx⟩
  rw [eqI_not] at hc
  rw [if_neg hc]
  refine wp_ifB (fun hc => ?_) fun hc => ?_
  · rw [eqI_iff] at hc
    rw [if_pos hc]
    refine s_at hb (by omega) (by omega) fun _ => ?_
    rw [Int.toNat_natCast, wrap_ok (by omega) (by omega)]
    exact s_ret ⟨rfl, Ext.refl _, (l.getD a 0, 1, ()), rfl, by dsimp only; rw [hd0]⟩
  rw [eqI_not] at hc
  rw [if_neg hc]
  unfold first16
  rw [List.length_drop, hd0, hu0, hu2]
  refine wp_call (c_unitAt hb hl (by omega)) fun ⟨(u : Int), _⟩ h1 e1 hu => ?_
  have hu : u = if a + 2 ≤ l.length then unitF enc l a else -1 := hu
  dsimp only
  refine wp_ifB (fun hn => ?_) fun hn => ?_
  · rw [ltI_iff] at hn
    have h1 : ¬ a + 2 ≤ l.length := fun h => by rw [if_pos h] at hu; omega
    rw [if_pos (by omega)]
    refine s_at (hb.ext e1) (by omega) (by omega) fun _ => ?_
    rw [Int.toNat_natCast, wrap_ok (by omega) (by omega), sub_ok (by omega) (by omega)]
    exact s_ret ⟨rfl, e1, (_, 1, ()), rfl, rfl⟩
  rw [ltI_not] at hn
  have h1' : a + 2 ≤ l.length := by
    by_cases h : a + 2 ≤ l.length
    · exact h
    · rw [if_neg h] at hu; omega
  rw [if_pos h1'] at hu
  subst hu
  rw [if_neg (by omega), add_ok (by omega) (by omega)]
  refine wp_call (c_unitAt (a := a + 2) (hb.ext e1) hl (by omega)) fun ⟨(v : Int), _⟩ h2 e2 hv => ?_
  have hv : v = if a + 2 + 2 ≤ l.length then unitF enc l (a + 2) else -1 := hv
  dsimp only
  refine bind_bool (55296 ≤ unitF enc l a ∧ unitF enc l a < 56320 ∧ 4 ≤ l.length - a ∧ 56320 ≤ unitF enc l (a + 2) ∧ unitF enc l (a + 2) < 57344) ?_ fun c h3 e3 hc3 => wp_ifB (fun h4 => ?_) fun h4 => ?_
  · have hno : ∀ {h' : Heap} {φ : Prop}, ¬ φ → wp P (.ret 0 [(Value.bool Bool.false)]) h' fun t vs h'' => t = 0 ∧ Ext h' h'' ∧ ∃ b, vs = [.bool b] ∧ (b = true ↔ φ) := fun hn => s_ret ⟨rfl, Ext.refl _, _, rfl, ⟨(fun h => by cases h), fun h => absurd h hn⟩⟩
    refine wp_ifB (fun h1 => ?_) fun h1 => ?_
    · rw [geI_iff] at h1
      refine wp_ifB (fun h2 => ?_) fun h2 => ?_
      · rw [ltI_iff] at h2
        refine wp_ifB (fun h3 => ?_) fun h3 => ?_
        · rw [geI_iff] at h3
          have hle : a + 2 + 2 ≤ l.length := by
            by_cases h : a + 2 + 2 ≤ l.length
            · exact h
            · rw [if_neg h] at hv; omega
          rw [if_pos hle] at hv
          refine s_ret ⟨rfl, Ext.refl _, _, rfl, ?_⟩
          rw [ltI_iff]; omega
        · rw [geI_not] at h3
          refine hno fun hh => ?_
          rw [if_pos (by omega)] at hv; omega
      · rw [ltI_not] at h2
        exact hno fun hh => by omega
    · rw [geI_not] at h1
      exact hno fun hh => by omega
  · have hp := hc3.1 h4
    rw [if_pos hp]
    rw [if_pos (by omega)] at hv
    rw [hv, sub_ok (a := unitF enc l a) (by omega) (by omega), mul_ok (by omega) (by omega), add_ok (a := 65536) (by omega) (by omega), add_ok (by omega) (by omega), sub_ok (by omega) (by omega)]
    refine s_ret ⟨rfl, (e1.trans e2).trans e3, (_, 4, ()), rfl, ?_⟩
    dsimp only
    congr 1; omega
  · rw [if_neg fun hh => by rw [hc3.2 hh] at h4; cases h4]
    exact s_ret ⟨rfl, (e1.trans e2).trans e3, (_, 2, ()), rfl, rfl⟩

theorem c_ref_Decode {enc : Int} {b : Sl} {l : List Int} (hb : Lst .u8 h b l) (hl : l.length ≤ 8796093022208) : Gives P (F_ref1_Decode S enc b) slint h (DecA h.size enc l) := by
  have hlb := hb.len
  have hby : isBytes l := hb.wf
  unfold F_ref1_Decode
  refine wp_call (c_known enc) fun c h1 e1 hc => ?_
  have hc : c.1 = true ↔ known enc := hc
  refine wp_ifB (fun hk => ?_) fun hk => ?_
  · rw [notB_iff] at hk
    have hk : ¬ known enc := fun h => by rw [hc.2 h] at hk; cases hk
    exact s_ret ⟨rfl, e1, (⟨none, 0, 0⟩, 10, ()), rfl, .inr ⟨hk, OwnL.nil .., rfl⟩⟩
  rw [notB_not] at hk
  have hk := hc.1 hk
  refine wp_while (fun (s : Sl × Int × Unit) h' => Keep h.size h h' ∧ ∃ (k : Nat) (pre : List Int), s.2.1 = k ∧ k ≤ l.length ∧ pre.length ≤ k ∧ OwnL h.size .i64 h' s.1 pre ∧ pre ++ dec enc (l.drop k) = dec enc l) (fun s _ => (l.length - s.2.1).toNat)
    (fun t vs h' => t = 2 ∧ ∃ x : Sl × Unit, vs = Ts.inj [.one .sl] x ∧ Keep h.size h h' ∧ OwnL h.size .i64 h' x.1 (dec enc l)) ⟨e1, 0, [], rfl, by omega, by simp, OwnL.nil .., by simp⟩ ?_ ?_
  · rintro ⟨out, (i : Int), u⟩ h' ⟨k', k, pre, hik, hk', hp, ho, hd⟩
    dsimp only at hik ho ⊢
    subst hik
    refine wp_ifB (fun hi => ?_) fun hi => ?_
    · rw [ltI_iff, natI_def, hlb] at hi
      have hpos : 0 < (l.drop k).length := by rw [List.length_drop]; omega
      have hsz := firstF_size (enc := enc) hpos (hby.drop k)
      rw [List.length_drop] at hsz
      refine wp_call (c_ref_At (hb.ext k') (by omega) (by omega)) fun x h2 e2 hx => ?_
      have hx1 : x.1 = (firstF enc (l.drop k)).1 := congrArg Prod.fst hx
      have hx2 : x.2.1 = (firstF enc (l.drop k)).2 := congrArg Prod.snd hx
      rw [hx1, hx2]
      refine s_push (ho.ext e2) (by have := k'.1; have := e2.1; omega) (firstF_fits (hby.drop k)) (by omega) (by omega) fun r h3 k3 o3 _ _ => ?_
      rw [add_ok (by omega) (by omega)]
      refine s_ret ⟨fun _ => ⟨(r, (k : Int) + (firstF enc (l.drop k)).2, ()), rfl, ⟨Keep.trans (Keep.trans k' (e2.keep k'.1)) k3, k + (firstF enc (l.drop k)).2.toNat, pre ++ [(firstF enc (l.drop k)).1], by dsimp only; omega, by omega, by rw [List.length_append]; simp; omega, o3, ?_⟩, by dsimp only; omega⟩, fun h => absurd rfl h⟩
      rw [← hd, dec_cons (hby.drop k) hpos, List.drop_drop, List.append_assoc]; rfl
    · rw [ltI_not, natI_def, hlb] at hi
      rw [dec_nil (by rw [List.length_drop]; omega), List.append_nil] at hd
      exact s_ret ⟨fun h => absurd h (by decide), fun _ => ⟨rfl, (out, ()), rfl, k', hd ▸ ho⟩⟩
  · rintro t vs h' ⟨ht, x, hv, k, o⟩
    exact s_exit ht x hv (s_ret ⟨rfl, k, (x.1, 0, ()), rfl, .inl ⟨hk, o, rfl⟩⟩)

/-! ### The law -/

theorem c_decoded (M : Meth P S) {enc : Int} {b : Sl} {l : List Int} (hb : Lst .u8 h b l) (hl : l.length ≤ 1099511627776) : Gives P (F_law1_decoded S enc b) [.one .bool] h fun (x : Bool × Unit) _ => x.1 = Bool.true := by
  have hlb := hb.len
  unfold F_law1_decoded
  refine wp_call (c_lend hb (by omega)) fun c h1 e1 hc => ?_
  have hc1 := hc.1
  have hb1 := hb.ext e1
  simp only [cutBase_zero, subZero, natTo, hlb]
  refine s_leB (by simp [natI]) (by rw [natI_def]; omega) (wp_call (c_Decode M hc.part (by omega)) fun x h2 e2 hx => wp_call (c_ref_Decode (hb1.ext e2) (by omega)) fun y h3 e3 hy => ?_)
  refine wp_call (c_Decode M (Lst.nil (by decide)) (by simp)) fun x0 h4 e4 hx0 => wp_call (c_ref_Decode (Lst.nil (by decide)) (by simp)) fun y0 h5 e5 hy0 => ?_
  have e05 := (((e1.trans e2).trans e3).trans e4).trans e5
  obtain ⟨m, ox, oy, q, _⟩ := DecA.both hx hy
  obtain ⟨m0, ox0, oy0, q0, n0⟩ := DecA.both hx0 hy0
  have n0 := n0 rfl
  subst n0
  have hc5 := (((hc.ext e2).ext e3).ext e4).ext e5
  have hb5 := (((hb1.ext e2).ext e3).ext e4).ext e5
  refine bind_bool False ?_ fun c' h6 e6 hc' => wp_ifB (fun h => (hc'.1 h).elim) fun _ => ?_
  · refine wp_call (c_law1_num _) fun v h6 e6 hv => wp_ifB (fun hn => ?_) fun _ => ?_
    · have hv : v.1 = x.2.1 := hv
      rw [neI_iff, hv] at hn; exact absurd q hn
    refine wp_call (c_sameInts ((((ox.ext e3).ext e4).ext e5).ext e6).lst (((oy.ext e4).ext e5).ext e6).lst) fun w h7 e7 hw => wp_ifB (fun hn => ?_) fun _ => ?_
    · have hw : w.1 = decide (m = m) := hw
      rw [notB_iff, hw] at hn; simp at hn
    refine wp_call (c_kept ((hc5.ext e6).ext e7) ((hb5.ext e6).ext e7)) fun v h8 e8 hv => wp_ifB (fun hn => ?_) fun _ => wp_ifB (fun hn => ?_) fun _ => ?_
    · have hv : v.1 = true := hv
      rw [notB_iff, hv] at hn; cases hn
    · rw [neI_iff, natI_def, ox0.len] at hn; simp at hn
    · refine wp_call (c_law1_num _) fun v h9 e9 hv => s_ret ⟨rfl, ((e6.trans e7).trans e8).trans e9, _, rfl, ?_⟩
      have hv : v.1 = x0.2.1 := hv
      rw [hv, neI_iff, q0]; simp
  · have ho := (hc5.ext e6).2.2
    have e06 := e05.trans e6
    refine wp_callN (c_turned (n := l.length) ho e06.1 (by rw [List.length_append]; omega) (by omega)) fun z h7 k7 ⟨l', hl', ho', hz⟩ => ?_
    have hp := OwnL.part ho' hl'.symm
    refine s_leB (by simp [natI]) (by rw [natI_def]; omega) (wp_call (c_Decode M hp (by omega)) fun x h8 e8 hx => wp_call (c_ref_Decode (hz.ext e8) (by omega)) fun y h9 e9 hy => ?_)
    obtain ⟨m, ox, oy, q, _⟩ := DecA.both hx hy
    have e07 : Keep h.size h h7 := Keep.trans e06 k7
    have e09 : Keep h.size h h9 := Keep.trans e07 ((e8.trans e9).keep e07.1)
    refine bind_bool True ?_ fun c' h10 e10 hc' => s_ret ⟨rfl, Keep.trans e09 (e10.keep e09.1), _, rfl, hc'.2 trivial⟩
    refine wp_call (c_law1_num _) fun v h10 e10 hv => wp_ifB (fun _ => ?_) fun hn => ?_
    · refine wp_call (c_sameInts ((ox.ext e9).ext e10).lst (oy.ext e10).lst) fun w h11 e11 hw => s_ret ⟨rfl, e10.trans e11, _, rfl, ?_⟩
      have hw : w.1 = decide (m = m) := hw
      rw [hw]; simp
    · have hv : v.1 = x.2.1 := hv
      rw [eqI_not, hv] at hn; exact absurd q hn

theorem c_CodecDecode (M : Meth P S) {enc : Int} {b : Sl} {l : List Int} (hb : Lst .u8 h b l) (hl : l.length ≤ 1099511627776) : Gives P (F_law1_CodecDecode S enc b) [.one .bool] h fun (x : Bool × Unit) _ => x.1 = Bool.true := by
  unfold F_law1_CodecDecode
  refine bind_bool True ?_ fun c' h9 e9 hc' => s_ret ⟨rfl, e9, _, rfl, hc'.2 trivial⟩
  refine s_allocL (k := .u8) [195, 169] (bytes_fit rfl) (by simp) fun h1 e1 o1 => ?_
  refine wp_call (c_decoded M o1.lst (by decide)) fun x h2 e2 hx => wp_ifB (fun _ => ?_) fun hn => no_tf hx hn
  exact wp_call (c_decoded M ((hb.ext e1).ext e2) hl) fun y h3 e3 hy => s_ret ⟨rfl, (e1.trans e2).trans e3, _, rfl, by rw [hy]; simp⟩
end Go.Sw.Codec
