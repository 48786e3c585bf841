/-
  Codec: the first atom of bytes, the program's and the document's.
-/
import Derived.Test.YtfgknhffpccamaaSwC8
set_option linter.unusedVariables false
set_option linter.unusedSimpArgs false
set_option maxRecDepth 100000
namespace Go.Sw.Codec
variable {P : Program} {S : Ids} {h : Heap} {Q : Nat → List Value → Heap → Prop}

theorem c_bounds {c : Int} : Gives P (F_codec_bounds S c) [.one (.int .i64), .one (.int .u8), .one (.int .u8)] h fun (x : Int × Int × Int × Unit) _ => (x.1, x.2.1, x.2.2.1) = boundsF c := by
  refine gives_pure ((boundsF c).1, (boundsF c).2.1, (boundsF c).2.2, ()) (fun Q hq => ?_) fun _ => rfl
  unfold F_codec_bounds boundsF at *
  simp only [e_if, e_ret, eqI_iff, ltI_iff]
  have := hq h (Ext.refl h)
  repeat' split
  all_goals simp_all [Ts.inj, Ty.inj, B.inj]

theorem pair_eq {x y : Int × Int} (h : (x.1, x.2) = y) : x = y := h

theorem c_row {b : Sl} {l : List Int} (hb : Lst .u8 h b l) (hl : 0 < l.length) : Gives P (F_codec_row S b) [.one (.int .i64), .one (.int .i64)] h fun (x : Int × Int × Unit) _ => (x.1, x.2.1) = rowF l := by
  have hlb := hb.len
  have hbd := hb.bound
  have b0 := hb.byte 0
  have hbn := bounds_n (l.getD 0 0) b0.1 b0.2
  unfold F_codec_row rowF rowG
  refine s_at0 (n := 0) hb hl fun _ => wp_call c_bounds fun ⟨(n : Int), (lo : Int), (hi : Int), _⟩ h1 e1 hx => ?_
  have hx : (n, lo, hi) = boundsF (l.getD 0 0) := hx
  rw [← hx] at hbn ⊢
  dsimp only at hbn ⊢
  refine wp_ifB (fun hc => ?_) fun hc => ?_
  · rw [ltI_iff] at hc
    rw [if_pos hc]
    exact s_ret ⟨rfl, e1, (n, n, ()), rfl, rfl⟩
  rw [ltI_not] at hc
  rw [if_neg (by omega)]
  have hb1 := hb.ext e1
  have at1 : ∀ {h' K Q}, Ext h1 h' → 1 < l.length → wp P (K (l.getD 1 0)) h' Q → wp P (grd (andB (someB b.base) (inB 1 b.len)) (.load (.one (.int .u8)) (shiftTo b.base 1) K)) h' Q := fun e h1 hk => s_at0 (n := 1) (hb1.ext e) h1 fun _ => hk
  have hz : ∀ i, l.length ≤ i → l.getD i 0 = 0 := fun i hi => by rw [List.getD_eq_getElem?_getD, List.getElem?_eq_none hi]; rfl
  refine bind_bool (¬ (lo ≤ l.getD 1 0 ∧ l.getD 1 0 ≤ hi)) ?_ fun c h2 e2 hc2 => wp_ifB (fun h3 => ?_) fun h3 => ?_
  · refine wp_ifB (fun hc => ?_) fun hc => ?_
    · rw [ltI_iff, natI_def, hlb] at hc
      refine s_ret ⟨rfl, Ext.refl _, _, rfl, ?_⟩
      rw [hz 1 (by omega)]; exact ⟨fun _ => by omega, fun _ => rfl⟩
    rw [ltI_not, natI_def, hlb] at hc
    refine at1 (Ext.refl _) (by omega) (wp_ifB (fun hc => ?_) fun hc => ?_)
    · rw [ltI_iff] at hc
      exact s_ret ⟨rfl, Ext.refl _, _, rfl, ⟨fun _ => by omega, fun _ => rfl⟩⟩
    rw [ltI_not] at hc
    refine at1 (Ext.refl _) (by omega) (s_ret ⟨rfl, Ext.refl _, _, rfl, ?_⟩)
    rw [gtI_iff]; omega
  · rw [if_pos (hc2.1 h3)]
    exact s_ret ⟨rfl, e1.trans e2, (1, n, ()), rfl, rfl⟩
  have hc3 : lo ≤ l.getD 1 0 ∧ l.getD 1 0 ≤ hi := Classical.not_not.1 fun hn => by rw [hc2.2 hn] at h3; cases h3
  rw [if_neg (fun hn => hn hc3)]
  have hb2 := hb1.ext e2
  refine wp_while (fun (s : Int × Unit) h' => Ext h h' ∧ 2 ≤ s.1 ∧ s.1 ≤ n ∧ ∀ j : Nat, 2 ≤ j → (j : Int) < s.1 → contF (l.getD j 0)) (fun s _ => 4 - s.1.toNat)
    (fun t vs h' => t = 2 ∧ ∃ k : Int, vs = [.int .i64 k] ∧ Ext h h' ∧ 2 ≤ k ∧ k ≤ n ∧ (∀ j : Nat, 2 ≤ j → (j : Int) < k → contF (l.getD j 0)) ∧ (k < n → ¬ contF (l.getD k.toNat 0))) ⟨e1.trans e2, by simp, by dsimp only; omega, fun j h1 h2 => by dsimp only at h2; omega⟩ ?_ ?_
  · rintro ⟨(k : Int), u⟩ h' ⟨e, k0, k1, hk⟩
    dsimp only at k0 k1 hk ⊢
    refine bind_bool (k < n ∧ contF (l.getD k.toNat 0)) ?_ fun c h3 e3 hc => wp_ifB (fun h3 => ?_) fun h3 => ?_
    · refine wp_ifB (fun hc => ?_) fun hc => ?_
      · rw [ltI_iff] at hc
        refine wp_ifB (fun hd => ?_) fun hd => ?_
        · rw [ltI_iff, natI_def, hlb] at hd
          refine s_at (hb.ext e) (by omega) (by omega) fun hf => s_ret ⟨rfl, Ext.refl _, _, rfl, ?_⟩
          rw [fits_u8] at hf
          rw [eqI_iff, and8_192 hf.1 (by omega)]
          unfold contF
          omega
        · rw [ltI_not, natI_def, hlb] at hd
          refine s_ret ⟨rfl, Ext.refl _, _, rfl, ?_⟩
          rw [hz _ (by omega)]; simp [contF]
      · rw [ltI_not] at hc
        exact s_ret ⟨rfl, Ext.refl _, _, rfl, by constructor; · intro h; cases h
                                                 · intro h; omega⟩
    · obtain ⟨q1, q2⟩ := hc.1 h3
      rw [add_ok (by omega) (by omega)]
      refine s_ret ⟨fun _ => ⟨(k + 1, ()), rfl, ⟨e.trans e3, by dsimp only; omega, by dsimp only; omega, fun j j1 j2 => ?_⟩, by dsimp only; omega⟩, fun h => absurd rfl h⟩
      dsimp only at j2
      by_cases hj : (j : Int) = k
      · rw [show j = k.toNat by omega]; exact q2
      · exact hk j j1 (by omega)
    · refine s_ret ⟨fun h => absurd h (by decide), fun _ => ⟨rfl, k, rfl, e.trans e3, k0, k1, hk, fun hlt hcn => ?_⟩⟩
      rw [hc.2 ⟨hlt, hcn⟩] at h3; cases h3
  · rintro t vs h' ⟨ht, k, hv, e, k0, k1, hk, hlast⟩
    refine s_exit ht (k, ()) hv (s_ret ⟨rfl, e, (k, n, ()), rfl, ?_⟩)
    dsimp only
    have c2 : 2 < k → contF (l.getD 2 0) := fun h => hk 2 (by omega) (by omega)
    have c3 : 3 < k → contF (l.getD 3 0) := fun h => hk 3 (by omega) (by omega)
    have d2 : k = 2 → 2 < n → ¬ contF (l.getD 2 0) := fun h h' => by have := hlast (by omega); rwa [h] at this
    have d3 : k = 3 → 3 < n → ¬ contF (l.getD 3 0) := fun h h' => by have := hlast (by omega); rwa [h] at this
    have hkc : k = 2 ∨ k = 3 ∨ k = 4 := by omega
    rcases hkc with rfl | rfl | rfl
    · rw [if_pos]
      by_cases hn : n = 2
      · exact .inl hn
      · exact .inr (d2 rfl (by omega))
    · rw [if_neg (by intro hx; rcases hx with hx | hx; omega; exact hx (c2 (by omega))), if_pos]
      by_cases hn : n = 3
      · exact .inl hn
      · exact .inr (d3 rfl (by omega))
    · rw [if_neg (by intro hx; rcases hx with hx | hx; omega; exact hx (c2 (by omega))), if_neg (by intro hx; rcases hx with hx | hx; omega; exact hx (c3 (by omega)))]

def duo : List Ty := [.one (.int .i64), .one (.int .i64)]

theorem c_eight_first {b : Sl} {l : List Int} (hb : Lst .u8 h b l) (hl : 0 < l.length) : Gives P (F_eight_first S () b) duo h fun (x : Int × Int × Unit) _ => (x.1, x.2.1) = first8 l := by
  have hlb := hb.len
  have hbd := hb.bound
  have hby : isBytes l := hb.wf
  have b0 := hb.byte 0
  have hle := rowG_le (l.getD 0 0) (l.getD 1 0) (l.getD 2 0) (l.getD 3 0) b0.1 b0.2
  have hbn := bounds_n (l.getD 0 0) b0.1 b0.2
  have hrl := row_len hl hby
  have hrf : rowF l = rowG (l.getD 0 0) (l.getD 1 0) (l.getD 2 0) (l.getD 3 0) := rfl
  rw [← hrf] at hle
  unfold F_eight_first first8
  refine s_alloc0 fun h1 e1 => wp_call (c_row (hb.ext e1) hl) fun ⟨(hv : Int), (n : Int), _⟩ h2 e2 hx => ?_
  have hx : (hv, n) = rowF l := hx
  rw [← hx] at hle hrl ⊢
  dsimp only at hle hrl ⊢
  have e12 := e1.trans e2
  refine bind_bool (n = 0 ∨ hv < n) ?_ fun c h3 e3 hc => wp_ifB (fun hc3 => ?_) fun hc3 => ?_
  · refine wp_ifB (fun hn => ?_) fun hn => ?_
    · rw [eqI_iff] at hn
      exact s_ret ⟨rfl, Ext.refl _, _, rfl, by simp [hn]⟩
    · rw [eqI_not] at hn
      exact s_ret ⟨rfl, Ext.refl _, _, rfl, by rw [ltI_iff]; omega⟩
  · rw [if_pos (hc.1 hc3)]
    refine s_at0 (n := 0) ((hb.ext e12).ext e3) hl fun _ => ?_
    rw [wrap_ok (by omega) (by omega), sub_ok (by omega) (by omega)]
    exact s_ret ⟨rfl, e12.trans e3, (_, 1, ()), rfl, rfl⟩
  have hnn : ¬ (n = 0 ∨ hv < n) := fun h => by rw [hc.2 h] at hc3; cases hc3
  rw [if_neg hnn]
  have e13 := e12.trans e3
  refine s_at0 (n := 0) (hb.ext e13) hl fun _ => ?_
  rw [wrap_ok (by omega) (by omega), and31, and15, and7]
  refine bind_val (tys := [.one (.int .i64)]) (fun (x : Int × Unit) _ => x.1 = maskF n (l.getD 0 0)) ?_ fun ⟨(m : Int), _⟩ h4 e4 hm => ?_
  · unfold maskF
    refine wp_ifB (fun hn => ?_) fun hn => ?_
    · rw [eqI_iff] at hn
      exact s_ret ⟨rfl, Ext.refl _, (_, ()), rfl, by rw [if_pos hn]⟩
    rw [eqI_not] at hn
    rw [if_neg hn]
    refine wp_ifB (fun hn => ?_) fun hn => ?_
    · rw [eqI_iff] at hn
      exact s_ret ⟨rfl, Ext.refl _, (_, ()), rfl, by rw [if_pos hn]⟩
    rw [eqI_not] at hn
    rw [if_neg hn]
    refine wp_ifB (fun hn => ?_) fun hn => ?_
    · rw [eqI_iff] at hn
      exact s_ret ⟨rfl, Ext.refl _, (_, ()), rfl, by rw [if_pos hn]⟩
    rw [eqI_not] at hn
    exact s_ret ⟨rfl, Ext.refl _, (l.getD 0 0, ()), rfl, by rw [if_neg hn]⟩
  have hm : m = maskF n (l.getD 0 0) := hm
  subst hm
  have hm0 : 0 ≤ maskF n (l.getD 0 0) ∧ maskF n (l.getD 0 0) < 256 := by unfold maskF; (repeat' split) <;> omega
  dsimp only
  have hcap := hb.cap
  refine s_grd (andB_iff.2 ⟨leB_ok (by omega) (by omega), leB_ok (by omega) (by rw [toN_def]; omega)⟩) ?_
  have e14 := e13.trans e4
  have hd : Lst .u8 h4 ⟨cutBase b.base b.cap 1 1, subN (toN n) 1, b.cap - 1⟩ ((l.drop 1).take (n - 1).toNat) := by
    have h1 := (hb.ext e14).drop (i := 1) (m := b.cap - 1) (by omega) (by omega) (by have := hb.max; omega)
    have h2 := h1.take (n := (n - 1).toNat) (m := b.cap - 1) (by rw [List.length_drop]; omega) (by omega) (by have := hb.max; omega)
    have : subN (toN n) 1 = (n - 1).toNat := by rw [toN_def]; unfold subN; omega
    rw [this]; exact h2
  have hdl := hd.len
  dsimp only at hdl
  rw [List.length_take, List.length_drop] at hdl
  rw [hdl]
  have hmin : min (n - 1).toNat (l.length - 1) = (n - 1).toNat := by omega
  rw [hmin]
  rw [hdl, hmin] at hd
  refine wp_while (fun (s : Int × Int × Unit) h' => Ext h h' ∧ Ext h4 h' ∧ 0 ≤ s.2.1 ∧ s.2.1 ≤ n - 1 ∧ s.1 = valP (maskF n (l.getD 0 0)) l s.2.1.toNat) (fun s _ => (n - 1 - s.2.1).toNat)
    (fun t vs h' => t = 3 ∧ Ext h h' ∧ vs = [.int .i64 (valP (maskF n (l.getD 0 0)) l (n - 1).toNat)]) ⟨e14, Ext.refl _, by simp, by dsimp only; omega, rfl⟩ ?_ ?_
  · rintro ⟨(a : Int), (i : Int), u⟩ h' ⟨e, e5, i0, i1, ha⟩
    dsimp only at i0 i1 ha ⊢
    refine wp_ifB (fun hi => ?_) fun hi => ?_
    · rw [ltI_iff, natI_def] at hi
      have hvs := valP_small (l := l) hm0.1 hm0.2 (i := i.toNat) (by omega)
      rw [← ha] at hvs
      have hbi := hby.at (i.toNat + 1)
      have hgd : ((l.drop 1).take (n - 1).toNat).getD i.toNat 0 = l.getD (i.toNat + 1) 0 := by
        rw [List.getD_eq_getElem?_getD, List.getElem?_take, if_pos (by omega), List.getElem?_drop, ← List.getD_eq_getElem?_getD, Nat.add_comm]
      refine s_at (hd.ext e5) i0 (by rw [List.length_take, List.length_drop]; omega) fun _ => s_not ?_
      rw [hgd, shl6 hvs.1 (by omega), and8_63 hbi.1 (by omega), wrap_ok (by omega) (by omega)]
      rw [or64_join (a := a * 64) (b := l.getD (i.toNat + 1) 0 % 64) 6 (by omega) (by omega) (by simp) (by omega) (by simp; omega) (by decide)]
      rw [add_ok (by omega) (by omega)]
      refine s_ret ⟨fun _ => ⟨(a * 64 + l.getD (i.toNat + 1) 0 % 64, i + 1, ()), rfl, ⟨e, e5, by dsimp only; omega, by dsimp only; omega, ?_⟩, by dsimp only; omega⟩, fun h => absurd rfl h⟩
      dsimp only
      rw [show (i + 1).toNat = i.toNat + 1 by omega]
      show _ = valP _ l i.toNat * 64 + _
      rw [ha]
    · rw [ltI_not, natI_def] at hi
      refine s_ret ⟨fun h => absurd h (by decide), fun _ => ⟨rfl, e, ?_⟩⟩
      rw [ha, show i.toNat = (n - 1).toNat by omega]
  · rintro t vs h' ⟨ht, e, hv⟩
    exact s_exit ht (_, ()) hv (s_ret ⟨rfl, e, (_, n, ()), rfl, rfl⟩)

/-! ### The other coders -/

theorem c_latin_first {b : Sl} {l : List Int} (hb : Lst .u8 h b l) (hl : 0 < l.length) : Gives P (F_latin_first S () b) duo h fun (x : Int × Int × Unit) _ => (x.1, x.2.1) = (l.getD 0 0, 1) := by
  have b0 := hb.byte 0
  unfold F_latin_first
  refine s_alloc0 fun h1 e1 => s_at0 (n := 0) (hb.ext e1) hl fun _ => ?_
  rw [wrap_ok (by omega) (by omega)]
  exact s_ret ⟨rfl, e1, (l.getD 0 0, 1, ()), rfl, rfl⟩

/-- Which coder a receiver's number is of. -/
def le16 (r enc : Int) : Prop := r = 0 ∧ enc = 2 ∨ r = 1 ∧ enc = 3

theorem c_unit {b : Sl} {l : List Int} {r enc : Int} (hr : le16 r enc) (hb : Lst .u8 h b l) (hl : 2 ≤ l.length) : Gives P (F_sixteen_unit S (r, ()) b) [.one (.int .i64)] h fun (x : Int × Unit) _ => x.1 = unitF enc l 0 := by
  have b0 := hb.byte 0
  have b1 := hb.byte 1
  unfold le16 at hr
  unfold F_sixteen_unit
  dsimp only
  refine s_allocL [r] (fun x hx => by rw [List.mem_singleton.1 hx, fits_i64]; omega) (by simp) fun h1 e1 o1 => ?_
  refine s_loadL o1.lst (j := 0) (by simp) ?_
  simp only [List.getD_cons_zero]
  refine s_at (hb.ext e1) (by omega) (by omega) fun _ => s_loadL o1.lst (j := 0) (by simp) ?_
  simp only [List.getD_cons_zero]
  rw [sub_ok (by omega) (by omega)]
  refine s_at (hb.ext e1) (by omega) (by omega) fun _ => s_not ?_
  have key : orI .i64 (wrapI .i64 (l.getD r.toNat 0)) (shlI .i64 (wrapI .i64 (l.getD (1 - r).toNat 0)) 8) = unitF enc l 0 := by
    have j : ∀ x y : Int, 0 ≤ x → x ≤ 255 → 0 ≤ y → y ≤ 255 → orI .i64 (wrapI .i64 x) (shlI .i64 (wrapI .i64 y) 8) = x + 256 * y := by
      intro x y x0 x1 y0 y1
      rw [wrap_ok (by omega) (by omega), wrap_ok (by omega) (by omega), shl8 y0 (by omega)]
      have : orI .i64 x (y * 256) = orI .i64 (y * 256) x := by
        unfold orI; rw [BitVec.or_comm]
      rw [this, or64_join (a := y * 256) (b := x) 8 (by omega) (by omega) (by simp) (by omega) (by simp; omega) (by decide)]; omega
    rcases hr with ⟨rfl, rfl⟩ | ⟨rfl, rfl⟩
    · rw [j _ _ (hb.byte _).1 (hb.byte _).2 (hb.byte _).1 (hb.byte _).2]; rfl
    · rw [j _ _ (hb.byte _).1 (hb.byte _).2 (hb.byte _).1 (hb.byte _).2]
      show l.getD 1 0 + 256 * l.getD 0 0 = 256 * l.getD 0 0 + l.getD 1 0
      omega
  rw [key]
  exact s_ret ⟨rfl, e1, (unitF enc l 0, ()), rfl, rfl⟩

theorem unit_bound {enc : Int} {l : List Int} (hb : isBytes l) (i : Nat) : 0 ≤ unitF enc l i ∧ unitF enc l i < 65536 := by
  have h0 := hb.at i
  have h1 := hb.at (i + 1)
  unfold unitF; split <;> omega

theorem c_high {u : Int} (h0 : 0 ≤ u) (h1 : u < 65536) : Gives P (F_codec_high S u) [.one .bool] h fun (x : Bool × Unit) _ => (x.1 = true ↔ 55296 ≤ u ∧ u < 56320) := by
  unfold F_codec_high
  rw [andNot1023 h0 (by omega)]
  exact s_ret ⟨rfl, Ext.refl _, (eqI _ 55296, ()), rfl, by show eqI _ _ = true ↔ _; rw [eqI_iff]; omega⟩
theorem c_low {u : Int} (h0 : 0 ≤ u) (h1 : u < 65536) : Gives P (F_codec_low S u) [.one .bool] h fun (x : Bool × Unit) _ => (x.1 = true ↔ 56320 ≤ u ∧ u < 57344) := by
  unfold F_codec_low
  rw [andNot1023 h0 (by omega)]
  exact s_ret ⟨rfl, Ext.refl _, (eqI _ 56320, ()), rfl, by show eqI _ _ = true ↔ _; rw [eqI_iff]; omega⟩

theorem unitF_drop (enc : Int) (l : List Int) (i : Nat) : unitF enc (l.drop i) 0 = unitF enc l i := by
  unfold unitF; rw [getD_drop, getD_drop]; simp

end Go.Sw.Codec
namespace Go.Sw
open Go.Sw.Codec
variable {P : Program} {S : Ids} {h : Heap} {Q : Nat → List Value → Heap → Prop}
/-- b[i:], handed on. -/
theorem Lst.tail {k : IntKind} {s : Sl} {l : List Int} (hr : Lst k h s l) {i : Nat} (hi : i ≤ l.length) : Lst k h ⟨cutBase s.base s.cap i 1, subN s.len i, subN s.cap i⟩ (l.drop i) :=
  hr.drop hi (by have := hr.cap; unfold subN; omega) (by have := hr.max; unfold subN; omega)

end Go.Sw
namespace Go.Sw.Codec
variable {P : Program} {S : Ids} {h : Heap} {Q : Nat → List Value → Heap → Prop}
theorem c_sixteen_first {b : Sl} {l : List Int} {r enc : Int} (hr : le16 r enc) (hb : Lst .u8 h b l) (hl : 0 < l.length) : Gives P (F_sixteen_first S (r, ()) b) duo h fun (x : Int × Int × Unit) _ => (x.1, x.2.1) = first16 enc l := by
  have hlb := hb.len
  have hby : isBytes l := hb.wf
  have b0 := hb.byte 0
  have hr0 : fitsI .i64 r := by unfold le16 at hr; rw [fits_i64]; omega
  have u0 := unit_bound (enc := enc) hby 0
  have u2 := unit_bound (enc := enc) hby 2
  unfold F_sixteen_first first16
  dsimp only
  refine s_allocL [r] (fun x hx => by rw [List.mem_singleton.1 hx]; exact hr0) (by simp) fun h1 e1 o1 => ?_
  refine wp_ifB (fun hc => ?_) fun hc => ?_
  · rw [eqI_iff, natI_def, hlb] at hc
    rw [if_pos (by omega)]
    refine s_at0 (n := 0) (hb.ext e1) hl fun _ => ?_
    rw [wrap_ok (by omega) (by omega), sub_ok (by omega) (by omega)]
    exact s_ret ⟨rfl, e1, (_, 1, ()), rfl, rfl⟩
  rw [eqI_not, natI_def, hlb] at hc
  rw [if_neg (by omega)]
  refine s_loadA o1.lst (wp_call (c_unit hr (hb.ext e1) (by omega)) fun ⟨(u : Int), _⟩ h2 e2 hu => ?_)
  have hu : u = unitF enc l 0 := hu
  subst hu
  dsimp only
  have e12 := e1.trans e2
  have hb2 := hb.ext e12
  refine wp_bind (fun t vs h' => Ext h h' ∧ (t = 0 ∧ vs = [] ∧ ¬ (55296 ≤ unitF enc l 0 ∧ unitF enc l 0 < 56320 ∧ 4 ≤ l.length ∧ 56320 ≤ unitF enc l 2 ∧ unitF enc l 2 < 57344) ∨
    t = 1 ∧ (55296 ≤ unitF enc l 0 ∧ unitF enc l 0 < 56320 ∧ 4 ≤ l.length ∧ 56320 ≤ unitF enc l 2 ∧ unitF enc l 2 < 57344) ∧ vs = [.int .i64 (65536 + (unitF enc l 0 - 55296) * 1024 + (unitF enc l 2 - 56320)), .int .i64 4])) ?_ ?_
  · refine bind_bool (55296 ≤ unitF enc l 0 ∧ unitF enc l 0 < 56320 ∧ 4 ≤ l.length) ?_ fun c h3 e3 hc3 => wp_ifB (fun h4 => ?_) fun h4 => ?_
    · refine wp_call (c_high u0.1 u0.2) fun x h3 e3 hx => wp_ifB (fun h4 => ?_) fun h4 => ?_
      · refine s_ret ⟨rfl, e3, _, rfl, ?_⟩
        have := hx.1 h4
        rw [geI_iff, natI_def, hlb]; omega
      · refine s_ret ⟨rfl, e3, _, rfl, ?_⟩
        have : ¬ (55296 ≤ unitF enc l 0 ∧ unitF enc l 0 < 56320) := fun h => by rw [hx.2 h] at h4; cases h4
        exact ⟨(fun h => by cases h), fun h => absurd ⟨h.1, h.2.1⟩ this⟩
    · obtain ⟨q1, q2, q3⟩ := hc3.1 h4
      refine s_loadA (o1.ext (e2.trans e3)).lst (s_grd (leB_ok (by decide) (by omega)) (wp_call (c_unit hr ((hb2.ext e3).tail (i := 2) (by omega)) (by rw [List.length_drop]; omega)) fun ⟨(v : Int), _⟩ h5 e5 hv => ?_))
      have hv : v = unitF enc (l.drop 2) 0 := hv
      rw [unitF_drop] at hv
      subst hv
      dsimp only
      refine wp_call (c_low u2.1 u2.2) fun x h6 e6 hx => wp_ifB (fun h4 => s_not ?_) fun h4 => ?_
      · have q4 := hx.1 h4
        rw [and1023, and1023, shl10 (by omega) (by omega), add_ok (a := 65536) (by omega) (by omega), add_ok (by omega) (by omega)]
        refine s_ret ⟨((e12.trans e3).trans e5).trans e6, .inr ⟨rfl, ⟨q1, q2, q3, q4.1, q4.2⟩, ?_⟩⟩
        congr 2; omega
      · have : ¬ (56320 ≤ unitF enc l 2 ∧ unitF enc l 2 < 57344) := fun h => by rw [hx.2 h] at h4; cases h4
        exact s_ret ⟨((e12.trans e3).trans e5).trans e6, .inl ⟨rfl, rfl, fun h => this h.2.2.2⟩⟩
    · have : ¬ (55296 ≤ unitF enc l 0 ∧ unitF enc l 0 < 56320 ∧ 4 ≤ l.length) := fun h => by rw [hc3.2 h] at h4; cases h4
      exact s_ret ⟨e12.trans e3, .inl ⟨rfl, rfl, fun h => this ⟨h.1, h.2.1, h.2.2.1⟩⟩⟩
  · rintro t vs h' ⟨e, ⟨ht, hv, hn⟩ | ⟨ht, hp, hv⟩⟩
    · rw [if_neg hn]
      exact s_skip (by omega) (s_exit ht () hv (s_ret ⟨rfl, e, (unitF enc l 0, 2, ()), rfl, rfl⟩))
    · rw [if_pos hp]
      exact s_exit ht (_, 4, ()) hv (s_ret ⟨rfl, e, (_, 4, ()), rfl, rfl⟩)

theorem i_first (M : Meth P S) {enc : Int} (he : known enc) {s : Sl} {l : List Int} (hs : Lst .u8 h s l) (hl : 0 < l.length)
    {K : Int × Int × Unit → Prog} (hk : ∀ (x : Int × Int × Unit) h', Ext h h' → (x.1, x.2.1) = firstF enc l → wp P (K x) h' Q) :
    wp P (.invoke (coder S enc) S.m_first [.slice s.base s.len s.cap] duo K) h Q := by
  rcases known_cases he with rfl | rfl | rfl | rfl
  · exact wp_inv (M.first8 s) (c_eight_first hs hl) hk
  · exact wp_inv (M.first16 0 s) (c_sixteen_first (.inl ⟨rfl, rfl⟩) hs hl) hk
  · exact wp_inv (M.first16 1 s) (c_sixteen_first (.inr ⟨rfl, rfl⟩) hs hl) hk
  · exact wp_inv (M.first1 s) (c_latin_first hs hl) hk
end Go.Sw.Codec
