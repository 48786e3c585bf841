/-
  Codec: byte order marks, the program's and the document's.
-/
import Derived.Test.YtfgknhffpccamaaSwC3
set_option linter.unusedVariables false
set_option linter.unusedSimpArgs false
set_option maxRecDepth 100000
namespace Go.Sw.Codec
variable {P : Program} {S : Ids} {h : Heap} {Q : Nat → List Value → Heap → Prop}

def markF (enc : Int) : List Int := if enc = 1 then [239, 187, 191] else if enc = 2 then [255, 254] else if enc = 3 then [254, 255] else []
def begF (l : List Int) (at_ : Nat) (m : List Int) : Bool := decide ((l.drop at_).take m.length = m)
def detF (l : List Int) : Int × Int := if begF l 0 [239, 187, 191] then (1, 3) else if begF l 0 [255, 254] then (2, 2) else if begF l 0 [254, 255] then (3, 2) else (0, 0)

theorem beg3 (l : List Int) (a b c : Int) : begF l 0 [a, b, c] = decide (3 ≤ l.length ∧ l.getD 0 0 = a ∧ l.getD 1 0 = b ∧ l.getD 2 0 = c) := by
  unfold begF
  match l with
  | [] => simp
  | [x] => simp
  | [x, y] => simp
  | x :: y :: z :: r => simp
theorem beg2 (l : List Int) (a b : Int) : begF l 0 [a, b] = decide (2 ≤ l.length ∧ l.getD 0 0 = a ∧ l.getD 1 0 = b) := by
  unfold begF
  match l with
  | [] => simp
  | [x] => simp
  | x :: y :: r => simp

theorem lst_alloc {k : IntKind} {l : List Int} {elem : TypeId} (hf : ∀ x, x ∈ l → fitsI k x) (hb : l.length < 2 ^ 63) : OwnL h.size k (h.push (.cells (l.map (.int k)).toArray elem)) ⟨some ⟨h.size, 0, none⟩, l.length, l.length⟩ l :=
  ⟨own_alloc (by simp) (by decide) hb, hf⟩
theorem lst_alloc' {k : IntKind} {l : List Int} {vs : List Value} {n : Nat} {elem : TypeId} (hv : vs = l.map (.int k)) (hn : n = l.length) (hf : ∀ x, x ∈ l → fitsI k x) (hb : l.length < 2 ^ 63) : OwnL h.size k (h.push (.cells vs.toArray elem)) ⟨some ⟨h.size, 0, none⟩, n, n⟩ l := by
  subst hv; subst hn; exact lst_alloc hf hb
theorem bytes_fit {l : List Int} (h : l.all (fun x => decide (0 ≤ x ∧ x ≤ 255)) = true) : ∀ x, x ∈ l → fitsI .u8 x := fun x hx => fits_u8.2 (by simpa using List.all_eq_true.1 h x hx)

theorem c_Mark (enc : Int) : Gives P (F_codec_Mark S enc) [.one .sl] h fun (x : Sl × Unit) h' => OwnL h.size .u8 h' x.1 (markF enc) := by
  unfold F_codec_Mark Gives markF
  refine wp_ifB (fun hc => ?_) fun hc => ?_
  · rw [eqI_iff] at hc
    rw [if_pos hc]
    exact s_alloc fun el => s_ret ⟨rfl, Ext.push .., (⟨_, _, _⟩, ()), rfl, lst_alloc' rfl rfl (bytes_fit rfl) (by decide)⟩
  rw [eqI_not] at hc
  rw [if_neg hc]
  refine wp_ifB (fun hc => ?_) fun hc => ?_
  · rw [eqI_iff] at hc
    rw [if_pos hc]
    exact s_alloc fun el => s_ret ⟨rfl, Ext.push .., (⟨_, _, _⟩, ()), rfl, lst_alloc' rfl rfl (bytes_fit rfl) (by decide)⟩
  rw [eqI_not] at hc
  rw [if_neg hc]
  refine wp_ifB (fun hc => ?_) fun hc => ?_
  · rw [eqI_iff] at hc
    rw [if_pos hc]
    exact s_alloc fun el => s_ret ⟨rfl, Ext.push .., (⟨_, _, _⟩, ()), rfl, lst_alloc' rfl rfl (bytes_fit rfl) (by decide)⟩
  rw [eqI_not] at hc
  rw [if_neg hc]
  exact s_ret ⟨rfl, Ext.refl _, (⟨_, _, _⟩, ()), rfl, OwnL.nil ..⟩
theorem c_ref_Mark (enc : Int) : Gives P (F_ref1_Mark S enc) [.one .sl] h fun (x : Sl × Unit) h' => OwnL h.size .u8 h' x.1 (markF enc) := c_Mark (S := S) enc

theorem c_begins {b m : Sl} {l r : List Int} {at_ : Int} (hb : Lst .u8 h b l) (hm : Lst .u8 h m r) (h0 : 0 ≤ at_) (h1 : at_ ≤ l.length) (hr : r.length < 2 ^ 62) (hl : l.length < 2 ^ 62) :
    Gives P (F_ref1_begins S b at_ m) [.one .bool] h fun (x : Bool × Unit) _ => x.1 = begF l at_.toNat r := by
  have hlb := hb.len
  have hlm := hm.len
  unfold F_ref1_begins Gives
  simp only [natI_def, hlb, hlm]
  rw [add_ok (by omega) (by omega)]
  refine wp_ifB (fun hc => ?_) fun hc => ?_
  · rw [gtI_iff] at hc
    refine s_ret ⟨rfl, Ext.refl _, (_, ()), rfl, ?_⟩
    show Bool.false = _
    unfold begF
    symm; rw [decide_eq_false_iff_not]
    intro e
    have := congrArg List.length e
    rw [List.length_take, List.length_drop] at this
    omega
  rw [gtI_not] at hc
  refine wp_while (fun (s : Int × Unit) h' => h' = h ∧ 0 ≤ s.1 ∧ s.1 ≤ r.length ∧ (l.drop at_.toNat).take s.1.toNat = r.take s.1.toNat) (fun s _ => r.length - s.1.toNat)
    (fun t vs h' => h' = h ∧ (t = 2 ∧ vs = [] ∧ begF l at_.toNat r = true ∨ t = 1 ∧ vs = [.bool Bool.false] ∧ begF l at_.toNat r = false)) ⟨rfl, by simp, by simp, by simp⟩ ?_ ?_
  · rintro ⟨(i : Int), u⟩ h' ⟨rfl, i0, i1, ht⟩
    dsimp only at i0 i1 ht ⊢
    refine wp_ifB (fun hi => ?_) fun hi => ?_
    · rw [ltI_iff] at hi
      rw [add_ok (a := at_) (by omega) (by omega)]
      have hd : l.getD (at_ + i).toNat 0 = (l.drop at_.toNat).getD i.toNat 0 := by
        rw [List.getD_eq_getElem?_getD, List.getD_eq_getElem?_getD, List.getElem?_drop, show (at_ + i).toNat = at_.toNat + i.toNat by omega]
      refine hlb ▸ s_at hb (by omega) (by omega) fun _ => hlm ▸ s_at hm i0 (by omega) fun _ => wp_ifB (fun hn => ?_) fun hn => ?_
      · rw [neI_iff, hd] at hn
        refine s_ret ⟨fun h => absurd h (by decide), fun _ => ⟨rfl, .inr ⟨rfl, rfl, ?_⟩⟩⟩
        unfold begF
        rw [decide_eq_false_iff_not]
        intro e
        apply hn
        have := congrArg (fun x => List.getD x i.toNat 0) e
        simp only [List.getD_eq_getElem?_getD, List.getElem?_take] at this ⊢
        rw [if_pos (by omega)] at this
        exact this
      · rw [neI_not, hd] at hn
        rw [add_ok (by omega) (by omega)]
        refine s_ret ⟨fun _ => ⟨(i + 1, ()), rfl, ⟨rfl, by dsimp only; omega, by dsimp only; omega, ?_⟩, by dsimp only; omega⟩, fun h => absurd rfl h⟩
        dsimp only
        rw [show (i + 1).toNat = i.toNat + 1 by omega]
        exact take_eq_succ (by rw [List.length_drop]; omega) (by omega) ht hn
    · rw [ltI_not] at hi
      refine s_ret ⟨fun h => absurd h (by decide), fun _ => ⟨rfl, .inl ⟨rfl, rfl, ?_⟩⟩⟩
      unfold begF
      rw [decide_eq_true_eq]
      rw [show i.toNat = r.length by omega] at ht
      rw [ht, List.take_length]
  · rintro t vs h' ⟨rfl, ⟨ht, hv, e⟩ | ⟨ht, hv, e⟩⟩
    · exact s_exit ht () hv ⟨rfl, Ext.refl _, (_, ()), rfl, by show Bool.true = _; rw [e]⟩
    · exact s_skip (by omega) (s_exit ht (Bool.false, ()) hv ⟨rfl, Ext.refl _, (_, ()), rfl, by show Bool.false = _; rw [e]⟩)

theorem c_Detect {b : Sl} {l : List Int} (hb : Lst .u8 h b l) : Gives P (F_codec_Detect S b) [.one (.int .i64), .one (.int .i64)] h fun (x : Int × Int × Unit) _ => (x.1, x.2.1) = detF l := by
  have hlb := hb.len
  unfold F_codec_Detect Gives detF
  rw [beg3, beg2, beg2]
  simp only [natI_def]
  have at0 : ∀ {h' K Q}, Ext h h' → 0 < l.length → wp P (K (l.getD 0 0)) h' Q → wp P (grd (andB (someB b.base) (inB 0 b.len)) (.load (.one (.int .u8)) (shiftTo b.base 0) K)) h' Q := fun e h1 hk => s_at0 (n := 0) (hb.ext e) h1 fun _ => hk
  have at1 : ∀ {h' K Q}, Ext h h' → 1 < l.length → wp P (K (l.getD 1 0)) h' Q → wp P (grd (andB (someB b.base) (inB 1 b.len)) (.load (.one (.int .u8)) (shiftTo b.base 1) K)) h' Q := fun e h1 hk => s_at0 (n := 1) (hb.ext e) h1 fun _ => hk
  have at2 : ∀ {h' K Q}, Ext h h' → 2 < l.length → wp P (K (l.getD 2 0)) h' Q → wp P (grd (andB (someB b.base) (inB 2 b.len)) (.load (.one (.int .u8)) (shiftTo b.base 2) K)) h' Q := fun e h1 hk => s_at0 (n := 2) (hb.ext e) h1 fun _ => hk
  have e0 := Ext.refl h
  refine bind_bool (3 ≤ l.length ∧ l.getD 0 0 = 239 ∧ l.getD 1 0 = 187 ∧ l.getD 2 0 = 191) ?_ fun c h2 e2 hc => wp_ifB (fun h3 => ?_) fun h3 => ?_
  · repeat' first
      | with_reducible refine s_ret ?_ | with_reducible refine wp_ifB (fun hc => ?_) (fun hc => ?_)
      | with_reducible refine at0 e0 (by simp only [geI_iff, hlb] at *; omega) ?_ | with_reducible refine at1 e0 (by simp only [geI_iff, hlb] at *; omega) ?_ | with_reducible refine at2 e0 (by simp only [geI_iff, hlb] at *; omega) ?_
    all_goals refine ⟨rfl, Ext.refl _, _, rfl, ?_⟩
    all_goals simp only [ltI_iff, gtI_iff, geI_iff, leI_iff, eqI_iff, neI_iff, notB_iff, ltI_not, gtI_not, geI_not, leI_not, eqI_not, neI_not, notB_not] at *
    all_goals simp only [hlb] at *
    all_goals first | omega | (constructor; all_goals intro hx; all_goals first | omega | (simp at hx))
  · exact s_ret ⟨rfl, e0.trans e2, (_, _, ()), rfl, by rw [if_pos (by simpa using hc.1 h3)]⟩
  rw [if_neg (by rw [decide_eq_true_eq]; intro hx; rw [hc.2 hx] at h3; cases h3)]
  have hb := hb.ext e2
  have e0 := e0.trans e2
  clear hc h3
  refine bind_bool (2 ≤ l.length ∧ l.getD 0 0 = 255 ∧ l.getD 1 0 = 254) ?_ fun c h2 e2 hc => wp_ifB (fun h3 => ?_) fun h3 => ?_
  · repeat' first
      | with_reducible refine s_ret ?_ | with_reducible refine wp_ifB (fun hc => ?_) (fun hc => ?_)
      | with_reducible refine at0 e0 (by simp only [geI_iff, hlb] at *; omega) ?_ | with_reducible refine at1 e0 (by simp only [geI_iff, hlb] at *; omega) ?_ | with_reducible refine at2 e0 (by simp only [geI_iff, hlb] at *; omega) ?_
    all_goals refine ⟨rfl, Ext.refl _, _, rfl, ?_⟩
    all_goals simp only [ltI_iff, gtI_iff, geI_iff, leI_iff, eqI_iff, neI_iff, notB_iff, ltI_not, gtI_not, geI_not, leI_not, eqI_not, neI_not, notB_not] at *
    all_goals simp only [hlb] at *
    all_goals first | omega | (constructor; all_goals intro hx; all_goals first | omega | (simp at hx))
  · exact s_ret ⟨rfl, e0.trans e2, (_, _, ()), rfl, by rw [if_pos (by simpa using hc.1 h3)]⟩
  rw [if_neg (by rw [decide_eq_true_eq]; intro hx; rw [hc.2 hx] at h3; cases h3)]
  have hb := hb.ext e2
  have e0 := e0.trans e2
  clear hc h3
  refine bind_bool (2 ≤ l.length ∧ l.getD 0 0 = 254 ∧ l.getD 1 0 = 255) ?_ fun c h2 e2 hc => wp_ifB (fun h3 => ?_) fun h3 => ?_
  · repeat' first
      | with_reducible refine s_ret ?_ | with_reducible refine wp_ifB (fun hc => ?_) (fun hc => ?_)
      | with_reducible refine at0 e0 (by simp only [geI_iff, hlb] at *; omega) ?_ | with_reducible refine at1 e0 (by simp only [geI_iff, hlb] at *; omega) ?_ | with_reducible refine at2 e0 (by simp only [geI_iff, hlb] at *; omega) ?_
    all_goals refine ⟨rfl, Ext.refl _, _, rfl, ?_⟩
    all_goals simp only [ltI_iff, gtI_iff, geI_iff, leI_iff, eqI_iff, neI_iff, notB_iff, ltI_not, gtI_not, geI_not, leI_not, eqI_not, neI_not, notB_not] at *
    all_goals simp only [hlb] at *
    all_goals first | omega | (constructor; all_goals intro hx; all_goals first | omega | (simp at hx))
  · exact s_ret ⟨rfl, e0.trans e2, (_, _, ()), rfl, by rw [if_pos (by simpa using hc.1 h3)]⟩
  rw [if_neg (by rw [decide_eq_true_eq]; intro hx; rw [hc.2 hx] at h3; cases h3)]
  have hb := hb.ext e2
  have e0 := e0.trans e2
  clear hc h3
  exact s_ret ⟨rfl, e0, (_, _, ()), rfl, rfl⟩

theorem c_ref_Detect {b : Sl} {l : List Int} (hb : Lst .u8 h b l) (hl : l.length < 2 ^ 62) : Gives P (F_ref1_Detect S b) [.one (.int .i64), .one (.int .i64)] h fun (x : Int × Int × Unit) _ => (x.1, x.2.1) = detF l := by
  unfold F_ref1_Detect Gives
  refine wp_while (fun (s : Int × Unit) h' => Ext h h' ∧ 1 ≤ s.1 ∧ s.1 ≤ 4 ∧ ∀ j : Int, 1 ≤ j → j < s.1 → begF l 0 (markF j) = false) (fun s _ => 4 - s.1.toNat)
    (fun t vs h' => Ext h h' ∧ (t = 2 ∧ vs = [] ∧ detF l = (0, 0) ∨ ∃ a b : Int, t = 1 ∧ vs = [.int .i64 a, .int .i64 b] ∧ (a, b) = detF l)) ⟨Ext.refl _, by simp, by simp, fun j h1 h2 => by dsimp only at h2; omega⟩ ?_ ?_
  · rintro ⟨(i : Int), u⟩ h' ⟨e, i0, i1, ht⟩
    dsimp only at i0 i1 ht ⊢
    refine wp_ifB (fun hi => ?_) fun hi => ?_
    · rw [leI_iff] at hi
      refine wp_call (c_ref_Mark i) fun x h1 e1 ho => ?_
      have ho : OwnL h'.size .u8 h1 x.1 (markF i) := ho
      have hml : (markF i).length ≤ 3 := by unfold markF; (repeat' split) <;> simp
      refine wp_call (c_begins ((hb.ext e).ext e1) ho.lst (by decide) (by simp) (by omega) hl) fun y h2 e2 hy => ?_
      have hy : y.1 = begF l 0 (markF i) := hy
      refine wp_ifB (fun hn => ?_) fun hn => ?_
      · rw [hy] at hn
        refine s_ret ⟨fun h => absurd h (by decide), fun _ => ⟨(e.trans e1).trans e2, .inr ⟨i, natI x.1.len, rfl, rfl, ?_⟩⟩⟩
        rw [ho.len, natI_def]
        have h13 : i = 1 ∨ i = 2 ∨ i = 3 := by omega
        unfold detF
        rcases h13 with rfl | rfl | rfl
        · have h1 : begF l 0 [239, 187, 191] = true := hn
          rw [if_pos h1]; rfl
        · have h1 : begF l 0 [239, 187, 191] = false := ht 1 (by decide) (by decide)
          have h2 : begF l 0 [255, 254] = true := hn
          rw [if_neg (by simp [h1]), if_pos h2]; rfl
        · have h1 : begF l 0 [239, 187, 191] = false := ht 1 (by decide) (by decide)
          have h2 : begF l 0 [255, 254] = false := ht 2 (by decide) (by decide)
          have h3 : begF l 0 [254, 255] = true := hn
          rw [if_neg (by simp [h1]), if_neg (by simp [h2]), if_pos h3]; rfl
      · rw [hy] at hn
        rw [add_ok (by omega) (by omega)]
        refine s_ret ⟨fun _ => ⟨(i + 1, ()), rfl, ⟨(e.trans e1).trans e2, by dsimp only; omega, by dsimp only; omega, fun j h1 h2 => ?_⟩, by dsimp only; omega⟩, fun h => absurd rfl h⟩
        dsimp only at h2
        by_cases hj : j = i
        · rw [hj]; exact hn
        · exact ht j h1 (by omega)
    · rw [leI_not] at hi
      refine s_ret ⟨fun h => absurd h (by decide), fun _ => ⟨e, .inl ⟨rfl, rfl, ?_⟩⟩⟩
      have h1 : begF l 0 [239, 187, 191] = false := ht 1 (by decide) (by omega)
      have h2 : begF l 0 [255, 254] = false := ht 2 (by decide) (by omega)
      have h3 : begF l 0 [254, 255] = false := ht 3 (by decide) (by omega)
      simp [detF, h1, h2, h3]
  · rintro t vs h' ⟨e, ⟨ht, hv, hd⟩ | ⟨a, b, ht, hv, hd⟩⟩
    · exact s_exit ht () hv ⟨rfl, e, (_, _, ()), rfl, by rw [hd]⟩
    · exact s_skip (by omega) (s_exit ht (a, b, ()) hv ⟨rfl, e, (_, _, ()), rfl, hd⟩)
end Go.Sw.Codec
