/-
  Codec: what the coders put: the bytes of an atom.
-/
import Derived.Test.YtfgknhffpccamaaSwC5
set_option linter.unusedVariables false
set_option linter.unusedSimpArgs false
set_option maxRecDepth 100000
namespace Go.Sw.Codec
variable {P : Program} {S : Ids} {h : Heap} {Q : Nat → List Value → Heap → Prop}

theorem size_of_fits {enc a : Int} (hf : 0 < sizeF enc a) : (putF enc a).length = (sizeF enc a).toNat := by have := putF_len hf; omega
theorem sizeF_le (enc a : Int) : sizeF enc a ≤ 4 := by unfold sizeF; (repeat' split) <;> omega

/-- out with the bytes of a behind it. -/
def Put1 (n : Nat) (out : Sl) (h : Heap) (enc : Int) (l : List Int) (a : Int) (x : Sl × Unit) (h' : Heap) : Prop := OwnL n .u8 h' x.1 (l ++ putF enc a) ∧ Grew out h h' x.1

theorem c_latin_put {n : Nat} {out : Sl} {l : List Int} {a : Int} (ho : OwnL n .u8 h out l) (hn : n ≤ h.size) (hf : 0 < sizeF 4 a) (hroom : l.length + 4 ≤ 140737488355328) :
    GivesN n P (F_latin_put S () out a) [.one .sl] h (Put1 n out h 4 l a) := by
  have ha := (fits_iff 4 a).1 hf
  unfold F_latin_put GivesN
  refine s_alloc0 fun h1 e1 => ?_
  refine s_push (l := l) (ho.ext e1) (by have := e1.size; omega) (range_u8 _) (by omega) (by omega) fun r h2 k2 o2 u2 b2 => s_ret ⟨rfl, Keep.trans (e1.keep hn) k2, (r, ()), rfl, ?_, Grew.pre e1 ⟨u2, b2⟩⟩
  have : putF 4 a = [wrapI .u8 a] := by rw [byte_ok (by omega) (by omega)]; unfold putF; rw [if_neg (by omega), if_neg (by decide), if_pos rfl]
  show OwnL n .u8 h2 r (l ++ putF 4 a)
  rw [this]; exact o2

theorem c_half {n : Nat} {out : Sl} {l : List Int} {r u : Int} {enc : Int} (ho : OwnL n .u8 h out l) (hn : n ≤ h.size) (hr : r = 0 ∧ enc = 2 ∨ r = 1 ∧ enc = 3) (hu : 0 ≤ u) (hu' : u < 65536) (hroom : l.length + 2 ≤ 140737488355328) :
    GivesN n P (F_sixteen_half S (r, ()) out u) [.one .sl] h fun (x : Sl × Unit) h' => OwnL n .u8 h' x.1 (l ++ unitB enc u) ∧ Grew out h h' x.1 := by
  unfold F_sixteen_half GivesN
  dsimp only
  refine s_allocL [r] (fun x hx => by rw [List.mem_singleton.1 hx, fits_i64]; omega) (by simp) fun h1 e1 o1 => ?_
  refine s_allocL (k := .u8) [0, 0] (by intro x hx; simp at hx; subst hx; exact fits_zero _) (by simp) fun h2 e2 o2 => ?_
  have o1' := (o1.ext e2).lst
  refine s_loadL o1' (j := 0) (by simp) (s_loadL o1' (j := 0) (by simp) (s_not ?_))
  simp only [List.getD_cons_zero]
  have b1 : fitsI .u8 (wrapI .u8 u) := range_u8 _
  have b2 : fitsI .u8 (wrapI .u8 (shrI .i64 u 8)) := range_u8 _
  have hne : ∀ x y, (some (⟨h.size, 0, none⟩ : Addr)) = some x → (some (⟨h1.size, 0, none⟩ : Addr)) = some y → y.block ≠ x.block := by
    intro x y hx hy
    cases hx; cases hy
    have := (o1.own.lt (a := ⟨h.size, 0, none⟩) rfl).2
    dsimp only at this ⊢
    omega
  have hn1 : n ≤ h1.size := by have := e1.size; omega
  have e12 := e1.trans e2
  have fin : ∀ (h4 : Heap) (m : List Int), OwnL h1.size .u8 h4 ⟨some ⟨h1.size, 0, none⟩, 2, 2⟩ m → m = unitB enc u → Keep h1.size h2 h4 →
      wp P (.append 1 1 [(Value.int IntKind.u8 0)] out (⟨(cutBase (Option.some ⟨h1.size, 0, none⟩) 2 0 1), 2, 2⟩) fun (l5 : Sl) => .ret 0 [(Value.slice l5.base l5.len l5.cap)]) h4
        fun t vs h' => t = 0 ∧ Keep n h h' ∧ ∃ x : Sl × Unit, vs = Ts.inj [.one .sl] x ∧ OwnL n .u8 h' x.1 (l ++ unitB enc u) ∧ Grew out h h' x.1 := by
    intro h4 m o4 hm k4
    rw [cutBase_zero]
    have hk : Keep n h h4 := Keep.trans (e12.keep hn) (k4.mono hn1)
    have hoe : OwnL n .u8 h4 out l := by
      refine (ho.ext e1).keep fun a ha => ?_
      have := (ho.own.lt ha).2
      have := e1.size
      rw [k4.2.1 _ (by omega), e2.2.1 _ (by omega)]
    refine s_append hoe (by have := hk.1; omega) o4.lst (by rw [hm, unitB_len]; omega) (by rw [hm, unitB_len]; omega) fun y h5 k5 o5 u5 b5 => s_ret ⟨rfl, Keep.trans hk k5, (y, ()), rfl, by rw [hm] at o5; exact o5, ?_⟩
    exact Grew.pre (Keep.trans e12 (k4.mono e1.size)) ⟨u5, b5⟩
  rcases hr with ⟨rfl, rfl⟩ | ⟨rfl, rfl⟩
  · refine s_grd (by decide) (s_setA o2 (j := 0) (by simp) b1 fun h3 o3 u3 z3 => ?_)
    refine s_check1 ((o1.ext e2).upd u3 hne).lst (j := 0) (by simp) rfl (s_grd (by decide) ?_)
    refine s_setA o3 (j := 1) (by simp) b2 fun h4 o4 u4 z4 => ?_
    refine fin h4 _ o4 ?_ (Keep.trans (Upd.ext_of u3 (by intro a ha; cases ha; exact Nat.le_refl _) e2.size) (Upd.ext_of u4 (by intro a ha; cases ha; exact Nat.le_refl _) (by have := e2.size; omega)))
    rw [byte_mod, byte_mod, shr8]
    unfold unitB
    rw [if_pos rfl]
    simp; omega
  · refine s_grd (by decide) (s_setA o2 (j := 1) (by simp) b1 fun h3 o3 u3 z3 => ?_)
    refine s_check1 ((o1.ext e2).upd u3 hne).lst (j := 0) (by simp) rfl (s_grd (by decide) ?_)
    refine s_setA o3 (j := 0) (by simp) b2 fun h4 o4 u4 z4 => ?_
    refine fin h4 _ o4 ?_ (Keep.trans (Upd.ext_of u3 (by intro a ha; cases ha; exact Nat.le_refl _) e2.size) (Upd.ext_of u4 (by intro a ha; cases ha; exact Nat.le_refl _) (by have := e2.size; omega)))
    rw [byte_mod, byte_mod, shr8]
    unfold unitB
    rw [if_neg (by decide)]
    simp; omega

theorem c_sixteen_put {n : Nat} {out : Sl} {l : List Int} {r a : Int} {enc : Int} (ho : OwnL n .u8 h out l) (hn : n ≤ h.size) (hr : r = 0 ∧ enc = 2 ∨ r = 1 ∧ enc = 3) (hf : 0 < sizeF enc a) (hroom : l.length + 4 ≤ 140737488355328) :
    GivesN n P (F_sixteen_put S (r, ()) out a) [.one .sl] h (Put1 n out h enc l a) := by
  have ha := (fits_iff enc a).1 hf
  have hr0 : fitsI .i64 r := by rw [fits_i64]; omega
  unfold F_sixteen_put GivesN
  dsimp only
  refine s_allocL [r] (fun x hx => by rw [List.mem_singleton.1 hx]; exact hr0) (by simp) fun h1 e1 o1 => ?_
  have hn1 : n ≤ h1.size := by have := e1.size; omega
  have ho1 := ho.ext e1
  refine wp_ifB (fun hc => ?_) fun hc => ?_
  · rw [ltI_iff] at hc
    refine s_push ho1 hn1 (range_u8 _) (by omega) (by omega) fun y h2 k2 o2 u2 b2 => s_ret ⟨rfl, Keep.trans (e1.keep hn) k2, (y, ()), rfl, ?_, Grew.pre e1 ⟨u2, b2⟩⟩
    have : putF enc a = [wrapI .u8 (subI .i64 (-1) a)] := by
      rw [sub_ok (by omega) (by omega), byte_ok (by omega) (by omega)]; unfold putF; rw [if_pos hc]
    show OwnL n .u8 h2 y (l ++ putF enc a)
    rw [this]; exact o2
  rw [ltI_not] at hc
  refine wp_ifB (fun hc2 => ?_) fun hc2 => ?_
  · rw [ltI_iff] at hc2
    refine s_loadA o1.lst (wp_callN (c_half ho1 hn1 hr hc hc2 (by omega)) fun y h2 k2 ⟨o2, g2⟩ => s_ret ⟨rfl, Keep.trans (e1.keep hn) k2, y, rfl, ?_, Grew.pre e1 g2⟩)
    have : putF enc a = unitB enc a := by unfold putF; rw [if_neg (by omega), if_neg (by omega), if_neg (by omega), if_neg (by omega)]
    show OwnL n .u8 h2 y.1 (l ++ putF enc a)
    rw [this]; exact o2
  rw [ltI_not] at hc2
  refine s_loadA o1.lst (s_loadA o1.lst (s_not ?_))
  have v1 : orI .i64 55296 (shrI .i64 (subI .i64 a 65536) 10) = 55296 + (a - 65536) / 1024 := by
    rw [sub_ok (by omega) (by omega), shr10]
    exact or64_join 10 (by decide) (by decide) (by decide) (by omega) (by simp; omega) (by decide)
  have v2 : orI .i64 56320 (andI .i64 a 1023) = 56320 + a % 1024 := by
    rw [and1023]
    exact or64_join 10 (by decide) (by decide) (by decide) (by omega) (by simp; omega) (by decide)
  rw [v1, v2]
  refine wp_callN (c_half ho1 hn1 hr (by omega) (by omega) (by omega)) fun y h2 k2 ⟨o2, g2⟩ => ?_
  have o12 : OwnL h.size .i64 h2 ⟨some ⟨h.size, 0, none⟩, 1, 1⟩ [r] := by
    refine OwnL.upd (t := out) o1 g2.upd fun x b hx hb => ?_
    cases hx
    have := (ho.own.lt hb).2
    dsimp only; omega
  refine s_check1 (j := 0) o12.lst (by simp) rfl ?_
  refine wp_callN (c_half o2 (by have := k2.1; omega) hr (by omega) (by omega) (by rw [List.length_append, unitB_len]; omega)) fun z h3 k3 ⟨o3, g3⟩ => s_ret ⟨rfl, Keep.trans (Keep.trans (e1.keep hn) k2) k3, z, rfl, ?_, Grew.pre e1 (g2.trans g3)⟩
  have : putF enc a = unitB enc (55296 + (a - 65536) / 1024) ++ unitB enc (56320 + a % 1024) := by
    unfold putF; rw [if_neg (by omega), if_neg (by omega), if_neg (by omega), if_pos (by omega)]
  show OwnL n .u8 h3 z.1 (l ++ putF enc a)
  rw [this, ← List.append_assoc]; exact o3

theorem c_eight_size' (a : Int) : Gives P (F_eight_size S () a) [.one (.int .i64)] h fun (x : Int × Unit) h' => x.1 = sizeF 1 a := c_eight_size a

theorem eightB_len {a : Int} (hf : 0 < sizeF 1 a) (h0 : 0 ≤ a) : ((eightB a).length : Int) = sizeF 1 a := by
  have := putF_len hf
  unfold putF at this
  rw [if_neg (by omega), if_pos rfl] at this
  exact this
theorem eightB_at {a : Int} (hf : 0 < sizeF 1 a) (h0 : 0 ≤ a) (i : Int) (h1 : 0 ≤ i) (h2 : i ≤ sizeF 1 a - 2) : (eightB a).getD (sizeF 1 a - 1 - i).toNat 0 = 128 + shrI .i64 a (6 * i) % 64 := by
  have hl := sizeF_le 1 a
  have hf' := (fits_iff 1 a).1 hf
  have hs : sizeF 1 a = if a < 128 then 1 else if a < 2048 then 2 else if a < 65536 then 3 else 4 := by
    unfold sizeF; rw [if_pos rfl, if_neg (by omega)]
  rw [hs] at h2 ⊢
  unfold eightB
  by_cases c1 : a < 128
  · rw [if_pos c1] at h2; omega
  rw [if_neg c1] at h2 ⊢
  rw [if_neg c1]
  by_cases c2 : a < 2048
  · rw [if_pos c2] at h2 ⊢
    rw [if_pos c2]
    obtain rfl : i = 0 := by omega
    simp [shr0]
  rw [if_neg c2] at h2 ⊢
  rw [if_neg c2]
  by_cases c3 : a < 65536
  · rw [if_pos c3] at h2 ⊢
    rw [if_pos c3]
    have : i = 0 ∨ i = 1 := by omega
    rcases this with rfl | rfl
    · simp [shr0]
    · simp [shr6]
  rw [if_neg c3] at h2 ⊢
  rw [if_neg c3]
  have : i = 0 ∨ i = 1 ∨ i = 2 := by omega
  rcases this with rfl | rfl | rfl
  · simp [shr0]
  · simp [shr6]
  · simp [shr12]

theorem c_eight_put {n : Nat} {out : Sl} {l : List Int} {a : Int} (ho : OwnL n .u8 h out l) (hn : n ≤ h.size) (hf : 0 < sizeF 1 a) (hroom : l.length + 4 ≤ 140737488355328) :
    GivesN n P (F_eight_put S () out a) [.one .sl] h (Put1 n out h 1 l a) := by
  have ha := (fits_iff 1 a).1 hf
  have hle := sizeF_le 1 a
  unfold F_eight_put GivesN
  refine s_alloc0 fun h1 e1 => s_load0 (wp_call (c_eight_size a) fun x h2 e2 hx => ?_)
  have hx : x.1 = sizeF 1 a := hx
  rw [hx]
  have e12 := e1.trans e2
  have ho2 := ho.ext e12
  have hn2 : n ≤ h2.size := by have := e12.size; omega
  refine wp_ifB (fun hc => ?_) fun hc => ?_
  · rw [ltI_iff] at hc
    refine s_push ho2 hn2 (range_u8 _) (by omega) (by omega) fun y h3 k3 o3 u3 b3 => s_ret ⟨rfl, Keep.trans (e12.keep hn) k3, (y, ()), rfl, ?_, Grew.pre e12 ⟨u3, b3⟩⟩
    have : putF 1 a = [wrapI .u8 (subI .i64 (-1) a)] := by
      rw [sub_ok (by omega) (by omega), byte_ok (by omega) (by omega)]; unfold putF; rw [if_pos hc]
    show OwnL n .u8 h3 y (l ++ putF 1 a)
    rw [this]; exact o3
  rw [ltI_not] at hc
  have hs : sizeF 1 a = if a < 128 then 1 else if a < 2048 then 2 else if a < 65536 then 3 else 4 := by
    unfold sizeF; rw [if_pos rfl, if_neg (by omega)]
  have hput : putF 1 a = eightB a := by unfold putF; rw [if_neg (by omega), if_pos rfl]
  refine wp_ifB (fun h1' => ?_) fun h1' => ?_
  · rw [eqI_iff] at h1'
    refine s_push ho2 hn2 (range_u8 _) (by omega) (by omega) fun y h3 k3 o3 u3 b3 => s_ret ⟨rfl, Keep.trans (e12.keep hn) k3, (y, ()), rfl, ?_, Grew.pre e12 ⟨u3, b3⟩⟩
    have h128 : a < 128 := by rw [h1'] at hs; (repeat' split at hs) <;> omega
    have : putF 1 a = [wrapI .u8 a] := by rw [hput, byte_ok (by omega) (by omega)]; unfold eightB; rw [if_pos h128]
    show OwnL n .u8 h3 y (l ++ putF 1 a)
    rw [this]; exact o3
  rw [eqI_not] at h1'
  have h128 : ¬ a < 128 := fun hlt => h1' (by rw [hs, if_pos hlt])
  have hlen := eightB_len hf hc
  refine s_allocL (k := .u8) [0, 0, 0, 0, 0] (bytes_fit rfl) (by simp) fun h3 e3 o3 => ?_
  refine s_storeL (l := [0, 0, 0, 0, 0]) [0, 0, 192, 224, 240] o3 rfl (bytes_fit rfl) fun h4 o4 u4 z4 => ?_
  have e34 : Ext h2 h4 := Keep.trans e3 (Upd.ext_of u4 (by intro x hx; cases hx; exact Nat.le_refl _) e3.size)
  have ho4 := ho2.ext e34
  have hn4 : n ≤ h4.size := by have := e34.size; omega
  have e14 := e12.trans e34
  refine s_grd (inB_ok (by omega) (by omega)) ?_
  have hload : ∀ {K : Int → Prog} {Q}, wp P (K ([0, 0, 192, 224, 240].getD (sizeF 1 a).toNat 0)) h4 Q → wp P (.load (.one (.int .u8)) (shiftTo (Option.some ⟨h2.size, 0, none⟩) (mulN (toN (sizeF 1 a)) 1)) K) h4 Q := by
    intro K Q hk
    rw [mulN_def, toN_def, Nat.mul_one]
    exact s_loadL o4.lst (by simp; omega) hk
  refine hload ?_
  have hmul : mulI .i64 6 (subI .i64 (sizeF 1 a) 1) = 6 * (sizeF 1 a - 1) := by
    rw [sub_ok (by omega) (by omega), mul_ok (by omega) (by omega)]
  rw [hmul]
  refine s_grd (notB_iff.2 (ltI_not.2 (by omega))) ?_
  have hfst : orI .u8 ([0, 0, 192, 224, 240].getD (sizeF 1 a).toNat 0) (wrapI .u8 (shrI .i64 a (6 * (sizeF 1 a - 1)))) = (eightB a).getD 0 0 := by
    rw [hs]
    unfold eightB
    rw [if_neg h128, if_neg h128]
    by_cases c2 : a < 2048
    · rw [if_pos c2, if_pos c2]
      have : shrI .i64 a (6 * (2 - 1)) = a / 64 := shr6 a
      rw [this, byte_ok (by omega) (by omega)]
      exact or8_join 6 (by decide) (by decide) (by decide) (by omega) (by simp; omega) (by decide)
    rw [if_neg c2, if_neg c2]
    by_cases c3 : a < 65536
    · rw [if_pos c3, if_pos c3]
      have : shrI .i64 a (6 * (3 - 1)) = a / 4096 := shr12 a
      rw [this, byte_ok (by omega) (by omega)]
      exact or8_join 4 (by decide) (by decide) (by decide) (by omega) (by simp; omega) (by decide)
    rw [if_neg c3, if_neg c3]
    have : shrI .i64 a (6 * (4 - 1)) = a / 262144 := shr18 a
    rw [this, byte_ok (by omega) (by omega)]
    exact or8_join 4 (by decide) (by decide) (by decide) (by omega) (by simp; omega) (by decide)
  rw [hfst]
  have hpos : 0 < (eightB a).length := by omega
  have hbyte : ∀ x, x ∈ eightB a → fitsI .u8 x := by
    intro x hx
    rw [fits_u8]
    unfold eightB at hx
    (repeat' split at hx) <;> simp at hx <;> omega
  have hgf : ∀ i, fitsI .u8 ((eightB a).getD i 0) := by
    intro i
    rw [List.getD_eq_getElem?_getD]
    cases hi : (eightB a)[i]? with
    | none => exact fits_zero _
    | some x => exact hbyte x (List.mem_of_getElem? hi)
  refine s_push ho4 hn4 (hgf 0) (by omega) (by omega) fun y h5 k5 o5 u5 b5 => ?_
  have k05 := Keep.trans (e14.keep hn) k5
  refine wp_while (fun (s : Sl × Int × Unit) h' => Keep n h h' ∧ -1 ≤ s.2.1 ∧ s.2.1 ≤ sizeF 1 a - 2 ∧ OwnL n .u8 h' s.1 (l ++ (eightB a).take (sizeF 1 a - 1 - s.2.1).toNat) ∧ Grew out h h' s.1) (fun s _ => (s.2.1 + 1).toNat)
    (fun t vs h' => t = 2 ∧ ∃ x : Sl × Unit, vs = Ts.inj [.one .sl] x ∧ Keep n h h' ∧ OwnL n .u8 h' x.1 (l ++ eightB a) ∧ Grew out h h' x.1) ⟨k05, ?_, ?_, ?_, Grew.pre e14 ⟨u5, b5⟩⟩ ?_ ?_
  · rw [sub_ok (by omega) (by omega)]; dsimp only; omega
  · rw [sub_ok (by omega) (by omega)]; dsimp only; omega
  · rw [sub_ok (by omega) (by omega), show (sizeF 1 a - 1 - (sizeF 1 a - 2)).toNat = 1 by omega]
    have : (eightB a).take 1 = [(eightB a).getD 0 0] := by
      match hm : eightB a with
      | [] => rw [hm] at hpos; simp at hpos
      | z :: r => rfl
    rw [this]; exact o5
  · rintro ⟨s, (i : Int), u⟩ h' ⟨k, i0, i1, o, g⟩
    dsimp only at i0 i1 o ⊢
    refine wp_ifB (fun hi => ?_) fun hi => ?_
    · rw [geI_iff] at hi
      rw [mul_ok (by omega) (by omega)]
      refine s_grd (notB_iff.2 (ltI_not.2 (by omega))) ?_
      have hv : orI .u8 128 (andI .u8 (wrapI .u8 (shrI .i64 a (6 * i))) 63) = (eightB a).getD (sizeF 1 a - 1 - i).toNat 0 := by
        rw [eightB_at hf hc i hi i1, byte_mod, and8_63 (by omega) (by omega)]
        have := or8_join (a := 128) (b := shrI .i64 a (6 * i) % 256 % 64) 6 (by decide) (by decide) (by decide) (by omega) (by simp; omega) (by decide)
        rw [this]; omega
      rw [hv]
      have hlt : ((eightB a).take (sizeF 1 a - 1 - i).toNat).length ≤ 3 := by rw [List.length_take]; omega
      refine s_push o (by have := k.1; omega) (hgf _) (by rw [List.length_append]; omega) (by rw [List.length_append]; omega) fun z h6 k6 o6 u6 b6 => ?_
      rw [sub_ok (by omega) (by omega)]
      refine s_ret ⟨fun _ => ⟨(z, i - 1, ()), rfl, ⟨Keep.trans k k6, by dsimp only; omega, by dsimp only; omega, ?_, g.trans ⟨u6, b6⟩⟩, by dsimp only; omega⟩, fun h => absurd rfl h⟩
      dsimp only
      rw [show (sizeF 1 a - 1 - (i - 1)).toNat = (sizeF 1 a - 1 - i).toNat + 1 by omega]
      have : (eightB a).take ((sizeF 1 a - 1 - i).toNat + 1) = (eightB a).take (sizeF 1 a - 1 - i).toNat ++ [(eightB a).getD (sizeF 1 a - 1 - i).toNat 0] := by
        rw [List.take_add_one, List.getD_eq_getElem?_getD, List.getElem?_eq_getElem (by omega)]; rfl
      rw [this, ← List.append_assoc]; exact o6
    · rw [geI_not] at hi
      refine s_ret ⟨fun h => absurd h (by decide), fun _ => ⟨rfl, (s, ()), rfl, k, ?_, g⟩⟩
      rw [List.take_of_length_le (by omega)] at o
      exact o
  · rintro t vs h6 ⟨ht, x, hv, k6, o6, g6⟩
    refine s_exit ht x hv (s_ret ⟨rfl, k6, x, rfl, ?_, g6⟩)
    rw [hput]; exact o6
end Go.Sw.Codec
