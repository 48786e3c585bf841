/-
  Codec: the document's bytes of an atom; Fits and Size are alike.
-/
import Derived.Test.YtfgknhffpccamaaSwC1
set_option linter.unusedVariables false
set_option linter.unusedSimpArgs false
set_option maxRecDepth 100000
namespace Go.Sw.Codec
variable {P : Program} {S : Ids} {h : Heap} {Q : Nat → List Value → Heap → Prop}

theorem quo64 {a b : Int} (h0 : 0 ≤ a) (hb : 0 < b) (h1 : a < 2 ^ 63) : quoI .i64 a b = a / b := by
  unfold quoI
  rw [Int.tdiv_eq_ediv_of_nonneg h0, IntKind.wrap_i64]
  have : 0 ≤ a / b := Int.ediv_nonneg h0 (by omega)
  have : a / b ≤ a := Int.ediv_le_self b h0
  omega
theorem rem64 {k : IntKind} {a b : Int} (h0 : 0 ≤ a) : remI k a b = a % b := by
  unfold remI; exact Int.tmod_eq_emod_of_nonneg h0
theorem byte_is (a : Int) : wrapI .u8 a = a % 256 := by unfold wrapI; exact IntKind.wrap_u8' a

def eightB (a : Int) : List Int :=
  if a < 128 then [a] else if a < 2048 then [192 + a / 64, 128 + a % 64] else if a < 65536 then [224 + a / 4096, 128 + a / 64 % 64, 128 + a % 64]
  else [240 + a / 262144, 128 + a / 4096 % 64, 128 + a / 64 % 64, 128 + a % 64]
def unitB (enc u : Int) : List Int := if enc = 2 then [u % 256, u / 256] else [u / 256, u % 256]
def putF (enc a : Int) : List Int :=
  if a < 0 then [-1 - a] else if enc = 1 then eightB a else if enc = 4 then [a]
  else if 65536 ≤ a then unitB enc (55296 + (a - 65536) / 1024) ++ unitB enc (56320 + a % 1024) else unitB enc a

theorem putF_len {enc a : Int} (hf : 0 < sizeF enc a) : ((putF enc a).length : Int) = sizeF enc a := by
  rw [fits_iff] at hf
  unfold putF eightB unitB sizeF
  (repeat' split) <;> simp_all <;> omega

/-- It lies in new memory. -/
def Frsh (n : Nat) (s : Sl) : Prop := ∀ a, s.base = some a → n ≤ a.block
theorem frsh_new {n m c : Nat} : Frsh n ⟨some ⟨n, 0, none⟩, m, c⟩ := fun a ha => by cases ha; exact Nat.le_refl _

theorem c_ref_eight {a : Int} (h0 : 0 ≤ a) (h1 : a ≤ 1114111) : Gives P (F_ref1_eight S a) [.one .sl] h fun (x : Sl × Unit) h' => Ints .u8 h' x.1 (eightB a) ∧ Frsh h.size x.1 := by
  unfold F_ref1_eight Gives
  have q1 := quo64 (a := a) (b := 64) h0 (by decide) (by omega)
  have q2 := quo64 (a := a) (b := 4096) h0 (by decide) (by omega)
  have q3 := quo64 (a := a) (b := 262144) h0 (by decide) (by omega)
  have r1 := rem64 (k := .i64) (a := a) (b := 64) h0
  have r2 := rem64 (k := .i64) (a := a / 64) (b := 64) (by omega)
  have r3 := rem64 (k := .i64) (a := a / 4096) (b := 64) (by omega)
  simp only [q1, q2, q3, r1, r2, r3, byte_is]
  repeat' first
    | with_reducible refine s_ret ?_ | with_reducible refine s_bind ?_ | with_reducible refine s_tag ?_ | with_reducible refine s_tagNo rfl ?_ | with_reducible refine s_castB ?_ | with_reducible refine s_castI ?_ | with_reducible refine s_castS ?_ | with_reducible refine s_castII ?_ | with_reducible refine s_cast0 ?_
    | with_reducible refine s_ifT ?_ | with_reducible refine s_ifF ?_ | with_reducible refine s_not ?_ | with_reducible refine s_alloc (fun _ => ?_) | with_reducible refine wp_ifB (fun hc => ?_) (fun hc => ?_)
  all_goals refine ⟨rfl, Ext.push .., (⟨_, _, _⟩, ()), rfl, ?_⟩
  all_goals simp only [ltI_iff, gtI_iff, geI_iff, leI_iff, eqI_iff, neI_iff, notB_iff, ltI_not, gtI_not, geI_not, leI_not, eqI_not, neI_not, notB_not] at *
  · have : eightB a = [a % 256] := by unfold eightB; rw [if_pos (by omega)]; congr 1; omega
    rw [this]; exact ⟨rd_alloc rfl, frsh_new⟩
  · have : eightB a = [addI .i64 192 (a / 64) % 256, addI .i64 128 (a % 64) % 256] := by
      rw [add64 (by omega) (by omega), add64 (by omega) (by omega)]
      unfold eightB; rw [if_neg (by omega), if_pos (by omega)]; congr 1; omega; congr 1; omega
    rw [this]; exact ⟨rd_alloc rfl, frsh_new⟩
  · have : eightB a = [addI .i64 224 (a / 4096) % 256, addI .i64 128 (a / 64 % 64) % 256, addI .i64 128 (a % 64) % 256] := by
      rw [add64 (by omega) (by omega), add64 (by omega) (by omega), add64 (by omega) (by omega)]
      unfold eightB; rw [if_neg (by omega), if_neg (by omega), if_pos (by omega)]; congr 1; omega; congr 1; omega; congr 1; omega
    rw [this]; exact ⟨rd_alloc rfl, frsh_new⟩
  · have : eightB a = [addI .i64 240 (a / 262144) % 256, addI .i64 128 (a / 4096 % 64) % 256, addI .i64 128 (a / 64 % 64) % 256, addI .i64 128 (a % 64) % 256] := by
      rw [add64 (by omega) (by omega), add64 (by omega) (by omega), add64 (by omega) (by omega), add64 (by omega) (by omega)]
      unfold eightB; rw [if_neg (by omega), if_neg (by omega), if_neg (by omega)]; congr 1; omega; congr 1; omega; congr 1; omega; congr 1; omega
    rw [this]; exact ⟨rd_alloc rfl, frsh_new⟩

theorem c_ref_unit {enc u : Int} (h0 : 0 ≤ u) (h1 : u < 65536) : Gives P (F_ref1_unit S enc u) [.one .sl] h fun (x : Sl × Unit) h' => Ints .u8 h' x.1 (unitB enc u) ∧ Frsh h.size x.1 := by
  unfold F_ref1_unit Gives
  have q1 := quo64 (a := u) (b := 256) h0 (by decide) (by omega)
  have r1 := rem64 (k := .i64) (a := u) (b := 256) h0
  simp only [q1, r1, byte_is]
  repeat' first
    | with_reducible refine s_ret ?_ | with_reducible refine s_bind ?_ | with_reducible refine s_tag ?_ | with_reducible refine s_tagNo rfl ?_ | with_reducible refine s_castB ?_ | with_reducible refine s_castI ?_ | with_reducible refine s_castS ?_ | with_reducible refine s_castII ?_ | with_reducible refine s_cast0 ?_
    | with_reducible refine s_ifT ?_ | with_reducible refine s_ifF ?_ | with_reducible refine s_not ?_ | with_reducible refine s_alloc (fun _ => ?_) | with_reducible refine wp_ifB (fun hc => ?_) (fun hc => ?_)
  all_goals refine ⟨rfl, Ext.push .., (⟨_, _, _⟩, ()), rfl, ?_⟩
  all_goals simp only [ltI_iff, gtI_iff, geI_iff, leI_iff, eqI_iff, neI_iff, notB_iff, ltI_not, gtI_not, geI_not, leI_not, eqI_not, neI_not, notB_not] at *
  · have : unitB enc u = [u % 256 % 256, u / 256 % 256] := by unfold unitB; rw [if_pos hc]; congr 1; omega; congr 1; omega
    rw [this]; exact ⟨rd_alloc rfl, frsh_new⟩
  · have : unitB enc u = [u / 256 % 256, u % 256 % 256] := by unfold unitB; rw [if_neg hc]; congr 1; omega; congr 1; omega
    rw [this]; exact ⟨rd_alloc rfl, frsh_new⟩

theorem unitB_len (enc u : Int) : (unitB enc u).length = 2 := by unfold unitB; split <;> rfl

theorem wp_at0 {k : IntKind} {s : Sl} {l : List Int} {K : Int → Prog} {n : Nat} (hr : Ints k h s l) (h1 : n < l.length) (hk : wp P (K (l.getD n 0)) h Q) :
    wp P (grd (andB (someB s.base) (inB (n : Int) s.len)) (.load (.one (.int k)) (shiftTo s.base n) K)) h Q := by
  have := wp_at (j := (n : Int)) hr (by omega) (by omega) (by simpa using hk)
  simpa [mulN_def, toN_def] using this

theorem c_ref_Put {enc a : Int} (hf : 0 < sizeF enc a) : Gives P (F_ref1_Put S enc a) [.one .sl] h fun (x : Sl × Unit) h' => Ints .u8 h' x.1 (putF enc a) ∧ Frsh h.size x.1 := by
  rw [fits_iff] at hf
  unfold F_ref1_Put Gives
  refine wp_ifB (fun hc => ?_) fun hc => ?_
  · rw [ltI_iff] at hc
    refine s_alloc fun el => ⟨rfl, Ext.push .., (⟨_, _, _⟩, ()), rfl, ?_⟩
    have : putF enc a = [wrapI .u8 (subI .i64 (-1) a)] := by
      rw [sub64 (by omega) (by omega), byte_is]; unfold putF; rw [if_pos hc]; congr 1; omega
    rw [this]; exact ⟨rd_alloc rfl, frsh_new⟩
  rw [ltI_not] at hc
  refine wp_ifB (fun h1 => ?_) fun h1 => ?_
  · rw [eqI_iff] at h1
    refine wp_call (c_ref_eight hc (by omega)) fun x h1' e1 hx => ⟨rfl, e1, x, rfl, ?_⟩
    have : putF enc a = eightB a := by unfold putF; rw [if_neg (by omega), if_pos h1]
    show Ints .u8 h1' x.1 (putF enc a) ∧ Frsh h.size x.1
    rw [this]; exact hx
  rw [eqI_not] at h1
  refine wp_ifB (fun h2 => ?_) fun h2 => ?_
  · rw [eqI_iff] at h2
    refine s_alloc fun el => ⟨rfl, Ext.push .., (⟨_, _, _⟩, ()), rfl, ?_⟩
    have : putF enc a = [wrapI .u8 a] := by
      rw [byte_is]; unfold putF; rw [if_neg (by omega), if_neg h1, if_pos h2]; congr 1; omega
    rw [this]; exact ⟨rd_alloc rfl, frsh_new⟩
  rw [eqI_not] at h2
  refine wp_ifB (fun h3 => ?_) fun h3 => ?_
  · rw [geI_iff] at h3
    have q1 : addI .i64 55296 (quoI .i64 (subI .i64 a 65536) 1024) = 55296 + (a - 65536) / 1024 := by
      rw [sub64 (by omega) (by omega), quo64 (by omega) (by decide) (by omega), add64 (by omega) (by omega)]
    have q2 : addI .i64 56320 (remI .i64 a 1024) = 56320 + a % 1024 := by
      rw [rem64 hc, add64 (by omega) (by omega)]
    rw [q1, q2]
    refine s_not (wp_call (c_ref_unit (by omega) (by omega)) fun x h4 e4 ⟨hx, _⟩ => s_not (wp_call (c_ref_unit (by omega) (by omega)) fun y h5 e5 ⟨hy, _⟩ => ?_))
    have hx' := e5.ints hx
    have l1 := unitB_len enc (55296 + (a - 65536) / 1024)
    have l2 := unitB_len enc (56320 + a % 1024)
    refine wp_at0 (n := 0) hx' (by omega) (wp_at0 (n := 1) hx' (by omega) (wp_at0 (n := 0) hy (by omega) (wp_at0 (n := 1) hy (by omega) ?_)))
    refine s_alloc fun el => ⟨rfl, (e4.trans e5).trans (Ext.push ..), (⟨_, _, _⟩, ()), rfl, ?_⟩
    show Ints .u8 _ _ (putF enc a) ∧ Frsh h.size _
    have : putF enc a = unitB enc (55296 + (a - 65536) / 1024) ++ unitB enc (56320 + a % 1024) := by
      unfold putF; rw [if_neg (by omega), if_neg h1, if_neg h2, if_pos h3]
    rw [this]
    generalize unitB enc (55296 + (a - 65536) / 1024) = u at l1
    generalize unitB enc (56320 + a % 1024) = v at l2
    match u, v, l1, l2 with
    | [p, q], [r, s], _, _ => exact ⟨rd_alloc rfl, fun a ha => by cases ha; exact Nat.le_trans e4.1 e5.1⟩
  · rw [geI_not] at h3
    refine wp_call (c_ref_unit hc h3) fun x h1' e1 hx => ⟨rfl, e1, x, rfl, ?_⟩
    have : putF enc a = unitB enc a := by unfold putF; rw [if_neg (by omega), if_neg h1, if_neg h2, if_neg (by omega)]
    show Ints .u8 h1' x.1 (putF enc a) ∧ Frsh h.size x.1
    rw [this]; exact hx

theorem c_ref_Size (enc a : Int) : Gives P (F_ref1_Size S enc a) [.one (.int .i64)] h fun (x : Int × Unit) h' => x.1 = sizeF enc a := by
  unfold F_ref1_Size
  refine wp_call (c_ref_Fits enc a) fun ⟨x, _⟩ h1 e1 hx => ?_
  have hx : x = decide (0 < sizeF enc a) := hx
  subst hx
  have hp := sizeF_pos enc a
  refine wp_ifB (fun hc => ?_) fun hc => ?_
  · rw [notB_iff] at hc
    have : ¬ 0 < sizeF enc a := of_decide_eq_false hc
    exact ⟨rfl, e1, (0, ()), rfl, by show 0 = sizeF enc a; omega⟩
  · rw [notB_not] at hc
    have hf : 0 < sizeF enc a := of_decide_eq_true hc
    refine wp_call (c_ref_Put hf) fun ⟨y, _⟩ h2 e2 ⟨hy, _⟩ => ⟨rfl, e1.trans e2, (natI y.len, ()), rfl, ?_⟩
    show natI y.len = sizeF enc a
    rw [natI_def, Ints.len hy, putF_len hf]

theorem c_sized (M : Sizes P S) (enc a : Int) : Gives P (F_law1_sized S enc a) [.one .bool] h fun (x : Bool × Unit) h' => x.1 = true := by
  unfold F_law1_sized Gives
  refine s_bind (wp_call (c_Fits M enc a) fun ⟨x, _⟩ h1 e1 hx => wp_call (c_ref_Fits enc a) fun ⟨y, _⟩ h2 e2 hy => ?_)
  have hxy : x = y := (show x = _ from hx).trans (show y = _ from hy).symm
  subst hxy
  refine wp_ifB (fun _ => ?_) fun hc => by simp [eqB] at hc
  refine wp_call (c_Size M enc a) fun ⟨u, _⟩ h3 e3 hu => wp_call (c_ref_Size enc a) fun ⟨v, _⟩ h4 e4 hv => ?_
  have huv : u = v := (show u = _ from hu).trans (show v = _ from hv).symm
  subst huv
  refine s_ret (s_tag (s_castB ⟨rfl, ((e1.trans e2).trans e3).trans e4, (true, ()), ?_, rfl⟩))
  have : eqI u u = true := eqI_iff.2 rfl
  rw [this]; rfl

theorem c_CodecSizes (M : Sizes P S) (enc a : Int) : Gives P (F_law1_CodecSizes S enc a) [.one .bool] h fun (x : Bool × Unit) h' => x.1 = true := by
  unfold F_law1_CodecSizes Gives
  refine s_bind (wp_call (c_sized M 1 233) fun ⟨x, _⟩ h1 e1 hx => wp_ifB (fun _ => ?_) fun hc => no_tf hx hc)
  refine wp_call (c_sized M enc a) fun ⟨y, _⟩ h2 e2 hy => s_ret (s_tag (s_castB ⟨rfl, e1.trans e2, (y, ()), rfl, hy⟩))

end Go.Sw.Codec
