/-
  Codec: sizes: what Fits and Size answer, the program's and the document's.
-/
import Derived.Test.YtfgknhffpccamaaSwFcodec
import Derived.Test.YtfgknhffpccamaaSwU2
set_option linter.unusedVariables false
set_option linter.unusedSimpArgs false
set_option maxRecDepth 100000
namespace Go.Sw.Codec
variable {P : Program} {S : Ids} {h : Heap} {Q : Nat → List Value → Heap → Prop}

/-- How many bytes an atom has; 0: it does not fit. -/
def sizeF (enc a : Int) : Int :=
  if enc = 1 then (if a < -256 ∨ (-129 < a ∧ a < 0) ∨ 1114111 < a ∨ (55296 ≤ a ∧ a ≤ 57343) then 0 else if a < 128 then 1 else if a < 2048 then 2 else if a < 65536 then 3 else 4)
  else if enc = 2 ∨ enc = 3 then (if a < -256 ∨ 1114111 < a then 0 else if a < 0 then 1 else if a < 65536 then 2 else 4)
  else if enc = 4 then (if a < 0 ∨ 255 < a then 0 else 1)
  else 0

theorem sizeF_pos (enc a : Int) : 0 ≤ sizeF enc a := by unfold sizeF; repeat' split
                                                        all_goals omega

/-- The coder of an encoding, as a value. -/
def coder (S : Ids) (enc : Int) : Value :=
  if enc = 1 then .iface S.t_codec_eight (.agg #[])
  else if enc = 2 then .iface S.t_codec_sixteen (.agg #[.int .i64 0])
  else if enc = 3 then .iface S.t_codec_sixteen (.agg #[.int .i64 1])
  else if enc = 4 then .iface S.t_codec_latin (.agg #[])
  else .nilIface

theorem c_of (enc : Int) : Gives P (F_codec_of S enc) [.one .any] h fun (x : Value × Unit) h' => x.1 = coder S enc := by
  refine gives_pure (coder S enc, ()) (fun Q hq => ?_) fun _ => rfl
  unfold F_codec_of coder at *
  simp only [e_if, e_ret, eqI_iff]
  have := hq h (Ext.refl h)
  repeat' split
  all_goals simp_all [Ts.inj, Ty.inj, B.inj]

/-- The methods that the coders have. -/
structure Sizes (P : Program) (S : Ids) : Prop where
  eight : ∀ a, Inv P (.iface S.t_codec_eight (.agg #[])) S.m_size [.int .i64 a] (F_eight_size S () a)
  sixteen : ∀ r a, Inv P (.iface S.t_codec_sixteen (.agg #[.int .i64 r])) S.m_size [.int .i64 a] (F_sixteen_size S (r, ()) a)
  latin : ∀ a, Inv P (.iface S.t_codec_latin (.agg #[])) S.m_size [.int .i64 a] (F_latin_size S () a)

theorem c_eight_size (a : Int) : Gives P (F_eight_size S () a) [.one (.int .i64)] h fun (x : Int × Unit) h' => x.1 = sizeF 1 a := by
  unfold F_eight_size Gives
  repeat' first
    | with_reducible refine s_ret ?_ | with_reducible refine s_bind ?_ | with_reducible refine s_tag ?_ | with_reducible refine s_tagNo rfl ?_ | with_reducible refine s_castB ?_ | with_reducible refine s_castI ?_ | with_reducible refine s_castS ?_ | with_reducible refine s_castII ?_ | with_reducible refine s_cast0 ?_
    | with_reducible refine s_ifT ?_ | with_reducible refine s_ifF ?_ | with_reducible refine s_not ?_ | with_reducible refine s_alloc (fun _ => ?_) | with_reducible refine wp_ifB (fun hc => ?_) (fun hc => ?_)
  all_goals (refine ⟨rfl, Ext.push .., (_, ()), rfl, ?_⟩; show _ = sizeF 1 a)
  all_goals simp only [ltI_iff, gtI_iff, geI_iff, leI_iff, eqI_iff, neI_iff, notB_iff, ltI_not, gtI_not, geI_not, leI_not, eqI_not, neI_not, notB_not] at *
  all_goals (unfold sizeF; simp only [if_true])
  all_goals first | (rw [if_pos (by omega)]; done) | rw [if_neg (by omega)]
  all_goals (repeat' split) <;> omega

theorem c_sixteen_size (r a enc : Int) (he : enc = 2 ∨ enc = 3) : Gives P (F_sixteen_size S (r, ()) a) [.one (.int .i64)] h fun (x : Int × Unit) h' => x.1 = sizeF enc a := by
  unfold F_sixteen_size Gives
  repeat' first
    | with_reducible refine s_ret ?_ | with_reducible refine s_bind ?_ | with_reducible refine s_tag ?_ | with_reducible refine s_tagNo rfl ?_ | with_reducible refine s_castB ?_ | with_reducible refine s_castI ?_ | with_reducible refine s_castS ?_ | with_reducible refine s_castII ?_ | with_reducible refine s_cast0 ?_
    | with_reducible refine s_ifT ?_ | with_reducible refine s_ifF ?_ | with_reducible refine s_not ?_ | with_reducible refine s_alloc (fun _ => ?_) | with_reducible refine wp_ifB (fun hc => ?_) (fun hc => ?_)
  all_goals (refine ⟨rfl, Ext.push .., (_, ()), rfl, ?_⟩; show _ = sizeF enc a)
  all_goals simp only [ltI_iff, gtI_iff, geI_iff, leI_iff, eqI_iff, neI_iff, notB_iff, ltI_not, gtI_not, geI_not, leI_not, eqI_not, neI_not, notB_not] at *
  all_goals (unfold sizeF; rw [if_neg (by omega), if_pos he]; (repeat' split) <;> omega)

theorem c_latin_size (a : Int) : Gives P (F_latin_size S () a) [.one (.int .i64)] h fun (x : Int × Unit) h' => x.1 = sizeF 4 a := by
  unfold F_latin_size Gives
  repeat' first
    | with_reducible refine s_ret ?_ | with_reducible refine s_bind ?_ | with_reducible refine s_tag ?_ | with_reducible refine s_tagNo rfl ?_ | with_reducible refine s_castB ?_ | with_reducible refine s_castI ?_ | with_reducible refine s_castS ?_ | with_reducible refine s_castII ?_ | with_reducible refine s_cast0 ?_
    | with_reducible refine s_ifT ?_ | with_reducible refine s_ifF ?_ | with_reducible refine s_not ?_ | with_reducible refine s_alloc (fun _ => ?_) | with_reducible refine wp_ifB (fun hc => ?_) (fun hc => ?_)
  all_goals (refine ⟨rfl, Ext.push .., (_, ()), rfl, ?_⟩; show _ = sizeF 4 a)
  all_goals simp only [ltI_iff, gtI_iff, geI_iff, leI_iff, eqI_iff, neI_iff, notB_iff, ltI_not, gtI_not, geI_not, leI_not, eqI_not, neI_not, notB_not] at *
  all_goals (simp only [sizeF, Int.reduceEq, if_false, or_self, if_true]; (repeat' split) <;> omega)

theorem c_Size (M : Sizes P S) (enc a : Int) : Gives P (F_codec_Size S enc a) [.one (.int .i64)] h fun (x : Int × Unit) h' => x.1 = sizeF enc a := by
  unfold F_codec_Size
  refine wp_call (c_of enc) fun x h1 e1 hx => ?_
  have hx : x.1 = coder S enc := hx
  simp only [hx]
  unfold coder
  by_cases h1' : enc = 1
  · subst h1'
    simp only [if_true, e_grd, e_if, isIface, isNilIface, Bool.false_eq_true, if_false, true_and]
    refine wp_inv (M.eight a) (c_eight_size a) fun y h2 e2 hy => ⟨rfl, e1.trans e2, (y.1, ()), rfl, hy⟩
  by_cases h2' : enc = 2
  · subst h2'
    simp only [if_true, e_grd, e_if, isIface, isNilIface, Bool.false_eq_true, if_false, true_and, Int.reduceEq]
    refine wp_inv (M.sixteen 0 a) (c_sixteen_size 0 a 2 (by simp)) fun y h2 e2 hy => ⟨rfl, e1.trans e2, (y.1, ()), rfl, hy⟩
  by_cases h3' : enc = 3
  · subst h3'
    simp only [if_true, e_grd, e_if, isIface, isNilIface, Bool.false_eq_true, if_false, true_and, Int.reduceEq]
    refine wp_inv (M.sixteen 1 a) (c_sixteen_size 1 a 3 (by simp)) fun y h2 e2 hy => ⟨rfl, e1.trans e2, (y.1, ()), rfl, hy⟩
  by_cases h4' : enc = 4
  · subst h4'
    simp only [if_true, e_grd, e_if, isIface, isNilIface, Bool.false_eq_true, if_false, true_and, Int.reduceEq]
    refine wp_inv (M.latin a) (c_latin_size a) fun y h2 e2 hy => ⟨rfl, e1.trans e2, (y.1, ()), rfl, hy⟩
  · simp only [h1', h2', h3', h4', if_false, e_grd, e_if, isIface, isNilIface, if_true, true_and, e_ret]
    refine ⟨e1, (0, ()), rfl, ?_⟩
    show 0 = sizeF enc a
    simp [sizeF, h1', h2', h3', h4']

theorem c_Fits (M : Sizes P S) (enc a : Int) : Gives P (F_codec_Fits S enc a) [.one .bool] h fun (x : Bool × Unit) h' => x.1 = decide (0 < sizeF enc a) := by
  unfold F_codec_Fits
  refine wp_call (c_Size M enc a) fun x h1 e1 hx => ⟨rfl, e1, (gtI x.1 0, ()), rfl, ?_⟩
  have hx : x.1 = sizeF enc a := hx
  show gtI x.1 0 = _
  rw [hx]; simp [gtI]

theorem c_ref_Scalar (a : Int) : Gives P (F_ref1_Scalar S a) [.one .bool] h fun (x : Bool × Unit) h' => x.1 = decide ((0 ≤ a ∧ a < 55296) ∨ (57343 < a ∧ a ≤ 1114111)) := by
  unfold F_ref1_Scalar Gives
  repeat' first
    | with_reducible refine s_ret ?_ | with_reducible refine s_bind ?_ | with_reducible refine s_tag ?_ | with_reducible refine s_tagNo rfl ?_ | with_reducible refine s_castB ?_ | with_reducible refine s_castI ?_ | with_reducible refine s_castS ?_ | with_reducible refine s_castII ?_ | with_reducible refine s_cast0 ?_
    | with_reducible refine s_ifT ?_ | with_reducible refine s_ifF ?_ | with_reducible refine s_not ?_ | with_reducible refine s_alloc (fun _ => ?_) | with_reducible refine wp_ifB (fun hc => ?_) (fun hc => ?_)
  all_goals (refine ⟨rfl, Ext.refl _, (_, ()), rfl, ?_⟩; show _ = decide _)
  all_goals simp only [ltI_iff, gtI_iff, geI_iff, leI_iff, eqI_iff, neI_iff, notB_iff, ltI_not, gtI_not, geI_not, leI_not, eqI_not, neI_not, notB_not] at *
  all_goals ((try unfold leI); simp only [decide_eq_decide, Bool.true_eq, Bool.false_eq, decide_eq_true_eq, decide_eq_false_iff_not]; try omega)

/-- The document's answer to what fits. -/
theorem fits_iff (enc a : Int) : 0 < sizeF enc a ↔ (enc = 1 ∧ ((0 ≤ a ∧ a < 55296) ∨ (57343 < a ∧ a ≤ 1114111) ∨ (-256 ≤ a ∧ a ≤ -129))) ∨ ((enc = 2 ∨ enc = 3) ∧ -256 ≤ a ∧ a ≤ 1114111) ∨ (enc = 4 ∧ 0 ≤ a ∧ a ≤ 255) := by
  unfold sizeF
  (repeat' split) <;> omega

theorem c_ref_Fits (enc a : Int) : Gives P (F_ref1_Fits S enc a) [.one .bool] h fun (x : Bool × Unit) h' => x.1 = decide (0 < sizeF enc a) := by
  unfold F_ref1_Fits Gives
  refine s_bind ?_
  with_reducible refine wp_ifB (fun he => ?_) (fun he => ?_)
  · refine s_bind (wp_call (c_ref_Scalar a) fun x h1 e1 hx => ?_)
    obtain ⟨x, _⟩ := x
    have hx : x = decide ((0 ≤ a ∧ a < 55296) ∨ (57343 < a ∧ a ≤ 1114111)) := hx
    subst hx
    repeat' first
    | with_reducible refine s_ret ?_ | with_reducible refine s_bind ?_ | with_reducible refine s_tag ?_ | with_reducible refine s_tagNo rfl ?_ | with_reducible refine s_castB ?_ | with_reducible refine s_castI ?_ | with_reducible refine s_castS ?_ | with_reducible refine s_castII ?_ | with_reducible refine s_cast0 ?_
    | with_reducible refine s_ifT ?_ | with_reducible refine s_ifF ?_ | with_reducible refine s_not ?_ | with_reducible refine s_alloc (fun _ => ?_) | with_reducible refine wp_ifB (fun hc => ?_) (fun hc => ?_)
    all_goals (refine ⟨rfl, e1, (_, ()), rfl, ?_⟩; show _ = decide _)
    all_goals simp only [decide_eq_true_eq, decide_eq_false_iff_not] at *
    all_goals simp only [ltI_iff, gtI_iff, geI_iff, leI_iff, eqI_iff, neI_iff, notB_iff, ltI_not, gtI_not, geI_not, leI_not, eqI_not, neI_not, notB_not] at *
    all_goals ((try unfold geI); simp only [decide_eq_decide, Bool.true_eq, Bool.false_eq, decide_eq_true_eq, decide_eq_false_iff_not, fits_iff, ge_iff_le]; try omega)
  · repeat' first
    | with_reducible refine s_ret ?_ | with_reducible refine s_bind ?_ | with_reducible refine s_tag ?_ | with_reducible refine s_tagNo rfl ?_ | with_reducible refine s_castB ?_ | with_reducible refine s_castI ?_ | with_reducible refine s_castS ?_ | with_reducible refine s_castII ?_ | with_reducible refine s_cast0 ?_
    | with_reducible refine s_ifT ?_ | with_reducible refine s_ifF ?_ | with_reducible refine s_not ?_ | with_reducible refine s_alloc (fun _ => ?_) | with_reducible refine wp_ifB (fun hc => ?_) (fun hc => ?_)
    all_goals (refine ⟨rfl, Ext.refl _, (_, ()), rfl, ?_⟩; show _ = decide _)
    all_goals simp only [ltI_iff, gtI_iff, geI_iff, leI_iff, eqI_iff, neI_iff, notB_iff, ltI_not, gtI_not, geI_not, leI_not, eqI_not, neI_not, notB_not] at *
    all_goals ((try unfold leI); simp only [decide_eq_decide, Bool.true_eq, Bool.false_eq, decide_eq_true_eq, decide_eq_false_iff_not, fits_iff, ge_iff_le]; try omega)

end Go.Sw.Codec
