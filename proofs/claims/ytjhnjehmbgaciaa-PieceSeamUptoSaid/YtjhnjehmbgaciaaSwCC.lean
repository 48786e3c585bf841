/-
  Codec: sizes: what Fits and Size answer, the program's and the document's.
-/
import Derived.Test.YtjhnjehmbgaciaaSwFcodec
import Derived.Test.YtjhnjehmbgaciaaSwU2
import Derived.Test.YtjhnjehmbgaciaaSwU3
set_option linter.unusedVariables false
set_option linter.unusedSimpArgs false
set_option maxRecDepth 100000
namespace Go.Sw.Codec
variable {P : Program} {S : Ids} {h : Heap} {Q : Nat → List Value → Heap → Prop}

/-- How many bytes an atom has; 0: it does not fit. -/
def sizeF (enc a : Int) : Int :=
  if enc = 1 then (if a < -256 ∨ (-129 < a ∧ a < 0) ∨ 1114111 < a ∨ (55296 ≤ a ∧ a ≤ 57343) then 0 else if a < 128 then 1 else if a < 2048 then 2 else if a < 65536 then 3 else 4)
  else if enc = 2 ∨ enc = 3 then (if a < -256 ∨ 1114111 < a then 0 else if a < 0 then 1 else if a < 65536 then 2 else 4)
  else if enc = 4 then (if a < 0 ∨ 255 < a then 0 else 1)
  else 0

theorem sizeF_pos (enc a : Int) : 0 ≤ sizeF enc a := by unfold sizeF; repeat' split
                                                        all_goals omega

/-- The coder of an encoding, as a value. -/
def coder (S : Ids) (enc : Int) : Value :=
  if enc = 1 then .iface S.t_codec_eight (.agg #[])
  else if enc = 2 then .iface S.t_codec_sixteen (.agg #[.int .i64 0])
  else if enc = 3 then .iface S.t_codec_sixteen (.agg #[.int .i64 1])
  else if enc = 4 then .iface S.t_codec_latin (.agg #[])
  else .nilIface

theorem c_of (enc : Int) : Gives P (F_codec_of S enc) [.one .any] h fun (x : Value × Unit) h' => x.1 = coder S enc := by
  refine gives_pure (coder S enc, ()) (fun Q hq => ?_) fun _ => rfl
  unfold F_codec_of coder at *
  simp only [e_if, e_ret, eqI_iff]
  have := hq h (Ext.refl h)
  repeat' split
  all_goals simp_all [Ts.inj, Ty.inj, B.inj]

/-- The methods that the coders have. -/
structure Sizes (P : Program) (S : Ids) : Prop where
  eight : ∀ a, Inv P (.iface S.t_codec_eight (.agg #[])) S.m_size [.int .i64 a] (F_eight_size S () a)
  sixteen : ∀ r a, Inv P (.iface S.t_codec_sixteen (.agg #[.int .i64 r])) S.m_size [.int .i64 a] (F_sixteen_size S (r, ()) a)
  latin : ∀ a, Inv P (.iface S.t_codec_latin (.agg #[])) S.m_size [.int .i64 a] (F_latin_size S () a)

theorem c_eight_size (a : Int) : Gives P (F_eight_size S () a) [.one (.int .i64)] h fun (x : Int × Unit) h' => x.1 = sizeF 1 a := by
  unfold F_eight_size Gives
  repeat' first
    | with_reducible refine s_ret ?_ | with_reducible refine s_bind ?_ | with_reducible refine s_tag ?_ | with_reducible refine s_tagNo rfl ?_ | with_reducible refine s_castB ?_ | with_reducible refine s_castI ?_ | with_reducible refine s_castS ?_ | with_reducible refine s_castII ?_ | with_reducible refine s_cast0 ?_
    | with_reducible refine s_ifT ?_ | with_reducible refine s_ifF ?_ | with_reducible refine s_not ?_ | with_reducible refine s_alloc (fun _ => ?_) | with_reducible refine wp_ifB (fun hc => ?_) (fun hc => ?_)
  all_goals (refine ⟨rfl, Ext.push .., (_, ()), rfl, ?_⟩; show _ = sizeF 1 a)
  all_goals simp only [ltI_iff, gtI_iff, geI_iff, leI_iff, eqI_iff, neI_iff, notB_iff, ltI_not, gtI_not, geI_not, leI_not, eqI_not, neI_not, notB_not] at *
  all_goals (unfold sizeF; simp only [if_true])
  all_goals first | (rw [if_pos (by omega)]; done) | rw [if_neg (by omega)]
  all_goals (repeat' split) <;> omega

theorem c_sixteen_size (r a enc : Int) (he : enc = 2 ∨ enc = 3) : Gives P (F_sixteen_size S (r, ()) a) [.one (.int .i64)] h fun (x : Int × Unit) h' => x.1 = sizeF enc a := by
  unfold F_sixteen_size Gives
  repeat' first
    | with_reducible refine s_ret ?_ | with_reducible refine s_bind ?_ | with_reducible refine s_tag ?_ | with_reducible refine s_tagNo rfl ?_ | with_reducible refine s_castB ?_ | with_reducible refine s_castI ?_ | with_reducible refine s_castS ?_ | with_reducible refine s_castII ?_ | with_reducible refine s_cast0 ?_
    | with_reducible refine s_ifT ?_ | with_reducible refine s_ifF ?_ | with_reducible refine s_not ?_ | with_reducible refine s_alloc (fun _ => ?_) | with_reducible refine wp_ifB (fun hc => ?_) (fun hc => ?_)
  all_goals (refine ⟨rfl, Ext.push .., (_, ()), rfl, ?_⟩; show _ = sizeF enc a)
  all_goals simp only [ltI_iff, gtI_iff, geI_iff, leI_iff, eqI_iff, neI_iff, notB_iff, ltI_not, gtI_not, geI_not, leI_not, eqI_not, neI_not, notB_not] at *
  all_goals (unfold sizeF; rw [if_neg (by omega), if_pos he]; (repeat' split) <;> omega)

theorem c_latin_size (a : Int) : Gives P (F_latin_size S () a) [.one (.int .i64)] h fun (x : Int × Unit) h' => x.1 = sizeF 4 a := by
  unfold F_latin_size Gives
  repeat' first
    | with_reducible refine s_ret ?_ | with_reducible refine s_bind ?_ | with_reducible refine s_tag ?_ | with_reducible refine s_tagNo rfl ?_ | with_reducible refine s_castB ?_ | with_reducible refine s_castI ?_ | with_reducible refine s_castS ?_ | with_reducible refine s_castII ?_ | with_reducible refine s_cast0 ?_
    | with_reducible refine s_ifT ?_ | with_reducible refine s_ifF ?_ | with_reducible refine s_not ?_ | with_reducible refine s_alloc (fun _ => ?_) | with_reducible refine wp_ifB (fun hc => ?_) (fun hc => ?_)
  all_goals (refine ⟨rfl, Ext.push .., (_, ()), rfl, ?_⟩; show _ = sizeF 4 a)
  all_goals simp only [ltI_iff, gtI_iff, geI_iff, leI_iff, eqI_iff, neI_iff, notB_iff, ltI_not, gtI_not, geI_not, leI_not, eqI_not, neI_not, notB_not] at *
  all_goals (simp only [sizeF, Int.reduceEq, if_false, or_self, if_true]; (repeat' split) <;> omega)

theorem c_Size (M : Sizes P S) (enc a : Int) : Gives P (F_codec_Size S enc a) [.one (.int .i64)] h fun (x : Int × Unit) h' => x.1 = sizeF enc a := by
  unfold F_codec_Size
  refine wp_call (c_of enc) fun x h1 e1 hx => ?_
  have hx : x.1 = coder S enc := hx
  simp only [hx]
  unfold coder
  by_cases h1' : enc = 1
  · subst h1'
    simp only [if_true, e_grd, e_if, isIface, isNilIface, Bool.false_eq_true, if_false, true_and]
    refine wp_inv (M.eight a) (c_eight_size a) fun y h2 e2 hy => ⟨rfl, e1.trans e2, (y.1, ()), rfl, hy⟩
  by_cases h2' : enc = 2
  · subst h2'
    simp only [if_true, e_grd, e_if, isIface, isNilIface, Bool.false_eq_true, if_false, true_and, Int.reduceEq]
    refine wp_inv (M.sixteen 0 a) (c_sixteen_size 0 a 2 (by simp)) fun y h2 e2 hy => ⟨rfl, e1.trans e2, (y.1, ()), rfl, hy⟩
  by_cases h3' : enc = 3
  · subst h3'
    simp only [if_true, e_grd, e_if, isIface, isNilIface, Bool.false_eq_true, if_false, true_and, Int.reduceEq]
    refine wp_inv (M.sixteen 1 a) (c_sixteen_size 1 a 3 (by simp)) fun y h2 e2 hy => ⟨rfl, e1.trans e2, (y.1, ()), rfl, hy⟩
  by_cases h4' : enc = 4
  · subst h4'
    simp only [if_true, e_grd, e_if, isIface, isNilIface, Bool.false_eq_true, if_false, true_and, Int.reduceEq]
    refine wp_inv (M.latin a) (c_latin_size a) fun y h2 e2 hy => ⟨rfl, e1.trans e2, (y.1, ()), rfl, hy⟩
  · simp only [h1', h2', h3', h4', if_false, e_grd, e_if, isIface, isNilIface, if_true, true_and, e_ret]
    refine ⟨e1, (0, ()), rfl, ?_⟩
    show 0 = sizeF enc a
    simp [sizeF, h1', h2', h3', h4']

/-- The document's answer to what fits. -/
theorem fits_iff (enc a : Int) : 0 < sizeF enc a ↔ (enc = 1 ∧ ((0 ≤ a ∧ a < 55296) ∨ (57343 < a ∧ a ≤ 1114111) ∨ (-256 ≤ a ∧ a ≤ -129))) ∨ ((enc = 2 ∨ enc = 3) ∧ -256 ≤ a ∧ a ≤ 1114111) ∨ (enc = 4 ∧ 0 ≤ a ∧ a ≤ 255) := by
  unfold sizeF
  (repeat' split) <;> omega

end Go.Sw.Codec

set_option linter.unusedVariables false
set_option linter.unusedSimpArgs false
set_option maxRecDepth 100000
namespace Go.Sw.Codec
variable {P : Program} {S : Ids} {h : Heap} {Q : Nat → List Value → Heap → Prop}

def eightB (a : Int) : List Int :=
  if a < 128 then [a] else if a < 2048 then [192 + a / 64, 128 + a % 64] else if a < 65536 then [224 + a / 4096, 128 + a / 64 % 64, 128 + a % 64]
  else [240 + a / 262144, 128 + a / 4096 % 64, 128 + a / 64 % 64, 128 + a % 64]
def unitB (enc u : Int) : List Int := if enc = 2 then [u % 256, u / 256] else [u / 256, u % 256]
def putF (enc a : Int) : List Int :=
  if a < 0 then [-1 - a] else if enc = 1 then eightB a else if enc = 4 then [a]
  else if 65536 ≤ a then unitB enc (55296 + (a - 65536) / 1024) ++ unitB enc (56320 + a % 1024) else unitB enc a

theorem putF_len {enc a : Int} (hf : 0 < sizeF enc a) : ((putF enc a).length : Int) = sizeF enc a := by
  rw [fits_iff] at hf
  unfold putF eightB unitB sizeF
  (repeat' split) <;> simp_all <;> omega

theorem unitB_len (enc u : Int) : (unitB enc u).length = 2 := by unfold unitB; split <;> rfl

end Go.Sw.Codec

set_option linter.unusedVariables false
set_option linter.unusedSimpArgs false
set_option maxRecDepth 100000
namespace Go.Sw.Codec
variable {P : Program} {S : Ids} {h : Heap} {Q : Nat → List Value → Heap → Prop}

/-! ### Lists that are lent -/

/-- The marks from place i on. -/
def marks (M : Int → Int) (i n : Nat) : List Int := (List.range' i n).map fun (j : Nat) => M (j : Int)
/-- A list with marks behind it, in memory of one's own. -/
def Lent (n : Nat) (k : IntKind) (M : Int → Int) (l : List Int) (x : Sl × Unit) (h' : Heap) : Prop :=
  l.length + 40 ≤ x.1.cap ∧ x.1.len = x.1.cap ∧ OwnL n k h' x.1 (l ++ marks M l.length (x.1.cap - l.length))

/-! ### Lists that are held against one another -/

theorem take_eq_succ {l m : List Int} {i : Nat} (hl : i < l.length) (hm : i < m.length) (h : l.take i = m.take i) (he : l.getD i 0 = m.getD i 0) : l.take (i + 1) = m.take (i + 1) := by
  rw [List.take_add_one, List.take_add_one, h]
  rw [List.getD_eq_getElem?_getD, List.getD_eq_getElem?_getD, List.getElem?_eq_getElem hl, List.getElem?_eq_getElem hm] at he
  rw [List.getElem?_eq_getElem hl, List.getElem?_eq_getElem hm]
  simp at he
  rw [he]

theorem lent_take {n : Nat} {k : IntKind} {M : Int → Int} {l : List Int} {x : Sl × Unit} (hl : Lent n k M l x h) (m : Nat) (hm : l.length ≤ m) (hm' : m < 2 ^ 63) : Lst k h ⟨x.1.base, l.length, m⟩ l := by
  have := hl.2.2.lst.take (n := l.length) (m := m) (by rw [List.length_append]; omega) hm hm'
  simpa using this

end Go.Sw.Codec

set_option linter.unusedVariables false
set_option linter.unusedSimpArgs false
set_option maxRecDepth 100000
namespace Go.Sw.Codec
variable {P : Program} {S : Ids} {h : Heap} {Q : Nat → List Value → Heap → Prop}

def begF (l : List Int) (at_ : Nat) (m : List Int) : Bool := decide ((l.drop at_).take m.length = m)
theorem beg3 (l : List Int) (a b c : Int) : begF l 0 [a, b, c] = decide (3 ≤ l.length ∧ l.getD 0 0 = a ∧ l.getD 1 0 = b ∧ l.getD 2 0 = c) := by
  unfold begF
  match l with
  | [] => simp
  | [x] => simp
  | [x, y] => simp
  | x :: y :: z :: r => simp
theorem beg2 (l : List Int) (a b : Int) : begF l 0 [a, b] = decide (2 ≤ l.length ∧ l.getD 0 0 = a ∧ l.getD 1 0 = b) := by
  unfold begF
  match l with
  | [] => simp
  | [x] => simp
  | x :: y :: r => simp

theorem bytes_fit {l : List Int} (h : l.all (fun x => decide (0 ≤ x ∧ x ≤ 255)) = true) : ∀ x, x ∈ l → fitsI .u8 x := fun x hx => fits_u8.2 (by simpa using List.all_eq_true.1 h x hx)

end Go.Sw.Codec

set_option linter.unusedVariables false
set_option linter.unusedSimpArgs false
set_option maxRecDepth 100000
namespace Go.Sw.Codec
variable {P : Program} {S : Ids} {h : Heap} {Q : Nat → List Value → Heap → Prop}

theorem Lent.ext {n : Nat} {k : IntKind} {M : Int → Int} {l : List Int} {x : Sl × Unit} {h' : Heap} (hl : Lent n k M l x h) (e : Ext h h') : Lent n k M l x h' := ⟨hl.1, hl.2.1, hl.2.2.ext e⟩

/-- What was lent, cut to what is handed in. -/
theorem Lent.part {n : Nat} {k : IntKind} {M : Int → Int} {l : List Int} {x : Sl × Unit} (hl : Lent n k M l x h) : Lst k h ⟨x.1.base, l.length, x.1.cap⟩ l :=
  lent_take hl _ (by have := hl.1; omega) hl.2.2.own.2.2.1
theorem OwnL.part {n m : Nat} {k : IntKind} {s : Sl} {l r : List Int} (hl : OwnL n k h s (l ++ r)) (hm : m = l.length) : Lst k h ⟨s.base, m, s.cap⟩ l := by
  subst hm; exact hl.pre.lst

end Go.Sw.Codec

set_option linter.unusedVariables false
set_option linter.unusedSimpArgs false
set_option maxRecDepth 100000
namespace Go.Sw.Codec
variable {P : Program} {S : Ids} {h : Heap} {Q : Nat → List Value → Heap → Prop}

theorem size_of_fits {enc a : Int} (hf : 0 < sizeF enc a) : (putF enc a).length = (sizeF enc a).toNat := by have := putF_len hf; omega
theorem sizeF_le (enc a : Int) : sizeF enc a ≤ 4 := by unfold sizeF; (repeat' split) <;> omega

/-- out with the bytes of a behind it. -/
def Put1 (n : Nat) (out : Sl) (h : Heap) (enc : Int) (l : List Int) (a : Int) (x : Sl × Unit) (h' : Heap) : Prop := OwnL n .u8 h' x.1 (l ++ putF enc a) ∧ Grew out h h' x.1

theorem c_latin_put {n : Nat} {out : Sl} {l : List Int} {a : Int} (ho : OwnL n .u8 h out l) (hn : n ≤ h.size) (hf : 0 < sizeF 4 a) (hroom : l.length + 4 ≤ 140737488355328) :
    GivesN n P (F_latin_put S () out a) [.one .sl] h (Put1 n out h 4 l a) := by
  have ha := (fits_iff 4 a).1 hf
  unfold F_latin_put GivesN
  refine s_alloc0 fun h1 e1 => ?_
  refine s_push (l := l) (ho.ext e1) (by have := e1.size; omega) (range_u8 _) (by omega) (by omega) fun r h2 k2 o2 u2 b2 => s_ret ⟨rfl, Keep.trans (e1.keep hn) k2, (r, ()), rfl, ?_, Grew.pre e1 ⟨u2, b2⟩⟩
  have : putF 4 a = [wrapI .u8 a] := by rw [byte_ok (by omega) (by omega)]; unfold putF; rw [if_neg (by omega), if_neg (by decide), if_pos rfl]
  show OwnL n .u8 h2 r (l ++ putF 4 a)
  rw [this]; exact o2

theorem c_half {n : Nat} {out : Sl} {l : List Int} {r u : Int} {enc : Int} (ho : OwnL n .u8 h out l) (hn : n ≤ h.size) (hr : r = 0 ∧ enc = 2 ∨ r = 1 ∧ enc = 3) (hu : 0 ≤ u) (hu' : u < 65536) (hroom : l.length + 2 ≤ 140737488355328) :
    GivesN n P (F_sixteen_half S (r, ()) out u) [.one .sl] h fun (x : Sl × Unit) h' => OwnL n .u8 h' x.1 (l ++ unitB enc u) ∧ Grew out h h' x.1 := by
  unfold F_sixteen_half GivesN
  dsimp only
  refine s_allocL [r] (fun x hx => by rw [List.mem_singleton.1 hx, fits_i64]; omega) (by simp) fun h1 e1 o1 => ?_
  refine s_allocL (k := .u8) [0, 0] (by intro x hx; simp at hx; subst hx; exact fits_zero _) (by simp) fun h2 e2 o2 => ?_
  have o1' := (o1.ext e2).lst
  refine s_loadL o1' (j := 0) (by simp) (s_loadL o1' (j := 0) (by simp) (s_not ?_))
  simp only [List.getD_cons_zero]
  have b1 : fitsI .u8 (wrapI .u8 u) := range_u8 _
  have b2 : fitsI .u8 (wrapI .u8 (shrI .i64 u 8)) := range_u8 _
  have hne : ∀ x y, (some (⟨h.size, 0, none⟩ : Addr)) = some x → (some (⟨h1.size, 0, none⟩ : Addr)) = some y → y.block ≠ x.block := by
    intro x y hx hy
    cases hx; cases hy
    have := (o1.own.lt (a := ⟨h.size, 0, none⟩) rfl).2
    dsimp only at this ⊢
    omega
  have hn1 : n ≤ h1.size := by have := e1.size; omega
  have e12 := e1.trans e2
  have fin : ∀ (h4 : Heap) (m : List Int), OwnL h1.size .u8 h4 ⟨some ⟨h1.size, 0, none⟩, 2, 2⟩ m → m = unitB enc u → Keep h1.size h2 h4 →
      wp P (.append 1 1 [(Value.int IntKind.u8 0)] out (⟨(cutBase (Option.some ⟨h1.size, 0, none⟩) 2 0 1), 2, 2⟩) fun (l5 : Sl) => .ret 0 [(Value.slice l5.base l5.len l5.cap)]) h4
        fun t vs h' => t = 0 ∧ Keep n h h' ∧ ∃ x : Sl × Unit, vs = Ts.inj [.one .sl] x ∧ OwnL n .u8 h' x.1 (l ++ unitB enc u) ∧ Grew out h h' x.1 := by
    intro h4 m o4 hm k4
    rw [cutBase_zero]
    have hk : Keep n h h4 := Keep.trans (e12.keep hn) (k4.mono hn1)
    have hoe : OwnL n .u8 h4 out l := by
      refine (ho.ext e1).keep fun a ha => ?_
      have := (ho.own.lt ha).2
      have := e1.size
      rw [k4.2.1 _ (by omega), e2.2.1 _ (by omega)]
    refine s_append hoe (by have := hk.1; omega) o4.lst (by rw [hm, unitB_len]; omega) (by rw [hm, unitB_len]; omega) fun y h5 k5 o5 u5 b5 => s_ret ⟨rfl, Keep.trans hk k5, (y, ()), rfl, by rw [hm] at o5; exact o5, ?_⟩
    exact Grew.pre (Keep.trans e12 (k4.mono e1.size)) ⟨u5, b5⟩
  rcases hr with ⟨rfl, rfl⟩ | ⟨rfl, rfl⟩
  · refine s_grd (by decide) (s_setA o2 (j := 0) (by simp) b1 fun h3 o3 u3 z3 => ?_)
    refine s_check1 ((o1.ext e2).upd u3 hne).lst (j := 0) (by simp) rfl (s_grd (by decide) ?_)
    refine s_setA o3 (j := 1) (by simp) b2 fun h4 o4 u4 z4 => ?_
    refine fin h4 _ o4 ?_ (Keep.trans (Upd.ext_of u3 (by intro a ha; cases ha; exact Nat.le_refl _) e2.size) (Upd.ext_of u4 (by intro a ha; cases ha; exact Nat.le_refl _) (by have := e2.size; omega)))
    rw [byte_mod, byte_mod, shr8]
    unfold unitB
    rw [if_pos rfl]
    simp; omega
  · refine s_grd (by decide) (s_setA o2 (j := 1) (by simp) b1 fun h3 o3 u3 z3 => ?_)
    refine s_check1 ((o1.ext e2).upd u3 hne).lst (j := 0) (by simp) rfl (s_grd (by decide) ?_)
    refine s_setA o3 (j := 0) (by simp) b2 fun h4 o4 u4 z4 => ?_
    refine fin h4 _ o4 ?_ (Keep.trans (Upd.ext_of u3 (by intro a ha; cases ha; exact Nat.le_refl _) e2.size) (Upd.ext_of u4 (by intro a ha; cases ha; exact Nat.le_refl _) (by have := e2.size; omega)))
    rw [byte_mod, byte_mod, shr8]
    unfold unitB
    rw [if_neg (by decide)]
    simp; omega

theorem c_sixteen_put {n : Nat} {out : Sl} {l : List Int} {r a : Int} {enc : Int} (ho : OwnL n .u8 h out l) (hn : n ≤ h.size) (hr : r = 0 ∧ enc = 2 ∨ r = 1 ∧ enc = 3) (hf : 0 < sizeF enc a) (hroom : l.length + 4 ≤ 140737488355328) :
    GivesN n P (F_sixteen_put S (r, ()) out a) [.one .sl] h (Put1 n out h enc l a) := by
  have ha := (fits_iff enc a).1 hf
  have hr0 : fitsI .i64 r := by rw [fits_i64]; omega
  unfold F_sixteen_put GivesN
  dsimp only
  refine s_allocL [r] (fun x hx => by rw [List.mem_singleton.1 hx]; exact hr0) (by simp) fun h1 e1 o1 => ?_
  have hn1 : n ≤ h1.size := by have := e1.size; omega
  have ho1 := ho.ext e1
  refine wp_ifB (fun hc => ?_) fun hc => ?_
  · rw [ltI_iff] at hc
    refine s_push ho1 hn1 (range_u8 _) (by omega) (by omega) fun y h2 k2 o2 u2 b2 => s_ret ⟨rfl, Keep.trans (e1.keep hn) k2, (y, ()), rfl, ?_, Grew.pre e1 ⟨u2, b2⟩⟩
    have : putF enc a = [wrapI .u8 (subI .i64 (-1) a)] := by
      rw [sub_ok (by omega) (by omega), byte_ok (by omega) (by omega)]; unfold putF; rw [if_pos hc]
    show OwnL n .u8 h2 y (l ++ putF enc a)
    rw [this]; exact o2
  rw [ltI_not] at hc
  refine wp_ifB (fun hc2 => ?_) fun hc2 => ?_
  · rw [ltI_iff] at hc2
    refine s_loadA o1.lst (wp_callN (c_half ho1 hn1 hr hc hc2 (by omega)) fun y h2 k2 ⟨o2, g2⟩ => s_ret ⟨rfl, Keep.trans (e1.keep hn) k2, y, rfl, ?_, Grew.pre e1 g2⟩)
    have : putF enc a = unitB enc a := by unfold putF; rw [if_neg (by omega), if_neg (by omega), if_neg (by omega), if_neg (by omega)]
    show OwnL n .u8 h2 y.1 (l ++ putF enc a)
    rw [this]; exact o2
  rw [ltI_not] at hc2
  refine s_loadA o1.lst (s_loadA o1.lst (s_not ?_))
  have v1 : orI .i64 55296 (shrI .i64 (subI .i64 a 65536) 10) = 55296 + (a - 65536) / 1024 := by
    rw [sub_ok (by omega) (by omega), shr10]
    exact or64_join 10 (by decide) (by decide) (by decide) (by omega) (by simp; omega) (by decide)
  have v2 : orI .i64 56320 (andI .i64 a 1023) = 56320 + a % 1024 := by
    rw [and1023]
    exact or64_join 10 (by decide) (by decide) (by decide) (by omega) (by simp; omega) (by decide)
  rw [v1, v2]
  refine wp_callN (c_half ho1 hn1 hr (by omega) (by omega) (by omega)) fun y h2 k2 ⟨o2, g2⟩ => ?_
  have o12 : OwnL h.size .i64 h2 ⟨some ⟨h.size, 0, none⟩, 1, 1⟩ [r] := by
    refine OwnL.upd (t := out) o1 g2.upd fun x b hx hb => ?_
    cases hx
    have := (ho.own.lt hb).2
    dsimp only; omega
  refine s_check1 (j := 0) o12.lst (by simp) rfl ?_
  refine wp_callN (c_half o2 (by have := k2.1; omega) hr (by omega) (by omega) (by rw [List.length_append, unitB_len]; omega)) fun z h3 k3 ⟨o3, g3⟩ => s_ret ⟨rfl, Keep.trans (Keep.trans (e1.keep hn) k2) k3, z, rfl, ?_, Grew.pre e1 (g2.trans g3)⟩
  have : putF enc a = unitB enc (55296 + (a - 65536) / 1024) ++ unitB enc (56320 + a % 1024) := by
    unfold putF; rw [if_neg (by omega), if_neg (by omega), if_neg (by omega), if_pos (by omega)]
  show OwnL n .u8 h3 z.1 (l ++ putF enc a)
  rw [this, ← List.append_assoc]; exact o3

theorem eightB_len {a : Int} (hf : 0 < sizeF 1 a) (h0 : 0 ≤ a) : ((eightB a).length : Int) = sizeF 1 a := by
  have := putF_len hf
  unfold putF at this
  rw [if_neg (by omega), if_pos rfl] at this
  exact this
theorem eightB_at {a : Int} (hf : 0 < sizeF 1 a) (h0 : 0 ≤ a) (i : Int) (h1 : 0 ≤ i) (h2 : i ≤ sizeF 1 a - 2) : (eightB a).getD (sizeF 1 a - 1 - i).toNat 0 = 128 + shrI .i64 a (6 * i) % 64 := by
  have hl := sizeF_le 1 a
  have hf' := (fits_iff 1 a).1 hf
  have hs : sizeF 1 a = if a < 128 then 1 else if a < 2048 then 2 else if a < 65536 then 3 else 4 := by
    unfold sizeF; rw [if_pos rfl, if_neg (by omega)]
  rw [hs] at h2 ⊢
  unfold eightB
  by_cases c1 : a < 128
  · rw [if_pos c1] at h2; omega
  rw [if_neg c1] at h2 ⊢
  rw [if_neg c1]
  by_cases c2 : a < 2048
  · rw [if_pos c2] at h2 ⊢
    rw [if_pos c2]
    obtain rfl : i = 0 := by omega
    simp [shr0]
  rw [if_neg c2] at h2 ⊢
  rw [if_neg c2]
  by_cases c3 : a < 65536
  · rw [if_pos c3] at h2 ⊢
    rw [if_pos c3]
    have : i = 0 ∨ i = 1 := by omega
    rcases this with rfl | rfl
    · simp [shr0]
    · simp [shr6]
  rw [if_neg c3] at h2 ⊢
  rw [if_neg c3]
  have : i = 0 ∨ i = 1 ∨ i = 2 := by omega
  rcases this with rfl | rfl | rfl
  · simp [shr0]
  · simp [shr6]
  · simp [shr12]

theorem c_eight_put {n : Nat} {out : Sl} {l : List Int} {a : Int} (ho : OwnL n .u8 h out l) (hn : n ≤ h.size) (hf : 0 < sizeF 1 a) (hroom : l.length + 4 ≤ 140737488355328) :
    GivesN n P (F_eight_put S () out a) [.one .sl] h (Put1 n out h 1 l a) := by
  have ha := (fits_iff 1 a).1 hf
  have hle := sizeF_le 1 a
  unfold F_eight_put GivesN
  refine s_alloc0 fun h1 e1 => s_load0 (wp_call (c_eight_size a) fun x h2 e2 hx => ?_)
  have hx : x.1 = sizeF 1 a := hx
  rw [hx]
  have e12 := e1.trans e2
  have ho2 := ho.ext e12
  have hn2 : n ≤ h2.size := by have := e12.size; omega
  refine wp_ifB (fun hc => ?_) fun hc => ?_
  · rw [ltI_iff] at hc
    refine s_push ho2 hn2 (range_u8 _) (by omega) (by omega) fun y h3 k3 o3 u3 b3 => s_ret ⟨rfl, Keep.trans (e12.keep hn) k3, (y, ()), rfl, ?_, Grew.pre e12 ⟨u3, b3⟩⟩
    have : putF 1 a = [wrapI .u8 (subI .i64 (-1) a)] := by
      rw [sub_ok (by omega) (by omega), byte_ok (by omega) (by omega)]; unfold putF; rw [if_pos hc]
    show OwnL n .u8 h3 y (l ++ putF 1 a)
    rw [this]; exact o3
  rw [ltI_not] at hc
  have hs : sizeF 1 a = if a < 128 then 1 else if a < 2048 then 2 else if a < 65536 then 3 else 4 := by
    unfold sizeF; rw [if_pos rfl, if_neg (by omega)]
  have hput : putF 1 a = eightB a := by unfold putF; rw [if_neg (by omega), if_pos rfl]
  refine wp_ifB (fun h1' => ?_) fun h1' => ?_
  · rw [eqI_iff] at h1'
    refine s_push ho2 hn2 (range_u8 _) (by omega) (by omega) fun y h3 k3 o3 u3 b3 => s_ret ⟨rfl, Keep.trans (e12.keep hn) k3, (y, ()), rfl, ?_, Grew.pre e12 ⟨u3, b3⟩⟩
    have h128 : a < 128 := by rw [h1'] at hs; (repeat' split at hs) <;> omega
    have : putF 1 a = [wrapI .u8 a] := by rw [hput, byte_ok (by omega) (by omega)]; unfold eightB; rw [if_pos h128]
    show OwnL n .u8 h3 y (l ++ putF 1 a)
    rw [this]; exact o3
  rw [eqI_not] at h1'
  have h128 : ¬ a < 128 := fun hlt => h1' (by rw [hs, if_pos hlt])
  have hlen := eightB_len hf hc
  refine s_allocL (k := .u8) [0, 0, 0, 0, 0] (bytes_fit rfl) (by simp) fun h3 e3 o3 => ?_
  refine s_storeL (l := [0, 0, 0, 0, 0]) [0, 0, 192, 224, 240] o3 rfl (bytes_fit rfl) fun h4 o4 u4 z4 => ?_
  have e34 : Ext h2 h4 := Keep.trans e3 (Upd.ext_of u4 (by intro x hx; cases hx; exact Nat.le_refl _) e3.size)
  have ho4 := ho2.ext e34
  have hn4 : n ≤ h4.size := by have := e34.size; omega
  have e14 := e12.trans e34
  refine s_grd (inB_ok (by omega) (by omega)) ?_
  have hload : ∀ {K : Int → Prog} {Q}, wp P (K ([0, 0, 192, 224, 240].getD (sizeF 1 a).toNat 0)) h4 Q → wp P (.load (.one (.int .u8)) (shiftTo (Option.some ⟨h2.size, 0, none⟩) (mulN (toN (sizeF 1 a)) 1)) K) h4 Q := by
    intro K Q hk
    rw [mulN_def, toN_def, Nat.mul_one]
    exact s_loadL o4.lst (by simp; omega) hk
  refine hload ?_
  have hmul : mulI .i64 6 (subI .i64 (sizeF 1 a) 1) = 6 * (sizeF 1 a - 1) := by
    rw [sub_ok (by omega) (by omega), mul_ok (by omega) (by omega)]
  rw [hmul]
  refine s_grd (notB_iff.2 (ltI_not.2 (by omega))) ?_
  have hfst : orI .u8 ([0, 0, 192, 224, 240].getD (sizeF 1 a).toNat 0) (wrapI .u8 (shrI .i64 a (6 * (sizeF 1 a - 1)))) = (eightB a).getD 0 0 := by
    rw [hs]
    unfold eightB
    rw [if_neg h128, if_neg h128]
    by_cases c2 : a < 2048
    · rw [if_pos c2, if_pos c2]
      have : shrI .i64 a (6 * (2 - 1)) = a / 64 := shr6 a
      rw [this, byte_ok (by omega) (by omega)]
      exact or8_join 6 (by decide) (by decide) (by decide) (by omega) (by simp; omega) (by decide)
    rw [if_neg c2, if_neg c2]
    by_cases c3 : a < 65536
    · rw [if_pos c3, if_pos c3]
      have : shrI .i64 a (6 * (3 - 1)) = a / 4096 := shr12 a
      rw [this, byte_ok (by omega) (by omega)]
      exact or8_join 4 (by decide) (by decide) (by decide) (by omega) (by simp; omega) (by decide)
    rw [if_neg c3, if_neg c3]
    have : shrI .i64 a (6 * (4 - 1)) = a / 262144 := shr18 a
    rw [this, byte_ok (by omega) (by omega)]
    exact or8_join 4 (by decide) (by decide) (by decide) (by omega) (by simp; omega) (by decide)
  rw [hfst]
  have hpos : 0 < (eightB a).length := by omega
  have hbyte : ∀ x, x ∈ eightB a → fitsI .u8 x := by
    intro x hx
    rw [fits_u8]
    unfold eightB at hx
    (repeat' split at hx) <;> simp at hx <;> omega
  have hgf : ∀ i, fitsI .u8 ((eightB a).getD i 0) := by
    intro i
    rw [List.getD_eq_getElem?_getD]
    cases hi : (eightB a)[i]? with
    | none => exact fits_zero _
    | some x => exact hbyte x (List.mem_of_getElem? hi)
  refine s_push ho4 hn4 (hgf 0) (by omega) (by omega) fun y h5 k5 o5 u5 b5 => ?_
  have k05 := Keep.trans (e14.keep hn) k5
  refine wp_while (fun (s : Sl × Int × Unit) h' => Keep n h h' ∧ -1 ≤ s.2.1 ∧ s.2.1 ≤ sizeF 1 a - 2 ∧ OwnL n .u8 h' s.1 (l ++ (eightB a).take (sizeF 1 a - 1 - s.2.1).toNat) ∧ Grew out h h' s.1) (fun s _ => (s.2.1 + 1).toNat)
    (fun t vs h' => t = 2 ∧ ∃ x : Sl × Unit, vs = Ts.inj [.one .sl] x ∧ Keep n h h' ∧ OwnL n .u8 h' x.1 (l ++ eightB a) ∧ Grew out h h' x.1) ⟨k05, ?_, ?_, ?_, Grew.pre e14 ⟨u5, b5⟩⟩ ?_ ?_
  · rw [sub_ok (by omega) (by omega)]; dsimp only; omega
  · rw [sub_ok (by omega) (by omega)]; dsimp only; omega
  · rw [sub_ok (by omega) (by omega), show (sizeF 1 a - 1 - (sizeF 1 a - 2)).toNat = 1 by omega]
    have : (eightB a).take 1 = [(eightB a).getD 0 0] := by
      match hm : eightB a with
      | [] => rw [hm] at hpos; simp at hpos
      | z :: r => rfl
    rw [this]; exact o5
  · rintro ⟨s, (i : Int), u⟩ h' ⟨k, i0, i1, o, g⟩
    dsimp only at i0 i1 o ⊢
    refine wp_ifB (fun hi => ?_) fun hi => ?_
    · rw [geI_iff] at hi
      rw [mul_ok (by omega) (by omega)]
      refine s_grd (notB_iff.2 (ltI_not.2 (by omega))) ?_
      have hv : orI .u8 128 (andI .u8 (wrapI .u8 (shrI .i64 a (6 * i))) 63) = (eightB a).getD (sizeF 1 a - 1 - i).toNat 0 := by
        rw [eightB_at hf hc i hi i1, byte_mod, and8_63 (by omega) (by omega)]
        have := or8_join (a := 128) (b := shrI .i64 a (6 * i) % 256 % 64) 6 (by decide) (by decide) (by decide) (by omega) (by simp; omega) (by decide)
        rw [this]; omega
      rw [hv]
      have hlt : ((eightB a).take (sizeF 1 a - 1 - i).toNat).length ≤ 3 := by rw [List.length_take]; omega
      refine s_push o (by have := k.1; omega) (hgf _) (by rw [List.length_append]; omega) (by rw [List.length_append]; omega) fun z h6 k6 o6 u6 b6 => ?_
      rw [sub_ok (by omega) (by omega)]
      refine s_ret ⟨fun _ => ⟨(z, i - 1, ()), rfl, ⟨Keep.trans k k6, by dsimp only; omega, by dsimp only; omega, ?_, g.trans ⟨u6, b6⟩⟩, by dsimp only; omega⟩, fun h => absurd rfl h⟩
      dsimp only
      rw [show (sizeF 1 a - 1 - (i - 1)).toNat = (sizeF 1 a - 1 - i).toNat + 1 by omega]
      have : (eightB a).take ((sizeF 1 a - 1 - i).toNat + 1) = (eightB a).take (sizeF 1 a - 1 - i).toNat ++ [(eightB a).getD (sizeF 1 a - 1 - i).toNat 0] := by
        rw [List.take_add_one, List.getD_eq_getElem?_getD, List.getElem?_eq_getElem (by omega)]; rfl
      rw [this, ← List.append_assoc]; exact o6
    · rw [geI_not] at hi
      refine s_ret ⟨fun h => absurd h (by decide), fun _ => ⟨rfl, (s, ()), rfl, k, ?_, g⟩⟩
      rw [List.take_of_length_le (by omega)] at o
      exact o
  · rintro t vs h6 ⟨ht, x, hv, k6, o6, g6⟩
    refine s_exit ht x hv (s_ret ⟨rfl, k6, x, rfl, ?_, g6⟩)
    rw [hput]; exact o6
end Go.Sw.Codec

set_option linter.unusedVariables false
set_option linter.unusedSimpArgs false
set_option maxRecDepth 100000
namespace Go.Sw.Codec
variable {P : Program} {S : Ids} {h : Heap} {Q : Nat → List Value → Heap → Prop}

def known (enc : Int) : Prop := 1 ≤ enc ∧ enc ≤ 4

theorem coder_known {enc : Int} (he : known enc) : isIface (coder S enc) = true ∧ isNilIface (coder S enc) = false := by
  unfold known at he
  have : enc = 1 ∨ enc = 2 ∨ enc = 3 ∨ enc = 4 := by omega
  rcases this with rfl | rfl | rfl | rfl <;> exact ⟨rfl, rfl⟩
theorem coder_unknown {enc : Int} (he : ¬ known enc) : coder S enc = .nilIface := by
  unfold known at he
  unfold coder
  rw [if_neg (by omega), if_neg (by omega), if_neg (by omega), if_neg (by omega)]

/-- The methods that the coders have. -/
structure Meth0 (P : Program) (S : Ids) : Prop where
  size8 : ∀ a, Inv P (.iface S.t_codec_eight (.agg #[])) S.m_size [.int .i64 a] (F_eight_size S () a)
  size16 : ∀ r a, Inv P (.iface S.t_codec_sixteen (.agg #[.int .i64 r])) S.m_size [.int .i64 a] (F_sixteen_size S (r, ()) a)
  size1 : ∀ a, Inv P (.iface S.t_codec_latin (.agg #[])) S.m_size [.int .i64 a] (F_latin_size S () a)
  put8 : ∀ (s : Sl) a, Inv P (.iface S.t_codec_eight (.agg #[])) S.m_put [.slice s.base s.len s.cap, .int .i64 a] (F_eight_put S () s a)
  put16 : ∀ r (s : Sl) a, Inv P (.iface S.t_codec_sixteen (.agg #[.int .i64 r])) S.m_put [.slice s.base s.len s.cap, .int .i64 a] (F_sixteen_put S (r, ()) s a)
  put1 : ∀ (s : Sl) a, Inv P (.iface S.t_codec_latin (.agg #[])) S.m_put [.slice s.base s.len s.cap, .int .i64 a] (F_latin_put S () s a)
  first8 : ∀ (s : Sl), Inv P (.iface S.t_codec_eight (.agg #[])) S.m_first [.slice s.base s.len s.cap] (F_eight_first S () s)
  first16 : ∀ r (s : Sl), Inv P (.iface S.t_codec_sixteen (.agg #[.int .i64 r])) S.m_first [.slice s.base s.len s.cap] (F_sixteen_first S (r, ()) s)
  first1 : ∀ (s : Sl), Inv P (.iface S.t_codec_latin (.agg #[])) S.m_first [.slice s.base s.len s.cap] (F_latin_first S () s)
  nilf : ∀ enc, known enc → NilOk P (.func (.method S.m_first) #[coder S enc] #[])
theorem known_cases {enc : Int} (he : known enc) : enc = 1 ∨ enc = 2 ∨ enc = 3 ∨ enc = 4 := by unfold known at he; omega

theorem i_size (M : Meth0 P S) {enc a : Int} (he : known enc) {K : Int × Unit → Prog} (hk : ∀ (x : Int × Unit) h', Ext h h' → x.1 = sizeF enc a → wp P (K x) h' Q) :
    wp P (.invoke (coder S enc) S.m_size [.int .i64 a] [.one (.int .i64)] K) h Q := by
  rcases known_cases he with rfl | rfl | rfl | rfl
  · exact wp_inv (M.size8 a) (c_eight_size a) hk
  · exact wp_inv (M.size16 0 a) (c_sixteen_size 0 a 2 (.inl rfl)) hk
  · exact wp_inv (M.size16 1 a) (c_sixteen_size 1 a 3 (.inr rfl)) hk
  · exact wp_inv (M.size1 a) (c_latin_size a) hk

theorem i_put (M : Meth0 P S) {n : Nat} {enc a : Int} (he : known enc) {out : Sl} {l : List Int} (ho : OwnL n .u8 h out l) (hn : n ≤ h.size) (hf : 0 < sizeF enc a) (hroom : l.length + 4 ≤ 140737488355328)
    {K : Sl × Unit → Prog} (hk : ∀ (x : Sl × Unit) h', Keep n h h' → Put1 n out h enc l a x h' → wp P (K x) h' Q) :
    wp P (.invoke (coder S enc) S.m_put [.slice out.base out.len out.cap, .int .i64 a] [.one .sl] K) h Q := by
  rcases known_cases he with rfl | rfl | rfl | rfl
  · exact wp_invN (M.put8 out a) (c_eight_put ho hn hf hroom) hk
  · exact wp_invN (M.put16 0 out a) (c_sixteen_put ho hn (.inl ⟨rfl, rfl⟩) hf hroom) hk
  · exact wp_invN (M.put16 1 out a) (c_sixteen_put ho hn (.inr ⟨rfl, rfl⟩) hf hroom) hk
  · exact wp_invN (M.put1 out a) (c_latin_put ho hn hf hroom) hk

/-- What Encode answers. -/
def EncR (enc : Int) (l : List Int) (b : List Int) (at_ e : Int) : Prop :=
  (¬ known enc ∧ b = [] ∧ at_ = 0 ∧ e = 10) ∨
  (known enc ∧ (∃ i : Nat, i < l.length ∧ (∀ a, a ∈ l.take i → 0 < sizeF enc a) ∧ ¬ 0 < sizeF enc (l.getD i 0) ∧ b = [] ∧ at_ = i ∧ e = 11)) ∨
  (known enc ∧ (∀ a, a ∈ l → 0 < sizeF enc a) ∧ b = l.flatMap (putF enc) ∧ at_ = 0 ∧ e = 0)

theorem getD_mem_take {l : List Int} {i j : Nat} (hi : i < j) (hl : i < l.length) : l.getD i 0 ∈ l.take j := by
  rw [List.getD_eq_getElem?_getD, List.getElem?_eq_getElem hl]
  exact List.mem_of_getElem? (i := i) (by rw [List.getElem?_take, if_pos hi]; exact List.getElem?_eq_getElem hl)
theorem getD_mem {l : List Int} {i : Nat} (hl : i < l.length) : l.getD i 0 ∈ l := by
  rw [List.getD_eq_getElem?_getD, List.getElem?_eq_getElem hl]; exact List.getElem_mem hl

theorem EncR.fn {enc : Int} {l b b' : List Int} {p p' e e' : Int} (h : EncR enc l b p e) (h' : EncR enc l b' p' e') : b = b' ∧ p = p' ∧ e = e' := by
  rcases h with ⟨hk, rfl, rfl, rfl⟩ | ⟨hk, i, hi, h1, h2, rfl, rfl, rfl⟩ | ⟨hk, h1, rfl, rfl, rfl⟩ <;> rcases h' with ⟨hk', rfl, rfl, rfl⟩ | ⟨hk', i', hi', h1', h2', rfl, rfl, rfl⟩ | ⟨hk', h1', rfl, rfl, rfl⟩
  all_goals first | exact absurd hk' hk | exact absurd hk hk' | skip
  · exact ⟨rfl, rfl, rfl⟩
  · have : i = i' := by
      by_cases hlt : i < i'
      · exact absurd (h1' _ (getD_mem_take hlt hi)) h2
      · by_cases hlt' : i' < i
        · exact absurd (h1 _ (getD_mem_take hlt' hi')) h2'
        · omega
    subst this; exact ⟨rfl, rfl, rfl⟩
  · exact absurd (h1' _ (getD_mem hi)) h2
  · exact absurd (h1 _ (getD_mem hi')) h2'
  · exact ⟨rfl, rfl, rfl⟩

def tri : List Ty := [.one .sl, .one (.int .i64), .one (.int .i64)]
/-- Encode's answer in memory. -/
def EncA (n : Nat) (enc : Int) (l : List Int) (x : Sl × Int × Int × Unit) (h' : Heap) : Prop := ∃ b, OwnL n .u8 h' x.1 b ∧ EncR enc l b x.2.1 x.2.2.1

theorem flat_succ {enc : Int} {l : List Int} {i : Nat} (hi : i < l.length) : (l.take (i + 1)).flatMap (putF enc) = (l.take i).flatMap (putF enc) ++ putF enc (l.getD i 0) := by
  rw [List.take_add_one, List.flatMap_append, List.getD_eq_getElem?_getD, List.getElem?_eq_getElem hi]
  simp
theorem mem_take_succ {l : List Int} {i : Nat} (hi : i < l.length) {p : Int → Prop} (h : ∀ a, a ∈ l.take i → p a) (hp : p (l.getD i 0)) : ∀ a, a ∈ l.take (i + 1) → p a := by
  intro a ha
  rw [List.take_add_one, List.getElem?_eq_getElem hi, List.mem_append] at ha
  rcases ha with ha | ha
  · exact h a ha
  · simp at ha; subst ha
    rw [List.getD_eq_getElem?_getD, List.getElem?_eq_getElem hi] at hp; exact hp
theorem flat_len {enc : Int} : ∀ {l : List Int}, (∀ a, a ∈ l → 0 < sizeF enc a) → (l.flatMap (putF enc)).length ≤ 4 * l.length := by
  intro l
  induction l with
  | nil => intro _; simp
  | cons a l ih =>
    intro h
    have h1 := ih fun b hb => h b (List.mem_cons_of_mem _ hb)
    have h2 := size_of_fits (h a (List.mem_cons_self ..))
    have h3 := sizeF_le enc a
    simp only [List.flatMap_cons, List.length_append, List.length_cons]
    omega
theorem c_Encode (M : Meth0 P S) {enc : Int} {s : Sl} {l : List Int} (hs : Lst .i64 h s l) (hl : l.length ≤ 1099511627776) : Gives P (F_codec_Encode S enc s) tri h (EncA h.size enc l) := by
  have hsl := hs.len
  unfold F_codec_Encode
  refine wp_call (c_of enc) fun c h1 e1 hc => ?_
  have hc : c.1 = coder S enc := hc
  rw [hc]
  by_cases hk : ¬ known enc
  · rw [coder_unknown hk]
    exact s_grd rfl (s_ifT (s_ret ⟨rfl, e1, (⟨none, 0, 0⟩, 0, 10, ()), rfl, [], OwnL.nil .., .inl ⟨hk, rfl, rfl, rfl⟩⟩))
  have hk := Classical.not_not.1 hk
  obtain ⟨k1, k2⟩ := coder_known (S := S) hk
  rw [k1, k2]
  refine s_grd rfl (s_ifF ?_)
  refine wp_while (fun (s : Sl × Int × Unit) h' => Keep h.size h h' ∧ 0 ≤ s.2.1 ∧ s.2.1 ≤ l.length ∧ (∀ a, a ∈ l.take s.2.1.toNat → 0 < sizeF enc a) ∧ OwnL h.size .u8 h' s.1 ((l.take s.2.1.toNat).flatMap (putF enc))) (fun s _ => l.length - s.2.1.toNat)
    (fun t vs h' => Keep h.size h h' ∧ (t = 2 ∧ (∃ x : Sl × Unit, vs = Ts.inj [.one .sl] x ∧ (∀ a, a ∈ l → 0 < sizeF enc a) ∧ OwnL h.size .u8 h' x.1 (l.flatMap (putF enc))) ∨
      t = 1 ∧ ∃ i : Nat, vs = [.slice none 0 0, .int .i64 i, .int .i64 11] ∧ i < l.length ∧ (∀ a, a ∈ l.take i → 0 < sizeF enc a) ∧ ¬ 0 < sizeF enc (l.getD i 0))) ⟨e1, by simp, by simp, by simp, OwnL.nil ..⟩ ?_ ?_
  · rintro ⟨out, (i : Int), u⟩ h' ⟨k, i0, i1, hfit, o⟩
    dsimp only at i0 i1 hfit o ⊢
    refine wp_ifB (fun hi => ?_) fun hi => ?_
    · rw [ltI_iff, natI_def, hsl] at hi
      refine s_at (hs.ext k) i0 (by omega) fun _ => i_size M hk fun x h2 e2 hx => wp_ifB (fun hz => ?_) fun hz => ?_
      · rw [eqI_iff, hx] at hz
        refine s_ret ⟨fun h => absurd h (by decide), fun _ => ⟨Keep.trans k (e2.keep k.1), .inr ⟨rfl, i.toNat, ?_, by omega, hfit, by omega⟩⟩⟩
        rw [Int.toNat_of_nonneg i0]
      · rw [eqI_not, hx] at hz
        have hp : 0 < sizeF enc (l.getD i.toNat 0) := by have := sizeF_pos enc (l.getD i.toNat 0); omega
        have hfl := flat_len hfit
        rw [List.length_take] at hfl
        refine i_put M hk (o.ext e2) (by have := k.1; have := e2.1; omega) hp (by omega) fun y h3 k3 ⟨o3, _⟩ => ?_
        rw [add_ok (by omega) (by omega)]
        refine s_ret ⟨fun _ => ⟨(y.1, i + 1, ()), rfl, ⟨Keep.trans (Keep.trans k (e2.keep k.1)) k3, by dsimp only; omega, by dsimp only; omega, ?_, ?_⟩, by dsimp only; omega⟩, fun h => absurd rfl h⟩
        · dsimp only; rw [show (i + 1).toNat = i.toNat + 1 by omega]; exact mem_take_succ (by omega) hfit hp
        · dsimp only; rw [show (i + 1).toNat = i.toNat + 1 by omega, flat_succ (by omega)]; exact o3
    · rw [ltI_not, natI_def, hsl] at hi
      rw [List.take_of_length_le (by omega)] at hfit o
      exact s_ret ⟨fun h => absurd h (by decide), fun _ => ⟨k, .inl ⟨rfl, (out, ()), rfl, hfit, o⟩⟩⟩
  · rintro t vs h' ⟨k, ⟨ht, x, hv, hfit, o⟩ | ⟨ht, i, hv, hi, hfit, hz⟩⟩
    · exact s_exit ht x hv (s_ret ⟨rfl, k, (x.1, 0, 0, ()), rfl, _, o, .inr (.inr ⟨hk, hfit, rfl, rfl, rfl⟩)⟩)
    · exact s_skip (by omega) (s_exit ht (⟨none, 0, 0⟩, (i : Int), 11, ()) hv (s_ret ⟨rfl, k, (⟨none, 0, 0⟩, (i : Int), 11, ()), rfl, [], OwnL.nil .., .inr (.inl ⟨hk, i, hi, hfit, hz, rfl, rfl, rfl⟩)⟩))

theorem EncA.ext {n : Nat} {enc : Int} {l : List Int} {x : Sl × Int × Int × Unit} {h' : Heap} (hx : EncA n enc l x h) (e : Ext h h') : EncA n enc l x h' := let ⟨b, o, r⟩ := hx; ⟨b, o.ext e, r⟩

end Go.Sw.Codec

set_option linter.unusedVariables false
set_option linter.unusedSimpArgs false
set_option maxRecDepth 100000
namespace Go.Sw.Codec

def boundsF (c : Int) : Int × Int × Int :=
  if c < 128 then (1, 0, 0) else if c < 194 then (0, 0, 0) else if c < 224 then (2, 128, 191) else if c = 224 then (3, 160, 191) else if c = 237 then (3, 128, 159)
  else if c < 240 then (3, 128, 191) else if c = 240 then (4, 144, 191) else if c < 244 then (4, 128, 191) else if c = 244 then (4, 128, 143) else (0, 0, 0)
def contF (x : Int) : Prop := 128 ≤ x ∧ x ≤ 191
instance (x : Int) : Decidable (contF x) := inferInstanceAs (Decidable (_ ∧ _))

/-- How many of the first bytes go with the row, how long the row is. -/
def rowG (b0 b1 b2 b3 : Int) : Int × Int :=
  if (boundsF b0).1 < 2 then ((boundsF b0).1, (boundsF b0).1)
  else if ¬ ((boundsF b0).2.1 ≤ b1 ∧ b1 ≤ (boundsF b0).2.2) then (1, (boundsF b0).1)
  else if (boundsF b0).1 = 2 ∨ ¬ contF b2 then (2, (boundsF b0).1)
  else if (boundsF b0).1 = 3 ∨ ¬ contF b3 then (3, (boundsF b0).1)
  else (4, (boundsF b0).1)
def rowF (l : List Int) : Int × Int := rowG (l.getD 0 0) (l.getD 1 0) (l.getD 2 0) (l.getD 3 0)

def maskF (n b0 : Int) : Int := if n = 2 then b0 % 32 else if n = 3 then b0 % 16 else if n = 4 then b0 % 8 else b0
def valP (a : Int) (l : List Int) : Nat → Int
  | 0 => a
  | i + 1 => valP a l i * 64 + l.getD (i + 1) 0 % 64

def first8 (l : List Int) : Int × Int :=
  if (rowF l).2 = 0 ∨ (rowF l).1 < (rowF l).2 then (-1 - l.getD 0 0, 1) else (valP (maskF (rowF l).2 (l.getD 0 0)) l ((rowF l).2 - 1).toNat, (rowF l).2)

def unitF (enc : Int) (l : List Int) (i : Nat) : Int := if enc = 2 then l.getD i 0 + 256 * l.getD (i + 1) 0 else 256 * l.getD i 0 + l.getD (i + 1) 0
def first16 (enc : Int) (l : List Int) : Int × Int :=
  if l.length = 1 then (-1 - l.getD 0 0, 1)
  else if 55296 ≤ unitF enc l 0 ∧ unitF enc l 0 < 56320 ∧ 4 ≤ l.length ∧ 56320 ≤ unitF enc l 2 ∧ unitF enc l 2 < 57344 then (65536 + (unitF enc l 0 - 55296) * 1024 + (unitF enc l 2 - 56320), 4)
  else (unitF enc l 0, 2)

def firstF (enc : Int) (l : List Int) : Int × Int := if enc = 1 then first8 l else if enc = 4 then (l.getD 0 0, 1) else first16 enc l

def isBytes (l : List Int) : Prop := ∀ x, x ∈ l → fitsI .u8 x
theorem isBytes.at {l : List Int} (h : isBytes l) (i : Nat) : 0 ≤ l.getD i 0 ∧ l.getD i 0 ≤ 255 := by
  rw [List.getD_eq_getElem?_getD]
  cases hi : l[i]? with
  | none => exact ⟨by decide, by decide⟩
  | some x => exact fits_u8.1 (h x (List.mem_of_getElem? hi))
theorem isBytes.drop {l : List Int} (h : isBytes l) (i : Nat) : isBytes (l.drop i) := fun x hx => h x (List.mem_of_mem_drop hx)
theorem isBytes.take {l : List Int} (h : isBytes l) (i : Nat) : isBytes (l.take i) := fun x hx => h x (List.mem_of_mem_take hx)
theorem getD_drop (l : List Int) (a i : Nat) : (l.drop a).getD i 0 = l.getD (a + i) 0 := by
  rw [List.getD_eq_getElem?_getD, List.getD_eq_getElem?_getD, List.getElem?_drop]
theorem lt_of_getD {l : List Int} {i : Nat} (h : l.getD i 0 ≠ 0) : i < l.length := by
  by_cases hlt : i < l.length
  · exact hlt
  · rw [List.getD_eq_getElem?_getD, List.getElem?_eq_none (by omega)] at h; exact absurd rfl h

theorem bounds_n (c : Int) (h0 : 0 ≤ c) (h1 : c ≤ 255) : 0 ≤ (boundsF c).1 ∧ (boundsF c).1 ≤ 4 ∧ ((boundsF c).1 < 2 ∨ 128 ≤ (boundsF c).2.1) := by
  unfold boundsF; (repeat' split) <;> simp

theorem rowG_le (b0 b1 b2 b3 : Int) (h0 : 0 ≤ b0) (h1 : b0 ≤ 255) : (rowG b0 b1 b2 b3).2 = (boundsF b0).1 ∧ (rowG b0 b1 b2 b3).1 ≤ (rowG b0 b1 b2 b3).2 ∧ 0 ≤ (rowG b0 b1 b2 b3).1 := by
  have := bounds_n b0 h0 h1
  unfold rowG
  generalize (boundsF b0).1 = n at *
  generalize (boundsF b0).2.1 = lo at *
  generalize (boundsF b0).2.2 = hi at *
  (repeat' split) <;> simp <;> omega

theorem row_have {b0 b1 b2 b3 : Int} (hn : 2 ≤ (rowG b0 b1 b2 b3).2) : (2 ≤ (rowG b0 b1 b2 b3).1 → 128 ≤ b1) ∧ (3 ≤ (rowG b0 b1 b2 b3).1 → 128 ≤ b2) ∧ (4 ≤ (rowG b0 b1 b2 b3).1 → 128 ≤ b3) ∧ 1 ≤ (rowG b0 b1 b2 b3).1 := by
  have hb : (boundsF b0).1 < 2 ∨ 128 ≤ (boundsF b0).2.1 := by unfold boundsF; (repeat' split) <;> simp
  unfold rowG contF at *
  generalize (boundsF b0).1 = n at *
  generalize (boundsF b0).2.1 = lo at *
  generalize (boundsF b0).2.2 = hi at *
  (repeat' split at hn) <;> (repeat' split) <;> simp at * <;> omega

theorem row_len {l : List Int} (hl : 0 < l.length) (hb : isBytes l) : (rowF l).1 ≤ l.length ∨ (rowF l).2 < 2 := by
  by_cases hn : 2 ≤ (rowF l).2
  · left
    unfold rowF at *
    obtain ⟨h1, h2, h3, h4⟩ := row_have hn
    have h01 := hb.at 0
    have hle := rowG_le (l.getD 0 0) (l.getD 1 0) (l.getD 2 0) (l.getD 3 0) h01.1 h01.2
    have hbn := bounds_n (l.getD 0 0) h01.1 h01.2
    generalize hr : rowG (l.getD 0 0) (l.getD 1 0) (l.getD 2 0) (l.getD 3 0) = r at *
    have k1 : 2 ≤ r.1 → 1 < l.length := fun h => lt_of_getD (by have := h1 h; omega)
    have k2 : 3 ≤ r.1 → 2 < l.length := fun h => lt_of_getD (by have := h2 h; omega)
    have k3 : 4 ≤ r.1 → 3 < l.length := fun h => lt_of_getD (by have := h3 h; omega)
    omega
  · right; omega

theorem first8_size {l : List Int} (hl : 0 < l.length) (hb : isBytes l) : 1 ≤ (first8 l).2 ∧ (first8 l).2 ≤ 4 ∧ (first8 l).2 ≤ l.length := by
  have h01 := hb.at 0
  have hle := rowG_le (l.getD 0 0) (l.getD 1 0) (l.getD 2 0) (l.getD 3 0) h01.1 h01.2
  have hbn := bounds_n (l.getD 0 0) h01.1 h01.2
  have hrl := row_len hl hb
  unfold first8
  have hr : rowF l = rowG (l.getD 0 0) (l.getD 1 0) (l.getD 2 0) (l.getD 3 0) := rfl
  rw [← hr] at hle
  split
  · simp; omega
  · dsimp only; omega
theorem first16_size {enc : Int} {l : List Int} (hl : 0 < l.length) : 1 ≤ (first16 enc l).2 ∧ (first16 enc l).2 ≤ 4 ∧ (first16 enc l).2 ≤ l.length := by
  unfold first16; (repeat' split) <;> simp <;> omega
theorem firstF_size {enc : Int} {l : List Int} (hl : 0 < l.length) (hb : isBytes l) : 1 ≤ (firstF enc l).2 ∧ (firstF enc l).2 ≤ 4 ∧ (firstF enc l).2 ≤ l.length := by
  unfold firstF
  (repeat' split)
  · exact first8_size hl hb
  · simp; omega
  · exact first16_size hl

theorem valP_bound {a : Int} {l : List Int} (h0 : 0 ≤ a) (h1 : a < 256) : ∀ i : Nat, 0 ≤ valP a l i ∧ valP a l i < 256 * 64 ^ i := by
  intro i
  induction i with
  | zero => simp [valP]; omega
  | succ i ih =>
    simp only [valP]
    have e : (64 : Int) ^ (i + 1) = 64 ^ i * 64 := by rw [Int.pow_succ]
    rw [e]
    generalize (64 : Int) ^ i = p at *
    omega
theorem valP_small {a : Int} {l : List Int} (h0 : 0 ≤ a) (h1 : a < 256) {i : Nat} (hi : i ≤ 3) : 0 ≤ valP a l i ∧ valP a l i < 67108864 := by
  have := valP_bound (l := l) h0 h1 i
  have : i = 0 ∨ i = 1 ∨ i = 2 ∨ i = 3 := by omega
  rcases this with rfl | rfl | rfl | rfl <;> simp at this ⊢ <;> omega

/-! ### All atoms -/

def decN (enc : Int) : Nat → List Int → List Int
  | 0, _ => []
  | n + 1, l => if l.length = 0 then [] else (firstF enc l).1 :: decN enc n (l.drop (firstF enc l).2.toNat)
def dec (enc : Int) (l : List Int) : List Int := decN enc l.length l

/-! ### The document's way: which scalar has these bytes -/

def leadF (m : Nat) : Int := if m = 2 then 192 else if m = 3 then 224 else if m = 4 then 240 else 0
def mtP (a : Int) (l : List Int) : Nat → Int
  | 0 => a
  | i + 1 => mtP a l i * 64 + l.getD (i + 1) 0 - 128
def meantF (m : Nat) (l : List Int) : Int := mtP (l.getD 0 0 - leadF m) l (m - 1)
def scalarF (a : Int) : Prop := (0 ≤ a ∧ a < 55296) ∨ (57343 < a ∧ a ≤ 1114111)
instance (x : Int) : Decidable (scalarF x) := inferInstanceAs (Decidable (_ ∨ _))
def cand (m : Nat) (l : List Int) : Prop := scalarF (meantF m l) ∧ (eightB (meantF m l)).length = m ∧ begF l 0 (eightB (meantF m l)) = true

theorem beg1 (l : List Int) (a : Int) : begF l 0 [a] = decide (1 ≤ l.length ∧ l.getD 0 0 = a) := by
  unfold begF
  match l with
  | [] => simp
  | x :: r => simp
theorem beg4 (l : List Int) (a b c d : Int) : begF l 0 [a, b, c, d] = decide (4 ≤ l.length ∧ l.getD 0 0 = a ∧ l.getD 1 0 = b ∧ l.getD 2 0 = c ∧ l.getD 3 0 = d) := by
  unfold begF
  match l with
  | [] => simp
  | [x] => simp
  | [x, y] => simp
  | [x, y, z] => simp
  | x :: y :: z :: w :: r => simp

theorem beg_eight {l : List Int} {a : Int} : begF l 0 (eightB a) = true ↔
    (a < 128 ∧ 1 ≤ l.length ∧ l.getD 0 0 = a) ∨ (128 ≤ a ∧ a < 2048 ∧ 2 ≤ l.length ∧ l.getD 0 0 = 192 + a / 64 ∧ l.getD 1 0 = 128 + a % 64) ∨
    (2048 ≤ a ∧ a < 65536 ∧ 3 ≤ l.length ∧ l.getD 0 0 = 224 + a / 4096 ∧ l.getD 1 0 = 128 + a / 64 % 64 ∧ l.getD 2 0 = 128 + a % 64) ∨
    (65536 ≤ a ∧ 4 ≤ l.length ∧ l.getD 0 0 = 240 + a / 262144 ∧ l.getD 1 0 = 128 + a / 4096 % 64 ∧ l.getD 2 0 = 128 + a / 64 % 64 ∧ l.getD 3 0 = 128 + a % 64) := by
  unfold eightB
  by_cases h1 : a < 128
  · rw [if_pos h1, beg1, decide_eq_true_eq]; omega
  rw [if_neg h1]
  by_cases h2 : a < 2048
  · rw [if_pos h2, beg2, decide_eq_true_eq]; omega
  rw [if_neg h2]
  by_cases h3 : a < 65536
  · rw [if_pos h3, beg3, decide_eq_true_eq]; omega
  rw [if_neg h3, beg4, decide_eq_true_eq]; omega
theorem len_eight (a : Int) : (eightB a).length = if a < 128 then 1 else if a < 2048 then 2 else if a < 65536 then 3 else 4 := by
  unfold eightB; (repeat' split) <;> rfl

theorem bounds_cases (x : Int) (h0 : 0 ≤ x) (h1 : x ≤ 255) :
    (x < 128 ∧ boundsF x = (1, 0, 0)) ∨ (128 ≤ x ∧ x < 194 ∧ boundsF x = (0, 0, 0)) ∨ (194 ≤ x ∧ x < 224 ∧ boundsF x = (2, 128, 191)) ∨ (x = 224 ∧ boundsF x = (3, 160, 191)) ∨ (x = 237 ∧ boundsF x = (3, 128, 159)) ∨
    (224 < x ∧ x < 240 ∧ x ≠ 237 ∧ boundsF x = (3, 128, 191)) ∨ (x = 240 ∧ boundsF x = (4, 144, 191)) ∨ (240 < x ∧ x < 244 ∧ boundsF x = (4, 128, 191)) ∨ (x = 244 ∧ boundsF x = (4, 128, 143)) ∨ (244 < x ∧ boundsF x = (0, 0, 0)) := by
  unfold boundsF
  (repeat' split) <;> simp <;> omega

/-- A row that is whole: its bytes. -/
theorem row_is {x0 x1 x2 x3 : Int} (h0 : 0 ≤ x0) (h1 : x0 ≤ 255) (m : Int) (hm : 1 ≤ m) : rowG x0 x1 x2 x3 = (m, m) ↔
    (m = 1 ∧ x0 < 128) ∨ (m = 2 ∧ 194 ≤ x0 ∧ x0 < 224 ∧ contF x1) ∨
    (m = 3 ∧ 224 ≤ x0 ∧ x0 < 240 ∧ contF x1 ∧ contF x2 ∧ (x0 = 224 → 160 ≤ x1) ∧ (x0 = 237 → x1 ≤ 159)) ∨
    (m = 4 ∧ 240 ≤ x0 ∧ x0 ≤ 244 ∧ contF x1 ∧ contF x2 ∧ contF x3 ∧ (x0 = 240 → 144 ≤ x1) ∧ (x0 = 244 → x1 ≤ 143)) := by
  unfold rowG contF
  rcases bounds_cases x0 h0 h1 with ⟨c, e⟩ | ⟨c, d, e⟩ | ⟨c, d, e⟩ | ⟨c, e⟩ | ⟨c, e⟩ | ⟨c, d, d', e⟩ | ⟨c, e⟩ | ⟨c, d, e⟩ | ⟨c, e⟩ | ⟨c, e⟩
  all_goals rw [e]
  all_goals dsimp only
  all_goals (repeat' split)
  all_goals simp only [Prod.mk.injEq]
  all_goals omega

theorem len_iff (a : Int) (m : Nat) : (eightB a).length = m ↔ (m = 1 ∧ a < 128) ∨ (m = 2 ∧ 128 ≤ a ∧ a < 2048) ∨ (m = 3 ∧ 2048 ≤ a ∧ a < 65536) ∨ (m = 4 ∧ 65536 ≤ a) := by
  rw [len_eight]; (repeat' split) <;> omega

/-- A row that is whole is one of a scalar with just these bytes, and the other way round. -/
theorem cand_iff {l : List Int} (hb : isBytes l) {m : Nat} (h1 : 1 ≤ m) (h4 : m ≤ 4) (hm : m ≤ l.length) : cand m l ↔ rowF l = ((m : Int), (m : Int)) := by
  have b0 := hb.at 0
  have b1 := hb.at 1
  have b2 := hb.at 2
  have b3 := hb.at 3
  unfold cand
  rw [beg_eight, len_iff]
  unfold rowF
  rw [row_is b0.1 b0.2 _ (by omega)]
  unfold scalarF meantF contF
  have hcase : m = 1 ∨ m = 2 ∨ m = 3 ∨ m = 4 := by omega
  rcases hcase with rfl | rfl | rfl | rfl
  · simp only [mtP, leadF, Nat.reduceSub, if_false, Nat.reduceEqDiff, Int.reduceEq, Nat.reduceEqDiff, true_and, false_and, or_false, false_or, Int.cast_ofNat_Int, reduceCtorEq, Int.natCast_one]
    generalize l.getD 0 0 = x0 at *
    clear b1 b2 b3
    constructor
    · rintro ⟨h, h', h''⟩; omega
    · intro h; exact ⟨by omega, by omega, by omega⟩
  · simp only [mtP, leadF, Nat.reduceSub, if_true, if_false, Nat.reduceEqDiff, Nat.reduceAdd, Int.reduceEq, Nat.reduceEqDiff, true_and, false_and, or_false, false_or, Int.cast_ofNat_Int, reduceCtorEq]
    generalize l.getD 0 0 = x0 at *
    generalize l.getD 1 0 = x1 at *
    obtain ⟨a, ha⟩ : ∃ a, a = (x0 - 192) * 64 + x1 - 128 := ⟨_, rfl⟩
    rw [← ha]
    clear b2 b3
    constructor
    · rintro ⟨h, h', h''⟩
      have h' : 128 ≤ a ∧ a < 2048 := by omega
      have h'' : x0 = 192 + a / 64 ∧ x1 = 128 + a % 64 := by omega
      omega
    · intro h
      have h : 194 ≤ x0 ∧ x0 < 224 ∧ 128 ≤ x1 ∧ x1 ≤ 191 := by omega
      exact ⟨by omega, by omega, .inr (.inl (by omega))⟩
  · simp only [mtP, leadF, Nat.reduceSub, if_true, if_false, Nat.reduceEqDiff, Nat.reduceAdd, Int.reduceEq, Nat.reduceEqDiff, true_and, false_and, or_false, false_or, Int.cast_ofNat_Int, reduceCtorEq]
    generalize l.getD 0 0 = x0 at *
    generalize l.getD 1 0 = x1 at *
    generalize l.getD 2 0 = x2 at *
    obtain ⟨a, ha⟩ : ∃ a, a = ((x0 - 224) * 64 + x1 - 128) * 64 + x2 - 128 := ⟨_, rfl⟩
    rw [← ha]
    clear b3
    constructor
    · rintro ⟨h, h', h''⟩
      have h' : 2048 ≤ a ∧ a < 65536 := by omega
      rcases h'' with h'' | h'' | h'' | h''
      · omega
      · omega
      · obtain ⟨_, _, _, e0, e1, e2⟩ := h''
        exact ⟨by omega, by omega, by omega, by omega, by omega, by omega⟩
      · omega
    · intro h
      have h : 224 ≤ x0 ∧ x0 < 240 ∧ (128 ≤ x1 ∧ x1 ≤ 191) ∧ (128 ≤ x2 ∧ x2 ≤ 191) ∧ (x0 = 224 → 160 ≤ x1) ∧ (x0 = 237 → x1 ≤ 159) := by omega
      obtain ⟨g1, g2, g3, g4, g5, g6⟩ := h
      have e0 : a / 4096 = x0 - 224 := by omega
      have e1 : a / 64 = (x0 - 224) * 64 + x1 - 128 := by omega
      refine ⟨by omega, ⟨by omega, by omega⟩, .inr (.inr (.inl ⟨by omega, by omega, hm, by omega, by omega, by omega⟩))⟩
  · simp only [mtP, leadF, Nat.reduceSub, if_true, if_false, Nat.reduceEqDiff, Nat.reduceAdd, Int.reduceEq, Nat.reduceEqDiff, true_and, false_and, or_false, false_or, Int.cast_ofNat_Int, reduceCtorEq]
    generalize l.getD 0 0 = x0 at *
    generalize l.getD 1 0 = x1 at *
    generalize l.getD 2 0 = x2 at *
    generalize l.getD 3 0 = x3 at *
    obtain ⟨a, ha⟩ : ∃ a, a = (((x0 - 240) * 64 + x1 - 128) * 64 + x2 - 128) * 64 + x3 - 128 := ⟨_, rfl⟩
    rw [← ha]
    constructor
    · rintro ⟨h, h', h''⟩
      have h' : 65536 ≤ a := by omega
      have h : a ≤ 1114111 := by omega
      rcases h'' with h'' | h'' | h'' | h''
      · omega
      · omega
      · omega
      · obtain ⟨_, _, e0, e1, e2, e3⟩ := h''
        exact ⟨by omega, by omega, by omega, by omega, by omega, by omega, by omega⟩
    · intro h
      have h : 240 ≤ x0 ∧ x0 ≤ 244 ∧ (128 ≤ x1 ∧ x1 ≤ 191) ∧ (128 ≤ x2 ∧ x2 ≤ 191) ∧ (128 ≤ x3 ∧ x3 ≤ 191) ∧ (x0 = 240 → 144 ≤ x1) ∧ (x0 = 244 → x1 ≤ 143) := by omega
      obtain ⟨g1, g2, g3, g4, g4', g5, g6⟩ := h
      have e0 : a / 262144 = x0 - 240 := by omega
      have e1 : a / 4096 = (x0 - 240) * 64 + x1 - 128 := by omega
      have e2 : a / 64 = ((x0 - 240) * 64 + x1 - 128) * 64 + x2 - 128 := by omega
      refine ⟨by omega, by omega, .inr (.inr (.inr ⟨by omega, hm, by omega, by omega, by omega, by omega⟩))⟩

theorem meant_val {l : List Int} (hb : isBytes l) {m : Nat} (h1 : 1 ≤ m) (h4 : m ≤ 4) (hr : rowF l = ((m : Int), (m : Int))) : first8 l = (meantF m l, (m : Int)) := by
  have b0 := hb.at 0
  have hr' := hr
  unfold rowF at hr'
  rw [row_is b0.1 b0.2 _ (by omega)] at hr'
  unfold first8
  rw [hr, if_neg (by dsimp only; omega)]
  unfold meantF maskF contF at *
  have hcase : m = 1 ∨ m = 2 ∨ m = 3 ∨ m = 4 := by omega
  rcases hcase with rfl | rfl | rfl | rfl
  all_goals simp [valP, mtP, leadF]
  all_goals simp at hr' b0
  all_goals generalize l[0]?.getD 0 = x0 at *
  all_goals generalize l[1]?.getD 0 = x1 at *
  all_goals generalize l[2]?.getD 0 = x2 at *
  all_goals generalize l[3]?.getD 0 = x3 at *
  all_goals omega
theorem raw_val {l : List Int} (hb : isBytes l) (hl : 0 < l.length) (hr : ∀ m : Nat, 1 ≤ m → m ≤ 4 → m ≤ l.length → rowF l ≠ ((m : Int), (m : Int))) : first8 l = (-1 - l.getD 0 0, 1) := by
  have b0 := hb.at 0
  have hle := rowG_le (l.getD 0 0) (l.getD 1 0) (l.getD 2 0) (l.getD 3 0) b0.1 b0.2
  have hbn := bounds_n (l.getD 0 0) b0.1 b0.2
  have hrl := row_len hl hb
  unfold first8
  split
  · rfl
  · rename_i hn
    exfalso
    have hr2 : rowF l = rowG (l.getD 0 0) (l.getD 1 0) (l.getD 2 0) (l.getD 3 0) := rfl
    rw [← hr2] at hle
    refine hr (rowF l).2.toNat (by omega) (by omega) (by omega) ?_
    refine Prod.ext ?_ ?_ <;> dsimp only <;> omega
end Go.Sw.Codec

set_option linter.unusedVariables false
set_option linter.unusedSimpArgs false
set_option maxRecDepth 100000
namespace Go.Sw.Codec
variable {P : Program} {S : Ids} {h : Heap} {Q : Nat → List Value → Heap → Prop}

theorem c_bounds {c : Int} : Gives P (F_codec_bounds S c) [.one (.int .i64), .one (.int .u8), .one (.int .u8)] h fun (x : Int × Int × Int × Unit) _ => (x.1, x.2.1, x.2.2.1) = boundsF c := by
  refine gives_pure ((boundsF c).1, (boundsF c).2.1, (boundsF c).2.2, ()) (fun Q hq => ?_) fun _ => rfl
  unfold F_codec_bounds boundsF at *
  simp only [e_if, e_ret, eqI_iff, ltI_iff]
  have := hq h (Ext.refl h)
  repeat' split
  all_goals simp_all [Ts.inj, Ty.inj, B.inj]

theorem c_row {b : Sl} {l : List Int} (hb : Lst .u8 h b l) (hl : 0 < l.length) : Gives P (F_codec_row S b) [.one (.int .i64), .one (.int .i64)] h fun (x : Int × Int × Unit) _ => (x.1, x.2.1) = rowF l := by
  have hlb := hb.len
  have hbd := hb.bound
  have b0 := hb.byte 0
  have hbn := bounds_n (l.getD 0 0) b0.1 b0.2
  unfold F_codec_row rowF rowG
  refine s_at0 (n := 0) hb hl fun _ => wp_call c_bounds fun ⟨(n : Int), (lo : Int), (hi : Int), _⟩ h1 e1 hx => ?_
  have hx : (n, lo, hi) = boundsF (l.getD 0 0) := hx
  rw [← hx] at hbn ⊢
  dsimp only at hbn ⊢
  refine wp_ifB (fun hc => ?_) fun hc => ?_
  · rw [ltI_iff] at hc
    rw [if_pos hc]
    exact s_ret ⟨rfl, e1, (n, n, ()), rfl, rfl⟩
  rw [ltI_not] at hc
  rw [if_neg (by omega)]
  have hb1 := hb.ext e1
  have at1 : ∀ {h' K Q}, Ext h1 h' → 1 < l.length → wp P (K (l.getD 1 0)) h' Q → wp P (grd (andB (someB b.base) (inB 1 b.len)) (.load (.one (.int .u8)) (shiftTo b.base 1) K)) h' Q := fun e h1 hk => s_at0 (n := 1) (hb1.ext e) h1 fun _ => hk
  have hz : ∀ i, l.length ≤ i → l.getD i 0 = 0 := fun i hi => by rw [List.getD_eq_getElem?_getD, List.getElem?_eq_none hi]; rfl
  refine bind_bool (¬ (lo ≤ l.getD 1 0 ∧ l.getD 1 0 ≤ hi)) ?_ fun c h2 e2 hc2 => wp_ifB (fun h3 => ?_) fun h3 => ?_
  · refine wp_ifB (fun hc => ?_) fun hc => ?_
    · rw [ltI_iff, natI_def, hlb] at hc
      refine s_ret ⟨rfl, Ext.refl _, _, rfl, ?_⟩
      rw [hz 1 (by omega)]; exact ⟨fun _ => by omega, fun _ => rfl⟩
    rw [ltI_not, natI_def, hlb] at hc
    refine at1 (Ext.refl _) (by omega) (wp_ifB (fun hc => ?_) fun hc => ?_)
    · rw [ltI_iff] at hc
      exact s_ret ⟨rfl, Ext.refl _, _, rfl, ⟨fun _ => by omega, fun _ => rfl⟩⟩
    rw [ltI_not] at hc
    refine at1 (Ext.refl _) (by omega) (s_ret ⟨rfl, Ext.refl _, _, rfl, ?_⟩)
    rw [gtI_iff]; omega
  · rw [if_pos (hc2.1 h3)]
    exact s_ret ⟨rfl, e1.trans e2, (1, n, ()), rfl, rfl⟩
  have hc3 : lo ≤ l.getD 1 0 ∧ l.getD 1 0 ≤ hi := Classical.not_not.1 fun hn => by rw [hc2.2 hn] at h3; cases h3
  rw [if_neg (fun hn => hn hc3)]
  have hb2 := hb1.ext e2
  refine wp_while (fun (s : Int × Unit) h' => Ext h h' ∧ 2 ≤ s.1 ∧ s.1 ≤ n ∧ ∀ j : Nat, 2 ≤ j → (j : Int) < s.1 → contF (l.getD j 0)) (fun s _ => 4 - s.1.toNat)
    (fun t vs h' => t = 2 ∧ ∃ k : Int, vs = [.int .i64 k] ∧ Ext h h' ∧ 2 ≤ k ∧ k ≤ n ∧ (∀ j : Nat, 2 ≤ j → (j : Int) < k → contF (l.getD j 0)) ∧ (k < n → ¬ contF (l.getD k.toNat 0))) ⟨e1.trans e2, by simp, by dsimp only; omega, fun j h1 h2 => by dsimp only at h2; omega⟩ ?_ ?_
  · rintro ⟨(k : Int), u⟩ h' ⟨e, k0, k1, hk⟩
    dsimp only at k0 k1 hk ⊢
    refine bind_bool (k < n ∧ contF (l.getD k.toNat 0)) ?_ fun c h3 e3 hc => wp_ifB (fun h3 => ?_) fun h3 => ?_
    · refine wp_ifB (fun hc => ?_) fun hc => ?_
      · rw [ltI_iff] at hc
        refine wp_ifB (fun hd => ?_) fun hd => ?_
        · rw [ltI_iff, natI_def, hlb] at hd
          refine s_at (hb.ext e) (by omega) (by omega) fun hf => s_ret ⟨rfl, Ext.refl _, _, rfl, ?_⟩
          rw [fits_u8] at hf
          rw [eqI_iff, and8_192 hf.1 (by omega)]
          unfold contF
          omega
        · rw [ltI_not, natI_def, hlb] at hd
          refine s_ret ⟨rfl, Ext.refl _, _, rfl, ?_⟩
          rw [hz _ (by omega)]; simp [contF]
      · rw [ltI_not] at hc
        exact s_ret ⟨rfl, Ext.refl _, _, rfl, by constructor; · intro h; cases h
                                                 · intro h; omega⟩
    · obtain ⟨q1, q2⟩ := hc.1 h3
      rw [add_ok (by omega) (by omega)]
      refine s_ret ⟨fun _ => ⟨(k + 1, ()), rfl, ⟨e.trans e3, by dsimp only; omega, by dsimp only; omega, fun j j1 j2 => ?_⟩, by dsimp only; omega⟩, fun h => absurd rfl h⟩
      dsimp only at j2
      by_cases hj : (j : Int) = k
      · rw [show j = k.toNat by omega]; exact q2
      · exact hk j j1 (by omega)
    · refine s_ret ⟨fun h => absurd h (by decide), fun _ => ⟨rfl, k, rfl, e.trans e3, k0, k1, hk, fun hlt hcn => ?_⟩⟩
      rw [hc.2 ⟨hlt, hcn⟩] at h3; cases h3
  · rintro t vs h' ⟨ht, k, hv, e, k0, k1, hk, hlast⟩
    refine s_exit ht (k, ()) hv (s_ret ⟨rfl, e, (k, n, ()), rfl, ?_⟩)
    dsimp only
    have c2 : 2 < k → contF (l.getD 2 0) := fun h => hk 2 (by omega) (by omega)
    have c3 : 3 < k → contF (l.getD 3 0) := fun h => hk 3 (by omega) (by omega)
    have d2 : k = 2 → 2 < n → ¬ contF (l.getD 2 0) := fun h h' => by have := hlast (by omega); rwa [h] at this
    have d3 : k = 3 → 3 < n → ¬ contF (l.getD 3 0) := fun h h' => by have := hlast (by omega); rwa [h] at this
    have hkc : k = 2 ∨ k = 3 ∨ k = 4 := by omega
    rcases hkc with rfl | rfl | rfl
    · rw [if_pos]
      by_cases hn : n = 2
      · exact .inl hn
      · exact .inr (d2 rfl (by omega))
    · rw [if_neg (by intro hx; rcases hx with hx | hx; omega; exact hx (c2 (by omega))), if_pos]
      by_cases hn : n = 3
      · exact .inl hn
      · exact .inr (d3 rfl (by omega))
    · rw [if_neg (by intro hx; rcases hx with hx | hx; omega; exact hx (c2 (by omega))), if_neg (by intro hx; rcases hx with hx | hx; omega; exact hx (c3 (by omega)))]

def duo : List Ty := [.one (.int .i64), .one (.int .i64)]

theorem c_eight_first {b : Sl} {l : List Int} (hb : Lst .u8 h b l) (hl : 0 < l.length) : Gives P (F_eight_first S () b) duo h fun (x : Int × Int × Unit) _ => (x.1, x.2.1) = first8 l := by
  have hlb := hb.len
  have hbd := hb.bound
  have hby : isBytes l := hb.wf
  have b0 := hb.byte 0
  have hle := rowG_le (l.getD 0 0) (l.getD 1 0) (l.getD 2 0) (l.getD 3 0) b0.1 b0.2
  have hbn := bounds_n (l.getD 0 0) b0.1 b0.2
  have hrl := row_len hl hby
  have hrf : rowF l = rowG (l.getD 0 0) (l.getD 1 0) (l.getD 2 0) (l.getD 3 0) := rfl
  rw [← hrf] at hle
  unfold F_eight_first first8
  refine s_alloc0 fun h1 e1 => wp_call (c_row (hb.ext e1) hl) fun ⟨(hv : Int), (n : Int), _⟩ h2 e2 hx => ?_
  have hx : (hv, n) = rowF l := hx
  rw [← hx] at hle hrl ⊢
  dsimp only at hle hrl ⊢
  have e12 := e1.trans e2
  refine bind_bool (n = 0 ∨ hv < n) ?_ fun c h3 e3 hc => wp_ifB (fun hc3 => ?_) fun hc3 => ?_
  · refine wp_ifB (fun hn => ?_) fun hn => ?_
    · rw [eqI_iff] at hn
      exact s_ret ⟨rfl, Ext.refl _, _, rfl, by simp [hn]⟩
    · rw [eqI_not] at hn
      exact s_ret ⟨rfl, Ext.refl _, _, rfl, by rw [ltI_iff]; omega⟩
  · rw [if_pos (hc.1 hc3)]
    refine s_at0 (n := 0) ((hb.ext e12).ext e3) hl fun _ => ?_
    rw [wrap_ok (by omega) (by omega), sub_ok (by omega) (by omega)]
    exact s_ret ⟨rfl, e12.trans e3, (_, 1, ()), rfl, rfl⟩
  have hnn : ¬ (n = 0 ∨ hv < n) := fun h => by rw [hc.2 h] at hc3; cases hc3
  rw [if_neg hnn]
  have e13 := e12.trans e3
  refine s_at0 (n := 0) (hb.ext e13) hl fun _ => ?_
  rw [wrap_ok (by omega) (by omega), and31, and15, and7]
  refine bind_val (tys := [.one (.int .i64)]) (fun (x : Int × Unit) _ => x.1 = maskF n (l.getD 0 0)) ?_ fun ⟨(m : Int), _⟩ h4 e4 hm => ?_
  · unfold maskF
    refine wp_ifB (fun hn => ?_) fun hn => ?_
    · rw [eqI_iff] at hn
      exact s_ret ⟨rfl, Ext.refl _, (_, ()), rfl, by rw [if_pos hn]⟩
    rw [eqI_not] at hn
    rw [if_neg hn]
    refine wp_ifB (fun hn => ?_) fun hn => ?_
    · rw [eqI_iff] at hn
      exact s_ret ⟨rfl, Ext.refl _, (_, ()), rfl, by rw [if_pos hn]⟩
    rw [eqI_not] at hn
    rw [if_neg hn]
    refine wp_ifB (fun hn => ?_) fun hn => ?_
    · rw [eqI_iff] at hn
      exact s_ret ⟨rfl, Ext.refl _, (_, ()), rfl, by rw [if_pos hn]⟩
    rw [eqI_not] at hn
    exact s_ret ⟨rfl, Ext.refl _, (l.getD 0 0, ()), rfl, by rw [if_neg hn]⟩
  have hm : m = maskF n (l.getD 0 0) := hm
  subst hm
  have hm0 : 0 ≤ maskF n (l.getD 0 0) ∧ maskF n (l.getD 0 0) < 256 := by unfold maskF; (repeat' split) <;> omega
  dsimp only
  have hcap := hb.cap
  refine s_grd (andB_iff.2 ⟨leB_ok (by omega) (by omega), leB_ok (by omega) (by rw [toN_def]; omega)⟩) ?_
  have e14 := e13.trans e4
  have hd : Lst .u8 h4 ⟨cutBase b.base b.cap 1 1, subN (toN n) 1, b.cap - 1⟩ ((l.drop 1).take (n - 1).toNat) := by
    have h1 := (hb.ext e14).drop (i := 1) (m := b.cap - 1) (by omega) (by omega) (by have := hb.max; omega)
    have h2 := h1.take (n := (n - 1).toNat) (m := b.cap - 1) (by rw [List.length_drop]; omega) (by omega) (by have := hb.max; omega)
    have : subN (toN n) 1 = (n - 1).toNat := by rw [toN_def]; unfold subN; omega
    rw [this]; exact h2
  have hdl := hd.len
  dsimp only at hdl
  rw [List.length_take, List.length_drop] at hdl
  rw [hdl]
  have hmin : min (n - 1).toNat (l.length - 1) = (n - 1).toNat := by omega
  rw [hmin]
  rw [hdl, hmin] at hd
  refine wp_while (fun (s : Int × Int × Unit) h' => Ext h h' ∧ Ext h4 h' ∧ 0 ≤ s.2.1 ∧ s.2.1 ≤ n - 1 ∧ s.1 = valP (maskF n (l.getD 0 0)) l s.2.1.toNat) (fun s _ => (n - 1 - s.2.1).toNat)
    (fun t vs h' => t = 3 ∧ Ext h h' ∧ vs = [.int .i64 (valP (maskF n (l.getD 0 0)) l (n - 1).toNat)]) ⟨e14, Ext.refl _, by simp, by dsimp only; omega, rfl⟩ ?_ ?_
  · rintro ⟨(a : Int), (i : Int), u⟩ h' ⟨e, e5, i0, i1, ha⟩
    dsimp only at i0 i1 ha ⊢
    refine wp_ifB (fun hi => ?_) fun hi => ?_
    · rw [ltI_iff, natI_def] at hi
      have hvs := valP_small (l := l) hm0.1 hm0.2 (i := i.toNat) (by omega)
      rw [← ha] at hvs
      have hbi := hby.at (i.toNat + 1)
      have hgd : ((l.drop 1).take (n - 1).toNat).getD i.toNat 0 = l.getD (i.toNat + 1) 0 := by
        rw [List.getD_eq_getElem?_getD, List.getElem?_take, if_pos (by omega), List.getElem?_drop, ← List.getD_eq_getElem?_getD, Nat.add_comm]
      refine s_at (hd.ext e5) i0 (by rw [List.length_take, List.length_drop]; omega) fun _ => s_not ?_
      rw [hgd, shl6 hvs.1 (by omega), and8_63 hbi.1 (by omega), wrap_ok (by omega) (by omega)]
      rw [or64_join (a := a * 64) (b := l.getD (i.toNat + 1) 0 % 64) 6 (by omega) (by omega) (by simp) (by omega) (by simp; omega) (by decide)]
      rw [add_ok (by omega) (by omega)]
      refine s_ret ⟨fun _ => ⟨(a * 64 + l.getD (i.toNat + 1) 0 % 64, i + 1, ()), rfl, ⟨e, e5, by dsimp only; omega, by dsimp only; omega, ?_⟩, by dsimp only; omega⟩, fun h => absurd rfl h⟩
      dsimp only
      rw [show (i + 1).toNat = i.toNat + 1 by omega]
      show _ = valP _ l i.toNat * 64 + _
      rw [ha]
    · rw [ltI_not, natI_def] at hi
      refine s_ret ⟨fun h => absurd h (by decide), fun _ => ⟨rfl, e, ?_⟩⟩
      rw [ha, show i.toNat = (n - 1).toNat by omega]
  · rintro t vs h' ⟨ht, e, hv⟩
    exact s_exit ht (_, ()) hv (s_ret ⟨rfl, e, (_, n, ()), rfl, rfl⟩)

/-! ### The other coders -/

theorem c_latin_first {b : Sl} {l : List Int} (hb : Lst .u8 h b l) (hl : 0 < l.length) : Gives P (F_latin_first S () b) duo h fun (x : Int × Int × Unit) _ => (x.1, x.2.1) = (l.getD 0 0, 1) := by
  have b0 := hb.byte 0
  unfold F_latin_first
  refine s_alloc0 fun h1 e1 => s_at0 (n := 0) (hb.ext e1) hl fun _ => ?_
  rw [wrap_ok (by omega) (by omega)]
  exact s_ret ⟨rfl, e1, (l.getD 0 0, 1, ()), rfl, rfl⟩

/-- Which coder a receiver's number is of. -/
def le16 (r enc : Int) : Prop := r = 0 ∧ enc = 2 ∨ r = 1 ∧ enc = 3

theorem c_unit {b : Sl} {l : List Int} {r enc : Int} (hr : le16 r enc) (hb : Lst .u8 h b l) (hl : 2 ≤ l.length) : Gives P (F_sixteen_unit S (r, ()) b) [.one (.int .i64)] h fun (x : Int × Unit) _ => x.1 = unitF enc l 0 := by
  have b0 := hb.byte 0
  have b1 := hb.byte 1
  unfold le16 at hr
  unfold F_sixteen_unit
  dsimp only
  refine s_allocL [r] (fun x hx => by rw [List.mem_singleton.1 hx, fits_i64]; omega) (by simp) fun h1 e1 o1 => ?_
  refine s_loadL o1.lst (j := 0) (by simp) ?_
  simp only [List.getD_cons_zero]
  refine s_at (hb.ext e1) (by omega) (by omega) fun _ => s_loadL o1.lst (j := 0) (by simp) ?_
  simp only [List.getD_cons_zero]
  rw [sub_ok (by omega) (by omega)]
  refine s_at (hb.ext e1) (by omega) (by omega) fun _ => s_not ?_
  have key : orI .i64 (wrapI .i64 (l.getD r.toNat 0)) (shlI .i64 (wrapI .i64 (l.getD (1 - r).toNat 0)) 8) = unitF enc l 0 := by
    have j : ∀ x y : Int, 0 ≤ x → x ≤ 255 → 0 ≤ y → y ≤ 255 → orI .i64 (wrapI .i64 x) (shlI .i64 (wrapI .i64 y) 8) = x + 256 * y := by
      intro x y x0 x1 y0 y1
      rw [wrap_ok (by omega) (by omega), wrap_ok (by omega) (by omega), shl8 y0 (by omega)]
      have : orI .i64 x (y * 256) = orI .i64 (y * 256) x := by
        unfold orI; rw [BitVec.or_comm]
      rw [this, or64_join (a := y * 256) (b := x) 8 (by omega) (by omega) (by simp) (by omega) (by simp; omega) (by decide)]; omega
    rcases hr with ⟨rfl, rfl⟩ | ⟨rfl, rfl⟩
    · rw [j _ _ (hb.byte _).1 (hb.byte _).2 (hb.byte _).1 (hb.byte _).2]; rfl
    · rw [j _ _ (hb.byte _).1 (hb.byte _).2 (hb.byte _).1 (hb.byte _).2]
      show l.getD 1 0 + 256 * l.getD 0 0 = 256 * l.getD 0 0 + l.getD 1 0
      omega
  rw [key]
  exact s_ret ⟨rfl, e1, (unitF enc l 0, ()), rfl, rfl⟩

theorem unit_bound {enc : Int} {l : List Int} (hb : isBytes l) (i : Nat) : 0 ≤ unitF enc l i ∧ unitF enc l i < 65536 := by
  have h0 := hb.at i
  have h1 := hb.at (i + 1)
  unfold unitF; split <;> omega

theorem c_high {u : Int} (h0 : 0 ≤ u) (h1 : u < 65536) : Gives P (F_codec_high S u) [.one .bool] h fun (x : Bool × Unit) _ => (x.1 = true ↔ 55296 ≤ u ∧ u < 56320) := by
  unfold F_codec_high
  rw [andNot1023 h0 (by omega)]
  exact s_ret ⟨rfl, Ext.refl _, (eqI _ 55296, ()), rfl, by show eqI _ _ = true ↔ _; rw [eqI_iff]; omega⟩
theorem c_low {u : Int} (h0 : 0 ≤ u) (h1 : u < 65536) : Gives P (F_codec_low S u) [.one .bool] h fun (x : Bool × Unit) _ => (x.1 = true ↔ 56320 ≤ u ∧ u < 57344) := by
  unfold F_codec_low
  rw [andNot1023 h0 (by omega)]
  exact s_ret ⟨rfl, Ext.refl _, (eqI _ 56320, ()), rfl, by show eqI _ _ = true ↔ _; rw [eqI_iff]; omega⟩

theorem unitF_drop (enc : Int) (l : List Int) (i : Nat) : unitF enc (l.drop i) 0 = unitF enc l i := by
  unfold unitF; rw [getD_drop, getD_drop]; simp

end Go.Sw.Codec
namespace Go.Sw
open Go.Sw.Codec
variable {P : Program} {S : Ids} {h : Heap} {Q : Nat → List Value → Heap → Prop}
/-- b[i:], handed on. -/
theorem Lst.tail {k : IntKind} {s : Sl} {l : List Int} (hr : Lst k h s l) {i : Nat} (hi : i ≤ l.length) : Lst k h ⟨cutBase s.base s.cap i 1, subN s.len i, subN s.cap i⟩ (l.drop i) :=
  hr.drop hi (by have := hr.cap; unfold subN; omega) (by have := hr.max; unfold subN; omega)

end Go.Sw
namespace Go.Sw.Codec
variable {P : Program} {S : Ids} {h : Heap} {Q : Nat → List Value → Heap → Prop}
theorem c_sixteen_first {b : Sl} {l : List Int} {r enc : Int} (hr : le16 r enc) (hb : Lst .u8 h b l) (hl : 0 < l.length) : Gives P (F_sixteen_first S (r, ()) b) duo h fun (x : Int × Int × Unit) _ => (x.1, x.2.1) = first16 enc l := by
  have hlb := hb.len
  have hby : isBytes l := hb.wf
  have b0 := hb.byte 0
  have hr0 : fitsI .i64 r := by unfold le16 at hr; rw [fits_i64]; omega
  have u0 := unit_bound (enc := enc) hby 0
  have u2 := unit_bound (enc := enc) hby 2
  unfold F_sixteen_first first16
  dsimp only
  refine s_allocL [r] (fun x hx => by rw [List.mem_singleton.1 hx]; exact hr0) (by simp) fun h1 e1 o1 => ?_
  refine wp_ifB (fun hc => ?_) fun hc => ?_
  · rw [eqI_iff, natI_def, hlb] at hc
    rw [if_pos (by omega)]
    refine s_at0 (n := 0) (hb.ext e1) hl fun _ => ?_
    rw [wrap_ok (by omega) (by omega), sub_ok (by omega) (by omega)]
    exact s_ret ⟨rfl, e1, (_, 1, ()), rfl, rfl⟩
  rw [eqI_not, natI_def, hlb] at hc
  rw [if_neg (by omega)]
  refine s_loadA o1.lst (wp_call (c_unit hr (hb.ext e1) (by omega)) fun ⟨(u : Int), _⟩ h2 e2 hu => ?_)
  have hu : u = unitF enc l 0 := hu
  subst hu
  dsimp only
  have e12 := e1.trans e2
  have hb2 := hb.ext e12
  refine wp_bind (fun t vs h' => Ext h h' ∧ (t = 0 ∧ vs = [] ∧ ¬ (55296 ≤ unitF enc l 0 ∧ unitF enc l 0 < 56320 ∧ 4 ≤ l.length ∧ 56320 ≤ unitF enc l 2 ∧ unitF enc l 2 < 57344) ∨
    t = 1 ∧ (55296 ≤ unitF enc l 0 ∧ unitF enc l 0 < 56320 ∧ 4 ≤ l.length ∧ 56320 ≤ unitF enc l 2 ∧ unitF enc l 2 < 57344) ∧ vs = [.int .i64 (65536 + (unitF enc l 0 - 55296) * 1024 + (unitF enc l 2 - 56320)), .int .i64 4])) ?_ ?_
  · refine bind_bool (55296 ≤ unitF enc l 0 ∧ unitF enc l 0 < 56320 ∧ 4 ≤ l.length) ?_ fun c h3 e3 hc3 => wp_ifB (fun h4 => ?_) fun h4 => ?_
    · refine wp_call (c_high u0.1 u0.2) fun x h3 e3 hx => wp_ifB (fun h4 => ?_) fun h4 => ?_
      · refine s_ret ⟨rfl, e3, _, rfl, ?_⟩
        have := hx.1 h4
        rw [geI_iff, natI_def, hlb]; omega
      · refine s_ret ⟨rfl, e3, _, rfl, ?_⟩
        have : ¬ (55296 ≤ unitF enc l 0 ∧ unitF enc l 0 < 56320) := fun h => by rw [hx.2 h] at h4; cases h4
        exact ⟨(fun h => by cases h), fun h => absurd ⟨h.1, h.2.1⟩ this⟩
    · obtain ⟨q1, q2, q3⟩ := hc3.1 h4
      refine s_loadA (o1.ext (e2.trans e3)).lst (s_grd (leB_ok (by decide) (by omega)) (wp_call (c_unit hr ((hb2.ext e3).tail (i := 2) (by omega)) (by rw [List.length_drop]; omega)) fun ⟨(v : Int), _⟩ h5 e5 hv => ?_))
      have hv : v = unitF enc (l.drop 2) 0 := hv
      rw [unitF_drop] at hv
      subst hv
      dsimp only
      refine wp_call (c_low u2.1 u2.2) fun x h6 e6 hx => wp_ifB (fun h4 => s_not ?_) fun h4 => ?_
      · have q4 := hx.1 h4
        rw [and1023, and1023, shl10 (by omega) (by omega), add_ok (a := 65536) (by omega) (by omega), add_ok (by omega) (by omega)]
        refine s_ret ⟨((e12.trans e3).trans e5).trans e6, .inr ⟨rfl, ⟨q1, q2, q3, q4.1, q4.2⟩, ?_⟩⟩
        congr 2; omega
      · have : ¬ (56320 ≤ unitF enc l 2 ∧ unitF enc l 2 < 57344) := fun h => by rw [hx.2 h] at h4; cases h4
        exact s_ret ⟨((e12.trans e3).trans e5).trans e6, .inl ⟨rfl, rfl, fun h => this h.2.2.2⟩⟩
    · have : ¬ (55296 ≤ unitF enc l 0 ∧ unitF enc l 0 < 56320 ∧ 4 ≤ l.length) := fun h => by rw [hc3.2 h] at h4; cases h4
      exact s_ret ⟨e12.trans e3, .inl ⟨rfl, rfl, fun h => this ⟨h.1, h.2.1, h.2.2.1⟩⟩⟩
  · rintro t vs h' ⟨e, ⟨ht, hv, hn⟩ | ⟨ht, hp, hv⟩⟩
    · rw [if_neg hn]
      exact s_skip (by omega) (s_exit ht () hv (s_ret ⟨rfl, e, (unitF enc l 0, 2, ()), rfl, rfl⟩))
    · rw [if_pos hp]
      exact s_exit ht (_, 4, ()) hv (s_ret ⟨rfl, e, (_, 4, ()), rfl, rfl⟩)

theorem i_first (M : Meth0 P S) {enc : Int} (he : known enc) {s : Sl} {l : List Int} (hs : Lst .u8 h s l) (hl : 0 < l.length)
    {K : Int × Int × Unit → Prog} (hk : ∀ (x : Int × Int × Unit) h', Ext h h' → (x.1, x.2.1) = firstF enc l → wp P (K x) h' Q) :
    wp P (.invoke (coder S enc) S.m_first [.slice s.base s.len s.cap] duo K) h Q := by
  rcases known_cases he with rfl | rfl | rfl | rfl
  · exact wp_inv (M.first8 s) (c_eight_first hs hl) hk
  · exact wp_inv (M.first16 0 s) (c_sixteen_first (.inl ⟨rfl, rfl⟩) hs hl) hk
  · exact wp_inv (M.first16 1 s) (c_sixteen_first (.inr ⟨rfl, rfl⟩) hs hl) hk
  · exact wp_inv (M.first1 s) (c_latin_first hs hl) hk
end Go.Sw.Codec

set_option linter.unusedVariables false
set_option linter.unusedSimpArgs false
set_option maxRecDepth 100000
namespace Go.Sw.Codec
variable {P : Program} {S : Ids} {h : Heap} {Q : Nat → List Value → Heap → Prop}

theorem zeros_one {v : Value} : ∀ n, zeros [v] n = List.replicate n v := by
  intro n; induction n with
  | zero => rfl
  | succ n ih => simp [zeros, ih, List.replicate_succ]

theorem firstF_fits {enc : Int} {l : List Int} (hb : isBytes l) : fitsI .i64 (firstF enc l).1 := by
  rw [fits_i64]
  have b0 := hb.at 0
  have u0 := unit_bound (enc := enc) hb 0
  have u2 := unit_bound (enc := enc) hb 2
  have hle := rowG_le (l.getD 0 0) (l.getD 1 0) (l.getD 2 0) (l.getD 3 0) b0.1 b0.2
  have hbn := bounds_n (l.getD 0 0) b0.1 b0.2
  have hm0 : 0 ≤ maskF (rowF l).2 (l.getD 0 0) ∧ maskF (rowF l).2 (l.getD 0 0) < 256 := by unfold maskF; (repeat' split) <;> omega
  have hrf : rowF l = rowG (l.getD 0 0) (l.getD 1 0) (l.getD 2 0) (l.getD 3 0) := rfl
  rw [← hrf] at hle
  have hv := valP_small (l := l) hm0.1 hm0.2 (i := ((rowF l).2 - 1).toNat) (by omega)
  unfold firstF first8 first16
  (repeat' split) <;> dsimp only <;> omega

/-- Decode's answer. -/
def DecA (n : Nat) (enc : Int) (l : List Int) (x : Sl × Int × Unit) (h' : Heap) : Prop :=
  (known enc ∧ OwnL n .i64 h' x.1 (dec enc l) ∧ x.2.1 = 0) ∨ (¬ known enc ∧ OwnL n .i64 h' x.1 [] ∧ x.2.1 = 10)
theorem DecA.both {n n' : Nat} {enc : Int} {l : List Int} {x y : Sl × Int × Unit} {h1 h2 : Heap} (hx : DecA n enc l x h1) (hy : DecA n' enc l y h2) : ∃ m, OwnL n .i64 h1 x.1 m ∧ OwnL n' .i64 h2 y.1 m ∧ x.2.1 = y.2.1 ∧ (l = [] → m = []) := by
  rcases hx with ⟨k, o, e⟩ | ⟨k, o, e⟩ <;> rcases hy with ⟨k', o', e'⟩ | ⟨k', o', e'⟩
  · exact ⟨_, o, o', e.trans e'.symm, fun h => by subst h; rfl⟩
  · exact absurd k k'
  · exact absurd k' k
  · exact ⟨_, o, o', e.trans e'.symm, fun _ => rfl⟩

/-! ### The document's -/

/-! ### The law -/

end Go.Sw.Codec

set_option linter.unusedVariables false
set_option linter.unusedSimpArgs false
set_option maxRecDepth 100000
namespace Go.Sw.Codec

theorem begF_take {l m : List Int} (h : begF l 0 m = true) : m = l.take m.length := by
  unfold begF at h; simpa using (of_decide_eq_true h).symm

/-- UTF-8's first atom, either way. -/
theorem first8_cases {l : List Int} (hb : isBytes l) (hl : 0 < l.length) :
    (∃ m : Nat, 1 ≤ m ∧ m ≤ 4 ∧ m ≤ l.length ∧ rowF l = ((m : Int), (m : Int)) ∧ cand m l ∧ first8 l = (meantF m l, (m : Int))) ∨
    ((∀ m : Nat, 1 ≤ m → m ≤ 4 → m ≤ l.length → rowF l ≠ ((m : Int), (m : Int))) ∧ first8 l = (-1 - l.getD 0 0, 1)) := by
  by_cases h : ∃ m : Nat, 1 ≤ m ∧ m ≤ 4 ∧ m ≤ l.length ∧ rowF l = ((m : Int), (m : Int))
  · obtain ⟨m, h1, h4, hm, hr⟩ := h
    exact .inl ⟨m, h1, h4, hm, hr, (cand_iff hb h1 h4 hm).2 hr, meant_val hb h1 h4 hr⟩
  · have hn : ∀ m : Nat, 1 ≤ m → m ≤ 4 → m ≤ l.length → rowF l ≠ ((m : Int), (m : Int)) := fun m h1 h4 hm hr => h ⟨m, h1, h4, hm, hr⟩
    exact .inr ⟨hn, raw_val hb hl hn⟩

theorem raw_high {l : List Int} (hb : isBytes l) (hl : 0 < l.length) (hn : ∀ m : Nat, 1 ≤ m → m ≤ 4 → m ≤ l.length → rowF l ≠ ((m : Int), (m : Int))) : 128 ≤ l.getD 0 0 := by
  have b0 := hb.at 0
  by_cases h : l.getD 0 0 < 128
  · exfalso
    refine hn 1 (by omega) (by omega) (by omega) ?_
    unfold rowF
    rw [row_is b0.1 b0.2 _ (by omega)]
    exact .inl ⟨rfl, h⟩
  · omega

theorem take_one {l : List Int} (hl : 0 < l.length) : l.take 1 = [l.getD 0 0] := by
  match l, hl with
  | x :: r, _ => rfl
theorem take_two {l : List Int} (hl : 2 ≤ l.length) : l.take 2 = [l.getD 0 0, l.getD 1 0] := by
  match l, hl with
  | x :: y :: r, _ => rfl
theorem take_four {l : List Int} (hl : 4 ≤ l.length) : l.take 4 = [l.getD 0 0, l.getD 1 0, l.getD 2 0, l.getD 3 0] := by
  match l, hl with
  | x :: y :: z :: w :: r, _ => rfl

/-- What is read is put as it was. -/
theorem first_put {enc : Int} (he : known enc) {l : List Int} (hb : isBytes l) (hl : 0 < l.length) :
    0 < sizeF enc (firstF enc l).1 ∧ putF enc (firstF enc l).1 = l.take (firstF enc l).2.toNat := by
  have b0 := hb.at 0
  have b1 := hb.at 1
  have b2 := hb.at 2
  have b3 := hb.at 3
  unfold firstF
  rcases known_cases he with rfl | h23 | h23 | rfl
  · rw [if_pos rfl]
    rcases first8_cases hb hl with ⟨m, h1, h4, hm, hr, hc, hf⟩ | ⟨hn, hf⟩
    · rw [hf]
      dsimp only
      obtain ⟨c1, c2, c3⟩ := hc
      unfold scalarF at c1
      refine ⟨(fits_iff _ _).2 (by omega), ?_⟩
      unfold putF
      rw [if_neg (by omega), if_pos rfl, Int.toNat_natCast]
      have := begF_take c3
      rwa [c2] at this
    · have h128 := raw_high hb hl hn
      rw [hf]
      dsimp only
      refine ⟨(fits_iff _ _).2 (by omega), ?_⟩
      unfold putF
      rw [if_pos (by omega), show (1 : Int).toNat = 1 from rfl, take_one hl]
      congr 1; omega
  · subst h23
    rw [if_neg (by decide), if_neg (by decide)]
    unfold first16
    by_cases h1 : l.length = 1
    · rw [if_pos h1]
      dsimp only
      refine ⟨(fits_iff _ _).2 (by omega), ?_⟩
      unfold putF
      rw [if_pos (by omega), show (1 : Int).toNat = 1 from rfl, take_one hl]
      congr 1; omega
    rw [if_neg h1]
    have u0 := unit_bound (enc := 2) hb 0
    have u2 := unit_bound (enc := 2) hb 2
    by_cases hp : 55296 ≤ unitF 2 l 0 ∧ unitF 2 l 0 < 56320 ∧ 4 ≤ l.length ∧ 56320 ≤ unitF 2 l 2 ∧ unitF 2 l 2 < 57344
    · rw [if_pos hp]
      dsimp only
      refine ⟨(fits_iff _ _).2 (by omega), ?_⟩
      unfold putF
      rw [if_neg (by omega), if_neg (by decide), if_neg (by decide), if_pos (by omega), show (4 : Int).toNat = 4 from rfl, take_four hp.2.2.1]
      have e1 : 55296 + (65536 + (unitF 2 l 0 - 55296) * 1024 + (unitF 2 l 2 - 56320) - 65536) / 1024 = unitF 2 l 0 := by omega
      have e2 : 56320 + (65536 + (unitF 2 l 0 - 55296) * 1024 + (unitF 2 l 2 - 56320)) % 1024 = unitF 2 l 2 := by omega
      rw [e1, e2]
      simp only [unitF, unitB, Int.reduceEq, if_true, if_false, List.cons_append, List.nil_append, Nat.reduceAdd]
      congr 1; omega
      congr 1; omega
      congr 1; omega
      congr 1; omega
    · rw [if_neg hp]
      dsimp only
      refine ⟨(fits_iff _ _).2 (by omega), ?_⟩
      unfold putF
      rw [if_neg (by omega), if_neg (by decide), if_neg (by decide), if_neg (by omega), show (2 : Int).toNat = 2 from rfl, take_two (by omega)]
      simp only [unitF, unitB, Int.reduceEq, if_true, if_false, Nat.reduceAdd]
      congr 1; omega
      congr 1; omega
  · subst h23
    rw [if_neg (by decide), if_neg (by decide)]
    unfold first16
    by_cases h1 : l.length = 1
    · rw [if_pos h1]
      dsimp only
      refine ⟨(fits_iff _ _).2 (by omega), ?_⟩
      unfold putF
      rw [if_pos (by omega), show (1 : Int).toNat = 1 from rfl, take_one hl]
      congr 1; omega
    rw [if_neg h1]
    have u0 := unit_bound (enc := 3) hb 0
    have u2 := unit_bound (enc := 3) hb 2
    by_cases hp : 55296 ≤ unitF 3 l 0 ∧ unitF 3 l 0 < 56320 ∧ 4 ≤ l.length ∧ 56320 ≤ unitF 3 l 2 ∧ unitF 3 l 2 < 57344
    · rw [if_pos hp]
      dsimp only
      refine ⟨(fits_iff _ _).2 (by omega), ?_⟩
      unfold putF
      rw [if_neg (by omega), if_neg (by decide), if_neg (by decide), if_pos (by omega), show (4 : Int).toNat = 4 from rfl, take_four hp.2.2.1]
      have e1 : 55296 + (65536 + (unitF 3 l 0 - 55296) * 1024 + (unitF 3 l 2 - 56320) - 65536) / 1024 = unitF 3 l 0 := by omega
      have e2 : 56320 + (65536 + (unitF 3 l 0 - 55296) * 1024 + (unitF 3 l 2 - 56320)) % 1024 = unitF 3 l 2 := by omega
      rw [e1, e2]
      simp only [unitF, unitB, Int.reduceEq, if_true, if_false, List.cons_append, List.nil_append, Nat.reduceAdd]
      congr 1; omega
      congr 1; omega
      congr 1; omega
      congr 1; omega
    · rw [if_neg hp]
      dsimp only
      refine ⟨(fits_iff _ _).2 (by omega), ?_⟩
      unfold putF
      rw [if_neg (by omega), if_neg (by decide), if_neg (by decide), if_neg (by omega), show (2 : Int).toNat = 2 from rfl, take_two (by omega)]
      simp only [unitF, unitB, Int.reduceEq, if_true, if_false, Nat.reduceAdd]
      congr 1; omega
      congr 1; omega
  · rw [if_neg (by decide), if_pos rfl]
    dsimp only
    refine ⟨(fits_iff _ _).2 (by omega), ?_⟩
    unfold putF
    rw [if_neg (by omega), if_neg (by decide), if_pos rfl, show (1 : Int).toNat = 1 from rfl, take_one hl]

theorem bytes_put {enc a : Int} (hf : 0 < sizeF enc a) : isBytes (putF enc a) := by
  have hu := (fits_iff enc a).1 hf
  intro x hx
  rw [fits_u8]
  unfold putF eightB unitB at hx
  (repeat' split at hx) <;> simp at hx <;> omega
theorem bytes_append {l m : List Int} (hl : isBytes l) (hm : isBytes m) : isBytes (l ++ m) := fun x hx => (List.mem_append.1 hx).elim (hl x) (hm x)
theorem bytes_flat {enc : Int} {l : List Int} (hf : ∀ a, a ∈ l → 0 < sizeF enc a) : isBytes (l.flatMap (putF enc)) := by
  intro x hx
  obtain ⟨a, ha, hx⟩ := List.mem_flatMap.1 hx
  exact bytes_put (hf a ha) x hx

/-- A scalar that was put is read, whatever comes behind it. -/
theorem first_of_put {enc a : Int} (he : known enc) (hf : 0 < sizeF enc a) (hs : scalarF a) {r : List Int} (hr : isBytes r) : firstF enc (putF enc a ++ r) = (a, sizeF enc a) := by
  have hb := bytes_append (bytes_put hf) hr
  have hlen := putF_len hf
  have hu := (fits_iff enc a).1 hf
  unfold scalarF at hs
  unfold firstF
  rcases known_cases he with rfl | h23 | h23 | rfl
  · rw [if_pos rfl]
    have hput : putF 1 a = eightB a := by unfold putF; rw [if_neg (by omega), if_pos rfl]
    rw [hput] at hb hlen ⊢
    have hll := len_eight a
    have hm : meantF (eightB a).length (eightB a ++ r) = a := by
      unfold meantF eightB
      by_cases h1 : a < 128
      · simp [h1, mtP, leadF]
      by_cases h2 : a < 2048
      · simp [h1, h2, mtP, leadF]; omega
      by_cases h3 : a < 65536
      · simp [h1, h2, h3, mtP, leadF]; omega
      · simp [h1, h2, h3, mtP, leadF]; omega
    have hlb : 1 ≤ (eightB a).length ∧ (eightB a).length ≤ 4 := by rw [hll]; (repeat' split) <;> omega
    have hc : cand (eightB a).length (eightB a ++ r) := by
      refine ⟨by rw [hm]; unfold scalarF; omega, by rw [hm], ?_⟩
      rw [hm]; unfold begF; rw [decide_eq_true_eq, List.drop_zero]; exact List.take_left' rfl
    have hrow := (cand_iff hb hlb.1 hlb.2 (by rw [List.length_append]; omega)).1 hc
    rw [meant_val hb hlb.1 hlb.2 hrow, hm, hlen]
  · subst h23
    rw [if_neg (by decide), if_neg (by decide)]
    by_cases h4 : 65536 ≤ a
    · have hput : putF 2 a = unitB 2 (55296 + (a - 65536) / 1024) ++ unitB 2 (56320 + a % 1024) := by
        unfold putF; rw [if_neg (by omega), if_neg (by decide), if_neg (by decide), if_pos h4]
      rw [hput] at hlen ⊢
      rw [← hlen]
      have e0 : unitF 2 (unitB 2 (55296 + (a - 65536) / 1024) ++ unitB 2 (56320 + a % 1024) ++ r) 0 = 55296 + (a - 65536) / 1024 := by
        simp [unitF, unitB]; omega
      have e2 : unitF 2 (unitB 2 (55296 + (a - 65536) / 1024) ++ unitB 2 (56320 + a % 1024) ++ r) 2 = 56320 + a % 1024 := by
        simp [unitF, unitB]; omega
      unfold first16
      rw [e0, e2, List.length_append, List.length_append, unitB_len, unitB_len, if_neg (by omega), if_pos (by omega)]
      refine Prod.ext ?_ rfl
      dsimp only; omega
    · have hput : putF 2 a = unitB 2 a := by
        unfold putF; rw [if_neg (by omega), if_neg (by decide), if_neg (by decide), if_neg h4]
      rw [hput] at hlen ⊢
      rw [← hlen]
      have e0 : unitF 2 (unitB 2 a ++ r) 0 = a := by
        simp [unitF, unitB]; omega
      unfold first16
      rw [e0, List.length_append, unitB_len, if_neg (by omega), if_neg (by omega)]
      rfl
  · subst h23
    rw [if_neg (by decide), if_neg (by decide)]
    by_cases h4 : 65536 ≤ a
    · have hput : putF 3 a = unitB 3 (55296 + (a - 65536) / 1024) ++ unitB 3 (56320 + a % 1024) := by
        unfold putF; rw [if_neg (by omega), if_neg (by decide), if_neg (by decide), if_pos h4]
      rw [hput] at hlen ⊢
      rw [← hlen]
      have e0 : unitF 3 (unitB 3 (55296 + (a - 65536) / 1024) ++ unitB 3 (56320 + a % 1024) ++ r) 0 = 55296 + (a - 65536) / 1024 := by
        simp [unitF, unitB]; omega
      have e2 : unitF 3 (unitB 3 (55296 + (a - 65536) / 1024) ++ unitB 3 (56320 + a % 1024) ++ r) 2 = 56320 + a % 1024 := by
        simp [unitF, unitB]; omega
      unfold first16
      rw [e0, e2, List.length_append, List.length_append, unitB_len, unitB_len, if_neg (by omega), if_pos (by omega)]
      refine Prod.ext ?_ rfl
      dsimp only; omega
    · have hput : putF 3 a = unitB 3 a := by
        unfold putF; rw [if_neg (by omega), if_neg (by decide), if_neg (by decide), if_neg h4]
      rw [hput] at hlen ⊢
      rw [← hlen]
      have e0 : unitF 3 (unitB 3 a ++ r) 0 = a := by
        simp [unitF, unitB]; omega
      unfold first16
      rw [e0, List.length_append, unitB_len, if_neg (by omega), if_neg (by omega)]
      rfl
  · rw [if_neg (by decide), if_pos rfl]
    have hput : putF 4 a = [a] := by unfold putF; rw [if_neg (by omega), if_neg (by decide), if_pos rfl]
    rw [hput] at hlen ⊢
    rw [← hlen]; rfl

end Go.Sw.Codec

set_option linter.unusedVariables false
set_option linter.unusedSimpArgs false
set_option maxRecDepth 100000
namespace Go.Sw.Codec
variable {P : Program} {S : Ids} {h : Heap} {Q : Nat → List Value → Heap → Prop}

theorem Meth0.sizes (M : Meth0 P S) : Sizes P S := ⟨M.size8, M.size16, M.size1⟩

theorem s_neF {a b : Int} {X Y : Prog} (e : a = b) (hk : wp P Y h Q) : wp P (ifB (neI a b) X Y) h Q := wp_ifB (fun hn => by rw [neI_iff] at hn; exact absurd e hn) fun _ => hk
/-- Decode of an encoding that there is. -/
theorem DecA.known {n : Nat} {enc : Int} {l : List Int} {x : Sl × Int × Unit} {h1 : Heap} (hk : known enc) (hx : DecA n enc l x h1) : OwnL n .i64 h1 x.1 (dec enc l) ∧ x.2.1 = 0 := by
  rcases hx with ⟨_, o, e⟩ | ⟨k, _⟩
  · exact ⟨o, e⟩
  · exact absurd hk k
/-- Encode of atoms that fit. -/
theorem EncA.fits {n : Nat} {enc : Int} {l : List Int} {x : Sl × Int × Int × Unit} {h1 : Heap} (hk : known enc) (hf : ∀ a, a ∈ l → 0 < sizeF enc a) (hx : EncA n enc l x h1) : OwnL n .u8 h1 x.1 (l.flatMap (putF enc)) ∧ x.2.1 = 0 ∧ x.2.2.1 = 0 := by
  obtain ⟨b, o, r⟩ := hx
  obtain ⟨rfl, e1, e2⟩ := r.fn (.inr (.inr ⟨hk, hf, rfl, rfl, rfl⟩))
  exact ⟨o, e1, e2⟩

end Go.Sw.Codec

set_option linter.unusedVariables false
set_option linter.unusedSimpArgs false
set_option maxRecDepth 100000
namespace Go.Sw.Codec

theorem getD_take {l : List Int} {m i : Nat} (h : i < m) : (l.take m).getD i 0 = l.getD i 0 := by
  rw [List.getD_eq_getElem?_getD, List.getD_eq_getElem?_getD, List.getElem?_take, if_pos h]
/-- A row that is whole within the first m bytes is whole. -/
theorem row_take {l : List Int} (hb : isBytes l) {m j : Nat} (h1 : 1 ≤ j) (hj : j ≤ m) (hl : j ≤ l.length) : rowF (l.take m) = ((j : Int), (j : Int)) ↔ rowF l = ((j : Int), (j : Int)) := by
  have b0 := hb.at 0
  have c0 := (hb.take m).at 0
  unfold rowF
  rw [row_is b0.1 b0.2 _ (by omega), row_is c0.1 c0.2 _ (by omega)]
  unfold contF
  have g0 : (l.take m).getD 0 0 = l.getD 0 0 := getD_take (by omega)
  have g1 : 2 ≤ j → (l.take m).getD 1 0 = l.getD 1 0 := fun h => getD_take (by omega)
  have g2 : 3 ≤ j → (l.take m).getD 2 0 = l.getD 2 0 := fun h => getD_take (by omega)
  have g3 : 4 ≤ j → (l.take m).getD 3 0 = l.getD 3 0 := fun h => getD_take (by omega)
  rw [g0]
  by_cases j1 : j = 1
  · subst j1; constructor <;> intro h <;> omega
  have g1 := g1 (by omega)
  rw [g1]
  by_cases j2 : j = 2
  · subst j2; constructor <;> intro h <;> omega
  have g2 := g2 (by omega)
  rw [g2]
  by_cases j3 : j = 3
  · subst j3; constructor <;> intro h <;> omega
  have g3 := g3 (by omega)
  rw [g3]

theorem meant_take {l : List Int} {m j : Nat} (h1 : 1 ≤ j) (hj : j ≤ m) (h4 : j ≤ 4) : meantF j (l.take m) = meantF j l := by
  have : j = 1 ∨ j = 2 ∨ j = 3 ∨ j = 4 := by omega
  rcases this with rfl | rfl | rfl | rfl
  · simp only [meantF, mtP, Nat.reduceSub]; rw [getD_take (by omega)]
  · simp only [meantF, mtP, Nat.reduceSub, Nat.reduceAdd]; rw [getD_take (by omega), getD_take (by omega)]
  · simp only [meantF, mtP, Nat.reduceSub, Nat.reduceAdd]; rw [getD_take (by omega), getD_take (by omega), getD_take (by omega)]
  · simp only [meantF, mtP, Nat.reduceSub, Nat.reduceAdd]; rw [getD_take (by omega), getD_take (by omega), getD_take (by omega), getD_take (by omega)]

/-- The first atom of the first m bytes is that of all, where it lies within them. -/
theorem first_take {enc : Int} {l : List Int} (hb : isBytes l) (hl : 0 < l.length) {m : Nat} (hm : (firstF enc l).2 ≤ m) (hr : enc = 1 ∨ enc = 4 ∨ (2 ≤ m ∨ l.length = 1)) : firstF enc (l.take m) = firstF enc l := by
  have hs := firstF_size (enc := enc) hl hb
  have hml : 0 < (l.take m).length := by rw [List.length_take]; omega
  unfold firstF at hm hs ⊢
  by_cases h1 : enc = 1
  · rw [if_pos h1] at hm hs ⊢
    rw [if_pos h1]
    rcases first8_cases hb hl with ⟨j, j1, j4, jl, hrow, _, hf⟩ | ⟨hn, hf⟩
    · rw [hf] at hm hs ⊢
      dsimp only at hm
      have := (row_take hb (m := m) j1 (by omega) jl).2 hrow
      rw [meant_val (hb.take m) j1 j4 this, meant_take j1 (by omega) j4]
    · rw [hf, raw_val (hb.take m) hml fun j j1 j4 jl hrow => ?_, getD_take (by rw [List.length_take] at hml; omega)]
      rw [List.length_take] at jl
      exact hn j j1 j4 (by omega) ((row_take hb (m := m) j1 (by omega) (by omega)).1 hrow)
  rw [if_neg h1] at hm hs ⊢
  rw [if_neg h1]
  by_cases h4 : enc = 4
  · rw [if_pos h4] at hm hs ⊢
    rw [if_pos h4]
    dsimp only at hm
    rw [getD_take (by omega)]
  rw [if_neg h4] at hm hs ⊢
  rw [if_neg h4]
  unfold first16 at hm hs ⊢
  by_cases hl1 : l.length = 1
  · have : l.take m = l := List.take_of_length_le (by rw [hl1]; rw [if_pos hl1] at hm; dsimp only at hm; omega)
    rw [this]
  rw [if_neg hl1] at hm hs ⊢
  have hm2 : 2 ≤ m := by omega
  rw [List.length_take, if_neg (by omega)]
  have u0 : unitF enc (l.take m) 0 = unitF enc l 0 := by unfold unitF; rw [getD_take (by omega), getD_take (by omega)]
  rw [u0]
  by_cases hp : 55296 ≤ unitF enc l 0 ∧ unitF enc l 0 < 56320 ∧ 4 ≤ l.length ∧ 56320 ≤ unitF enc l 2 ∧ unitF enc l 2 < 57344
  · rw [if_pos hp] at hm ⊢
    dsimp only at hm
    have u2 : unitF enc (l.take m) 2 = unitF enc l 2 := by unfold unitF; rw [getD_take (by omega), getD_take (by omega)]
    rw [u2, if_pos (by omega)]
  · rw [if_neg hp] at hm ⊢
    by_cases h4m : 4 ≤ m
    · have u2 : unitF enc (l.take m) 2 = unitF enc l 2 := by unfold unitF; rw [getD_take (by omega), getD_take (by omega)]
      rw [u2, if_neg (by omega)]
    · rw [if_neg (by omega)]

/-- Where an atom begins, or all bytes end. -/
inductive Bnd (enc : Int) (l : List Int) : Nat → Prop where
  | zero : Bnd enc l 0
  | step {k : Nat} : Bnd enc l k → k < l.length → Bnd enc l (k + (firstF enc (l.drop k)).2.toNat)

theorem Bnd.le {enc : Int} {l : List Int} (hb : isBytes l) {k : Nat} (h : Bnd enc l k) : k ≤ l.length := by
  cases h with
  | zero => omega
  | step h hk =>
    rename_i k
    have := firstF_size (enc := enc) (l := l.drop k) (by rw [List.length_drop]; omega) (hb.drop k)
    rw [List.length_drop] at this
    omega
/-- Boundaries are told by going ahead: from one on, every other one is there by its atom. -/
theorem Bnd.next {enc : Int} {l : List Int} (hb : isBytes l) {j k : Nat} (hj : Bnd enc l j) (hk : Bnd enc l k) (hlt : j < k) : j + (firstF enc (l.drop j)).2.toNat ≤ k := by
  have key : ∀ {k}, Bnd enc l k → ∀ {j}, Bnd enc l j → (j < k → j + (firstF enc (l.drop j)).2.toNat ≤ k) ∧ (k < j → k + (firstF enc (l.drop k)).2.toNat ≤ j) := by
    intro k hk
    induction hk with
    | zero =>
      intro j hj
      refine ⟨fun h => by omega, ?_⟩
      induction hj with
      | zero => intro h; omega
      | step hj hjl ih =>
        rename_i j
        intro _
        by_cases h0 : j = 0
        · subst h0; omega
        · have := ih (by omega); omega
    | step hk hkl ih =>
      rename_i k
      intro j hj
      have hsz := firstF_size (enc := enc) (l := l.drop k) (by rw [List.length_drop]; omega) (hb.drop k)
      have hi := ih hj
      refine ⟨fun h => ?_, ?_⟩
      · by_cases hjk : j < k
        · have := hi.1 hjk; omega
        · by_cases he : j = k
          · subst he; omega
          · have := hi.2 (by omega); omega
      · induction hj with
        | zero => intro h; omega
        | step hj hjl ihj =>
          rename_i j
          intro h
          have hij := ih hj
          by_cases hjk : j < k
          · have := hij.1 hjk; omega
          · by_cases he : j = k
            · subst he; omega
            · by_cases he2 : j = k + (firstF enc (l.drop k)).2.toNat
              · rw [he2]; omega
              · have := ihj hij (by have := hij.2 (by omega); omega)
                omega
  exact (key hk hj).1 hlt

end Go.Sw.Codec

set_option linter.unusedVariables false
set_option linter.unusedSimpArgs false
set_option maxRecDepth 100000
namespace Go.Sw.Codec

/-- The last atom. -/
def LastR (enc : Int) (l : List Int) (a n : Int) : Prop := ∃ k, Bnd enc l k ∧ k < l.length ∧ firstF enc (l.drop k) = (a, n) ∧ (k : Int) + n = l.length
theorem LastR.fn {enc : Int} {l : List Int} (hb : isBytes l) {a n a' n' : Int} (h : LastR enc l a n) (h' : LastR enc l a' n') : a = a' ∧ n = n' := by
  obtain ⟨k, b, hk, f, e⟩ := h
  obtain ⟨k', b', hk', f', e'⟩ := h'
  have : k = k' := by
    by_cases h1 : k < k'
    · have := b.next hb b' h1
      rw [f] at this; dsimp only at this; omega
    · by_cases h2 : k' < k
      · have := b'.next hb b h2
        rw [f'] at this; dsimp only at this; omega
      · omega
  subst this
  rw [f] at f'
  injection f' with h1 h2
  exact ⟨h1, h2⟩
theorem first16_two {enc : Int} {l : List Int} (h1 : l.length ≠ 1) (hl : 0 < l.length) : ((first16 enc l).2 = 4 ∧ 55296 ≤ unitF enc l 0 ∧ unitF enc l 0 < 56320 ∧ 4 ≤ l.length ∧ 56320 ≤ unitF enc l 2 ∧ unitF enc l 2 < 57344) ∨
    (first16 enc l = (unitF enc l 0, 2) ∧ ¬ (55296 ≤ unitF enc l 0 ∧ unitF enc l 0 < 56320 ∧ 4 ≤ l.length ∧ 56320 ≤ unitF enc l 2 ∧ unitF enc l 2 < 57344)) := by
  unfold first16
  rw [if_neg h1]
  split
  · rename_i h; exact .inl ⟨rfl, h⟩
  · rename_i h; exact .inr ⟨rfl, h⟩

/-- Up to a boundary the boundaries are the same. -/
theorem Bnd.take {enc : Int} {l : List Int} (hb : isBytes l) {m : Nat} (hm : Bnd enc l m) {k : Nat} (hk : Bnd enc l k) (hkm : k ≤ m) : Bnd enc (l.take m) k := by
  induction hk with
  | zero => exact .zero
  | step hk hkl ih =>
    rename_i k
    have hs := firstF_size (enc := enc) (l := l.drop k) (by rw [List.length_drop]; omega) (hb.drop k)
    have hi := ih (by omega)
    have hml := hm.le hb
    have e : firstF enc ((l.take m).drop k) = firstF enc (l.drop k) := by
      rw [List.drop_take]
      refine first_take (hb.drop k) (by rw [List.length_drop]; omega) (by omega) ?_
      by_cases h1 : enc = 1
      · exact .inl h1
      by_cases h4 : enc = 4
      · exact .inr (.inl h4)
      refine .inr (.inr ?_)
      by_cases hl1 : (l.drop k).length = 1
      · exact .inr hl1
      · left
        have : (firstF enc (l.drop k)).2 ≠ 1 := by
          unfold firstF; rw [if_neg h1, if_neg h4]
          rcases first16_two (enc := enc) hl1 (by rw [List.length_drop]; omega) with ⟨q, _⟩ | ⟨q, _⟩
          · omega
          · rw [q]; dsimp only; omega
        omega
    have := hi.step (by rw [List.length_take]; omega)
    rw [e] at this
    exact this
end Go.Sw.Codec

set_option linter.unusedVariables false
set_option linter.unusedSimpArgs false
set_option maxRecDepth 100000
namespace Go.Sw.Codec
variable {P : Program} {S : Ids} {h : Heap} {Q : Nat → List Value → Heap → Prop}

end Go.Sw.Codec

set_option linter.unusedVariables false
set_option linter.unusedSimpArgs false
set_option maxRecDepth 100000
namespace Go.Sw.Codec
variable {P : Program} {S : Ids} {h : Heap} {Q : Nat → List Value → Heap → Prop}

theorem s_nilok {x : Value} {K : Prog} (hx : NilOk P x) (hk : wp P K h Q) : wp P (.nilok x K) h Q := ⟨hx, hk⟩

/-- What Next answers. -/
def NextR (enc : Int) (l : List Int) (at_ : Int) (x : Int × Int × Unit) : Prop :=
  ((¬ known enc ∨ at_ < 0 ∨ l.length ≤ at_) ∧ x.1 = 0 ∧ x.2.1 = 0) ∨ (known enc ∧ 0 ≤ at_ ∧ at_ < l.length ∧ (x.1, x.2.1) = firstF enc (l.drop at_.toNat))
/-- What Prev answers. -/
def PrevR (enc : Int) (l : List Int) (at_ : Int) (x : Int × Int × Unit) : Prop :=
  ((¬ known enc ∨ at_ ≤ 0 ∨ l.length < at_) ∧ x.1 = 0 ∧ x.2.1 = 0) ∨ (known enc ∧ 0 < at_ ∧ at_ ≤ l.length ∧ LastR enc (l.take at_.toNat) x.1 x.2.1)

theorem NextR.fn {enc : Int} {l : List Int} {at_ : Int} {x y : Int × Int × Unit} (hx : NextR enc l at_ x) (hy : NextR enc l at_ y) : x.1 = y.1 ∧ x.2.1 = y.2.1 := by
  rcases hx with ⟨h, a, b⟩ | ⟨h1, h2, h3, e⟩ <;> rcases hy with ⟨h', a', b'⟩ | ⟨h1', h2', h3', e'⟩
  · exact ⟨a.trans a'.symm, b.trans b'.symm⟩
  · rcases h with h | h | h
    · exact absurd h1' h
    · omega
    · omega
  · rcases h' with h | h | h
    · exact absurd h1 h
    · omega
    · omega
  · rw [← e'] at e; injection e with e1 e2; exact ⟨e1, e2⟩
theorem PrevR.fn {enc : Int} {l : List Int} (hb : isBytes l) {at_ : Int} {x y : Int × Int × Unit} (hx : PrevR enc l at_ x) (hy : PrevR enc l at_ y) : x.1 = y.1 ∧ x.2.1 = y.2.1 := by
  rcases hx with ⟨h, a, b⟩ | ⟨h1, h2, h3, e⟩ <;> rcases hy with ⟨h', a', b'⟩ | ⟨h1', h2', h3', e'⟩
  · exact ⟨a.trans a'.symm, b.trans b'.symm⟩
  · rcases h with h | h | h
    · exact absurd h1' h
    · omega
    · omega
  · rcases h' with h | h | h
    · exact absurd h1 h
    · omega
    · omega
  · exact e.fn (hb.take _) e'

theorem c_Next (M : Meth0 P S) {enc at_ : Int} {b : Sl} {l : List Int} (hb : Lst .u8 h b l) : Gives P (F_codec_Next S enc b at_) duo h fun (x : Int × Int × Unit) _ => NextR enc l at_ x := by
  have hlb := hb.len
  unfold F_codec_Next
  refine wp_call (c_of enc) fun c h1 e1 hc => ?_
  have hc : c.1 = coder S enc := hc
  rw [hc]
  refine bind_bool (¬ known enc ∨ at_ < 0 ∨ l.length ≤ at_) ?_ fun c h2 e2 hc2 => wp_ifB (fun h3 => ?_) fun h3 => ?_
  · by_cases hk : ¬ known enc
    · rw [coder_unknown hk]
      exact s_grd rfl (s_ifT (s_ret ⟨rfl, Ext.refl _, _, rfl, ⟨fun _ => .inl hk, fun _ => rfl⟩⟩))
    have hk := Classical.not_not.1 hk
    obtain ⟨k1, k2⟩ := coder_known (S := S) hk
    rw [k1, k2]
    refine s_grd rfl (s_ifF (wp_ifB (fun hc => ?_) fun hc => ?_))
    · rw [ltI_iff] at hc
      exact s_ret ⟨rfl, Ext.refl _, _, rfl, ⟨fun _ => .inr (.inl hc), fun _ => rfl⟩⟩
    · rw [ltI_not] at hc
      refine s_ret ⟨rfl, Ext.refl _, _, rfl, ?_⟩
      rw [geI_iff, natI_def, hlb]
      exact ⟨fun h => .inr (.inr h), fun h => by rcases h with h | h | h; exact absurd hk h; omega; exact h⟩
  · exact s_ret ⟨rfl, e1.trans e2, (0, 0, ()), rfl, .inl ⟨hc2.1 h3, rfl, rfl⟩⟩
  · have hn : ¬ (¬ known enc ∨ at_ < 0 ∨ l.length ≤ at_) := fun h => by rw [hc2.2 h] at h3; cases h3
    have hk : known enc := Classical.not_not.1 fun h => hn (.inl h)
    have h0 : 0 ≤ at_ := by
      by_cases h : at_ < 0
      · exact absurd (.inr (.inl h)) hn
      · omega
    have h1' : at_ < l.length := by
      by_cases h : (l.length : Int) ≤ at_
      · exact absurd (.inr (.inr h)) hn
      · omega
    rw [toN_def]
    refine s_grd (leB_ok h0 (by omega)) (s_nilok (M.nilf enc hk) (i_first M hk (s := ⟨_, _, _⟩) (((hb.ext (e1.trans e2)).tail (i := at_.toNat) (by omega))) (by rw [List.length_drop]; omega) fun x h4 e4 hx => s_ret ⟨rfl, (e1.trans e2).trans e4, x, rfl, .inr ⟨hk, h0, h1', hx⟩⟩))

theorem Lst.head {k : IntKind} {s : Sl} {l : List Int} (hr : Lst k h s l) {i : Nat} (hi : i ≤ l.length) : Lst k h ⟨s.base, i, s.cap⟩ (l.take i) :=
  hr.take hi (by have := hr.cap; have := hr.len; omega) hr.max

end Go.Sw.Codec

set_option linter.unusedVariables false
set_option linter.unusedSimpArgs false
set_option maxRecDepth 100000
namespace Go.Sw.Codec

/-- The first atom may be another one, if more bytes come. -/
def moreE (enc : Int) (l : List Int) : Prop :=
  if enc = 1 then 1 < (rowF l).2 ∧ (rowF l).1 = l.length ∧ (rowF l).1 < (rowF l).2
  else if enc = 4 then False
  else l.length = 1 ∨ (l.length < 4 ∧ 55296 ≤ unitF enc l 0 ∧ unitF enc l 0 < 56320)

/-- How many bytes at the end are not certain. -/
def HeldR (enc : Int) (l : List Int) (v : Int) : Prop :=
  ∃ k : Nat, Bnd enc l k ∧ (∀ j, Bnd enc l j → j < k → ¬ moreE enc (l.drop j)) ∧ (k = l.length ∨ k < l.length ∧ moreE enc (l.drop k)) ∧ v = (l.length : Int) - k
theorem HeldR.fn {enc : Int} {l : List Int} (hb : isBytes l) {v v' : Int} (h : HeldR enc l v) (h' : HeldR enc l v') : v = v' := by
  obtain ⟨k, b, n, m, rfl⟩ := h
  obtain ⟨k', b', n', m', rfl⟩ := h'
  have := b.le hb
  have := b'.le hb
  have : k = k' := by
    by_cases h1 : k < k'
    · rcases m with m | m
      · omega
      · exact absurd m.2 (n' k b h1)
    · by_cases h2 : k' < k
      · rcases m' with m' | m'
        · omega
        · exact absurd m'.2 (n k' b' h2)
      · omega
  omega

theorem Bnd.part {enc : Int} {l : List Int} (hb : isBytes l) {p : Nat} (hp : Bnd enc l p) {j : Nat} (hj : Bnd enc l j) (h : p ≤ j) : Bnd enc (l.drop p) (j - p) := by
  induction hj with
  | zero => rw [show 0 - p = 0 by omega]; exact .zero
  | step hj hjl ih =>
    rename_i j
    by_cases hpj : p ≤ j
    · have := (ih hpj).step (by rw [List.length_drop]; omega)
      rw [List.drop_drop, show p + (j - p) = j by omega] at this
      rw [show j + (firstF enc (l.drop j)).2.toNat - p = j - p + (firstF enc (l.drop j)).2.toNat by omega]; exact this
    · have := hj.next hb hp (by omega)
      rw [show j + (firstF enc (l.drop j)).2.toNat - p = 0 by omega]; exact .zero

/-- Within a part that ends where an atom does the atoms are the same. -/
theorem first_in_take {enc : Int} {l : List Int} (hb : isBytes l) {m k : Nat} (hm : Bnd enc l m) (hk : Bnd enc l k) (h : k < m) : firstF enc ((l.take m).drop k) = firstF enc (l.drop k) := by
  have hml := hm.le hb
  have hn := hk.next hb hm h
  have hs := firstF_size (enc := enc) (l := l.drop k) (by rw [List.length_drop]; omega) (hb.drop k)
  rw [List.drop_take]
  refine first_take (hb.drop k) (by rw [List.length_drop]; omega) (by omega) ?_
  by_cases h1 : enc = 1
  · exact .inl h1
  by_cases h4 : enc = 4
  · exact .inr (.inl h4)
  refine .inr (.inr ?_)
  by_cases hl1 : (l.drop k).length = 1
  · exact .inr hl1
  · left
    have : (firstF enc (l.drop k)).2 ≠ 1 := by
      unfold firstF; rw [if_neg h1, if_neg h4]
      rcases first16_two (enc := enc) hl1 (by rw [List.length_drop]; omega) with ⟨q, _⟩ | ⟨q, _⟩
      · omega
      · rw [q]; dsimp only; omega
    omega

/-! ### A stream's state -/

/-- Of all bytes that came those from p on wait. -/
structure Waits (enc : Int) (all : List Int) (p : Nat) : Prop where
  bytes : isBytes all
  bnd : Bnd enc all p
  sure : ∀ j, Bnd enc all j → j < p → ¬ moreE enc (all.drop j)
  more : p = all.length ∨ p < all.length ∧ moreE enc (all.drop p)

theorem Waits.zero (enc : Int) : Waits enc [] 0 := ⟨(by intro x hx; cases hx), .zero, (fun j _ h => by omega), .inl rfl⟩
theorem Waits.held {enc : Int} {all : List Int} {p : Nat} (w : Waits enc all p) : HeldR enc all ((all.length : Int) - p) := ⟨p, w.bnd, w.sure, w.more, rfl⟩
end Go.Sw.Codec
