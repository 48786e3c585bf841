/-
  Codec: plain laws: bytes that come in parts.
-/
import Derived.Test.YtfgknhffpccamaaSwC16
set_option linter.unusedVariables false
set_option linter.unusedSimpArgs false
set_option maxRecDepth 100000
namespace Go.Sw.Codec

/-- The first atom may be another one, if more bytes come. -/
def moreE (enc : Int) (l : List Int) : Prop :=
  if enc = 1 then 1 < (rowF l).2 ∧ (rowF l).1 = l.length ∧ (rowF l).1 < (rowF l).2
  else if enc = 4 then False
  else l.length = 1 ∨ (l.length < 4 ∧ 55296 ≤ unitF enc l 0 ∧ unitF enc l 0 < 56320)

theorem getD_append_left {l x : List Int} {i : Nat} (h : i < l.length) : (l ++ x).getD i 0 = l.getD i 0 := by
  rw [List.getD_eq_getElem?_getD, List.getD_eq_getElem?_getD, List.getElem?_append_left h]
theorem getD_ge {l : List Int} {i : Nat} (h : l.length ≤ i) : l.getD i 0 = 0 := by
  rw [List.getD_eq_getElem?_getD, List.getElem?_eq_none h]; rfl
theorem take_append_self (l x : List Int) : (l ++ x).take l.length = l := List.take_left' rfl

/-- What a row of so many bytes is: all those there go with it. -/
theorem more_is {b0 b1 b2 b3 : Int} (h0 : 0 ≤ b0) (h1 : b0 ≤ 255) (r n : Int) (hr : 1 ≤ r) (hn : r < n) (hn2 : 1 < n) : rowG b0 b1 b2 b3 = (r, n) ↔
    (boundsF b0).1 = n ∧ (r = 1 → ¬ ((boundsF b0).2.1 ≤ b1 ∧ b1 ≤ (boundsF b0).2.2)) ∧ (1 < r → (boundsF b0).2.1 ≤ b1 ∧ b1 ≤ (boundsF b0).2.2) ∧ (r = 2 → ¬ contF b2) ∧ (2 < r → contF b2 ∧ ¬ contF b3) := by
  have hb := bounds_n b0 h0 h1
  unfold rowG
  generalize (boundsF b0).1 = m at *
  generalize (boundsF b0).2.1 = lo at *
  generalize (boundsF b0).2.2 = hi at *
  unfold contF
  (repeat' split) <;> simp only [Prod.mk.injEq] <;> omega

/-- A row that needs more needed more with fewer bytes. -/
theorem more_mono {enc : Int} {l x : List Int} (hb : isBytes (l ++ x)) (hl : 0 < l.length) (h : moreE enc (l ++ x)) : moreE enc l := by
  unfold moreE at h ⊢
  have hbl : isBytes l := fun y hy => hb y (List.mem_append_left _ hy)
  by_cases h1 : enc = 1
  · rw [if_pos h1] at h ⊢
    obtain ⟨q1, q2, q3⟩ := h
    have c0 := hb.at 0
    have d0 := hbl.at 0
    have hbn := bounds_n ((l ++ x).getD 0 0) c0.1 c0.2
    have hle := rowG_le ((l ++ x).getD 0 0) ((l ++ x).getD 1 0) ((l ++ x).getD 2 0) ((l ++ x).getD 3 0) c0.1 c0.2
    have hrow : rowF (l ++ x) = ((rowF (l ++ x)).1, (rowF (l ++ x)).2) := rfl
    rw [List.length_append] at q2
    generalize hr : (rowF (l ++ x)).1 = r at *
    generalize hn : (rowF (l ++ x)).2 = n at *
    have hle2 : n = (boundsF ((l ++ x).getD 0 0)).1 := by rw [← hn]; exact hle.1
    unfold rowF at hrow
    rw [more_is c0.1 c0.2 r n (by omega) q3 q1] at hrow
    obtain ⟨m1, m2, m3, m4, m5⟩ := hrow
    rw [getD_append_left hl] at m1 m2 m3
    have key : rowF l = ((l.length : Int), n) := by
      unfold rowF
      rw [more_is d0.1 d0.2 _ n (by omega) (by omega) q1]
      refine ⟨m1, fun e => ?_, fun e => ?_, fun e => ?_, fun e => ?_⟩
      · rw [getD_ge (l := l) (i := 1) (by omega)]
        have := bounds_n (l.getD 0 0) d0.1 d0.2
        omega
      · rw [← getD_append_left (x := x) (i := 1) (by omega)]; exact m3 (by omega)
      · rw [getD_ge (l := l) (i := 2) (by omega)]; unfold contF; omega
      · rw [← getD_append_left (x := x) (i := 2) (by omega), getD_ge (l := l) (i := 3) (by omega)]
        exact ⟨(m5 (by omega)).1, by unfold contF; omega⟩
    rw [key]
    exact ⟨q1, rfl, by dsimp only; omega⟩
  rw [if_neg h1] at h ⊢
  by_cases h4 : enc = 4
  · rw [if_pos h4] at h; exact h.elim
  rw [if_neg h4] at h ⊢
  rw [List.length_append] at h
  by_cases hl1 : l.length = 1
  · exact .inl hl1
  · right
    rcases h with h | ⟨h, h'⟩
    · omega
    · have : unitF enc (l ++ x) 0 = unitF enc l 0 := by unfold unitF; rw [getD_append_left (by omega), getD_append_left (by omega)]
      rw [this] at h'
      exact ⟨by omega, h'⟩

/-- What is certain stays. -/
theorem first_stable {enc : Int} {l x : List Int} (hb : isBytes (l ++ x)) (hl : 0 < l.length) (h : ¬ moreE enc l) : firstF enc (l ++ x) = firstF enc l := by
  have hbl : isBytes l := fun y hy => hb y (List.mem_append_left _ hy)
  have hlx : 0 < (l ++ x).length := by rw [List.length_append]; omega
  have hs := firstF_size (enc := enc) hlx hb
  by_cases hf : (firstF enc (l ++ x)).2 ≤ l.length
  · by_cases h14 : enc = 1 ∨ enc = 4
    · have := first_take hb hlx hf (by omega)
      rw [take_append_self] at this; exact this.symm
    by_cases hl2 : 2 ≤ l.length
    · have := first_take hb hlx hf (by omega)
      rw [take_append_self] at this; exact this.symm
    · exfalso
      apply h
      unfold moreE
      rw [if_neg (by omega), if_neg (by omega)]
      left; omega
  · exfalso
    apply h
    unfold moreE
    unfold firstF at hf
    by_cases h1 : enc = 1
    · rw [if_pos h1] at hf ⊢
      rcases first8_cases hb hlx with ⟨m, m1, m4, ml, hrow, hc, hfe⟩ | ⟨_, hfe⟩
      · rw [hfe] at hf
        dsimp only at hf
        have c0 := hb.at 0
        have d0 := hbl.at 0
        have g0 : (l ++ x).getD 0 0 = l.getD 0 0 := getD_append_left hl
        have hbn : (boundsF ((l ++ x).getD 0 0)).1 = m := by
          have hle := rowG_le ((l ++ x).getD 0 0) ((l ++ x).getD 1 0) ((l ++ x).getD 2 0) ((l ++ x).getD 3 0) c0.1 c0.2
          have : (rowF (l ++ x)).2 = (m : Int) := by rw [hrow]
          rw [← hle.1]; exact this
        have hrow' := hrow
        unfold rowF at hrow
        rw [row_is c0.1 c0.2 _ (by omega)] at hrow
        have key : rowF l = ((l.length : Int), (m : Int)) := by
          unfold rowF
          rw [more_is d0.1 d0.2 _ (m : Int) (by omega) (by omega) (by omega)]
          rw [g0] at hbn hrow
          refine ⟨hbn, fun e => ?_, fun e => ?_, fun e => ?_, fun e => ?_⟩
          · rw [getD_ge (l := l) (i := 1) (by omega)]
            have := bounds_n (l.getD 0 0) d0.1 d0.2
            omega
          · rw [← getD_append_left (x := x) (i := 1) (by omega)]
            unfold contF at hrow
            rcases bounds_cases (l.getD 0 0) d0.1 d0.2 with ⟨c, e⟩ | ⟨c, d, e⟩ | ⟨c, d, e⟩ | ⟨c, e⟩ | ⟨c, e⟩ | ⟨c, d, d', e⟩ | ⟨c, e⟩ | ⟨c, d, e⟩ | ⟨c, e⟩ | ⟨c, e⟩
            all_goals rw [e] at hbn ⊢
            all_goals dsimp only at hbn ⊢
            all_goals omega
          · rw [getD_ge (l := l) (i := 2) (by omega)]; unfold contF; omega
          · rw [← getD_append_left (x := x) (i := 2) (by omega), getD_ge (l := l) (i := 3) (by omega)]
            unfold contF at hrow ⊢
            omega
        rw [key]
        exact ⟨by dsimp only; omega, rfl, by dsimp only; omega⟩
      · rw [hfe] at hf
        dsimp only at hf; omega
    rw [if_neg h1] at hf ⊢
    by_cases h4 : enc = 4
    · rw [if_pos h4] at hf; dsimp only at hf; omega
    rw [if_neg h4] at hf ⊢
    by_cases hl1 : l.length = 1
    · exact .inl hl1
    · right
      have hu : unitF enc (l ++ x) 0 = unitF enc l 0 := by unfold unitF; rw [getD_append_left (by omega), getD_append_left (by omega)]
      rcases first16_two (enc := enc) (l := l ++ x) (by rw [List.length_append]; omega) hlx with ⟨q, q1, q2, _⟩ | ⟨q, _⟩
      · rw [hu] at q1 q2
        exact ⟨by omega, q1, q2⟩
      · rw [q] at hf; dsimp only at hf; omega

/-- How many bytes at the end are not certain. -/
def HeldR (enc : Int) (l : List Int) (v : Int) : Prop :=
  ∃ k : Nat, Bnd enc l k ∧ (∀ j, Bnd enc l j → j < k → ¬ moreE enc (l.drop j)) ∧ (k = l.length ∨ k < l.length ∧ moreE enc (l.drop k)) ∧ v = (l.length : Int) - k
theorem HeldR.fn {enc : Int} {l : List Int} (hb : isBytes l) {v v' : Int} (h : HeldR enc l v) (h' : HeldR enc l v') : v = v' := by
  obtain ⟨k, b, n, m, rfl⟩ := h
  obtain ⟨k', b', n', m', rfl⟩ := h'
  have := b.le hb
  have := b'.le hb
  have : k = k' := by
    by_cases h1 : k < k'
    · rcases m with m | m
      · omega
      · exact absurd m.2 (n' k b h1)
    · by_cases h2 : k' < k
      · rcases m' with m' | m'
        · omega
        · exact absurd m'.2 (n k' b' h2)
      · omega
  omega

/-- Boundaries ahead of what is certain stay, if more bytes come. -/
theorem Bnd.grow {enc : Int} {l x : List Int} (hb : isBytes (l ++ x)) {p : Nat} (hn : ∀ j, Bnd enc l j → j < p → ¬ moreE enc (l.drop j)) {k : Nat} (hk : Bnd enc l k) (hp : k ≤ p) : Bnd enc (l ++ x) k := by
  have hbl : isBytes l := fun y hy => hb y (List.mem_append_left _ hy)
  induction hk with
  | zero => exact .zero
  | step hk hkl ih =>
    rename_i k
    have hs := firstF_size (enc := enc) (l := l.drop k) (by rw [List.length_drop]; omega) (hbl.drop k)
    have hi := ih (by omega)
    have e : firstF enc ((l ++ x).drop k) = firstF enc (l.drop k) := by
      rw [List.drop_append_of_le_length (by omega)]
      refine first_stable ?_ (by rw [List.length_drop]; omega) (hn k hk (by omega))
      rw [← List.drop_append_of_le_length (by omega)]; exact hb.drop k
    have := hi.step (by rw [List.length_append]; omega)
    rw [e] at this; exact this
/-- Boundaries of what lies behind a boundary. -/
theorem Bnd.join {enc : Int} {l : List Int} {p : Nat} (hp : Bnd enc l p) {q : Nat} (hq : Bnd enc (l.drop p) q) : Bnd enc l (p + q) := by
  induction hq with
  | zero => exact hp
  | step hq hql ih =>
    rename_i q
    rw [List.length_drop] at hql
    have := ih.step (by omega)
    rw [List.drop_drop, ← Nat.add_assoc]; exact this
theorem Bnd.part {enc : Int} {l : List Int} (hb : isBytes l) {p : Nat} (hp : Bnd enc l p) {j : Nat} (hj : Bnd enc l j) (h : p ≤ j) : Bnd enc (l.drop p) (j - p) := by
  induction hj with
  | zero => rw [show 0 - p = 0 by omega]; exact .zero
  | step hj hjl ih =>
    rename_i j
    by_cases hpj : p ≤ j
    · have := (ih hpj).step (by rw [List.length_drop]; omega)
      rw [List.drop_drop, show p + (j - p) = j by omega] at this
      rw [show j + (firstF enc (l.drop j)).2.toNat - p = j - p + (firstF enc (l.drop j)).2.toNat by omega]; exact this
    · have := hj.next hb hp (by omega)
      rw [show j + (firstF enc (l.drop j)).2.toNat - p = 0 by omega]; exact .zero

/-- Within a part that ends where an atom does the atoms are the same. -/
theorem first_in_take {enc : Int} {l : List Int} (hb : isBytes l) {m k : Nat} (hm : Bnd enc l m) (hk : Bnd enc l k) (h : k < m) : firstF enc ((l.take m).drop k) = firstF enc (l.drop k) := by
  have hml := hm.le hb
  have hn := hk.next hb hm h
  have hs := firstF_size (enc := enc) (l := l.drop k) (by rw [List.length_drop]; omega) (hb.drop k)
  rw [List.drop_take]
  refine first_take (hb.drop k) (by rw [List.length_drop]; omega) (by omega) ?_
  by_cases h1 : enc = 1
  · exact .inl h1
  by_cases h4 : enc = 4
  · exact .inr (.inl h4)
  refine .inr (.inr ?_)
  by_cases hl1 : (l.drop k).length = 1
  · exact .inr hl1
  · left
    have : (firstF enc (l.drop k)).2 ≠ 1 := by
      unfold firstF; rw [if_neg h1, if_neg h4]
      rcases first16_two (enc := enc) hl1 (by rw [List.length_drop]; omega) with ⟨q, _⟩ | ⟨q, _⟩
      · omega
      · rw [q]; dsimp only; omega
    omega

/-- What is read up to a boundary, and behind it. -/
theorem dec_split {enc : Int} {l : List Int} (hb : isBytes l) {m : Nat} (hm : Bnd enc l m) : dec enc l = dec enc (l.take m) ++ dec enc (l.drop m) := by
  have key : ∀ {k : Nat}, Bnd enc l k → k ≤ m → ∃ pre, dec enc l = pre ++ dec enc (l.drop k) ∧ dec enc (l.take m) = pre ++ dec enc ((l.take m).drop k) := by
    intro k hk
    induction hk with
    | zero => intro _; exact ⟨[], by simp, by simp⟩
    | step hk hkl ih =>
      rename_i k
      intro hkm
      have hs := firstF_size (enc := enc) (l := l.drop k) (by rw [List.length_drop]; omega) (hb.drop k)
      have hml := hm.le hb
      obtain ⟨pre, p1, p2⟩ := ih (by omega)
      have e := first_in_take hb hm hk (by omega)
      rw [dec_cons (hb.drop k) (by rw [List.length_drop]; omega), List.drop_drop] at p1
      rw [dec_cons ((hb.take m).drop k) (by rw [List.length_drop, List.length_take]; omega), List.drop_drop, e] at p2
      exact ⟨pre ++ [(firstF enc (l.drop k)).1], by rw [p1, List.append_assoc]; rfl, by rw [p2, List.append_assoc]; rfl⟩
  obtain ⟨pre, p1, p2⟩ := key hm (Nat.le_refl _)
  rw [dec_nil (l := (l.take m).drop m) (by rw [List.length_drop, List.length_take]; omega), List.append_nil] at p2
  rw [p1, p2]

/-! ### A stream's state -/

/-- Of all bytes that came those from p on wait. -/
structure Waits (enc : Int) (all : List Int) (p : Nat) : Prop where
  bytes : isBytes all
  bnd : Bnd enc all p
  sure : ∀ j, Bnd enc all j → j < p → ¬ moreE enc (all.drop j)
  more : p = all.length ∨ p < all.length ∧ moreE enc (all.drop p)

theorem Waits.zero (enc : Int) : Waits enc [] 0 := ⟨(by intro x hx; cases hx), .zero, (fun j _ h => by omega), .inl rfl⟩
theorem Waits.held {enc : Int} {all : List Int} {p : Nat} (w : Waits enc all p) : HeldR enc all ((all.length : Int) - p) := ⟨p, w.bnd, w.sure, w.more, rfl⟩
theorem Waits.of {enc : Int} {all : List Int} (hb : isBytes all) {v : Int} (hh : HeldR enc all v) : Waits enc all (all.length - v.toNat) ∧ 0 ≤ v ∧ v ≤ all.length := by
  obtain ⟨k, b, n, m, rfl⟩ := hh
  have := b.le hb
  have e : all.length - ((all.length : Int) - k).toNat = k := by omega
  rw [e]
  exact ⟨⟨hb, b, n, m⟩, by omega, by omega⟩

/-- More bytes come: what waits now, told of all bytes and of those alone that waited and came. -/
theorem Waits.feed {enc : Int} {all x : List Int} {p : Nat} (w : Waits enc all p) (hx : isBytes (all ++ x)) {k : Nat} (hk : Waits enc (all.drop p ++ x) k) : Waits enc (all ++ x) (p + k) ∧ dec enc ((all ++ x).take (p + k)) = dec enc (all.take p) ++ dec enc ((all.drop p ++ x).take k) := by
  have hpl := w.bnd.le w.bytes
  have hd : (all ++ x).drop p = all.drop p ++ x := List.drop_append_of_le_length hpl
  have hbp : Bnd enc (all ++ x) p := w.bnd.grow hx w.sure (Nat.le_refl _)
  have hkb := hk.bnd
  rw [← hd] at hkb
  have hpk := hbp.join hkb
  have hkl := hk.bnd.le hk.bytes
  rw [List.length_append, List.length_drop] at hkl
  refine ⟨⟨hx, hpk, fun j hj hjk => ?_, ?_⟩, ?_⟩
  · by_cases hjp : j < p
    · -- it was a boundary
      have hbj : Bnd enc all j := by
        by_cases h : ∃ i, Bnd enc all i ∧ i ≤ j ∧ j < i + (firstF enc (all.drop i)).2.toNat
        · obtain ⟨i, bi, h1, h2⟩ := h
          by_cases hij : i = j
          · rw [← hij]; exact bi
          · exfalso
            have gi := bi.grow hx w.sure (show i ≤ p by omega)
            have hil : i < all.length := by omega
            have e : firstF enc ((all ++ x).drop i) = firstF enc (all.drop i) := by
              rw [List.drop_append_of_le_length (by omega)]
              refine first_stable ?_ (by rw [List.length_drop]; omega) (w.sure i bi (by omega))
              rw [← List.drop_append_of_le_length (by omega)]; exact hx.drop i
            have := gi.next hx hj (by omega)
            rw [e] at this; omega
        · exact absurd (bnd_cover w.bytes j (by omega)) h
      have hs := w.sure j hbj hjp
      rw [List.drop_append_of_le_length (by omega)]
      exact fun hm => hs (more_mono (by rw [← List.drop_append_of_le_length (by omega)]; exact hx.drop j) (by rw [List.length_drop]; omega) hm)
    · have := hk.sure (j - p) (by rw [← hd]; exact hbp.part hx hj (by omega)) (by omega)
      rw [← hd, List.drop_drop, show p + (j - p) = j by omega] at this
      exact this
  · have hm := hk.more
    rw [List.length_append, List.length_drop] at hm
    rw [List.length_append]
    rcases hm with hm | ⟨hm, hm'⟩
    · left; omega
    · right
      refine ⟨by omega, ?_⟩
      rw [← hd, List.drop_drop] at hm'; exact hm'
  · have h2 := dec_split (hx.take (p + k)) (hpk.take hx hbp (by omega))
    rw [List.take_take, Nat.min_eq_left (by omega), List.drop_take, hd, Nat.add_sub_cancel_left, List.take_append_of_le_length hpl] at h2
    exact h2
end Go.Sw.Codec
