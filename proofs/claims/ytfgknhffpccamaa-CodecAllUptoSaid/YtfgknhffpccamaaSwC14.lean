/-
  Codec: plain laws: the last atom.
-/
import Derived.Test.YtfgknhffpccamaaSwC13
set_option linter.unusedVariables false
set_option linter.unusedSimpArgs false
set_option maxRecDepth 100000
namespace Go.Sw.Codec

/-- Each byte lies in an atom. -/
theorem bnd_cover {enc : Int} {l : List Int} (hb : isBytes l) : ∀ p, p < l.length → ∃ k, Bnd enc l k ∧ k ≤ p ∧ p < k + (firstF enc (l.drop k)).2.toNat := by
  intro p
  induction p with
  | zero =>
    intro hp
    have := firstF_size (enc := enc) (l := l.drop 0) (by rw [List.length_drop]; omega) (hb.drop 0)
    exact ⟨0, .zero, by omega, by omega⟩
  | succ p ih =>
    intro hp
    obtain ⟨k, b, h1, h2⟩ := ih (by omega)
    by_cases h : p + 1 < k + (firstF enc (l.drop k)).2.toNat
    · exact ⟨k, b, by omega, h⟩
    · have b' := b.step (by omega)
      have e : k + (firstF enc (l.drop k)).2.toNat = p + 1 := by omega
      rw [e] at b'
      have := firstF_size (enc := enc) (l := l.drop (p + 1)) (by rw [List.length_drop]; omega) (hb.drop _)
      exact ⟨p + 1, b', by omega, by omega⟩

/-- The last atom. -/
def LastR (enc : Int) (l : List Int) (a n : Int) : Prop := ∃ k, Bnd enc l k ∧ k < l.length ∧ firstF enc (l.drop k) = (a, n) ∧ (k : Int) + n = l.length
theorem LastR.fn {enc : Int} {l : List Int} (hb : isBytes l) {a n a' n' : Int} (h : LastR enc l a n) (h' : LastR enc l a' n') : a = a' ∧ n = n' := by
  obtain ⟨k, b, hk, f, e⟩ := h
  obtain ⟨k', b', hk', f', e'⟩ := h'
  have : k = k' := by
    by_cases h1 : k < k'
    · have := b.next hb b' h1
      rw [f] at this; dsimp only at this; omega
    · by_cases h2 : k' < k
      · have := b'.next hb b h2
        rw [f'] at this; dsimp only at this; omega
      · omega
  subst this
  rw [f] at f'
  injection f' with h1 h2
  exact ⟨h1, h2⟩
theorem last_ex {enc : Int} {l : List Int} (hb : isBytes l) (hl : 0 < l.length) : ∃ a n, LastR enc l a n ∧ 1 ≤ n ∧ n ≤ 4 := by
  obtain ⟨k, b, h1, h2⟩ := bnd_cover (enc := enc) hb (l.length - 1) (by omega)
  have hs := firstF_size (enc := enc) (l := l.drop k) (by rw [List.length_drop]; omega) (hb.drop k)
  rw [List.length_drop] at hs
  exact ⟨(firstF enc (l.drop k)).1, (firstF enc (l.drop k)).2, ⟨k, b, by omega, rfl, by omega⟩, hs.1, hs.2.1⟩

/-- In UTF-8 a whole row begins where an atom does. -/
theorem bnd_whole {l : List Int} (hb : isBytes l) {p : Nat} (hp : p < l.length) {m : Nat} (h1 : 1 ≤ m) (h4 : m ≤ 4) (hr : rowF (l.drop p) = ((m : Int), (m : Int))) : Bnd 1 l p := by
  obtain ⟨k, b, q1, q2⟩ := bnd_cover (enc := 1) hb p hp
  by_cases he : k = p
  · rw [← he]; exact b
  · exfalso
    have hkb := hb.drop k
    have hkl : 0 < (l.drop k).length := by rw [List.length_drop]; omega
    have hf : firstF 1 (l.drop k) = first8 (l.drop k) := by unfold firstF; rw [if_pos rfl]
    rw [hf] at q2
    have c0 := hkb.at 0
    have d0 := (hb.drop p).at 0
    unfold rowF at hr
    rw [row_is d0.1 d0.2 _ (by omega), getD_drop] at hr
    rcases first8_cases hkb hkl with ⟨j, j1, j4, jl, hrow, _, hf'⟩ | ⟨_, hf'⟩
    · rw [hf'] at q2
      dsimp only at q2
      unfold rowF at hrow
      rw [row_is c0.1 c0.2 _ (by omega)] at hrow
      rw [getD_drop, getD_drop, getD_drop, getD_drop] at hrow
      unfold contF at hrow hr
      have : p = k + 1 ∨ p = k + 2 ∨ p = k + 3 := by omega
      rcases this with rfl | rfl | rfl
      · simp only [Nat.add_zero] at hr; omega
      · simp only [Nat.add_zero] at hr; omega
      · simp only [Nat.add_zero] at hr; omega
    · rw [hf'] at q2
      simp at q2; omega

/-- What UTF-8's way from behind finds. -/
theorem last8_found {l : List Int} (hb : isBytes l) {j : Nat} (j1 : 1 ≤ j) (jl : j ≤ l.length) (ha : 0 ≤ (first8 (l.drop (l.length - j))).1) (hn : (first8 (l.drop (l.length - j))).2 = j) : LastR 1 l (first8 (l.drop (l.length - j))).1 j := by
  have hd := hb.drop (l.length - j)
  have hdl : 0 < (l.drop (l.length - j)).length := by rw [List.length_drop]; omega
  rcases first8_cases hd hdl with ⟨m, m1, m4, ml, hrow, _, hf⟩ | ⟨_, hf⟩
  · rw [hf] at hn
    dsimp only at hn
    have hmj : m = j := by omega
    subst hmj
    refine ⟨l.length - m, bnd_whole hb (by omega) m1 m4 hrow, by omega, ?_, by omega⟩
    unfold firstF; rw [if_pos rfl, hf]
  · rw [hf] at ha
    have := hd.at 0
    dsimp only at ha; omega
theorem last8_raw {l : List Int} (hb : isBytes l) (hl : 0 < l.length) (hno : ∀ j : Nat, 1 ≤ j → j ≤ 4 → j ≤ l.length → ¬ (0 ≤ (first8 (l.drop (l.length - j))).1 ∧ (first8 (l.drop (l.length - j))).2 = j)) : LastR 1 l (-1 - l.getD (l.length - 1) 0) 1 := by
  obtain ⟨a, n, hlast, n1, n4⟩ := last_ex (enc := 1) hb hl
  have h := hlast
  obtain ⟨k, b, hk, f, e⟩ := hlast
  have hkb := hb.drop k
  have hkl : 0 < (l.drop k).length := by rw [List.length_drop]; omega
  have hkn : k = l.length - n.toNat := by omega
  have f8 : first8 (l.drop k) = (a, n) := by unfold firstF at f; rwa [if_pos rfl] at f
  have hn := hno n.toNat (by omega) (by omega) (by omega)
  rw [← hkn, f8] at hn
  rcases first8_cases hkb hkl with ⟨m, m1, m4, ml, hrow, hc, hf⟩ | ⟨_, hf⟩
  · exfalso
    apply hn
    refine ⟨?_, by dsimp only; omega⟩
    rw [f8] at hf
    injection hf with h1 h2
    rw [h1]
    have := hc.1
    unfold scalarF at this; omega
  · rw [f8] at hf
    injection hf with h1 h2
    subst h2
    rw [getD_drop, Nat.add_zero, show k = l.length - 1 by omega] at h1
    rw [h1] at h
    exact h

theorem first16_two {enc : Int} {l : List Int} (h1 : l.length ≠ 1) (hl : 0 < l.length) : ((first16 enc l).2 = 4 ∧ 55296 ≤ unitF enc l 0 ∧ unitF enc l 0 < 56320 ∧ 4 ≤ l.length ∧ 56320 ≤ unitF enc l 2 ∧ unitF enc l 2 < 57344) ∨
    (first16 enc l = (unitF enc l 0, 2) ∧ ¬ (55296 ≤ unitF enc l 0 ∧ unitF enc l 0 < 56320 ∧ 4 ≤ l.length ∧ 56320 ≤ unitF enc l 2 ∧ unitF enc l 2 < 57344)) := by
  unfold first16
  rw [if_neg h1]
  split
  · rename_i h; exact .inl ⟨rfl, h⟩
  · rename_i h; exact .inr ⟨rfl, h⟩

theorem unit_at (enc : Int) (l : List Int) (k i : Nat) : unitF enc (l.drop k) i = unitF enc l (k + i) := by
  unfold unitF; rw [getD_drop, getD_drop, Nat.add_assoc]

theorem last16_odd {enc : Int} {l : List Int} (hb : isBytes l) (h16 : enc ≠ 1 ∧ enc ≠ 4) (ho : l.length % 2 = 1) : LastR enc l (-1 - l.getD (l.length - 1) 0) 1 := by
  obtain ⟨a, n, hlast, n1, n4⟩ := last_ex (enc := enc) hb (by omega)
  have h := hlast
  obtain ⟨k, b, hk, f, e⟩ := hlast
  have hev := b.even hb h16
  unfold firstF at f
  rw [if_neg h16.1, if_neg h16.2] at f
  by_cases h1 : (l.drop k).length = 1
  · unfold first16 at f
    rw [if_pos h1] at f
    injection f with f1 f2
    rw [List.length_drop] at h1
    rw [getD_drop, Nat.add_zero, show k = l.length - 1 by omega] at f1
    rw [f1, f2]; exact h
  · exfalso
    rcases first16_two (enc := enc) h1 (by rw [List.length_drop]; omega) with ⟨f4, _⟩ | ⟨f2, _⟩
    · rw [f] at f4; dsimp only at f4; omega
    · rw [f] at f2; injection f2 with _ f2; omega
theorem last16_even {enc : Int} {l : List Int} (hb : isBytes l) (h16 : enc ≠ 1 ∧ enc ≠ 4) (hl : 0 < l.length) (ho : l.length % 2 = 0) :
    if 56320 ≤ unitF enc l (l.length - 2) ∧ unitF enc l (l.length - 2) < 57344 ∧ 4 ≤ l.length ∧ 55296 ≤ unitF enc l (l.length - 4) ∧ unitF enc l (l.length - 4) < 56320
    then LastR enc l (first16 enc (l.drop (l.length - 4))).1 (first16 enc (l.drop (l.length - 4))).2 else LastR enc l (unitF enc l (l.length - 2)) 2 := by
  obtain ⟨a, n, hlast, n1, n4⟩ := last_ex (enc := enc) hb (by omega)
  have h := hlast
  obtain ⟨k, b, hk, f, e⟩ := hlast
  have hev := b.even hb h16
  unfold firstF at f
  rw [if_neg h16.1, if_neg h16.2] at f
  have h1 : (l.drop k).length ≠ 1 := by rw [List.length_drop]; omega
  rcases first16_two (enc := enc) h1 (by rw [List.length_drop]; omega) with ⟨f4, hp⟩ | ⟨f2, hp⟩
  · rw [f] at f4
    dsimp only at f4
    rw [unit_at, unit_at, Nat.add_zero] at hp
    have hk4 : k = l.length - 4 := by omega
    rw [hk4] at hp
    rw [show l.length - 4 + 2 = l.length - 2 by rw [List.length_drop] at hp; omega] at hp
    rw [if_pos (by rw [List.length_drop] at hp; omega), ← hk4, f]
    exact h
  · have f2' := f2
    rw [f] at f2
    injection f2 with fa fn
    have hk2 : k = l.length - 2 := by omega
    rw [unit_at, Nat.add_zero, hk2] at fa
    rw [if_neg, ← fa, ← fn]
    · exact h
    rintro ⟨g1, g2, g3, g4, g5⟩
    -- the boundary ahead of the last unit
    cases b with
    | zero => omega
    | step b' hk' =>
      rename_i k'
      have hev' := b'.even hb h16
      unfold firstF at hk2 e
      rw [if_neg h16.1, if_neg h16.2] at hk2 e
      have h1' : (l.drop k').length ≠ 1 := by rw [List.length_drop]; omega
      rcases first16_two (enc := enc) h1' (by rw [List.length_drop]; omega) with ⟨q4, qp⟩ | ⟨q2, qp⟩
      · rw [q4] at hk2
        rw [unit_at, unit_at] at qp
        have : k' + 2 = l.length - 4 := by simp at hk2; omega
        rw [this] at qp
        omega
      · rw [q2] at hk2
        simp at hk2
        rw [unit_at, unit_at, Nat.add_zero, List.length_drop] at qp
        have h4 : k' = l.length - 4 := by omega
        rw [h4, show l.length - 4 + 2 = l.length - 2 by omega] at qp
        omega

theorem last1 {l : List Int} (hb : isBytes l) (hl : 0 < l.length) : LastR 4 l (l.getD (l.length - 1) 0) 1 := by
  obtain ⟨a, n, hlast, n1, n4⟩ := last_ex (enc := 4) hb hl
  have h := hlast
  obtain ⟨k, b, hk, f, e⟩ := hlast
  unfold firstF at f
  rw [if_neg (by decide), if_pos rfl] at f
  injection f with f1 f2
  rw [getD_drop, Nat.add_zero, show k = l.length - 1 by omega] at f1
  rw [f1, f2]; exact h

/-- Up to a boundary the boundaries are the same. -/
theorem Bnd.take {enc : Int} {l : List Int} (hb : isBytes l) {m : Nat} (hm : Bnd enc l m) {k : Nat} (hk : Bnd enc l k) (hkm : k ≤ m) : Bnd enc (l.take m) k := by
  induction hk with
  | zero => exact .zero
  | step hk hkl ih =>
    rename_i k
    have hs := firstF_size (enc := enc) (l := l.drop k) (by rw [List.length_drop]; omega) (hb.drop k)
    have hi := ih (by omega)
    have hml := hm.le hb
    have e : firstF enc ((l.take m).drop k) = firstF enc (l.drop k) := by
      rw [List.drop_take]
      refine first_take (hb.drop k) (by rw [List.length_drop]; omega) (by omega) ?_
      by_cases h1 : enc = 1
      · exact .inl h1
      by_cases h4 : enc = 4
      · exact .inr (.inl h4)
      refine .inr (.inr ?_)
      by_cases hl1 : (l.drop k).length = 1
      · exact .inr hl1
      · left
        have : (firstF enc (l.drop k)).2 ≠ 1 := by
          unfold firstF; rw [if_neg h1, if_neg h4]
          rcases first16_two (enc := enc) hl1 (by rw [List.length_drop]; omega) with ⟨q, _⟩ | ⟨q, _⟩
          · omega
          · rw [q]; dsimp only; omega
        omega
    have := hi.step (by rw [List.length_take]; omega)
    rw [e] at this
    exact this
theorem last_take {enc : Int} {l : List Int} (hb : isBytes l) {k : Nat} (hk : Bnd enc l k) (hkl : k < l.length) : LastR enc (l.take (k + (firstF enc (l.drop k)).2.toNat)) (firstF enc (l.drop k)).1 (firstF enc (l.drop k)).2 := by
  have hs := firstF_size (enc := enc) (l := l.drop k) (by rw [List.length_drop]; omega) (hb.drop k)
  have hm := hk.step hkl
  have hml := hm.le hb
  have hb' := hm.take hb hk (by omega)
  refine ⟨k, hb', by rw [List.length_take]; omega, ?_, by rw [List.length_take]; omega⟩
  have h2 := hm.take hb hm (Nat.le_refl _)
  rw [List.drop_take, Nat.add_sub_cancel_left]
  by_cases h1 : enc = 1
  · exact first_take (hb.drop k) (by rw [List.length_drop]; omega) (by omega) (.inl h1)
  by_cases h4 : enc = 4
  · exact first_take (hb.drop k) (by rw [List.length_drop]; omega) (by omega) (.inr (.inl h4))
  refine first_take (hb.drop k) (by rw [List.length_drop]; omega) (by omega) (.inr (.inr ?_))
  by_cases hl1 : (l.drop k).length = 1
  · exact .inr hl1
  · left
    have : (firstF enc (l.drop k)).2 ≠ 1 := by
      unfold firstF; rw [if_neg h1, if_neg h4]
      rcases first16_two (enc := enc) hl1 (by rw [List.length_drop]; omega) with ⟨q, _⟩ | ⟨q, _⟩
      · omega
      · rw [q]; dsimp only; omega
    omega
end Go.Sw.Codec
