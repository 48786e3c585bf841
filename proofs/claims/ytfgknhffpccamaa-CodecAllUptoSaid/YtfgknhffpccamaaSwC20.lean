/-
  Codec: plain laws for Guess: zeros, high bytes, raw atoms.
-/
import Derived.Test.YtfgknhffpccamaaSwC16
import Derived.Test.YtfgknhffpccamaaSwFL
set_option linter.unusedVariables false
set_option linter.unusedSimpArgs false
set_option maxRecDepth 100000
namespace Go.Sw.Codec

def hc (l : List Int) : Nat := (l.filter fun x => decide (128 ≤ x)).length
def negs (l : List Int) : Nat := (l.filter fun x => decide (x < 0)).length
def zc (l : List Int) (p n : Nat) : Nat := ((List.range n).filter fun i => decide (i % 2 = p ∧ l.getD i 0 = 0)).length

theorem hc_append (a b : List Int) : hc (a ++ b) = hc a + hc b := by simp [hc]
theorem hc_one (x : Int) : hc [x] = if 128 ≤ x then 1 else 0 := by unfold hc; by_cases h : 128 ≤ x <;> simp [h]
theorem hc_le (l : List Int) : hc l ≤ l.length := List.length_filter_le _ _
theorem negs_append (a b : List Int) : negs (a ++ b) = negs a + negs b := by simp [negs]
theorem negs_one (x : Int) : negs [x] = if x < 0 then 1 else 0 := by unfold negs; by_cases h : x < 0 <;> simp [h]
theorem negs_cons (x : Int) (l : List Int) : negs (x :: l) = (if x < 0 then 1 else 0) + negs l := by
  rw [show x :: l = [x] ++ l from rfl, negs_append, negs_one]
theorem negs_le (l : List Int) : negs l ≤ l.length := List.length_filter_le _ _
theorem zc_zero (l : List Int) (p : Nat) : zc l p 0 = 0 := rfl
theorem zc_succ (l : List Int) (p n : Nat) : zc l p (n + 1) = zc l p n + if n % 2 = p ∧ l.getD n 0 = 0 then 1 else 0 := by
  unfold zc
  rw [List.range_succ, List.filter_append, List.length_append]
  by_cases h : n % 2 = p ∧ l.getD n 0 = 0
  · rw [if_pos h, List.filter_cons_of_pos (by simpa using h)]; rfl
  · rw [if_neg h, List.filter_cons_of_neg (by simpa using h)]; rfl
theorem zc_le (l : List Int) (p n : Nat) : zc l p n ≤ n := by
  have := List.length_filter_le (fun i => decide (i % 2 = p ∧ l.getD i 0 = 0)) (List.range n)
  rw [List.length_range] at this; exact this

/-- An atom's bytes are all high, or its one is not. -/
theorem first_high {l : List Int} (hb : isBytes l) (hl : 0 < l.length) :
    hc l = (if 128 ≤ l.getD 0 0 then (first8 l).2.toNat else 0) + hc (l.drop (first8 l).2.toNat) ∧ ((first8 l).1 < 0 → 128 ≤ l.getD 0 0 ∧ (first8 l).2 = 1) := by
  have b0 := hb.at 0
  rcases first8_cases hb hl with ⟨m, h1, h4, hm, hr, hc', hf⟩ | ⟨hn, hf⟩
  · rw [hf]
    have hneg : ¬ (meantF m l < 0) := by
      have := hc'.1
      unfold scalarF at this; omega
    refine ⟨?_, fun h => absurd h hneg⟩
    have hr2 := hr
    unfold rowF at hr2
    rw [row_is b0.1 b0.2 _ (by omega)] at hr2
    unfold contF at hr2
    have hdt : l = l.take m ++ l.drop m := (List.take_append_drop m l).symm
    have hs : hc l = hc (l.take m) + hc (l.drop m) := by rw [← hc_append, ← hdt]
    rw [Int.toNat_natCast, hs]
    congr 1
    match l, hl with
    | x0 :: r, _ =>
      simp only [List.getD_eq_getElem?_getD] at hr2 ⊢
      match m, h1, h4, hm with
      | 1, _, _, _ =>
        simp at hr2 ⊢
        rw [hc_one]
      | 2, _, _, hm =>
        match r, hm with
        | x1 :: r, _ =>
          simp at hr2 ⊢
          rw [show [x0, x1] = [x0] ++ [x1] from rfl, hc_append, hc_one, hc_one]; (repeat' split) <;> omega
      | 3, _, _, hm =>
        match r, hm with
        | x1 :: x2 :: r, _ =>
          simp at hr2 ⊢
          rw [show [x0, x1, x2] = [x0] ++ ([x1] ++ [x2]) from rfl, hc_append, hc_append, hc_one, hc_one, hc_one]; (repeat' split) <;> omega
      | 4, _, _, hm =>
        match r, hm with
        | x1 :: x2 :: x3 :: r, _ =>
          simp at hr2 ⊢
          rw [show [x0, x1, x2, x3] = [x0] ++ ([x1] ++ ([x2] ++ [x3])) from rfl, hc_append, hc_append, hc_append, hc_one, hc_one, hc_one, hc_one]; (repeat' split) <;> omega
  · have hh := raw_high hb hl hn
    rw [hf]
    refine ⟨?_, fun _ => ⟨hh, rfl⟩⟩
    rw [if_pos hh]
    match l, hl with
    | x0 :: r, _ =>
      simp at hh ⊢
      rw [show x0 :: r = [x0] ++ r from rfl, hc_append, hc_one, if_pos hh]

theorem negs_hc : ∀ (n : Nat) (l : List Int), l.length = n → isBytes l → negs (dec 1 l) ≤ hc l := by
  intro n
  induction n using Nat.strongRecOn with
  | ind n ih =>
    intro l hl hb
    by_cases h0 : l.length = 0
    · rw [dec_nil h0]; exact Nat.zero_le _
    · have hp : 0 < l.length := by omega
      have hs := firstF_size (enc := 1) hp hb
      obtain ⟨h1, h2⟩ := first_high hb hp
      have hf : firstF 1 l = first8 l := rfl
      rw [hf] at hs
      rw [dec_cons hb hp, hf, negs_cons, h1]
      have := ih (l.drop (first8 l).2.toNat).length (by rw [List.length_drop]; omega) (l.drop (first8 l).2.toNat) rfl (hb.drop _)
      by_cases hn : (first8 l).1 < 0
      · obtain ⟨g1, g2⟩ := h2 hn
        rw [if_pos hn, if_pos g1]; omega
      · rw [if_neg hn]; omega

/-! ### Guess's answer -/
def quo1 (a b : Int) : Nat := (quoF .f64 (intF .f64 a) (intF .f64 b)).getD 0
def oneF : Nat := 4607182418800017408
def halfF : Nat := 4602678819172646912
def eighthF : Nat := 4593671619917905920
def manyF : Nat := 4604930618986332160
def loF (l : List Int) : Nat := quo1 (zc l 1 (2 * (l.length / 2))) (l.length / 2 : Nat)
def hiF (l : List Int) : Nat := quo1 (zc l 0 (2 * (l.length / 2))) (l.length / 2 : Nat)
def goodF (l : List Int) : Nat := quo1 ((hc l : Int) - negs (dec 1 l)) (hc l)
def restF (l : List Int) : Int × Nat :=
  if negs (dec 1 l) = 0 then (1, oneF)
  else if geF .f64 (goodF l) manyF = true then (1, goodF l)
  else (4, (subF .f64 oneF (goodF l)).getD 0)
def guessF (l : List Int) : Int × Nat :=
  if (detF l).1 ≠ 0 then ((detF l).1, oneF)
  else if 0 < l.length / 2 ∧ geF .f64 (loF l) halfF = true ∧ leF .f64 (hiF l) eighthF = true then (2, loF l)
  else if 0 < l.length / 2 ∧ geF .f64 (hiF l) halfF = true ∧ leF .f64 (loF l) eighthF = true then (3, hiF l)
  else restF l

theorem one_read : ∃ s m i, Ieee.double.read oneF = .number s m i := ⟨false, 4503599627370496, -52, by decide⟩
theorem quo1_is {a b : Int} (h1 : 1 ≤ b) (h2 : b < 4503599627370496) : quoF .f64 (intF .f64 a) (intF .f64 b) = some (quo1 a b) ∧ Fl.Num (quo1 a b) := by
  obtain ⟨q, e, n⟩ := Fl.quo_some (Fl.num_int a) h1 h2
  unfold quo1
  rw [e]; exact ⟨rfl, n⟩
theorem sub1_is {y : Nat} (hy : Fl.Num y) : subF .f64 oneF y = some ((subF .f64 oneF y).getD 0) ∧ Fl.Num ((subF .f64 oneF y).getD 0) := by
  obtain ⟨q, e, n⟩ := Fl.sub_some one_read hy
  rw [e]; exact ⟨rfl, n⟩
theorem guess_num {l : List Int} (hb : isBytes l) (hl : l.length < 4503599627370496) : Fl.Num (guessF l).2 := by
  have h1 : Fl.Num oneF := by
    obtain ⟨s, m, i, h⟩ := one_read
    intro s' t'; rw [h]; intro h; cases h
  have hn := negs_hc _ l rfl hb
  have hh := hc_le l
  unfold guessF
  split
  · exact h1
  · split
    · exact (quo1_is (by omega) (by omega)).2
    · split
      · exact (quo1_is (by omega) (by omega)).2
      · unfold restF
        split
        · exact h1
        · split
          · exact (quo1_is (by omega) (by omega)).2
          · exact (sub1_is (quo1_is (by omega) (by omega)).2).2

end Go.Sw.Codec
