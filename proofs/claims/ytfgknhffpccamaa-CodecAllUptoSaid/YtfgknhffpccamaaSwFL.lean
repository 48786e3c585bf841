/-
  Numbers with a point: a quotient of whole numbers is a number.
-/
import Derived.Test.YtfgknhffpccamaaSwU3
set_option linter.unusedVariables false
set_option linter.unusedSimpArgs false
set_option maxRecDepth 100000
namespace Go.Sw.Fl
open Ieee

/-- No NaN. -/
def Num (x : Nat) : Prop := ∀ s t, double.read x ≠ .nan s t

theorem sw : double.signWeight = 9223372036854775808 := by decide
theorem bi : double.binade = 4503599627370496 := by decide
theorem inf : double.infRung = 9218868437227405312 := by decide

theorem num_word (neg : Bool) {r : Nat} (h : r ≤ double.infRung) : Num (double.word neg r) := by
  intro s t
  have hw : double.word neg r % double.signWeight = r := by
    unfold Format.word
    rw [inf] at h
    rw [sw]
    cases neg
    · simp only [Bool.false_eq_true, if_false]; omega
    · simp only [if_true]; omega
  unfold Format.read
  rw [hw]
  dsimp only
  split
  · intro h; cases h
  · split
    · intro h; cases h
    · split
      · intro h; cases h
      · omega
theorem num_write {d : Datum} (h : ∀ s t, d ≠ .nan s t) : Num (double.write d) := by
  cases d with
  | number neg mag place =>
    show Num (double.nearest neg mag place)
    unfold Format.nearest
    split
    · exact num_word neg (Nat.zero_le _)
    · exact num_word neg (Nat.min_le_right ..)
  | infinity neg => exact num_word neg (Nat.le_refl _)
  | nan s t => exact absurd rfl (h s t)
theorem order_self {x : Nat} (h : Num x) : double.order x x = some .eq := by
  unfold Format.order
  unfold Num at h
  cases hx : double.read x with
  | number s m i => simp [Datum.order]
  | infinity s => simp [Datum.order]
  | nan s t => exact absurd hx (h s t)
theorem ne_self {x : Nat} (h : Num x) : neF .f64 x x = false := by
  unfold neF
  rw [show FloatKind.f64.format = double from rfl, order_self h]; rfl

theorem num_int (n : Int) : Num (intF .f64 n) := num_write (d := .number (n < 0) n.natAbs 0) fun s t h => by cases h

theorem cut_zero (neg : Bool) (x : Nat) : Toward.even.cut neg x 0 = x := by
  simp [Toward.cut, Nat.mod_one]

/-- A whole number that is not nought. -/
theorem read_pos {n : Int} (h1 : 1 ≤ n) (h2 : n < 4503599627370496) : ∃ t m j, double.read (intF .f64 n) = .number t m j ∧ m ≠ 0 := by
  have hn : n.natAbs ≠ 0 := by omega
  have hlog : 2 ^ n.natAbs.log2 ≤ n.natAbs := Nat.log2_self_le hn
  have hlt : n.natAbs < 2 ^ (n.natAbs.log2 + 1) := Nat.lt_log2_self
  have hL : n.natAbs.log2 ≤ 51 := by
    have : n.natAbs.log2 < 52 := (Nat.log2_lt hn).2 (by omega)
    omega
  have hw : intF .f64 n = double.nearest (decide (n < 0)) n.natAbs 0 := rfl
  rw [hw]
  unfold Format.nearest
  rw [if_neg hn]
  have hlp : double.leastPlace = -1074 := by decide
  have hfb : double.fractionBits = 52 := rfl
  rw [hlp, hfb]
  generalize hq : n.natAbs.log2 = L at *
  have hlast : max ((0 : Int) + (L : Int) - (52 : Nat)) (-1074) = (L : Int) - 52 := by omega
  rw [hlast]
  have e1 : ((0 : Int) - ((L : Int) - 52)).toNat = 52 - L := by omega
  have e2 : ((L : Int) - 52 - 0).toNat = 0 := by omega
  have e3 : ((L : Int) - 52 - -1074).toNat = L + 1022 := by omega
  dsimp only
  rw [e1, e2, e3, cut_zero, Nat.shiftLeft_eq]
  have hpow : 2 ^ L * 2 ^ (52 - L) = double.binade := by
    rw [← Nat.pow_add, show L + (52 - L) = 52 by omega]; rfl
  have hpow2 : 2 ^ (L + 1) * 2 ^ (52 - L) = 2 * double.binade := by
    rw [← hpow, Nat.pow_succ, Nat.mul_comm (2 ^ L) 2, Nat.mul_assoc]
  have k1 : double.binade ≤ n.natAbs * 2 ^ (52 - L) := by rw [← hpow]; exact Nat.mul_le_mul_right _ hlog
  have k2 : n.natAbs * 2 ^ (52 - L) < 2 * double.binade := by rw [← hpow2]; exact Nat.mul_lt_mul_of_pos_right hlt (Nat.two_pow_pos _)
  generalize n.natAbs * 2 ^ (52 - L) = K at k1 k2
  have hneg : decide (n < 0) = false := decide_eq_false (by omega)
  rw [hneg]
  have hinf : double.infRung = 2047 * double.binade := by decide
  have hsw : double.signWeight = 2048 * double.binade := by decide
  have hb0 : 0 < double.binade := by decide
  unfold Format.read Format.word
  dsimp only
  rw [hinf, hsw]
  generalize double.binade = B at *
  have hLB : (L + 1022) * B ≤ 1073 * B := Nat.mul_le_mul_right B (by omega)
  have h1B : B ≤ (L + 1022) * B := Nat.le_mul_of_pos_left B (by omega)
  generalize (L + 1022) * B = Y at *
  have hmin : min (Y + K) (2047 * B) = Y + K := Nat.min_eq_left (by omega)
  simp only [Bool.false_eq_true, if_false]
  rw [hmin]
  have hmod : (Y + K) % (2048 * B) = Y + K := Nat.mod_eq_of_lt (by omega)
  rw [hmod, if_neg (by omega), if_pos (by omega)]
  exact ⟨_, _, _, rfl, by omega⟩

theorem quo_some {x : Nat} {n : Int} (hx : Num x) (h1 : 1 ≤ n) (h2 : n < 4503599627370496) : ∃ q, quoF .f64 x (intF .f64 n) = some q ∧ Num q := by
  obtain ⟨t, m, j, hr, hm⟩ := read_pos h1 h2
  unfold quoF
  rw [show FloatKind.f64.format = double from rfl]
  unfold Format.div
  rw [hr]
  unfold Num at hx
  cases hrx : double.read x with
  | number s k i =>
    obtain ⟨d, e, hd⟩ : ∃ d, Datum.quotient (double.fractionBits + 2) (.number s k i) (.number t m j) = some d ∧ ∀ s t, d ≠ .nan s t := by
      simp only [Datum.quotient, if_neg hm]
      exact ⟨_, rfl, fun s t h => by cases h⟩
    rw [e]
    exact ⟨_, rfl, num_write hd⟩
  | infinity s => exact ⟨_, rfl, num_write (d := .infinity (s ^^ t)) fun s t h => by cases h⟩
  | nan s t => exact absurd hrx (hx s t)

/-- One less a number. -/
theorem sub_some {x y : Nat} (hx : ∃ s m i, double.read x = .number s m i) (hy : Num y) : ∃ q, subF .f64 x y = some q ∧ Num q := by
  obtain ⟨s, m, i, hr⟩ := hx
  unfold subF
  rw [show FloatKind.f64.format = double from rfl]
  unfold Format.sub
  rw [hr]
  unfold Num at hy
  cases hry : double.read y with
  | number t k j =>
    obtain ⟨a, b, c, e⟩ : ∃ a b c, (Datum.number s m i).sum (Datum.opposite (.number t k j)) = some (.number a b c) := ⟨_, _, _, rfl⟩
    rw [e]
    exact ⟨_, rfl, num_write (d := .number a b c) fun s t h => by cases h⟩
  | infinity t => exact ⟨_, rfl, num_write (d := .infinity (!t)) fun s t h => by cases h⟩
  | nan s t => exact absurd hry (hy s t)

end Go.Sw.Fl
