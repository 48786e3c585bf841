/-
  Codec: plain laws: where atoms begin; the last atom; parts.
-/
import Derived.Test.YtfgknhffpccamaaSwC12
set_option linter.unusedVariables false
set_option linter.unusedSimpArgs false
set_option maxRecDepth 100000
namespace Go.Sw.Codec

theorem getD_take {l : List Int} {m i : Nat} (h : i < m) : (l.take m).getD i 0 = l.getD i 0 := by
  rw [List.getD_eq_getElem?_getD, List.getD_eq_getElem?_getD, List.getElem?_take, if_pos h]
theorem getD_take_le {l : List Int} {m i : Nat} (h : m ≤ i) : (l.take m).getD i 0 = 0 := by
  rw [List.getD_eq_getElem?_getD, List.getElem?_take, if_neg (by omega)]; rfl

/-- A row that is whole within the first m bytes is whole. -/
theorem row_take {l : List Int} (hb : isBytes l) {m j : Nat} (h1 : 1 ≤ j) (hj : j ≤ m) (hl : j ≤ l.length) : rowF (l.take m) = ((j : Int), (j : Int)) ↔ rowF l = ((j : Int), (j : Int)) := by
  have b0 := hb.at 0
  have c0 := (hb.take m).at 0
  unfold rowF
  rw [row_is b0.1 b0.2 _ (by omega), row_is c0.1 c0.2 _ (by omega)]
  unfold contF
  have g0 : (l.take m).getD 0 0 = l.getD 0 0 := getD_take (by omega)
  have g1 : 2 ≤ j → (l.take m).getD 1 0 = l.getD 1 0 := fun h => getD_take (by omega)
  have g2 : 3 ≤ j → (l.take m).getD 2 0 = l.getD 2 0 := fun h => getD_take (by omega)
  have g3 : 4 ≤ j → (l.take m).getD 3 0 = l.getD 3 0 := fun h => getD_take (by omega)
  rw [g0]
  by_cases j1 : j = 1
  · subst j1; constructor <;> intro h <;> omega
  have g1 := g1 (by omega)
  rw [g1]
  by_cases j2 : j = 2
  · subst j2; constructor <;> intro h <;> omega
  have g2 := g2 (by omega)
  rw [g2]
  by_cases j3 : j = 3
  · subst j3; constructor <;> intro h <;> omega
  have g3 := g3 (by omega)
  rw [g3]

theorem meant_take {l : List Int} {m j : Nat} (h1 : 1 ≤ j) (hj : j ≤ m) (h4 : j ≤ 4) : meantF j (l.take m) = meantF j l := by
  have : j = 1 ∨ j = 2 ∨ j = 3 ∨ j = 4 := by omega
  rcases this with rfl | rfl | rfl | rfl
  · simp only [meantF, mtP, Nat.reduceSub]; rw [getD_take (by omega)]
  · simp only [meantF, mtP, Nat.reduceSub, Nat.reduceAdd]; rw [getD_take (by omega), getD_take (by omega)]
  · simp only [meantF, mtP, Nat.reduceSub, Nat.reduceAdd]; rw [getD_take (by omega), getD_take (by omega), getD_take (by omega)]
  · simp only [meantF, mtP, Nat.reduceSub, Nat.reduceAdd]; rw [getD_take (by omega), getD_take (by omega), getD_take (by omega), getD_take (by omega)]

/-- The first atom of the first m bytes is that of all, where it lies within them. -/
theorem first_take {enc : Int} {l : List Int} (hb : isBytes l) (hl : 0 < l.length) {m : Nat} (hm : (firstF enc l).2 ≤ m) (hr : enc = 1 ∨ enc = 4 ∨ (2 ≤ m ∨ l.length = 1)) : firstF enc (l.take m) = firstF enc l := by
  have hs := firstF_size (enc := enc) hl hb
  have hml : 0 < (l.take m).length := by rw [List.length_take]; omega
  unfold firstF at hm hs ⊢
  by_cases h1 : enc = 1
  · rw [if_pos h1] at hm hs ⊢
    rw [if_pos h1]
    rcases first8_cases hb hl with ⟨j, j1, j4, jl, hrow, _, hf⟩ | ⟨hn, hf⟩
    · rw [hf] at hm hs ⊢
      dsimp only at hm
      have := (row_take hb (m := m) j1 (by omega) jl).2 hrow
      rw [meant_val (hb.take m) j1 j4 this, meant_take j1 (by omega) j4]
    · rw [hf, raw_val (hb.take m) hml fun j j1 j4 jl hrow => ?_, getD_take (by rw [List.length_take] at hml; omega)]
      rw [List.length_take] at jl
      exact hn j j1 j4 (by omega) ((row_take hb (m := m) j1 (by omega) (by omega)).1 hrow)
  rw [if_neg h1] at hm hs ⊢
  rw [if_neg h1]
  by_cases h4 : enc = 4
  · rw [if_pos h4] at hm hs ⊢
    rw [if_pos h4]
    dsimp only at hm
    rw [getD_take (by omega)]
  rw [if_neg h4] at hm hs ⊢
  rw [if_neg h4]
  unfold first16 at hm hs ⊢
  by_cases hl1 : l.length = 1
  · have : l.take m = l := List.take_of_length_le (by rw [hl1]; rw [if_pos hl1] at hm; dsimp only at hm; omega)
    rw [this]
  rw [if_neg hl1] at hm hs ⊢
  have hm2 : 2 ≤ m := by omega
  rw [List.length_take, if_neg (by omega)]
  have u0 : unitF enc (l.take m) 0 = unitF enc l 0 := by unfold unitF; rw [getD_take (by omega), getD_take (by omega)]
  rw [u0]
  by_cases hp : 55296 ≤ unitF enc l 0 ∧ unitF enc l 0 < 56320 ∧ 4 ≤ l.length ∧ 56320 ≤ unitF enc l 2 ∧ unitF enc l 2 < 57344
  · rw [if_pos hp] at hm ⊢
    dsimp only at hm
    have u2 : unitF enc (l.take m) 2 = unitF enc l 2 := by unfold unitF; rw [getD_take (by omega), getD_take (by omega)]
    rw [u2, if_pos (by omega)]
  · rw [if_neg hp] at hm ⊢
    by_cases h4m : 4 ≤ m
    · have u2 : unitF enc (l.take m) 2 = unitF enc l 2 := by unfold unitF; rw [getD_take (by omega), getD_take (by omega)]
      rw [u2, if_neg (by omega)]
    · rw [if_neg (by omega)]

/-- Where an atom begins, or all bytes end. -/
inductive Bnd (enc : Int) (l : List Int) : Nat → Prop where
  | zero : Bnd enc l 0
  | step {k : Nat} : Bnd enc l k → k < l.length → Bnd enc l (k + (firstF enc (l.drop k)).2.toNat)

theorem Bnd.le {enc : Int} {l : List Int} (hb : isBytes l) {k : Nat} (h : Bnd enc l k) : k ≤ l.length := by
  cases h with
  | zero => omega
  | step h hk =>
    rename_i k
    have := firstF_size (enc := enc) (l := l.drop k) (by rw [List.length_drop]; omega) (hb.drop k)
    rw [List.length_drop] at this
    omega
/-- UTF-16's atoms begin at even places, but for a last odd byte's end. -/
theorem Bnd.even {enc : Int} {l : List Int} (hb : isBytes l) (h16 : enc ≠ 1 ∧ enc ≠ 4) {k : Nat} (h : Bnd enc l k) : k % 2 = 0 ∨ k = l.length := by
  induction h with
  | zero => omega
  | step h hk ih =>
    rename_i k
    unfold firstF
    rw [if_neg h16.1, if_neg h16.2]
    unfold first16
    rw [List.length_drop]
    (repeat' split) <;> dsimp only <;> omega
/-- Boundaries are told by going ahead: from one on, every other one is there by its atom. -/
theorem Bnd.next {enc : Int} {l : List Int} (hb : isBytes l) {j k : Nat} (hj : Bnd enc l j) (hk : Bnd enc l k) (hlt : j < k) : j + (firstF enc (l.drop j)).2.toNat ≤ k := by
  have key : ∀ {k}, Bnd enc l k → ∀ {j}, Bnd enc l j → (j < k → j + (firstF enc (l.drop j)).2.toNat ≤ k) ∧ (k < j → k + (firstF enc (l.drop k)).2.toNat ≤ j) := by
    intro k hk
    induction hk with
    | zero =>
      intro j hj
      refine ⟨fun h => by omega, ?_⟩
      induction hj with
      | zero => intro h; omega
      | step hj hjl ih =>
        rename_i j
        intro _
        by_cases h0 : j = 0
        · subst h0; omega
        · have := ih (by omega); omega
    | step hk hkl ih =>
      rename_i k
      intro j hj
      have hsz := firstF_size (enc := enc) (l := l.drop k) (by rw [List.length_drop]; omega) (hb.drop k)
      have hi := ih hj
      refine ⟨fun h => ?_, ?_⟩
      · by_cases hjk : j < k
        · have := hi.1 hjk; omega
        · by_cases he : j = k
          · subst he; omega
          · have := hi.2 (by omega); omega
      · induction hj with
        | zero => intro h; omega
        | step hj hjl ihj =>
          rename_i j
          intro h
          have hij := ih hj
          by_cases hjk : j < k
          · have := hij.1 hjk; omega
          · by_cases he : j = k
            · subst he; omega
            · by_cases he2 : j = k + (firstF enc (l.drop k)).2.toNat
              · rw [he2]; omega
              · have := ihj hij (by have := hij.2 (by omega); omega)
                omega
  exact (key hk hj).1 hlt

/-- What is read from a boundary on. -/
theorem dec_bnd {enc : Int} {l : List Int} (hb : isBytes l) {k : Nat} (h : Bnd enc l k) : ∃ pre : List Int, dec enc l = pre ++ dec enc (l.drop k) ∧ (k = 0 → pre = []) := by
  induction h with
  | zero => exact ⟨[], by simp, fun _ => rfl⟩
  | step h hk ih =>
    rename_i k
    obtain ⟨pre, e, _⟩ := ih
    have hs := firstF_size (enc := enc) (l := l.drop k) (by rw [List.length_drop]; omega) (hb.drop k)
    rw [dec_cons (hb.drop k) (by rw [List.length_drop]; omega), List.drop_drop] at e
    exact ⟨pre ++ [(firstF enc (l.drop k)).1], by rw [e, List.append_assoc]; rfl, fun hz => by omega⟩
end Go.Sw.Codec
