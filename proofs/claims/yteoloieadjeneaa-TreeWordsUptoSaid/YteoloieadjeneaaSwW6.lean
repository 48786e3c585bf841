/-
  Words: a list of strings among a row's arguments.
-/
import Derived.Test.YteoloieadjeneaaSwW5
import Derived.Deep.Strs
set_option linter.unusedVariables false
set_option linter.unusedSimpArgs false
set_option maxRecDepth 100000
namespace Go.Sw.Words
open Go.Sw.Any Go.ChangeShapes Go.WideShapes Go.ChangeAt Go.RowKit Go.WideElems
variable {P : Program} {S : Ids} {H : Type} {enc : TypeId × Value → H}

theorem open_words {t e : TypeId} {W : World} {v : Value} {d : DataW H} {p : List MemPlace} {r : Reach} {b0 : Nat} (ht : P.underlying t = some (.slice e)) (he : P.underlying e = some .string) (hc : P.cellsOf e = 1)
    (hval : Value.okWide P W r b0 t v) (h : DataW.Trod enc P W 0 (fun _ => true) true t v d p) : ∃ (s : Sl) (l : List W1), v = .slice s.base s.len s.cap ∧ Its (word S) W.heap s l ∧ l.length ≤ dcells d ∧
      ∀ (i : Nat) (x : W1), l[i]? = some x → (Tree.delems d)[i]? = some (.lit (.string x.1.data.toList)) := by
  obtain ⟨fuel, h⟩ := h
  obtain ⟨a', len', cap', rfl⟩ := okWide_slice ht hval
  rcases Go.Deep.open_strs ht he hc h with ⟨e1, e2⟩ | ⟨a, len, cap, m, Sx, e1, _, h2, h3, h4, h5, h6⟩
  · simp [Value.cells] at e1
    obtain ⟨rfl, rfl, rfl⟩ := e1
    exact ⟨⟨none, 0, 0⟩, [], rfl, ⟨⟨by simp [cI], fun i v hi => by simp [cI] at hi⟩, Nat.le_refl _, by decide, fun _ _ => trivial⟩, Nat.zero_le _, fun i x hi => by simp at hi⟩
  · simp only [if_true] at h4
    subst h4
    simp [Value.cells] at e1
    obtain ⟨rfl, rfl, rfl⟩ := e1
    have hd : d = _ := congrArg Prod.fst h5
    have hll : ((List.range len').map fun i => ((Sx i, ()) : W1)).length = len' := by simp
    refine ⟨⟨some a, len', cap'⟩, (List.range len').map fun i => (Sx i, ()), rfl, ⟨⟨?_, fun i v hi => ⟨a, rfl, ?_⟩⟩, h2, Nat.lt_of_le_of_lt h3 (by decide), fun _ _ => trivial⟩, ?_, fun i x hi => ?_⟩
    · rw [cI_len, hll]
    · have hlt := (List.getElem?_eq_some_iff.1 hi).1
      rw [cI_len, hll, show (word S).ni = 1 from rfl, Nat.mul_one] at hlt
      have hj : ((List.range len').map fun i => ((Sx i, ()) : W1))[i]? = some (Sx i, ()) := by rw [List.getElem?_map, List.getElem?_range hlt]; rfl
      have := cI_at (I := word S) _ i (Sx i, ()) hj 0 (.string (Sx i)) rfl
      rw [show (word S).ni = 1 from rfl, Nat.mul_one, Nat.add_zero, hi] at this
      cases this
      exact (h6 i (by omega)).1
    · rw [hd]; simp [dcells]
    · have hlt := (List.getElem?_eq_some_iff.1 hi).1
      rw [hll] at hlt
      rw [List.getElem?_map, List.getElem?_range hlt] at hi
      cases hi
      rw [hd]
      simp [Tree.delems, hlt]

end Go.Sw.Words
