/-
  A list of runs among a row's arguments.
-/
import Derived.Test.YteoloieadjeneaaSwT4
import Derived.Test.YteoloieadjeneaaSwZ3
import Derived.ChangeSame
namespace Go.Sw.Tree
open Go.ChangeShapes Go.WideShapes Go.ChangeAt Go.RowKit Go.WideElems
variable {H : Type} {enc : TypeId × Value → H} {P : Program}

theorem open_runs {t e : TypeId} {f0 f1 : Field} {W : World} {v : Value} {d : DataW H} {p : List MemPlace} {r : Reach} {b0 : Nat} (ht : P.underlying t = some (.slice e)) (hs : P.underlying e = some (.struct #[f0, f1]))
    (h0 : P.underlying f0.type = some (.int .i64)) (h1 : P.underlying f1.type = some (.int .i64)) (o0 : f0.offset = 0) (o1 : f1.offset = 1) (k0 : P.cellsOf f0.type = 1) (k1 : P.cellsOf f1.type = 1) (hC : P.cellsOf e = 2)
    (hval : Value.okWide P W r b0 t v) (h : DataW.Trod enc P W 0 (fun _ => true) true t v d p) : ∃ (s : Sl) (l : List (Int × Int)), v = .slice s.base s.len s.cap ∧ Runs W.heap s l := by
  obtain ⟨fuel, h⟩ := h
  obtain ⟨a', len', cap', rfl⟩ := okWide_slice ht hval
  rcases Go.Deep.open_slice ht h with ⟨e1, e2⟩ | ⟨a, len, cap, m, n, D, Pl, e1, _, h2, h3, h4, h5, h6⟩
  · simp [Value.cells] at e1
    obtain ⟨rfl, rfl, rfl⟩ := e1
    exact ⟨⟨none, 0, 0⟩, [], rfl, ⟨⟨rfl, fun i v hi => by simp [cR] at hi⟩, Nat.le_refl _, (by decide), by simp [wfR]⟩⟩
  · simp only [if_true] at h4
    subst h4
    simp [Value.cells] at e1
    obtain ⟨rfl, rfl, rfl⟩ := e1
    have key : ∀ i, i < cap' → ∃ xy : Int × Int, (Sw.cell W.heap (a.add (i * 2)) = some (.int .i64 xy.1) ∧ Sw.cell W.heap (a.add (i * 2 + 1)) = some (.int .i64 xy.2)) ∧ fitsI .i64 xy.1 ∧ fitsI .i64 xy.2 := by
      intro i hi
      obtain ⟨cs, c1, c2⟩ := h6 i hi
      rw [hC] at c1
      obtain ⟨_, c3, c4⟩ := World.cells?_some c1
      obtain ⟨y0, y1, n', hx, _, t0, t1⟩ := trod_struct2 hs c2
      rw [o0, k0] at t0
      rw [o1, k1] at t1
      match cs, c3 with
      | [u0, u1], _ =>
        obtain ⟨x, ex, _, wx⟩ := DataW.trod_int h0 (by simpa using t0)
        obtain ⟨y, ey, _, wy⟩ := DataW.trod_int h1 (by simpa using t1)
        simp at ex ey
        subst ex; subst ey
        refine ⟨(x, y), ⟨?_, ?_⟩, wf_fits wx, wf_fits wy⟩
        · have := c4 0 (by decide)
          rw [Go.Deep.add_add] at this
          exact this
        · have := c4 1 (by decide)
          rw [Go.Deep.add_add] at this
          exact this
    obtain ⟨F, hF⟩ := Go.Deep.choose_lt key
    have hw : wfR ((List.range len').map F) := by
      intro r hr
      obtain ⟨i, hi, rfl⟩ := List.mem_map.1 hr
      exact (hF i (by have := List.mem_range.1 hi; omega)).2
    refine ⟨⟨some a, len', cap'⟩, (List.range len').map F, rfl, ⟨⟨by rw [cR_len]; simp, fun i v hi => ⟨a, rfl, ?_⟩⟩, h2, Nat.lt_of_le_of_lt h3 (by decide), hw⟩⟩
    have hlt := (List.getElem?_eq_some_iff.1 hi).1
    rw [cR_len, List.length_map, List.length_range] at hlt
    have hj : ((List.range len').map F)[i / 2]? = some (F (i / 2)) := by
      rw [List.getElem?_map, List.getElem?_range (by omega)]; rfl
    obtain ⟨g1, g2⟩ := cR_at _ _ _ hj
    obtain ⟨⟨q1, q2⟩, _⟩ := hF (i / 2) (by omega)
    rcases Nat.mod_two_eq_zero_or_one i with hm | hm
    · have : i / 2 * 2 = i := by omega
      rw [this] at g1 q1
      rw [g1] at hi; cases hi; exact q1
    · have : i / 2 * 2 + 1 = i := by omega
      rw [this] at g2 q2
      rw [g2] at hi; cases hi; exact q2

end Go.Sw.Tree
