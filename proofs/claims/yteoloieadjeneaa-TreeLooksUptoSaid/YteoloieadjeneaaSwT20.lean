/-
  A list of steps (six numbers and a list of runs each) among a row's arguments.
-/
import Derived.Test.YteoloieadjeneaaSwT19
import Derived.Test.YteoloieadjeneaaSwT5
namespace Go.Sw.Tree
open Go.ChangeShapes Go.WideShapes Go.ChangeAt Go.RowKit Go.WideElems
variable {H : Type} {enc : TypeId × Value → H} {P : Program}

theorem open_runs_t {t e : TypeId} {f0 f1 : Field} {W : World} {fuel : Nat} {cs : List Value} {x : DataW H × List MemPlace} (ht : P.underlying t = some (.slice e)) (hs : P.underlying e = some (.struct #[f0, f1]))
    (h0 : P.underlying f0.type = some (.int .i64)) (h1 : P.underlying f1.type = some (.int .i64)) (o0 : f0.offset = 0) (o1 : f1.offset = 1) (k0 : P.cellsOf f0.type = 1) (k1 : P.cellsOf f1.type = 1) (hC : P.cellsOf e = 2)
    (h : DataW.trod enc P W 0 (fun _ => true) true fuel t cs = some x) : ∃ (s : Sl) (l : List (Int × Int)), cs = [.slice s.base s.len s.cap] ∧ Runs W.heap s l ∧ l.length ≤ dcells x.1 := by
  rcases Go.Deep.open_slice ht h with ⟨e1, e2⟩ | ⟨a, len, cap, m, n, D, Pl, e1, _, h2, h3, h4, h5, h6⟩
  · exact ⟨⟨none, 0, 0⟩, [], e1, ⟨⟨rfl, fun i v hi => by simp [cR] at hi⟩, Nat.le_refl _, (by decide), by simp [wfR]⟩, Nat.zero_le _⟩
  · simp only [if_true] at h4
    subst h4
    have key : ∀ i, i < m → ∃ xy : Int × Int, (Sw.cell W.heap (a.add (i * 2)) = some (.int .i64 xy.1) ∧ Sw.cell W.heap (a.add (i * 2 + 1)) = some (.int .i64 xy.2)) ∧ fitsI .i64 xy.1 ∧ fitsI .i64 xy.2 := by
      intro i hi
      obtain ⟨cs, c1, c2⟩ := h6 i hi
      rw [hC] at c1
      obtain ⟨_, c3, c4⟩ := World.cells?_some c1
      obtain ⟨y0, y1, n', hx, _, t0, t1⟩ := trod_struct2 hs c2
      rw [o0, k0] at t0
      rw [o1, k1] at t1
      match cs, c3 with
      | [u0, u1], _ =>
        obtain ⟨x, ex, _, wx⟩ := DataW.trod_int h0 (by simpa using t0)
        obtain ⟨y, ey, _, wy⟩ := DataW.trod_int h1 (by simpa using t1)
        simp at ex ey
        subst ex; subst ey
        refine ⟨(x, y), ⟨?_, ?_⟩, wf_fits wx, wf_fits wy⟩
        · have := c4 0 (by decide)
          rw [Go.Deep.add_add] at this
          exact this
        · have := c4 1 (by decide)
          rw [Go.Deep.add_add] at this
          exact this
    obtain ⟨F, hF⟩ := Go.Deep.choose_lt key
    have hw : wfR ((List.range len).map F) := by
      intro r hr
      obtain ⟨i, hi, rfl⟩ := List.mem_map.1 hr
      exact (hF i (by have := List.mem_range.1 hi; omega)).2
    refine ⟨⟨some a, len, m⟩, (List.range len).map F, e1, ⟨⟨by rw [cR_len]; simp, fun i v hi => ⟨a, rfl, ?_⟩⟩, h2, Nat.lt_of_le_of_lt h3 (by decide), hw⟩, ?_⟩
    · have hlt := (List.getElem?_eq_some_iff.1 hi).1
      rw [cR_len, List.length_map, List.length_range] at hlt
      have hj : ((List.range len).map F)[i / 2]? = some (F (i / 2)) := by
        rw [List.getElem?_map, List.getElem?_range (by omega)]; rfl
      obtain ⟨g1, g2⟩ := cR_at _ _ _ hj
      obtain ⟨⟨q1, q2⟩, _⟩ := hF (i / 2) (by omega)
      rcases Nat.mod_two_eq_zero_or_one i with hm | hm
      · have : i / 2 * 2 = i := by omega
        rw [this] at g1 q1
        rw [g1] at hi; cases hi; exact q1
      · have : i / 2 * 2 + 1 = i := by omega
        rw [this] at g2 q2
        rw [g2] at hi; cases hi; exact q2
    · rw [h5]; simp [dcells]

/-- A step. -/
structure OpV where
  k : Int
  w : Int
  f : Int
  t : Int
  kk : Int
  n : Int
  s : Sl
  its : List (Int × Int)
def cO (o : OpV) : List Value := [iv o.k, iv o.w, iv o.f, iv o.t, iv o.kk, iv o.n, .slice o.s.base o.s.len o.s.cap]
def OpV.fits (o : OpV) : Prop := fitsI .i64 o.k ∧ fitsI .i64 o.w ∧ fitsI .i64 o.f ∧ fitsI .i64 o.t ∧ fitsI .i64 o.kk ∧ fitsI .i64 o.n
def delems : DataW H → List (DataW H)
  | .slice e _ => e
  | _ => []
def dfield (i : Nat) : DataW H → DataW H
  | .agg l => l.getD i .nil
  | _ => .nil

structure Ops (h : Heap) (s : Sl) (l : List OpV) : Prop where
  len : s.len = l.length
  at_ : ∀ i o, l[i]? = some o → ∃ a, s.base = some a ∧ (∀ q v, (cO o)[q]? = some v → cell h (a.add (i * 7 + q)) = some v) ∧ o.fits ∧ Runs h o.s o.its
  cap : s.len ≤ s.cap
  max : s.cap < 2 ^ 63

theorem open_ops {t e ti : TypeId} {f0 f1 f2 f3 f4 f5 f6 g0 g1 : Field} {er : TypeId} {W : World} {v : Value} {d : DataW H} {p : List MemPlace} {r : Reach} {b0 : Nat} (ht : P.underlying t = some (.slice e)) (hs : P.underlying e = some (.struct #[f0, f1, f2, f3, f4, f5, f6]))
    (hi : P.underlying ti = some (.int .i64)) (hci : P.cellsOf ti = 1) (ty : f0.type = ti ∧ f1.type = ti ∧ f2.type = ti ∧ f3.type = ti ∧ f4.type = ti ∧ f5.type = ti)
    (of : f0.offset = 0 ∧ f1.offset = 1 ∧ f2.offset = 2 ∧ f3.offset = 3 ∧ f4.offset = 4 ∧ f5.offset = 5 ∧ f6.offset = 6) (hC : P.cellsOf e = 7) (hc6 : P.cellsOf f6.type = 1)
    (ht6 : P.underlying f6.type = some (.slice er)) (hsr : P.underlying er = some (.struct #[g0, g1])) (h0 : P.underlying g0.type = some (.int .i64)) (h1 : P.underlying g1.type = some (.int .i64)) (o0 : g0.offset = 0) (o1 : g1.offset = 1) (k0 : P.cellsOf g0.type = 1) (k1 : P.cellsOf g1.type = 1) (hCr : P.cellsOf er = 2)
    (hval : Value.okWide P W r b0 t v) (h : DataW.Trod enc P W 0 (fun _ => true) true t v d p) : ∃ (s : Sl) (l : List OpV), v = .slice s.base s.len s.cap ∧ Ops W.heap s l ∧ l.length ≤ dcells d ∧
      ∀ (i : Nat) (o : OpV), l[i]? = some o → ∃ d', (delems d)[i]? = some d' ∧ o.its.length ≤ dcells (dfield 6 d') := by
  obtain ⟨fuel, h⟩ := h
  obtain ⟨a', len', cap', rfl⟩ := okWide_slice ht hval
  obtain ⟨ty0, ty1, ty2, ty3, ty4, ty5⟩ := ty
  obtain ⟨of0, of1, of2, of3, of4, of5, of6⟩ := of
  rcases Go.Deep.open_slice ht h with ⟨e1, e2⟩ | ⟨a, len, cap, m, n, D, Pl, e1, _, h2, h3, h4, h5, h6⟩
  · simp [Value.cells] at e1
    obtain ⟨rfl, rfl, rfl⟩ := e1
    exact ⟨⟨none, 0, 0⟩, [], rfl, ⟨rfl, fun i o hi => by simp at hi, Nat.le_refl _, by decide⟩, Nat.zero_le _, fun i o hi => by simp at hi⟩
  · simp only [if_true] at h4
    subst h4
    simp [Value.cells] at e1
    obtain ⟨rfl, rfl, rfl⟩ := e1
    have hd : d = _ := congrArg Prod.fst h5
    have key : ∀ i, i < cap' → ∃ o : OpV, (∀ q v, (cO o)[q]? = some v → Sw.cell W.heap (a.add (i * 7 + q)) = some v) ∧ o.fits ∧ Runs W.heap o.s o.its ∧ o.its.length ≤ dcells (dfield 6 (D i)) := by
      intro i hi'
      obtain ⟨cs, c1, c2⟩ := h6 i hi'
      rw [hC] at c1
      obtain ⟨_, c3, c4⟩ := World.cells?_some c1
      obtain ⟨xs, n', _, hx, hl, hlen, hf⟩ := DataW.trod_struct hs c2
      match cs, c3, xs, hlen with
      | [u0, u1, u2, u3, u4, u5, u6], _, [y0, y1, y2, y3, y4, y5, y6], _ =>
        have q0 := hf 0 f0 rfl
        have q1 := hf 1 f1 rfl
        have q2 := hf 2 f2 rfl
        have q3 := hf 3 f3 rfl
        have q4 := hf 4 f4 rfl
        have q5 := hf 5 f5 rfl
        have q6 := hf 6 f6 rfl
        rw [ty0, hci, of0] at q0
        rw [ty1, hci, of1] at q1
        rw [ty2, hci, of2] at q2
        rw [ty3, hci, of3] at q3
        rw [ty4, hci, of4] at q4
        rw [ty5, hci, of5] at q5
        rw [hc6, of6] at q6
        obtain ⟨x0, ex0, _, wx0⟩ := DataW.trod_int hi (by simpa using q0)
        obtain ⟨x1, ex1, _, wx1⟩ := DataW.trod_int hi (by simpa using q1)
        obtain ⟨x2, ex2, _, wx2⟩ := DataW.trod_int hi (by simpa using q2)
        obtain ⟨x3, ex3, _, wx3⟩ := DataW.trod_int hi (by simpa using q3)
        obtain ⟨x4, ex4, _, wx4⟩ := DataW.trod_int hi (by simpa using q4)
        obtain ⟨x5, ex5, _, wx5⟩ := DataW.trod_int hi (by simpa using q5)
        obtain ⟨s, l, ex6, hr, hl6⟩ := open_runs_t (x := y6) ht6 hsr h0 h1 o0 o1 k0 k1 hCr (by simpa using q6)
        simp at ex0 ex1 ex2 ex3 ex4 ex5 ex6
        subst ex0; subst ex1; subst ex2; subst ex3; subst ex4; subst ex5; subst ex6
        refine ⟨⟨x0, x1, x2, x3, x4, x5, s, l⟩, fun q v hq => ?_, ⟨wf_fits wx0, wf_fits wx1, wf_fits wx2, wf_fits wx3, wf_fits wx4, wf_fits wx5⟩, hr, ?_⟩
        · have hq7 := (List.getElem?_eq_some_iff.1 hq).1
          have := c4 q hq7
          rw [Go.Deep.add_add] at this
          exact this.trans hq
        · have : D i = _ := congrArg Prod.fst hx
          rw [this]; exact hl6
    have : Inhabited OpV := ⟨⟨0, 0, 0, 0, 0, 0, ⟨none, 0, 0⟩, []⟩⟩
    obtain ⟨F, hF⟩ := Go.Deep.choose_lt key
    have hget : ∀ (i : Nat) (o : OpV), ((List.range len').map F)[i]? = some o → i < len' ∧ o = F i := by
      intro i o hi
      have hlt := (List.getElem?_eq_some_iff.1 hi).1
      rw [List.length_map, List.length_range] at hlt
      rw [List.getElem?_map, List.getElem?_range hlt] at hi
      exact ⟨hlt, by simpa using hi.symm⟩
    refine ⟨⟨some a, len', cap'⟩, (List.range len').map F, rfl, ⟨by simp, fun i o hi => ?_, h2, Nat.lt_of_le_of_lt h3 (by decide)⟩, ?_, fun i o hi => ?_⟩
    · obtain ⟨hlt, rfl⟩ := hget i o hi
      obtain ⟨k1, k2, k3, _⟩ := hF i (by omega)
      exact ⟨a, rfl, k1, k2, k3⟩
    · rw [hd]; simp [dcells]
    · obtain ⟨hlt, rfl⟩ := hget i o hi
      obtain ⟨_, _, _, k4⟩ := hF i (by omega)
      exact ⟨D i, by rw [hd]; simp [delems, hlt], k4⟩

end Go.Sw.Tree
