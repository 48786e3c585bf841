/-
  Tree: the scripts' parts: alive.
-/
import Derived.Test.YteoloieadjeneaaSwT18
set_option linter.unusedVariables false
set_option linter.unusedSimpArgs false
set_option maxRecDepth 100000
namespace Go.Sw.Tree
variable {P : Program} {S : Ids} {h : Heap} {Q : Nat → List Value → Heap → Prop}

theorem c_alive : Gives P (F_law4_alive S) [.one .bool] h fun (y : Bool × Unit) _ => y.1 = true := by
  have hw : wfR [((5 : Int), (2 : Int)), (6, 3)] := by
    intro r hr
    simp only [List.mem_cons, List.not_mem_nil, or_false] at hr
    rcases hr with rfl | rfl <;> exact ⟨fits_i64.2 (by decide), fits_i64.2 (by decide)⟩
  have hs : sum [((5 : Int), (2 : Int)), (6, 3)] = (5, 2, 5, 6, ()) := by decide
  unfold F_law4_alive Gives
  intro elem
  have e1 : Ext h (h.push (.cells [.int .i64 5, .int .i64 2, .int .i64 6, .int .i64 3].toArray elem)) := Ext.push ..
  have q1 : OwnR h.size (h.push (.cells [.int .i64 5, .int .i64 2, .int .i64 6, .int .i64 3].toArray elem)) ⟨some ⟨h.size, 0, none⟩, 2, 2⟩ [(5, 2), (6, 3)] := ⟨own_alloc rfl (by decide) (by decide), hw⟩
  generalize (h.push (.cells [.int .i64 5, .int .i64 2, .int .i64 6, .int .i64 3].toArray elem)) = h1 at e1 q1 ⊢
  refine wp_call (c_Of q1.runs (by decide)) fun y h2 e2 hy => ?_
  obtain ⟨⟨(p : Option Addr), w0⟩, w1⟩ := y
  obtain ⟨t, nt, lt, _⟩ := hy
  dsimp only at nt ⊢
  have hwt : wfR t.list := by rw [lt]; exact hw
  have hrt : t.list.length ≤ 4398046511104 := by rw [lt]; decide
  refine s_putTree p nt fun h3 e3 oT => ?_
  have n3 := nt.ext e3
  refine s_getT oT (wp_call (c_At (i := Int.ofNat 1) (x := (6, 3)) n3 hwt hrt (by decide) (by rw [lt]; rfl)) fun y h4 e4 hy => ?_)
  obtain ⟨⟨(y1 : Int), (y2 : Int), w2⟩, (y3 : Bool), w3⟩ := y
  obtain ⟨hy1, hy2, hy3⟩ := hy
  dsimp only at hy1 hy2 hy3 ⊢
  subst y1; subst y2; subst y3
  refine s_put2 6 3 (hw (6, 3) (by simp)) fun h5 e5 oX => ?_
  have e35 := e4.trans e5
  refine s_getT (oT.ext e35) (wp_call (c_Sum (n3.ext e35) hwt hrt) fun y h6 e6 hy => ?_)
  obtain ⟨y, w4⟩ := y
  dsimp only at hy
  rw [lt, hs] at hy
  subst hy
  refine s_put4 (5, 2, 5, 6, ()) (by have := (V.sum hw).fits (by decide); rw [hs] at this; exact this) fun h7 e7 oS => ?_
  have e37 := (e35.trans e6).trans e7
  have oX := (oX.ext e6).ext e7
  have e07 := ((e1.trans e2).trans e3).trans e37
  refine bind_val (tys := [.one .bool]) (fun (x : Bool × Unit) _ => x.1 = true) ?_ fun x h8 e8 hx => s_ret ⟨rfl, e07.trans e8, (x.1, ()), rfl, hx⟩
  refine s_getT (oT.ext e37) (wp_call (c_Size (n3.ext e37)) fun y k1 d1 hy => ?_)
  obtain ⟨(y : Int), w5⟩ := y
  dsimp only at hy ⊢
  rw [show eqI y 2 = true from eqI_iff.2 (by rw [hy, lt]; rfl)]
  have l1 := (oX.ext d1).lst
  have l2 := (oS.ext d1).lst
  refine s_ifT (s_ifT (s_loadX l1 (x := 6) rfl ?_))
  rw [eqI_self]
  refine s_ifT (s_loadX l1 (x := 3) rfl ?_)
  rw [eqI_self]
  refine s_ifT (s_loadX l2 (x := 5) rfl ?_)
  rw [eqI_self]
  refine s_ifT (s_loadX l2 (x := 2) rfl ?_)
  rw [eqI_self]
  refine s_ifT (s_loadX l2 (x := 5) rfl ?_)
  rw [eqI_self]
  refine s_ifT (s_loadX l2 (x := 6) rfl ?_)
  rw [eqI_self]
  exact s_ret ⟨rfl, d1, (true, ()), rfl, rfl⟩

end Go.Sw.Tree
