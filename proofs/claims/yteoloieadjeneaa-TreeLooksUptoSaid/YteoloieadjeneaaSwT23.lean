/-
  Tree: which tree a step means (who); the beginning of the wood.
-/
import Derived.Test.YteoloieadjeneaaSwT22
set_option linter.unusedVariables false
set_option linter.unusedSimpArgs false
set_option maxRecDepth 100000
namespace Go.Sw.Tree
variable {P : Program} {S : Ids} {h : Heap} {Q : Nat → List Value → Heap → Prop}

abbrev slV (s : Sl) : Value := .slice s.base s.len s.cap

theorem c_who {w : Addr} {ts ss : Sl} {o : Op7} (hc : Cells h w [slV ts, slV ss]) (h0 : 0 < ts.len) (h1 : ts.len ≤ 4194304) : Gives P (F_wood_who S (some w) o) [.one (.int .i64)] h fun (y : Int × Unit) _ => 0 ≤ y.1 ∧ y.1 < ts.len := by
  obtain ⟨o0, o1, o2, o3, o4, o5, s, u⟩ := o
  unfold F_wood_who Gives
  dsimp only
  intro elem
  have e1 : Ext h (h.push (.cells [iv o0, iv o1, iv o2, iv o3, iv o4, iv o5, .slice s.base s.len s.cap].toArray elem)) := Ext.push ..
  have q1 : Own h.size 1 (h.push (.cells [iv o0, iv o1, iv o2, iv o3, iv o4, iv o5, .slice s.base s.len s.cap].toArray elem)) ⟨some ⟨h.size, 0, none⟩, 7, 7⟩ [iv o0, iv o1, iv o2, iv o3, iv o4, iv o5, .slice s.base s.len s.cap] := own_alloc rfl (by decide) (by decide)
  generalize (h.push (.cells [iv o0, iv o1, iv o2, iv o3, iv o4, iv o5, .slice s.base s.len s.cap].toArray elem)) = h1 at e1 q1 ⊢
  have hc1 := e1.cells hc
  refine s_cell (b := .int .i64) (x := o1) rfl q1.cells rfl (grd_some rfl (grd_some rfl (s_cell (b := .sl) (x := ts) rfl hc1 rfl ?_)))
  have hz : eqI (natI ts.len) 0 = false := eqI_not.2 (by rw [natI_def]; omega)
  rw [hz]
  have hr : remI .i64 o1 (natI ts.len) = o1.tmod (ts.len : Int) := rfl
  have hb1 : o1.tmod (ts.len : Int) < ts.len := Int.tmod_lt_of_pos o1 (by omega)
  have hb2 : -(ts.len : Int) < o1.tmod (ts.len : Int) := Int.lt_tmod_of_pos o1 (by omega)
  rw [hr]
  refine s_not (bind_val (tys := [.one (.int .i64)]) (fun (x : Int × Unit) _ => 0 ≤ x.1 ∧ x.1 < ts.len) ?_ fun x h2 e2 hx => s_ret ⟨rfl, e1.trans e2, (x.1, ()), rfl, hx⟩)
  refine wp_ifB (fun hd => ?_) fun hd => ?_
  · rw [ltI_iff] at hd
    refine grd_some rfl (grd_some rfl (s_cell (b := .sl) (x := ts) rfl hc1 rfl ?_))
    rw [natI_def, add_ok (by omega) (by omega)]
    exact s_ret ⟨rfl, Ext.refl _, (o1.tmod (ts.len : Int) + ts.len, ()), rfl, by dsimp only; omega, by dsimp only; omega⟩
  · rw [ltI_not] at hd
    exact s_ret ⟨rfl, Ext.refl _, (o1.tmod (ts.len : Int), ()), rfl, hd, hb1⟩

end Go.Sw.Tree
