/-
  PROVED HERE: the law TreeAll of package copyistlaw4 returns true for all arguments of the row's bulk; what it is given reads as before.
  CONDITIONS: none beyond the row's own (the row Rows.treeAllUptoRow, unchanged).
-/
import Derived.Test.YteoloieadjeneaaRows
import Derived.Test.YteoloieadjeneaaSwLtree1
import Derived.Test.YteoloieadjeneaaSwBtree
import Derived.Test.YteoloieadjeneaaSwXtreem
import Derived.Test.YteoloieadjeneaaSwG3
import Derived.Test.YteoloieadjeneaaSwG1
namespace Go.Proofs.Yteoloieadjeneaa.treeAll
open Go.ChangeShapes Go.WideShapes Go.ChangeAt Go.RowKit
set_option linter.unusedVariables false
set_option linter.unusedSimpArgs false
set_option maxRecDepth 100000

theorem own : ownKnob Try.prog.godebug = none := by kernel_rfl

theorem field_le {H : Type} (d : DataW H) : Sw.dcells (Sw.Tree.dfield 6 d) ≤ Rows.uptoBulk d := by
  cases d with
  | agg l =>
    have := bulks.dcells_le (Sw.Tree.dfield 6 (DataW.agg l))
    have h : Rows.uptoBulk (Sw.Tree.dfield 6 (DataW.agg l)) ≤ Rows.uptoBulk (DataW.agg l) := by
      simp only [Sw.Tree.dfield, List.getD_eq_getElem?_getD]
      cases hc : l[6]? with
      | none => simp only [Option.getD_none, Rows.uptoBulk]; omega
      | some x => have := bulks.mem_le (List.mem_of_getElem? hc); simp only [Option.getD_some, Rows.uptoBulk]; omega
    omega
  | _ => simp [Sw.Tree.dfield, Sw.dcells]
theorem elems_le {H : Type} (d : DataW H) : Rows.uptoBulkAll (Sw.Tree.delems d) ≤ Rows.uptoBulk d := by
  cases d with
  | slice e s => simp only [Sw.Tree.delems, Rows.uptoBulk]; omega
  | _ => simp [Sw.Tree.delems, Rows.uptoBulkAll]

theorem contract (H : Type) (enc : TypeId × Value → H) (W : World) (base : Nat) (args : Array Value) (ds gs : List (DataW H)) (before : List MemPlace)
    (hval0 : ∀ (j : Nat) t v, Try.f12.params[j]? = some t → args[j]? = some v → Value.okWide Try.prog W .any base t v)
    (hW : DataW.Whole enc Try.prog Try.f12.params.toList Rows.treeAllSpec.vars false W args.toList ds gs before) (hk : Rows.uptoSmall H (ds ++ gs) = true) :
    Calls Try.prog 12 args W fun e W' => ∃ v, e = .returned v ∧ Rows.treeAllSpec.post enc Try.prog Try.f12 false true false false W args v W' := by
  have hval : ∀ (j : Nat) t v, Try.f12.params[j]? = some t → args[j]? = some v → Value.okWide Try.prog W .any base t v := hval0
  have hW' := hW
  obtain ⟨p, q, hA0, hV, rfl, hfz, hnd⟩ := hW
  have hA : DataW.TrodAll enc Try.prog W 0 (fun _ => true) true Try.f12.params.toList args.toList ds p := hA0
  rw [Try.params12] at hA hval
  obtain ⟨v0, vs0, d0, ds0, p0, q0, hargs, rfl, rfl, h0, r0⟩ := trodAll_cons hA
  obtain ⟨rfl, rfl, rfl⟩ := trodAll_nil r0
  obtain rfl : args = #[v0] := by cases args; simp_all
  obtain ⟨rfl, rfl⟩ := trodVars_none hV
  have hbulk := bulks.bound hk
  simp only [List.append_nil, Rows.uptoBulkAll] at hbulk
  obtain ⟨s0, l0, rfl, L0, n0, x0⟩ := Sw.Tree.open_ops (ti := 3) Try.underlying72 Try.underlying94 Try.underlying3 (by kernel_rfl) ⟨rfl, rfl, rfl, rfl, rfl, rfl⟩ ⟨rfl, rfl, rfl, rfl, rfl, rfl, rfl⟩ (by kernel_rfl) (by kernel_rfl) Try.underlying22 Try.underlying24 (by kernel_rfl) (by kernel_rfl) rfl rfl (by kernel_rfl) (by kernel_rfl) (by kernel_rfl) (hval 0 72 v0 rfl rfl) h0
  have m0 := Nat.le_trans n0 (bulks.dcells_le d0)
  have t0 : Sw.Tree.tot l0 ≤ _ := Nat.le_trans (bulks.sum_le (fun o => o.its.length) l0 (Sw.Tree.delems d0) fun i o hi => let ⟨d, a, b⟩ := x0 i o hi; ⟨d, a, Nat.le_trans b (field_le d)⟩) (elems_le d0)
  clear hA0 hval0 hval hA
  refine (Sw.calls_of l_law4_TreeAll (tys := [.one .bool]) (s0, ()) W (Sw.Tree.c_TreeAll clos L0 (by omega) (by omega))).mono fun e W' ⟨⟨y, u⟩, he, hy, hb, hfr⟩ => ?_
  have hy : y = true := hy
  subst hy
  exact ⟨.bool true, he, Sw.law_post (tb := 4) (by kernel_rfl) (of_decide_eq_true (by kernel_rfl)) rfl Try.underlying4 (by kernel_rfl) hW' rfl (by simp [Rows.treeAllSpec]) rfl hb hfr⟩

theorem lifted (os : Os) (started : os.Started) (H : Type) (enc : TypeId × Value → H) (F : Stop.Interp) :
    ReturnsInHanded {} Try.checked os 12 .any ((Rows.OpenSpec.upto Rows.treeAllSpec).pre6 enc Try.prog Try.f12 Rows.treeAllUptoRow.domain false) (((Rows.OpenSpec.upto Rows.treeAllSpec).at F).post enc Try.prog Try.f12 false true false false) := by
  refine returnsInHanded_of_cond (C := Try.checked) (s := Rows.OpenSpec.upto Rows.treeAllSpec) (k := Rows.uptoSmall) rfl own started (by kernel_rfl) Try.func12
    (OpenSpec.witness (enc := enc) (C := Try.checked) (s := Rows.OpenSpec.upto Rows.treeAllSpec) (k := Rows.uptoSmall) rfl false ⟨#[], #[.slice none 0 0], []⟩ 8 (by kernel_rfl) (by kernel_rfl) (by kernel_rfl)
      (x := ([.nil], [], [])) (by kernel_rfl) rfl (by kernel_rfl)) ?_
  intro W base args ds gs before hval hW _ hk _
  exact contract H enc W base args ds gs before hval hW hk

theorem over : Rows.treeAllUptoRow.holds Try.pinned (Rows.OpenSpec.upto Rows.treeAllSpec) :=
  OpenClaim.holds_of_cond 12 Try.f12 rfl rfl rfl rfl rfl rfl rfl ⟨rfl, rfl, rfl, rfl, rfl⟩ rfl rfl rfl rfl rfl (by kernel_rfl) Try.func12 (by kernel_rfl)
    (of_decide_eq_true (by kernel_rfl)) (by unfold Func.isWrapper; first | (rw [if_pos (by decide +kernel)]; kernel_rfl) | (rw [if_neg (by decide +kernel)]; exact ⟨rfl, rfl⟩))
    (fun os started H enc _ F => lifted os started H enc F)

end Go.Proofs.Yteoloieadjeneaa.treeAll

namespace Go.Proofs.Yteoloieadjeneaa
theorem treeAllUptoHolds : Rows.TreeAllUptoSaid := treeAll.over
end Go.Proofs.Yteoloieadjeneaa
