/-
  PROVED HERE: the law LinesKept of package copyistlaw6 returns true for all arguments of the row's bulk; what it is given reads as before.
  CONDITIONS: none beyond the row's own (the row Rows.linesKeptUptoRow, unchanged).
-/
import Derived.Test.YtaebgdhdldfigaaRows
import Derived.Test.YtaebgdhdldfigaaSwXlinesm
import Derived.Test.YtaebgdhdldfigaaSwBlinesm
import Derived.Test.YtaebgdhdldfigaaSwZ3
import Derived.Test.YtaebgdhdldfigaaSwG1
namespace Go.Proofs.Ytaebgdhdldfigaa.linesKept
open Go.ChangeShapes Go.WideShapes Go.ChangeAt Go.RowKit
set_option linter.unusedVariables false
set_option linter.unusedSimpArgs false
set_option maxRecDepth 100000
theorem own : ownKnob Try.prog.godebug = none := by kernel_rfl
theorem contract (H : Type) (enc : TypeId × Value → H) (W : World) (base : Nat) (args : Array Value) (ds gs : List (DataW H)) (before : List MemPlace)
  (hval0 : ∀ (j : Nat) t v, Try.f3.params[j]? = some t → args[j]? = some v → Value.okWide Try.prog W .any base t v)
  (hW : DataW.Whole enc Try.prog Try.f3.params.toList Rows.linesKeptSpec.vars false W args.toList ds gs before) (hk : Rows.uptoSmall H (ds ++ gs) = true) :
  Calls Try.prog 3 args W fun e W' => ∃ v, e = .returned v ∧ Rows.linesKeptSpec.post enc Try.prog Try.f3 false true false false W args v W' := by
 have hval : ∀ (j : Nat) t v, Try.f3.params[j]? = some t → args[j]? = some v → Value.okWide Try.prog W .any base t v := hval0
 have hW' := hW
 obtain ⟨p, q, hA0, hV, rfl, hfz, hnd⟩ := hW
 have hA : DataW.TrodAll enc Try.prog W 0 (fun _ => true) true Try.f3.params.toList args.toList ds p := hA0
 rw [Try.params3] at hA hval
 obtain ⟨v0, vs0, d0, ds0, p0, q0, hargs, rfl, rfl, h0, r0⟩ := trodAll_cons hA
 obtain ⟨v1, vs1, d1, ds1, p1, q1, rfl, rfl, rfl, h1, r1⟩ := trodAll_cons r0
 obtain ⟨rfl, rfl, rfl⟩ := trodAll_nil r1
 obtain rfl : args = #[v0, v1] := by cases args; simp_all
 obtain ⟨rfl, rfl⟩ := trodVars_none hV
 have hbulk := bulks.bound hk
 simp only [List.append_nil, Rows.uptoBulkAll] at hbulk
 obtain ⟨x0, rfl, X0, w0⟩ := Sw.open_str (s := (.pair (.int .i64) (.pair (.list (.int .u8)) (.unit)))) bulks.ok (by kernel_rfl) (hval 0 24 v0 rfl rfl) h0
 obtain ⟨x1, rfl, X1, w1⟩ := Sw.open_list (e := (.str (.pair (.int .i64) (.pair (.int .i64) (.pair (.int .i64) (.pair (.int .i64) (.pair (.list (.int .i64)) (.unit)))))))) bulks.ok (by kernel_rfl) (hval 1 25 v1 rfl rfl) h1
 clear hA0 hval0 hval hA
 refine (Sw.calls_of l_law6_LinesKept (tys := [.one .bool]) ((x0.1, x0.2.1.1, ()), x1.1, ()) W (Sw.Piece.c_LinesKept meth0 cl cll X0 X1 (Nat.le_trans w1 (by omega)))).mono fun e W' ⟨⟨y, u⟩, he, hy, hb, hfr⟩ => ?_
 have hy : y = true := hy
 subst hy
 exact ⟨.bool true, he, Sw.law_post (tb := 4) (by kernel_rfl) (of_decide_eq_true (by kernel_rfl)) rfl Try.underlying4 (by kernel_rfl) hW' rfl (by simp [Rows.linesKeptSpec]) rfl hb hfr⟩
theorem lifted (os : Os) (started : os.Started) (H : Type) (enc : TypeId × Value → H) (F : Stop.Interp) :
  ReturnsInHanded {} Try.checked os 3 .any ((Rows.OpenSpec.upto Rows.linesKeptSpec).pre6 enc Try.prog Try.f3 Rows.linesKeptUptoRow.domain false) (((Rows.OpenSpec.upto Rows.linesKeptSpec).at F).post enc Try.prog Try.f3 false true false false) := by
 refine returnsInHanded_of_cond (C := Try.checked) (s := Rows.OpenSpec.upto Rows.linesKeptSpec) (k := Rows.uptoSmall) rfl own started (by kernel_rfl) Try.func3
  (OpenSpec.witness (enc := enc) (C := Try.checked) (s := Rows.OpenSpec.upto Rows.linesKeptSpec) (k := Rows.uptoSmall) rfl false ⟨#[], #[.agg #[.int .i64 0, .slice none 0 0], .slice none 0 0], []⟩ 8 (by kernel_rfl) (by kernel_rfl) (by kernel_rfl)
   (x := ([.agg [.lit (.int .i64 0), .nil], .nil], [], [])) (by kernel_rfl) rfl (by kernel_rfl)) ?_
 intro W base args ds gs before hval hW _ hk _
 exact contract H enc W base args ds gs before hval hW hk
theorem over : Rows.linesKeptUptoRow.holds Try.pinned (Rows.OpenSpec.upto Rows.linesKeptSpec) :=
 OpenClaim.holds_of_cond 3 Try.f3 rfl rfl rfl rfl rfl rfl rfl ⟨rfl, rfl, rfl, rfl, rfl⟩ rfl rfl rfl rfl rfl (by kernel_rfl) Try.func3 (by kernel_rfl)
  (of_decide_eq_true (by kernel_rfl)) (by unfold Func.isWrapper; first | (rw [if_pos (by decide +kernel)]; kernel_rfl) | (rw [if_neg (by decide +kernel)]; exact ⟨rfl, rfl⟩))
  (fun os started H enc _ F => lifted os started H enc F)
end Go.Proofs.Ytaebgdhdldfigaa.linesKept
namespace Go.Proofs.Ytaebgdhdldfigaa
theorem linesKeptUptoHolds : Rows.LinesKeptUptoSaid := linesKept.over
end Go.Proofs.Ytaebgdhdldfigaa
