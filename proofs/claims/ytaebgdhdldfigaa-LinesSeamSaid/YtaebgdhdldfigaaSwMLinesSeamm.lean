/-
  PROVED HERE: the law LinesSeam of package copyistlaw6 returns true for all arguments; what it is given reads as before.
  CONDITIONS: none beyond the row's own (the row Rows.linesSeamRow, unchanged).
-/
import Derived.Test.YtaebgdhdldfigaaRows
import Derived.Test.YtaebgdhdldfigaaSwXlinesm
import Derived.Test.YtaebgdhdldfigaaSwBlinesm
import Derived.Test.YtaebgdhdldfigaaSwZ3
namespace Go.Proofs.Ytaebgdhdldfigaa.linesSeam
open Go.ChangeShapes Go.WideShapes Go.ChangeAt Go.RowKit
set_option linter.unusedVariables false
set_option linter.unusedSimpArgs false
set_option maxRecDepth 100000
theorem own : ownKnob Try.prog.godebug = none := by kernel_rfl
theorem contract (H : Type) (enc : TypeId × Value → H) (W : World) (base : Nat) (args : Array Value) (ds gs : List (DataW H)) (before : List MemPlace)
  (hval0 : ∀ (j : Nat) t v, Try.f7.params[j]? = some t → args[j]? = some v → Value.okWide Try.prog W .any base t v)
  (hW : DataW.Whole enc Try.prog Try.f7.params.toList Rows.linesSeamSpec.vars false W args.toList ds gs before) :
  Calls Try.prog 7 args W fun e W' => ∃ v, e = .returned v ∧ Rows.linesSeamSpec.post enc Try.prog Try.f7 false true false false W args v W' := by
 have hval : ∀ (j : Nat) t v, Try.f7.params[j]? = some t → args[j]? = some v → Value.okWide Try.prog W .any base t v := hval0
 have hW' := hW
 obtain ⟨p, q, hA0, hV, rfl, hfz, hnd⟩ := hW
 have hA : DataW.TrodAll enc Try.prog W 0 (fun _ => true) true Try.f7.params.toList args.toList ds p := hA0
 rw [Try.params7] at hA hval
 obtain ⟨v0, vs0, d0, ds0, p0, q0, hargs, rfl, rfl, h0, r0⟩ := trodAll_cons hA
 obtain ⟨v1, vs1, d1, ds1, p1, q1, rfl, rfl, rfl, h1, r1⟩ := trodAll_cons r0
 obtain ⟨rfl, rfl, rfl⟩ := trodAll_nil r1
 obtain rfl : args = #[v0, v1] := by cases args; simp_all
 obtain ⟨rfl, rfl⟩ := trodVars_none hV
 obtain ⟨x0, rfl, X0, w0⟩ := Sw.open_str (s := (.pair (.int .i64) (.pair (.list (.int .u8)) (.unit)))) bulks.ok (by kernel_rfl) (hval 0 24 v0 rfl rfl) h0
 obtain ⟨a1, rfl, rfl, rfl, w1⟩ := open_int Try.underlying3 (hval 1 3 v1 rfl rfl) h1
 clear hA0 hval0 hval hA
 refine (Sw.calls_of l_law6_LinesSeam (tys := [.one .bool]) ((x0.1, x0.2.1.1, ()), a1, ()) W (Sw.Piece.c_LinesSeam meth0 cl cll X0 (Sw.wf_fits w1))).mono fun e W' ⟨⟨y, u⟩, he, hy, hb, hfr⟩ => ?_
 have hy : y = true := hy
 subst hy
 exact ⟨.bool true, he, Sw.law_post (tb := 4) (by kernel_rfl) (of_decide_eq_true (by kernel_rfl)) rfl Try.underlying4 (by kernel_rfl) hW' rfl (by simp [Rows.linesSeamSpec]) rfl hb hfr⟩
theorem lifted (os : Os) (started : os.Started) (H : Type) (enc : TypeId × Value → H) :
  ReturnsInHanded {} Try.checked os 7 .any (Rows.linesSeamSpec.pre6 enc Try.prog Try.f7 Rows.linesSeamRow.domain false) (Rows.linesSeamSpec.post enc Try.prog Try.f7 false true false false) := by
 refine returnsInHanded_of_change (C := Try.checked) own started (by kernel_rfl) Try.func7
  (ChangeSpec.witness6 (enc := enc) (C := Try.checked) false ⟨#[], #[.agg #[.int .i64 0, .slice none 0 0], .int .i64 0], []⟩ 8 (by kernel_rfl) (by kernel_rfl) (by kernel_rfl) (by kernel_rfl)) ?_
 intro W base args ds gs before hval hW _ _
 exact contract H enc W base args ds gs before hval hW
theorem over : Rows.linesSeamRow.holds Try.pinned (OpenSpec.ofChange Rows.linesSeamSpec) :=
 OpenClaim.holds_of_wide 7 Try.f7 rfl rfl rfl rfl rfl rfl rfl ⟨rfl, rfl, rfl, rfl, rfl⟩ rfl rfl rfl rfl rfl (by kernel_rfl) Try.func7 (by kernel_rfl)
  (of_decide_eq_true (by kernel_rfl)) (by unfold Func.isWrapper; first | (rw [if_pos (by decide +kernel)]; kernel_rfl) | (rw [if_neg (by decide +kernel)]; exact ⟨rfl, rfl⟩))
  (fun os started H enc _ => lifted os started H enc)
end Go.Proofs.Ytaebgdhdldfigaa.linesSeam
namespace Go.Proofs.Ytaebgdhdldfigaa
theorem linesSeamHolds : Rows.LinesSeamSaid := linesSeam.over
end Go.Proofs.Ytaebgdhdldfigaa
