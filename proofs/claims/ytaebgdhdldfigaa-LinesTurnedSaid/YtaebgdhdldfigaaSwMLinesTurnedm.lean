/-
  PROVED HERE: the law LinesTurned of package copyistlaw6 returns true for all arguments; what it is given reads as before.
  CONDITIONS: none beyond the row's own (the row Rows.linesTurnedRow, unchanged).
-/
import Derived.Test.YtaebgdhdldfigaaRows
import Derived.Test.YtaebgdhdldfigaaSwXlinesm
import Derived.Test.YtaebgdhdldfigaaSwBlinesm
import Derived.Test.YtaebgdhdldfigaaSwZ3
namespace Go.Proofs.Ytaebgdhdldfigaa.linesTurned
open Go.ChangeShapes Go.WideShapes Go.ChangeAt Go.RowKit
set_option linter.unusedVariables false
set_option linter.unusedSimpArgs false
set_option maxRecDepth 100000
theorem own : ownKnob Try.prog.godebug = none := by kernel_rfl
theorem contract (H : Type) (enc : TypeId × Value → H) (W : World) (base : Nat) (args : Array Value) (ds gs : List (DataW H)) (before : List MemPlace)
  (hval0 : ∀ (j : Nat) t v, Try.f4.params[j]? = some t → args[j]? = some v → Value.okWide Try.prog W .any base t v)
  (hW : DataW.Whole enc Try.prog Try.f4.params.toList Rows.linesTurnedSpec.vars false W args.toList ds gs before) :
  Calls Try.prog 4 args W fun e W' => ∃ v, e = .returned v ∧ Rows.linesTurnedSpec.post enc Try.prog Try.f4 false true false false W args v W' := by
 have hval : ∀ (j : Nat) t v, Try.f4.params[j]? = some t → args[j]? = some v → Value.okWide Try.prog W .any base t v := hval0
 have hW' := hW
 obtain ⟨p, q, hA0, hV, rfl, hfz, hnd⟩ := hW
 have hA : DataW.TrodAll enc Try.prog W 0 (fun _ => true) true Try.f4.params.toList args.toList ds p := hA0
 rw [Try.params4] at hA hval
 obtain ⟨v0, vs0, d0, ds0, p0, q0, hargs, rfl, rfl, h0, r0⟩ := trodAll_cons hA
 obtain ⟨v1, vs1, d1, ds1, p1, q1, rfl, rfl, rfl, h1, r1⟩ := trodAll_cons r0
 obtain ⟨v2, vs2, d2, ds2, p2, q2, rfl, rfl, rfl, h2, r2⟩ := trodAll_cons r1
 obtain ⟨rfl, rfl, rfl⟩ := trodAll_nil r2
 obtain rfl : args = #[v0, v1, v2] := by cases args; simp_all
 obtain ⟨rfl, rfl⟩ := trodVars_none hV
 obtain ⟨x0, rfl, X0, w0⟩ := Sw.open_str (s := (.pair (.int .i64) (.pair (.list (.int .u8)) (.unit)))) bulks.ok (by kernel_rfl) (hval 0 24 v0 rfl rfl) h0
 obtain ⟨a1, rfl, rfl, rfl, w1⟩ := open_int Try.underlying3 (hval 1 3 v1 rfl rfl) h1
 obtain ⟨x2, rfl, X2, w2⟩ := Sw.open_list (e := (.str (.pair (.int .i64) (.pair (.int .i64) (.pair (.int .i64) (.pair (.int .i64) (.pair (.list (.int .i64)) (.unit)))))))) bulks.ok (by kernel_rfl) (hval 2 25 v2 rfl rfl) h2
 clear hA0 hval0 hval hA
 refine (Sw.calls_of l_law6_LinesTurned (tys := [.one .bool]) ((x0.1, x0.2.1.1, ()), a1, x2.1, ()) W (Sw.Piece.c_LinesTurned meth0 cl cll clt X0 (Sw.wf_fits w1) X2)).mono fun e W' ⟨⟨y, u⟩, he, hy, hb, hfr⟩ => ?_
 have hy : y = true := hy
 subst hy
 exact ⟨.bool true, he, Sw.law_post (tb := 4) (by kernel_rfl) (of_decide_eq_true (by kernel_rfl)) rfl Try.underlying4 (by kernel_rfl) hW' rfl (by simp [Rows.linesTurnedSpec]) rfl hb hfr⟩
theorem lifted (os : Os) (started : os.Started) (H : Type) (enc : TypeId × Value → H) :
  ReturnsInHanded {} Try.checked os 4 .any (Rows.linesTurnedSpec.pre6 enc Try.prog Try.f4 Rows.linesTurnedRow.domain false) (Rows.linesTurnedSpec.post enc Try.prog Try.f4 false true false false) := by
 refine returnsInHanded_of_change (C := Try.checked) own started (by kernel_rfl) Try.func4
  (ChangeSpec.witness6 (enc := enc) (C := Try.checked) false ⟨#[], #[.agg #[.int .i64 0, .slice none 0 0], .int .i64 0, .slice none 0 0], []⟩ 8 (by kernel_rfl) (by kernel_rfl) (by kernel_rfl) (by kernel_rfl)) ?_
 intro W base args ds gs before hval hW _ _
 exact contract H enc W base args ds gs before hval hW
theorem over : Rows.linesTurnedRow.holds Try.pinned (OpenSpec.ofChange Rows.linesTurnedSpec) :=
 OpenClaim.holds_of_wide 4 Try.f4 rfl rfl rfl rfl rfl rfl rfl ⟨rfl, rfl, rfl, rfl, rfl⟩ rfl rfl rfl rfl rfl (by kernel_rfl) Try.func4 (by kernel_rfl)
  (of_decide_eq_true (by kernel_rfl)) (by unfold Func.isWrapper; first | (rw [if_pos (by decide +kernel)]; kernel_rfl) | (rw [if_neg (by decide +kernel)]; exact ⟨rfl, rfl⟩))
  (fun os started H enc _ => lifted os started H enc)
end Go.Proofs.Ytaebgdhdldfigaa.linesTurned
namespace Go.Proofs.Ytaebgdhdldfigaa
theorem linesTurnedHolds : Rows.LinesTurnedSaid := linesTurned.over
end Go.Proofs.Ytaebgdhdldfigaa
