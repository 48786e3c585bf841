/-
  PROVED HERE: the law CodecGuess of package copyistlaw1 returns true for all arguments of the row's bulk; what it is given reads as before.
  CONDITIONS: none beyond the row's own (the row Rows.codecGuessUptoRow, unchanged).
-/
import Derived.Test.YtfgknhffpccamaaRows
import Derived.Test.YtfgknhffpccamaaSwLcodec0
import Derived.Test.YtfgknhffpccamaaSwLcodec1
import Derived.Test.YtfgknhffpccamaaSwBcodec
import Derived.Test.YtfgknhffpccamaaSwC21
import Derived.Test.YtfgknhffpccamaaSwZ3
namespace Go.Proofs.Ytfgknhffpccamaa.codecGuess
open Go.ChangeShapes Go.WideShapes Go.ChangeAt Go.RowKit
set_option linter.unusedVariables false
set_option linter.unusedSimpArgs false
set_option maxRecDepth 100000

theorem own : ownKnob Try.prog.godebug = none := by kernel_rfl


theorem contract (H : Type) (enc : TypeId × Value → H) (W : World) (base : Nat) (args : Array Value) (ds gs : List (DataW H)) (before : List MemPlace)
    (hval0 : ∀ (j : Nat) t v, Try.f7.params[j]? = some t → args[j]? = some v → Value.okWide Try.prog W .any base t v)
    (hW : DataW.Whole enc Try.prog Try.f7.params.toList Rows.codecGuessSpec.vars false W args.toList ds gs before) (hk : Rows.uptoSmall H (ds ++ gs) = true) :
    Calls Try.prog 7 args W fun e W' => ∃ v, e = .returned v ∧ Rows.codecGuessSpec.post enc Try.prog Try.f7 false true false false W args v W' := by
  have hval : ∀ (j : Nat) t v, Try.f7.params[j]? = some t → args[j]? = some v → Value.okWide Try.prog W .any base t v := hval0
  have hW' := hW
  obtain ⟨p, q, hA0, hV, rfl, hfz, hnd⟩ := hW
  have hA : DataW.TrodAll enc Try.prog W 0 (fun _ => true) true Try.f7.params.toList args.toList ds p := hA0
  rw [Try.params7] at hA hval
  obtain ⟨v0, vs0, d0, ds0, p0, q0, hargs, rfl, rfl, h0, r0⟩ := trodAll_cons hA
  obtain ⟨rfl, rfl, rfl⟩ := trodAll_nil r0
  obtain rfl : args = #[v0] := by cases args; simp_all
  obtain ⟨rfl, rfl⟩ := trodVars_none hV
  have hbulk := bulks.bound hk
  simp only [List.append_nil, Rows.uptoBulkAll] at hbulk
  obtain ⟨s0, l0, rfl, L0, n0⟩ := Sw.open_ints Try.underlying22 Try.underlying5 (by kernel_rfl) (hval 0 22 v0 rfl rfl) h0
  have m0 := Nat.le_trans n0 (bulks.dcells_le d0)
  clear hA0 hval0 hval hA
  refine (Sw.calls_of l_law1_CodecGuess (tys := [.one .bool]) (s0, ()) W (Sw.Codec.c_CodecGuess L0 (by omega))).mono fun e W' ⟨⟨y, u⟩, he, hy, hb, hfr⟩ => ?_
  have hy : y = true := hy
  subst hy
  exact ⟨.bool true, he, Sw.law_post (tb := 4) (by kernel_rfl) (of_decide_eq_true (by kernel_rfl)) rfl Try.underlying4 (by kernel_rfl) hW' rfl (by simp [Rows.codecGuessSpec]) rfl hb hfr⟩

theorem lifted (os : Os) (started : os.Started) (H : Type) (enc : TypeId × Value → H) (F : Stop.Interp) :
    ReturnsInHanded {} Try.checked os 7 .any ((Rows.OpenSpec.upto Rows.codecGuessSpec).pre6 enc Try.prog Try.f7 Rows.codecGuessUptoRow.domain false) (((Rows.OpenSpec.upto Rows.codecGuessSpec).at F).post enc Try.prog Try.f7 false true false false) := by
  refine returnsInHanded_of_cond (C := Try.checked) (s := Rows.OpenSpec.upto Rows.codecGuessSpec) (k := Rows.uptoSmall) rfl own started (by kernel_rfl) Try.func7
    (OpenSpec.witness (enc := enc) (C := Try.checked) (s := Rows.OpenSpec.upto Rows.codecGuessSpec) (k := Rows.uptoSmall) rfl false ⟨#[], #[.slice none 0 0], []⟩ 8 (by kernel_rfl) (by kernel_rfl) (by kernel_rfl)
      (x := ([.nil], [], [])) (by kernel_rfl) rfl (by kernel_rfl)) ?_
  intro W base args ds gs before hval hW _ hk _
  exact contract H enc W base args ds gs before hval hW hk

theorem over : Rows.codecGuessUptoRow.holds Try.pinned (Rows.OpenSpec.upto Rows.codecGuessSpec) :=
  OpenClaim.holds_of_cond 7 Try.f7 rfl rfl rfl rfl rfl rfl rfl ⟨rfl, rfl, rfl, rfl, rfl⟩ rfl rfl rfl rfl rfl (by kernel_rfl) Try.func7 (by kernel_rfl)
    (of_decide_eq_true (by kernel_rfl)) (by unfold Func.isWrapper; first | (rw [if_pos (by decide +kernel)]; kernel_rfl) | (rw [if_neg (by decide +kernel)]; exact ⟨rfl, rfl⟩))
    (fun os started H enc _ F => lifted os started H enc F)

end Go.Proofs.Ytfgknhffpccamaa.codecGuess

namespace Go.Proofs.Ytfgknhffpccamaa
theorem codecGuessUptoHolds : Rows.CodecGuessUptoSaid := codecGuess.over
end Go.Proofs.Ytfgknhffpccamaa
