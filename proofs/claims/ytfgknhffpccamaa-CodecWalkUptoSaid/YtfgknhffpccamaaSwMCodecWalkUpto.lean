/-
  PROVED HERE: the law CodecWalk of package copyistlaw1 returns true for all arguments of the row's bulk; what it is given reads as before.
  CONDITIONS: none beyond the row's own (the row Rows.codecWalkUptoRow, unchanged).
-/
import Derived.Test.YtfgknhffpccamaaRows
import Derived.Test.YtfgknhffpccamaaSwXcodec
import Derived.Test.YtfgknhffpccamaaSwBcodec
import Derived.Test.YtfgknhffpccamaaSwC16
import Derived.Test.YtfgknhffpccamaaSwZ3
namespace Go.Proofs.Ytfgknhffpccamaa.codecWalk
open Go.ChangeShapes Go.WideShapes Go.ChangeAt Go.RowKit
set_option linter.unusedVariables false
set_option linter.unusedSimpArgs false
set_option maxRecDepth 100000

theorem own : ownKnob Try.prog.godebug = none := by kernel_rfl


theorem contract (H : Type) (enc : TypeId × Value → H) (W : World) (base : Nat) (args : Array Value) (ds gs : List (DataW H)) (before : List MemPlace)
    (hval0 : ∀ (j : Nat) t v, Try.f10.params[j]? = some t → args[j]? = some v → Value.okWide Try.prog W .any base t v)
    (hW : DataW.Whole enc Try.prog Try.f10.params.toList Rows.codecWalkSpec.vars false W args.toList ds gs before) (hk : Rows.uptoSmall H (ds ++ gs) = true) :
    Calls Try.prog 10 args W fun e W' => ∃ v, e = .returned v ∧ Rows.codecWalkSpec.post enc Try.prog Try.f10 false true false false W args v W' := by
  have hval : ∀ (j : Nat) t v, Try.f10.params[j]? = some t → args[j]? = some v → Value.okWide Try.prog W .any base t v := hval0
  have hW' := hW
  obtain ⟨p, q, hA0, hV, rfl, hfz, hnd⟩ := hW
  have hA : DataW.TrodAll enc Try.prog W 0 (fun _ => true) true Try.f10.params.toList args.toList ds p := hA0
  rw [Try.params10] at hA hval
  obtain ⟨v0, vs0, d0, ds0, p0, q0, hargs, rfl, rfl, h0, r0⟩ := trodAll_cons hA
  obtain ⟨v1, vs1, d1, ds1, p1, q1, rfl, rfl, rfl, h1, r1⟩ := trodAll_cons r0
  obtain ⟨rfl, rfl, rfl⟩ := trodAll_nil r1
  obtain rfl : args = #[v0, v1] := by cases args; simp_all
  obtain ⟨rfl, rfl⟩ := trodVars_none hV
  have hbulk := bulks.bound hk
  simp only [List.append_nil, Rows.uptoBulkAll] at hbulk
  obtain ⟨a0, rfl, rfl, rfl, w0⟩ := open_int Try.underlying3 (hval 0 3 v0 rfl rfl) h0
  obtain ⟨s1, l1, rfl, L1, n1⟩ := Sw.open_ints Try.underlying22 Try.underlying5 (by kernel_rfl) (hval 1 22 v1 rfl rfl) h1
  have m1 := Nat.le_trans n1 (bulks.dcells_le d1)
  clear hA0 hval0 hval hA
  refine (Sw.calls_of l_law1_CodecWalk (tys := [.one .bool]) (a0, s1, ()) W (Sw.Codec.c_CodecWalk meth L1 (by omega))).mono fun e W' ⟨⟨y, u⟩, he, hy, hb, hfr⟩ => ?_
  have hy : y = true := hy
  subst hy
  exact ⟨.bool true, he, Sw.law_post (tb := 4) (by kernel_rfl) (of_decide_eq_true (by kernel_rfl)) rfl Try.underlying4 (by kernel_rfl) hW' rfl (by simp [Rows.codecWalkSpec]) rfl hb hfr⟩

theorem lifted (os : Os) (started : os.Started) (H : Type) (enc : TypeId × Value → H) (F : Stop.Interp) :
    ReturnsInHanded {} Try.checked os 10 .any ((Rows.OpenSpec.upto Rows.codecWalkSpec).pre6 enc Try.prog Try.f10 Rows.codecWalkUptoRow.domain false) (((Rows.OpenSpec.upto Rows.codecWalkSpec).at F).post enc Try.prog Try.f10 false true false false) := by
  refine returnsInHanded_of_cond (C := Try.checked) (s := Rows.OpenSpec.upto Rows.codecWalkSpec) (k := Rows.uptoSmall) rfl own started (by kernel_rfl) Try.func10
    (OpenSpec.witness (enc := enc) (C := Try.checked) (s := Rows.OpenSpec.upto Rows.codecWalkSpec) (k := Rows.uptoSmall) rfl false ⟨#[], #[.int .i64 0, .slice none 0 0], []⟩ 8 (by kernel_rfl) (by kernel_rfl) (by kernel_rfl)
      (x := ([.lit (.int .i64 0), .nil], [], [])) (by kernel_rfl) rfl (by kernel_rfl)) ?_
  intro W base args ds gs before hval hW _ hk _
  exact contract H enc W base args ds gs before hval hW hk

theorem over : Rows.codecWalkUptoRow.holds Try.pinned (Rows.OpenSpec.upto Rows.codecWalkSpec) :=
  OpenClaim.holds_of_cond 10 Try.f10 rfl rfl rfl rfl rfl rfl rfl ⟨rfl, rfl, rfl, rfl, rfl⟩ rfl rfl rfl rfl rfl (by kernel_rfl) Try.func10 (by kernel_rfl)
    (of_decide_eq_true (by kernel_rfl)) (by unfold Func.isWrapper; first | (rw [if_pos (by decide +kernel)]; kernel_rfl) | (rw [if_neg (by decide +kernel)]; exact ⟨rfl, rfl⟩))
    (fun os started H enc _ F => lifted os started H enc F)

end Go.Proofs.Ytfgknhffpccamaa.codecWalk

namespace Go.Proofs.Ytfgknhffpccamaa
theorem codecWalkUptoHolds : Rows.CodecWalkUptoSaid := codecWalk.over
end Go.Proofs.Ytfgknhffpccamaa
