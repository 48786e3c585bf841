/-
  PROVED HERE: the law CodecSizes of package copyistlaw1 returns true for every encoding and every atom.
  CONDITIONS: none beyond the row's own (the row Rows.codecSizesRow, unchanged).
-/
import Derived.Test.YtfgknhffpccamaaRows
import Derived.Test.YtfgknhffpccamaaL2
import Derived.Test.YtfgknhffpccamaaSwC2
import Derived.Test.YtfgknhffpccamaaSwZ1
import Derived.Test.YtfgknhffpccamaaSwZ2
import Derived.WalkKit
import Derived.ProofKit
import Derived.OpenShut
namespace Go.Proofs.Ytfgknhffpccamaa.codecSizes
open Go.ChangeShapes Go.WideShapes Go.ChangeAt Go.RowKit
set_option linter.unusedVariables false      -- a walk need not use every 'w<i>' (that an integer argument fits its kind)

theorem own : ownKnob Try.prog.godebug = none := by kernel_rfl

theorem sizes : Sw.Codec.Sizes Try.prog ids where
  eight a := Sw.inv_of (f := 110) (recv := .agg #[]) (fun w => by kernel_rfl) l_eight_size ((), a, ()) rfl
  sixteen r a := Sw.inv_of (f := 115) (recv := .agg #[.int .i64 r]) (fun w => by kernel_rfl) l_sixteen_size ((r, ()), a, ()) rfl
  latin a := Sw.inv_of (f := 124) (recv := .agg #[]) (fun w => by kernel_rfl) l_latin_size ((), a, ()) rfl

theorem walk (a0 : Int) (a1 : Int) (w : World) :
    Calls Try.prog 4 #[.int .i64 a0, .int .i64 a1] w fun e w' => e = .returned (.bool true) ∧ RowKit.Below w.heap.size w w' ∧ ∀ a, w'.frozen? a = w.frozen? a :=
  (Sw.calls_of l_law1_CodecSizes (tys := [.one .bool]) (a0, a1, ()) w (Sw.Codec.c_CodecSizes sizes a0 a1)).mono fun r w' ⟨⟨y, _⟩, e, hy, b, f⟩ => ⟨by
    have hy' : y = true := hy
    subst hy'; exact e, b, f⟩

set_option maxRecDepth 100000 in
theorem lifted (os : Os) (started : os.Started) (H : Type) (enc : TypeId × Value → H) :
    ReturnsInHanded {} Try.checked os 4 .any (Rows.codecSizesSpec.pre6 enc Try.prog Try.f4 Rows.codecSizesRow.domain false) (Rows.codecSizesSpec.post enc Try.prog Try.f4 false true false false) := by
  refine returnsInHanded_of_change (C := Try.checked) own started (by kernel_rfl) Try.func4
    (ChangeSpec.witness6 (enc := enc) (C := Try.checked) false ⟨#[], #[.int .i64 0, .int .i64 0], []⟩ 8 (by kernel_rfl) (by kernel_rfl) (by kernel_rfl) (by kernel_rfl)) ?_
  intro W base args ds gs before hval0 hW hcnd _
  have hval : ∀ (j : Nat) t v, Try.f4.params[j]? = some t → args[j]? = some v → Value.okWide Try.prog W .any base t v := hval0
  have hW' := hW
  obtain ⟨p, q, hA0, hV, rfl, hfz, hnd⟩ := hW
  have hA : DataW.TrodAll enc Try.prog W 0 (fun _ => true) true Try.f4.params.toList args.toList ds p := hA0
  rw [Try.params4] at hA hval
  obtain ⟨v0, vs0, d0, ds0, p0, q0, hargs, rfl, rfl, h0, r0⟩ := trodAll_cons hA
  obtain ⟨v1, vs1, d1, ds1, p1, q1, rfl, rfl, rfl, h1, r1⟩ := trodAll_cons r0
  obtain ⟨rfl, rfl, rfl⟩ := trodAll_nil r1
  obtain rfl : args = #[v0, v1] := by cases args; simp_all
  obtain ⟨rfl, rfl⟩ := trodVars_none hV
  obtain ⟨a0, rfl, rfl, rfl, w0⟩ := open_int Try.underlying3 (hval 0 3 v0 rfl rfl) h0
  obtain ⟨a1, rfl, rfl, rfl, w1⟩ := open_int Try.underlying3 (hval 1 3 v1 rfl rfl) h1
  clear hA0 hval0
  simp only [List.append_nil] at hW'
  refine (walk a0 a1 W).mono fun e W' ⟨he, hg, hfr⟩ => ?_
  subst he
  exact ⟨_, rfl, post_of_same (pa := []) (pv := []) hW' (fun _ _ _ => (trodAll_cons_mk (shut_bool Try.underlying4 _) trodAll_mk0)) (fun sp _ => (trodAll_cons_mk (shut_int Try.underlying3 w0) (trodAll_cons_mk (shut_int Try.underlying3 w1) trodAll_mk0))) (fun _ _ => rfl) rfl
    (hg.frame _) hfr (ok_one (by kernel_rfl) rfl (okWide_bool_mk Try.underlying4 _))⟩

theorem over : Rows.codecSizesRow.holds Try.pinned (OpenSpec.ofChange Rows.codecSizesSpec) :=
  OpenClaim.holds_of_wide 4 Try.f4 rfl rfl rfl rfl rfl rfl rfl ⟨rfl, rfl, rfl, rfl, rfl⟩ rfl rfl rfl rfl rfl (by kernel_rfl) Try.func4 (by kernel_rfl)
    (of_decide_eq_true (by kernel_rfl)) (by unfold Func.isWrapper; first | (rw [if_pos (by decide +kernel)]; kernel_rfl) | (rw [if_neg (by decide +kernel)]; exact ⟨rfl, rfl⟩))
    (fun os started H enc _ => lifted os started H enc)

theorem proved : Rows.CodecSizesSaid :=
  over
end Go.Proofs.Ytfgknhffpccamaa.codecSizes

namespace Go.Proofs.Ytfgknhffpccamaa
theorem codecSizesHolds : Rows.CodecSizesSaid := codecSizes.proved
end Go.Proofs.Ytfgknhffpccamaa
