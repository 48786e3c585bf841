/-
  PROVED HERE: the law HistoryFollows of package copyistlaw7 returns true for all arguments of the row's bulk; what it is given reads as before.
  CONDITIONS: none beyond the row's own (the row Rows.historyFollowsUptoRow, unchanged).
-/
import Derived.Test.YtncolficnfcdcaaRows
import Derived.Test.YtncolficnfcdcaaSwXhistorym
import Derived.Test.YtncolficnfcdcaaSwBhistorym
import Derived.Test.YtncolficnfcdcaaSwZ3
namespace Go.Proofs.Ytncolficnfcdcaa.historyFollows
open Go.ChangeShapes Go.WideShapes Go.ChangeAt Go.RowKit
set_option linter.unusedVariables false
set_option linter.unusedSimpArgs false
set_option maxRecDepth 100000
theorem own : ownKnob Try.prog.godebug = none := by kernel_rfl
theorem contract (H : Type) (enc : TypeId × Value → H) (W : World) (base : Nat) (args : Array Value) (ds gs : List (DataW H)) (before : List MemPlace)
  (hval0 : ∀ (j : Nat) t v, Try.f4.params[j]? = some t → args[j]? = some v → Value.okWide Try.prog W .any base t v)
  (hW : DataW.Whole enc Try.prog Try.f4.params.toList Rows.historyFollowsSpec.vars false W args.toList ds gs before) (hk : Rows.uptoSmall H (ds ++ gs) = true) :
  Calls Try.prog 4 args W fun e W' => ∃ v, e = .returned v ∧ Rows.historyFollowsSpec.post enc Try.prog Try.f4 false true false false W args v W' := by
 have hval : ∀ (j : Nat) t v, Try.f4.params[j]? = some t → args[j]? = some v → Value.okWide Try.prog W .any base t v := hval0
 have hW' := hW
 obtain ⟨p, q, hA0, hV, rfl, hfz, hnd⟩ := hW
 have hA : DataW.TrodAll enc Try.prog W 0 (fun _ => true) true Try.f4.params.toList args.toList ds p := hA0
 rw [Try.params4] at hA hval
 obtain ⟨v0, vs0, d0, ds0, p0, q0, hargs, rfl, rfl, h0, r0⟩ := trodAll_cons hA
 obtain ⟨v1, vs1, d1, ds1, p1, q1, rfl, rfl, rfl, h1, r1⟩ := trodAll_cons r0
 obtain ⟨v2, vs2, d2, ds2, p2, q2, rfl, rfl, rfl, h2, r2⟩ := trodAll_cons r1
 obtain ⟨rfl, rfl, rfl⟩ := trodAll_nil r2
 obtain rfl : args = #[v0, v1, v2] := by cases args; simp_all
 obtain ⟨rfl, rfl⟩ := trodVars_none hV
 have hbulk := bulks.bound hk
 simp only [List.append_nil, Rows.uptoBulkAll] at hbulk
 obtain ⟨s0, l0, rfl, L0, n0⟩ := Sw.open_ints Try.underlying22 Try.underlying5 (by kernel_rfl) (hval 0 22 v0 rfl rfl) h0
 have m0 := Nat.le_trans n0 (bulks.dcells_le d0)
 obtain ⟨a1, rfl, rfl, rfl, w1⟩ := open_int Try.underlying3 (hval 1 3 v1 rfl rfl) h1
 obtain ⟨x2, rfl, X2, w2⟩ := Sw.open_list (e := (.list (.str (.pair (.int .i64) (.pair (.int .i64) (.pair (.list (.int .i64)) (.unit))))))) bulks.ok (by kernel_rfl) (hval 2 23 v2 rfl rfl) h2
 clear hA0 hval0 hval hA
 refine (Sw.calls_of l_law7_HistoryFollows (tys := [.one .bool]) (s0, a1, x2.1, ()) W (Sw.Hist.c_HistoryFollows meth0 clh clt L0 (Nat.le_trans m0 (by omega)) X2 (Nat.le_trans w2 (by omega)))).mono fun e W' ⟨⟨y, u⟩, he, hy, hb, hfr⟩ => ?_
 have hy : y = true := hy
 subst hy
 exact ⟨.bool true, he, Sw.law_post (tb := 4) (by kernel_rfl) (of_decide_eq_true (by kernel_rfl)) rfl Try.underlying4 (by kernel_rfl) hW' rfl (by simp [Rows.historyFollowsSpec]) rfl hb hfr⟩
theorem lifted (os : Os) (started : os.Started) (H : Type) (enc : TypeId × Value → H) (F : Stop.Interp) :
  ReturnsInHanded {} Try.checked os 4 .any ((Rows.OpenSpec.upto Rows.historyFollowsSpec).pre6 enc Try.prog Try.f4 Rows.historyFollowsUptoRow.domain false) (((Rows.OpenSpec.upto Rows.historyFollowsSpec).at F).post enc Try.prog Try.f4 false true false false) := by
 refine returnsInHanded_of_cond (C := Try.checked) (s := Rows.OpenSpec.upto Rows.historyFollowsSpec) (k := Rows.uptoSmall) rfl own started (by kernel_rfl) Try.func4
  (OpenSpec.witness (enc := enc) (C := Try.checked) (s := Rows.OpenSpec.upto Rows.historyFollowsSpec) (k := Rows.uptoSmall) rfl false ⟨#[], #[.slice none 0 0, .int .i64 0, .slice none 0 0], []⟩ 8 (by kernel_rfl) (by kernel_rfl) (by kernel_rfl)
   (x := ([.nil, .lit (.int .i64 0), .nil], [], [])) (by kernel_rfl) rfl (by kernel_rfl)) ?_
 intro W base args ds gs before hval hW _ hk _
 exact contract H enc W base args ds gs before hval hW hk
theorem over : Rows.historyFollowsUptoRow.holds Try.pinned (Rows.OpenSpec.upto Rows.historyFollowsSpec) :=
 OpenClaim.holds_of_cond 4 Try.f4 rfl rfl rfl rfl rfl rfl rfl ⟨rfl, rfl, rfl, rfl, rfl⟩ rfl rfl rfl rfl rfl (by kernel_rfl) Try.func4 (by kernel_rfl)
  (of_decide_eq_true (by kernel_rfl)) (by unfold Func.isWrapper; first | (rw [if_pos (by decide +kernel)]; kernel_rfl) | (rw [if_neg (by decide +kernel)]; exact ⟨rfl, rfl⟩))
  (fun os started H enc _ F => lifted os started H enc F)
end Go.Proofs.Ytncolficnfcdcaa.historyFollows
namespace Go.Proofs.Ytncolficnfcdcaa
theorem historyFollowsUptoHolds : Rows.HistoryFollowsUptoSaid := historyFollows.over
end Go.Proofs.Ytncolficnfcdcaa
