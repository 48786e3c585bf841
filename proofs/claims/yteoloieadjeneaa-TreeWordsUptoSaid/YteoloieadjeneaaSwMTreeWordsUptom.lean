/-
  PROVED HERE: the law TreeWords of package copyistlaw4 returns true for all arguments of the row's bulk; what it is given reads as before.
  CONDITIONS: none beyond the row's own (the row Rows.treeWordsUptoRow, unchanged).
-/
import Derived.Test.YteoloieadjeneaaRows
import Derived.Test.YteoloieadjeneaaSwLtree0
import Derived.Test.YteoloieadjeneaaSwLtree1
import Derived.Test.YteoloieadjeneaaSwBtree
import Derived.Test.YteoloieadjeneaaSwXwordsm
import Derived.Test.YteoloieadjeneaaSwW6
namespace Go.Proofs.Yteoloieadjeneaa.treeWords
open Go.ChangeShapes Go.WideShapes Go.ChangeAt Go.RowKit
set_option linter.unusedVariables false
set_option linter.unusedSimpArgs false
set_option maxRecDepth 100000

theorem own : ownKnob Try.prog.godebug = none := by kernel_rfl

theorem elems_le {H : Type} (d : DataW H) : Rows.uptoBulkAll (Sw.Tree.delems d) ≤ Rows.uptoBulk d := by
  cases d with
  | slice e s => simp only [Sw.Tree.delems, Rows.uptoBulk]; omega
  | _ => simp [Sw.Tree.delems, Rows.uptoBulkAll]

theorem contract (H : Type) (enc : TypeId × Value → H) (W : World) (base : Nat) (args : Array Value) (ds gs : List (DataW H)) (before : List MemPlace)
    (hval0 : ∀ (j : Nat) t v, Try.f7.params[j]? = some t → args[j]? = some v → Value.okWide Try.prog W .any base t v)
    (hW : DataW.Whole enc Try.prog Try.f7.params.toList Rows.treeWordsSpec.vars false W args.toList ds gs before) (hk : Rows.uptoSmall H (ds ++ gs) = true) :
    Calls Try.prog 7 args W fun e W' => ∃ v, e = .returned v ∧ Rows.treeWordsSpec.post enc Try.prog Try.f7 false true false false W args v W' := by
  have hval : ∀ (j : Nat) t v, Try.f7.params[j]? = some t → args[j]? = some v → Value.okWide Try.prog W .any base t v := hval0
  have hW' := hW
  obtain ⟨p, q, hA0, hV, rfl, hfz, hnd⟩ := hW
  have hA : DataW.TrodAll enc Try.prog W 0 (fun _ => true) true Try.f7.params.toList args.toList ds p := hA0
  rw [Try.params7] at hA hval
  obtain ⟨v0, vs0, d0, ds0, p0, q0, hargs, rfl, rfl, h0, r0⟩ := trodAll_cons hA
  obtain ⟨v1, vs1, d1, ds1, p1, q1, rfl, rfl, rfl, h1, r1⟩ := trodAll_cons r0
  obtain ⟨v2, vs2, d2, ds2, p2, q2, rfl, rfl, rfl, h2, r2⟩ := trodAll_cons r1
  obtain ⟨v3, vs3, d3, ds3, p3, q3, rfl, rfl, rfl, h3, r3⟩ := trodAll_cons r2
  obtain ⟨v4, vs4, d4, ds4, p4, q4, rfl, rfl, rfl, h4, r4⟩ := trodAll_cons r3
  obtain ⟨v5, vs5, d5, ds5, p5, q5, rfl, rfl, rfl, h5, r5⟩ := trodAll_cons r4
  obtain ⟨rfl, rfl, rfl⟩ := trodAll_nil r5
  obtain rfl : args = #[v0, v1, v2, v3, v4, v5] := by cases args; simp_all
  obtain ⟨rfl, rfl⟩ := trodVars_none hV
  have hbulk := bulks.bound hk
  simp only [List.append_nil, Rows.uptoBulkAll] at hbulk
  obtain ⟨s0, l0, rfl, L0, n0, x0⟩ := Sw.Words.open_words (S := ids) Try.underlying56 Try.underlying9 (by kernel_rfl) (hval 0 56 v0 rfl rfl) h0
  have m0 := Nat.le_trans n0 (bulks.dcells_le d0)
  have t0 : (Sw.Words.word ids).W l0 ≤ _ := Nat.le_trans (bulks.sum_le (fun (o : Sw.Words.W1) => o.1.size + 1) l0 (Sw.Tree.delems d0) fun i o hi => ⟨_, x0 i o hi, by simp only [Rows.uptoBulk]; exact Nat.le_refl _⟩) (elems_le d0)
  obtain ⟨a1, rfl, rfl, rfl, w1⟩ := open_int Try.underlying3 (hval 1 3 v1 rfl rfl) h1
  obtain ⟨a2, rfl, rfl, rfl, w2⟩ := open_int Try.underlying3 (hval 2 3 v2 rfl rfl) h2
  obtain ⟨s3, l3, rfl, L3, n3, x3⟩ := Sw.Words.open_words (S := ids) Try.underlying56 Try.underlying9 (by kernel_rfl) (hval 3 56 v3 rfl rfl) h3
  have m3 := Nat.le_trans n3 (bulks.dcells_le d3)
  have t3 : (Sw.Words.word ids).W l3 ≤ _ := Nat.le_trans (bulks.sum_le (fun (o : Sw.Words.W1) => o.1.size + 1) l3 (Sw.Tree.delems d3) fun i o hi => ⟨_, x3 i o hi, by simp only [Rows.uptoBulk]; exact Nat.le_refl _⟩) (elems_le d3)
  obtain ⟨a4, rfl, rfl, rfl, w4⟩ := open_int Try.underlying3 (hval 4 3 v4 rfl rfl) h4
  obtain ⟨a5, rfl, rfl, rfl, w5⟩ := open_int Try.underlying3 (hval 5 3 v5 rfl rfl) h5
  clear hA0 hval0 hval hA
  refine (Sw.calls_of l_law4_TreeWords (tys := [.one .bool]) (s0, a1, a2, s3, a4, a5, ()) W (Sw.Words.c_TreeWords (S := ids) closW L0 L3 (by omega))).mono fun e W' ⟨⟨y, u⟩, he, hy, hb, hfr⟩ => ?_
  have hy : y = true := hy
  subst hy
  exact ⟨.bool true, he, Sw.law_post (tb := 4) (by kernel_rfl) (of_decide_eq_true (by kernel_rfl)) rfl Try.underlying4 (by kernel_rfl) hW' rfl (by simp [Rows.treeWordsSpec]) rfl hb hfr⟩

theorem lifted (os : Os) (started : os.Started) (H : Type) (enc : TypeId × Value → H) (F : Stop.Interp) :
    ReturnsInHanded {} Try.checked os 7 .any ((Rows.OpenSpec.upto Rows.treeWordsSpec).pre6 enc Try.prog Try.f7 Rows.treeWordsUptoRow.domain false) (((Rows.OpenSpec.upto Rows.treeWordsSpec).at F).post enc Try.prog Try.f7 false true false false) := by
  refine returnsInHanded_of_cond (C := Try.checked) (s := Rows.OpenSpec.upto Rows.treeWordsSpec) (k := Rows.uptoSmall) rfl own started (by kernel_rfl) Try.func7
    (OpenSpec.witness (enc := enc) (C := Try.checked) (s := Rows.OpenSpec.upto Rows.treeWordsSpec) (k := Rows.uptoSmall) rfl false ⟨#[], #[.slice none 0 0, .int .i64 0, .int .i64 0, .slice none 0 0, .int .i64 0, .int .i64 0], []⟩ 8 (by kernel_rfl) (by kernel_rfl) (by kernel_rfl)
      (x := ([.nil, .lit (.int .i64 0), .lit (.int .i64 0), .nil, .lit (.int .i64 0), .lit (.int .i64 0)], [], [])) (by kernel_rfl) rfl (by kernel_rfl)) ?_
  intro W base args ds gs before hval hW _ hk _
  exact contract H enc W base args ds gs before hval hW hk

theorem over : Rows.treeWordsUptoRow.holds Try.pinned (Rows.OpenSpec.upto Rows.treeWordsSpec) :=
  OpenClaim.holds_of_cond 7 Try.f7 rfl rfl rfl rfl rfl rfl rfl ⟨rfl, rfl, rfl, rfl, rfl⟩ rfl rfl rfl rfl rfl (by kernel_rfl) Try.func7 (by kernel_rfl)
    (of_decide_eq_true (by kernel_rfl)) (by unfold Func.isWrapper; first | (rw [if_pos (by decide +kernel)]; kernel_rfl) | (rw [if_neg (by decide +kernel)]; exact ⟨rfl, rfl⟩))
    (fun os started H enc _ F => lifted os started H enc F)

end Go.Proofs.Yteoloieadjeneaa.treeWords

namespace Go.Proofs.Yteoloieadjeneaa
theorem treeWordsUptoHolds : Rows.TreeWordsUptoSaid := treeWords.over
end Go.Proofs.Yteoloieadjeneaa
