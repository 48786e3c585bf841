/-
  PROVED HERE: the law PieceAll of package copyistlaw5 returns true for all arguments of the row's bulk; what it is given reads as before.
  CONDITIONS: none beyond the row's own (the row Rows.pieceAllUptoRow, unchanged).
-/
import Derived.Test.YtjhnjehmbgaciaaGreatRows
import Derived.Test.YtjhnjehmbgaciaaGreatSwXpieceZm
import Derived.Test.YtjhnjehmbgaciaaGreatSwBpieceZm
import Derived.Test.YtjhnjehmbgaciaaGreatSwZ3
namespace Go.Proofs.YtjhnjehmbgaciaaGreat.pieceAll
open Go.ChangeShapes Go.WideShapes Go.ChangeAt Go.RowKit
set_option linter.unusedVariables false
set_option linter.unusedSimpArgs false
set_option maxRecDepth 100000
theorem own : ownKnob Tryz.prog.godebug = none := by kernel_rfl
theorem contract (H : Type) (enc : TypeId × Value → H) (W : World) (base : Nat) (args : Array Value) (ds gs : List (DataW H)) (before : List MemPlace)
  (hval0 : ∀ (j : Nat) t v, Tryz.f7.params[j]? = some t → args[j]? = some v → Value.okWide Tryz.prog W .any base t v)
  (hW : DataW.Whole enc Tryz.prog Tryz.f7.params.toList Rows.pieceAllSpec.vars false W args.toList ds gs before) (hk : Rows.uptoSmall H (ds ++ gs) = true) :
  Calls Tryz.prog 7 args W fun e W' => ∃ v, e = .returned v ∧ Rows.pieceAllSpec.post enc Tryz.prog Tryz.f7 false true false false W args v W' := by
 have hval : ∀ (j : Nat) t v, Tryz.f7.params[j]? = some t → args[j]? = some v → Value.okWide Tryz.prog W .any base t v := hval0
 have hW' := hW
 obtain ⟨p, q, hA0, hV, rfl, hfz, hnd⟩ := hW
 have hA : DataW.TrodAll enc Tryz.prog W 0 (fun _ => true) true Tryz.f7.params.toList args.toList ds p := hA0
 rw [Tryz.params7] at hA hval
 obtain ⟨v0, vs0, d0, ds0, p0, q0, hargs, rfl, rfl, h0, r0⟩ := trodAll_cons hA
 obtain ⟨rfl, rfl, rfl⟩ := trodAll_nil r0
 obtain rfl : args = #[v0] := by cases args; simp_all
 obtain ⟨rfl, rfl⟩ := trodVars_none hV
 have hbulk := bulks.bound hk
 simp only [List.append_nil, Rows.uptoBulkAll] at hbulk
 obtain ⟨x0, rfl, X0, w0⟩ := Sw.open_str (s := (.pair (.arr (.pair (.int .i64) (.pair (.int .i64) (.unit)))) (.pair (.arr (.pair (.int .i64) (.pair (.int .i64) (.unit)))) (.pair (.arr (.pair (.list (.int .u8)) (.pair (.list (.int .u8)) (.unit)))) (.pair (.list (.str (.pair (.int .i64) (.pair (.int .i64) (.pair (.int .i64) (.pair (.int .i64) (.pair (.list (.str (.pair (.int .i64) (.pair (.int .i64) (.pair (.list (.int .i64)) (.unit)))))) (.unit)))))))) (.unit)))))) bulks.ok (by kernel_rfl) (hval 0 27 v0 rfl rfl) h0
 clear hA0 hval0 hval hA
 refine (Sw.calls_of l_law5_PieceAll (tys := [.one .bool]) ((x0.1.1, x0.1.2.1, x0.2.1.1, x0.2.1.2.1, x0.2.2.1.1.1, x0.2.2.1.2.1.1, x0.2.2.2.1.1, ()), ()) W (Sw.Piece.c_PieceAll meth0 cl clw (y := x0) X0 (Nat.add_le_add_right (Nat.le_trans w0 (by omega)) 1))).mono fun e W' ⟨⟨y, u⟩, he, hy, hb, hfr⟩ => ?_
 have hy : y = true := hy
 subst hy
 exact ⟨.bool true, he, Sw.law_post (tb := 4) (by kernel_rfl) (of_decide_eq_true (by kernel_rfl)) rfl Tryz.underlying4 (by kernel_rfl) hW' rfl (by simp [Rows.pieceAllSpec]) rfl hb hfr⟩
theorem lifted (os : Os) (started : os.Started) (H : Type) (enc : TypeId × Value → H) (F : Stop.Interp) :
  ReturnsInHanded {} Tryz.checked os 7 .any ((Rows.OpenSpec.upto Rows.pieceAllSpec).pre6 enc Tryz.prog Tryz.f7 Rows.pieceAllUptoRow.domain false) (((Rows.OpenSpec.upto Rows.pieceAllSpec).at F).post enc Tryz.prog Tryz.f7 false true false false) := by
 refine returnsInHanded_of_cond (C := Tryz.checked) (s := Rows.OpenSpec.upto Rows.pieceAllSpec) (k := Rows.uptoSmall) rfl own started (by kernel_rfl) Tryz.func7
  (OpenSpec.witness (enc := enc) (C := Tryz.checked) (s := Rows.OpenSpec.upto Rows.pieceAllSpec) (k := Rows.uptoSmall) rfl false ⟨#[], #[.agg #[.int .i64 0, .int .i64 0, .int .i64 0, .int .i64 0, .slice none 0 0, .slice none 0 0, .slice none 0 0]], []⟩ 8 (by kernel_rfl) (by kernel_rfl) (by kernel_rfl)
   (x := ([.agg [.agg [.lit (.int .i64 0), .lit (.int .i64 0)], .agg [.lit (.int .i64 0), .lit (.int .i64 0)], .agg [.nil, .nil], .nil]], [], [])) (by kernel_rfl) rfl (by kernel_rfl)) ?_
 intro W base args ds gs before hval hW _ hk _
 exact contract H enc W base args ds gs before hval hW hk
theorem over : Rows.pieceAllUptoRow.holds Tryz.pinned (Rows.OpenSpec.upto Rows.pieceAllSpec) :=
 OpenClaim.holds_of_cond 7 Tryz.f7 rfl rfl rfl rfl rfl rfl rfl ⟨rfl, rfl, rfl, rfl, rfl⟩ rfl rfl rfl rfl rfl (by kernel_rfl) Tryz.func7 (by kernel_rfl)
  (of_decide_eq_true (by kernel_rfl)) (by unfold Func.isWrapper; first | (rw [if_pos (by decide +kernel)]; kernel_rfl) | (rw [if_neg (by decide +kernel)]; exact ⟨rfl, rfl⟩))
  (fun os started H enc _ F => lifted os started H enc F)
end Go.Proofs.YtjhnjehmbgaciaaGreat.pieceAll
namespace Go.Proofs.YtjhnjehmbgaciaaGreat
theorem pieceAllUptoHolds : Rows.PieceAllUptoSaid := pieceAll.over
end Go.Proofs.YtjhnjehmbgaciaaGreat
