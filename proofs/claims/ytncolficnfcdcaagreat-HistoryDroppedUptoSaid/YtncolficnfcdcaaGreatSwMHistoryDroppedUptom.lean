/-
  PROVED HERE: the law HistoryDropped of package copyistlaw7 returns true for all arguments of the row's bulk; what it is given reads as before.
  CONDITIONS: none beyond the row's own (the row Rows.historyDroppedUptoRow, unchanged).
-/
import Derived.Test.YtncolficnfcdcaaGreatRows
import Derived.Test.YtncolficnfcdcaaGreatSwXhistoryZm
import Derived.Test.YtncolficnfcdcaaGreatSwBhistoryZm
import Derived.Test.YtncolficnfcdcaaGreatSwZ3
namespace Go.Proofs.YtncolficnfcdcaaGreat.historyDropped
open Go.ChangeShapes Go.WideShapes Go.ChangeAt Go.RowKit
set_option linter.unusedVariables false
set_option linter.unusedSimpArgs false
set_option maxRecDepth 100000
theorem own:ownKnob Tryz.prog.godebug=none:=by kernel_rfl
theorem contract (H:Type) (enc:TypeId×Value→H) (W:World) (base:Nat) (args:Array Value) (ds gs:List (DataW H)) (before:List MemPlace)
  (hval0:∀ (j:Nat) t v,Tryz.f4.params[j]? = some t→args[j]? = some v→Value.okWide Tryz.prog W .any base t v)
  (hW:DataW.Whole enc Tryz.prog Tryz.f4.params.toList Rows.historyDroppedSpec.vars false W args.toList ds gs before) (hk:Rows.uptoSmall H (ds++gs)=true) :
  Calls Tryz.prog 4 args W fun e W'=>∃ v,e = .returned v∧Rows.historyDroppedSpec.post enc Tryz.prog Tryz.f4 false true false false W args v W':=by
 have hval:∀ (j:Nat) t v,Tryz.f4.params[j]? = some t→args[j]? = some v→Value.okWide Tryz.prog W .any base t v:=hval0
 have hW':=hW
 obtain ⟨p,q,hA0,hV,rfl,hfz,hnd⟩:=hW
 have hA:DataW.TrodAll enc Tryz.prog W 0 (fun _=>true) true Tryz.f4.params.toList args.toList ds p:=hA0
 rw [Tryz.params4] at hA hval
 obtain ⟨v0,vs0,d0,ds0,p0,q0,hargs,rfl,rfl,h0,r0⟩:=trodAll_cons hA
 obtain ⟨v1,vs1,d1,ds1,p1,q1,rfl,rfl,rfl,h1,r1⟩:=trodAll_cons r0
 obtain ⟨v2,vs2,d2,ds2,p2,q2,rfl,rfl,rfl,h2,r2⟩:=trodAll_cons r1
 obtain ⟨v3,vs3,d3,ds3,p3,q3,rfl,rfl,rfl,h3,r3⟩:=trodAll_cons r2
 obtain ⟨v4,vs4,d4,ds4,p4,q4,rfl,rfl,rfl,h4,r4⟩:=trodAll_cons r3
 obtain ⟨v5,vs5,d5,ds5,p5,q5,rfl,rfl,rfl,h5,r5⟩:=trodAll_cons r4
 obtain ⟨rfl,rfl,rfl⟩:=trodAll_nil r5
 obtain rfl:args = #[v0,v1,v2,v3,v4,v5]:=by cases args; simp_all
 obtain ⟨rfl,rfl⟩:=trodVars_none hV
 have hbulk:=bulks.bound hk
 simp only [List.append_nil,Rows.uptoBulkAll] at hbulk
 obtain ⟨a0,rfl,rfl,rfl,w0⟩:=open_int Tryz.underlying3 (hval 0 3 v0 rfl rfl) h0
 obtain ⟨s1,l1,rfl,L1,n1⟩:=Sw.open_ints Tryz.underlying22 Tryz.underlying5 (by kernel_rfl) (hval 1 22 v1 rfl rfl) h1
 have m1:=Nat.le_trans n1 (bulks.dcells_le d1)
 obtain ⟨x2,rfl,X2,w2⟩:=Sw.open_list (e:=(.list (.str (.pair (.int .i64) (.pair (.int .i64) (.pair (.list (.int .i64)) (.unit))))))) bulks.ok (by kernel_rfl) (hval 2 23 v2 rfl rfl) h2
 obtain ⟨a3,rfl,rfl,rfl,w3⟩:=open_int Tryz.underlying3 (hval 3 3 v3 rfl rfl) h3
 obtain ⟨x4,rfl,X4,w4⟩:=Sw.open_list (e:=(.str (.pair (.int .i64) (.pair (.int .i64) (.pair (.list (.int .i64)) (.unit)))))) bulks.ok (by kernel_rfl) (hval 4 35 v4 rfl rfl) h4
 obtain ⟨s5,l5,rfl,L5,n5⟩:=Sw.open_ints Tryz.underlying27 Tryz.underlying3 (by kernel_rfl) (hval 5 27 v5 rfl rfl) h5
 have m5:=Nat.le_trans n5 (bulks.dcells_le d5)
 clear hA0 hval0 hval hA
 refine (Sw.calls_of l_law7_HistoryDropped (tys:=[.one .bool]) (a0,s1,x2.1,a3,x4.1,s5,()) W (Sw.Hist.c_HistoryDropped meth0 clh cl clt clm L1 (Nat.le_trans m1 (by omega)) X2 (Nat.le_trans w2 (by omega)) X4 (Nat.le_trans w4 (by omega)) L5 (Nat.le_trans m5 (by omega)))).mono fun e W' ⟨⟨y,u⟩,he,hy,hb,hfr⟩=>?_
 have hy:y=true:=hy
 subst hy
 exact ⟨.bool true,he,Sw.law_post (tb:=4) (by kernel_rfl) (of_decide_eq_true (by kernel_rfl)) rfl Tryz.underlying4 (by kernel_rfl) hW' rfl (by simp [Rows.historyDroppedSpec]) rfl hb hfr⟩
theorem lifted (os:Os) (started:os.Started) (H:Type) (enc:TypeId×Value→H) (F:Stop.Interp) :
  ReturnsInHanded {} Tryz.checked os 4 .any ((Rows.OpenSpec.upto Rows.historyDroppedSpec).pre6 enc Tryz.prog Tryz.f4 Rows.historyDroppedUptoRow.domain false) (((Rows.OpenSpec.upto Rows.historyDroppedSpec).at F).post enc Tryz.prog Tryz.f4 false true false false):=by
 refine returnsInHanded_of_cond (C:=Tryz.checked) (s:=Rows.OpenSpec.upto Rows.historyDroppedSpec) (k:=Rows.uptoSmall) rfl own started (by kernel_rfl) Tryz.func4
  (OpenSpec.witness (enc:=enc) (C:=Tryz.checked) (s:=Rows.OpenSpec.upto Rows.historyDroppedSpec) (k:=Rows.uptoSmall) rfl false ⟨#[], #[.int .i64 0, .slice none 0 0, .slice none 0 0, .int .i64 0, .slice none 0 0, .slice none 0 0],[]⟩ 8 (by kernel_rfl) (by kernel_rfl) (by kernel_rfl)
   (x:=([.lit (.int .i64 0), .nil, .nil, .lit (.int .i64 0), .nil, .nil],[],[])) (by kernel_rfl) rfl (by kernel_rfl)) ?_
 intro W base args ds gs before hval hW _ hk _
 exact contract H enc W base args ds gs before hval hW hk
theorem over:Rows.historyDroppedUptoRow.holds Tryz.pinned (Rows.OpenSpec.upto Rows.historyDroppedSpec):=
 OpenClaim.holds_of_cond 4 Tryz.f4 rfl rfl rfl rfl rfl rfl rfl ⟨rfl,rfl,rfl,rfl,rfl⟩ rfl rfl rfl rfl rfl (by kernel_rfl) Tryz.func4 (by kernel_rfl)
  (of_decide_eq_true (by kernel_rfl)) (by unfold Func.isWrapper; first | (rw [if_pos (by decide +kernel)]; kernel_rfl) | (rw [if_neg (by decide +kernel)]; exact ⟨rfl,rfl⟩))
  (fun os started H enc _ F=>lifted os started H enc F)
end Go.Proofs.YtncolficnfcdcaaGreat.historyDropped
namespace Go.Proofs.YtncolficnfcdcaaGreat
theorem historyDroppedUptoHolds:Rows.HistoryDroppedUptoSaid:=historyDropped.over
end Go.Proofs.YtncolficnfcdcaaGreat
