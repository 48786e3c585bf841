
/-
  PROVED HERE: the law HistoryMarks of package copyistlaw7 returns true for all arguments of the row's bulk; what it is given reads as before.
  CONDITIONS: none beyond the row's own (the row Rows.historyMarksUptoRow, unchanged).
-/
import Derived.Test.YtncolficnfcdcaaGreatRows
import Derived.Test.YtncolficnfcdcaaGreatSwXhistoryZm
import Derived.Test.YtncolficnfcdcaaGreatSwBhistoryZm
import Derived.Test.YtncolficnfcdcaaGreatSwZ3
set_option linter.unusedVariables false
set_option linter.unusedSimpArgs false
namespace Go.Proofs.YtncolficnfcdcaaGreat.historyMarks
open Go.ChangeShapes Go.WideShapes Go.ChangeAt Go.RowKit
section
set_option maxRecDepth 100000
theorem own:ownKnob Tryz.prog.godebug=none:=by kernel_rfl
theorem Y6(H:Type)(enc:TypeId×Value->H)(W:World)(aD:Nat)(args:Array Value)(ds gs:List (DataW H))(before:List MemPlace)
  (b:∀(j:Nat) t v,Tryz.f6.params[j]?=some t->args[j]?=some v->Value.okWide Tryz.prog W .any aD t v)
  (k:DataW.Whole enc Tryz.prog Tryz.f6.params.toList Rows.historyMarksSpec.vars false W args.toList ds gs before) (B:Rows.uptoSmall H (ds++gs)=true) :
  Calls Tryz.prog 6 args W λe i=>∃v,e = .returned v/\Rows.historyMarksSpec.post enc Tryz.prog Tryz.f6 false true false false W args v i:=by
 have a:∀(j:Nat) t v,Tryz.f6.params[j]?=some t->args[j]?=some v->Value.okWide Tryz.prog W .any aD t v:=b;have l:=k;obtain⟨p,q,f,A,rfl,G,I⟩:=k;have g:DataW.TrodAll enc Tryz.prog W 0 (λ_=>true) true Tryz.f6.params.toList args.toList ds p:=f;rw[Tryz.params6]at g a;obtain⟨v0,J,d0,E,L,N,o,rfl,rfl,h0,r0⟩:=trodAll_cons g;obtain⟨v1,K,d1,F,M,O,rfl,rfl,rfl,z,C⟩:=trodAll_cons r0;obtain⟨rfl,rfl,rfl⟩:=trodAll_nil C;obtain rfl:args = #[v0,v1]:=by cases args;simp_all
 obtain⟨rfl,rfl⟩:=trodVars_none A;have d:=bulks.bound B;simp only[List.append_nil,Rows.uptoBulkAll]at d;obtain⟨c,rfl,r,D⟩:=Sw.Z3 (s:=(.pair (.int .i64) (.pair (.int .i64) (.pair (.int .i64) (.pair (.list (.int .u8)) (.unit)))))) bulks.ok (by kernel_rfl) (a 0 61 v0 rfl rfl) h0;obtain⟨n,rfl,w,w1⟩:=Sw.XO (e:=(.str (.pair (.int .i64) (.pair (.int .i64) (.pair (.int .i64) (.pair (.int .i64) (.pair (.list (.str (.pair (.int .i64) (.pair (.int .i64) (.pair (.list (.int .i64)) (.unit)))))) (.pair (.list (.int .i64)) (.unit))))))))) bulks.ok (by kernel_rfl) (a 1 62 v1 rfl rfl) z;clear f b a g;refine(Sw.Y4 GL (tys:=[.one .bool]) ((c.1,c.2.1,c.2.2.1,c.2.2.2.1.1,()),n.1,()) W (Sw.Hist.MO xd clh cl clt clm (y:=c) (x:=n) r (Nat.succ_le_succ (Nat.le_trans D (by omega:Rows.uptoBulk d0<=1048576))) w (Nat.le_trans w1 (by omega:Rows.uptoBulk d1<=1048577)))).mono λe i ⟨⟨y,u⟩,he,h,hb,m⟩=>?_;have h:y=true:=h;subst h;exact⟨.bool true,he,Sw.ZG (tb:=4) (by kernel_rfl) (of_decide_eq_true (by kernel_rfl)) rfl Tryz.underlying4 (by kernel_rfl) l rfl (by simp[Rows.historyMarksSpec]) rfl hb m⟩
theorem lifted(os:Os)(started:os.Started)(H:Type)(enc:TypeId×Value->H)(F:Stop.Interp) :
  ReturnsInHanded {} Tryz.checked os 6 .any ((Rows.OpenSpec.upto Rows.historyMarksSpec).pre6 enc Tryz.prog Tryz.f6 Rows.historyMarksUptoRow.domain false) (((Rows.OpenSpec.upto Rows.historyMarksSpec).at F).post enc Tryz.prog Tryz.f6 false true false false):=by
 refine returnsInHanded_of_cond (C:=Tryz.checked) (s:=Rows.OpenSpec.upto Rows.historyMarksSpec) (k:=Rows.uptoSmall) rfl own started (by kernel_rfl) Tryz.func6
  (OpenSpec.witness (enc:=enc) (C:=Tryz.checked) (s:=Rows.OpenSpec.upto Rows.historyMarksSpec) (k:=Rows.uptoSmall) rfl false ⟨#[], #[.agg #[.int .i64 0, .int .i64 0, .int .i64 0, .slice none 0 0], .slice none 0 0],[]⟩ 8 (by kernel_rfl) (by kernel_rfl) (by kernel_rfl)
   (x:=([.agg [.lit (.int .i64 0), .lit (.int .i64 0), .lit (.int .i64 0), .nil], .nil],[],[])) (by kernel_rfl) rfl (by kernel_rfl)) ?_
 intro W aD args b gs before a c _ d _;exact Y6 H enc W aD args b gs before a c d
theorem ze:Rows.historyMarksUptoRow.holds Tryz.pinned (Rows.OpenSpec.upto Rows.historyMarksSpec):=
 OpenClaim.holds_of_cond 6 Tryz.f6 rfl rfl rfl rfl rfl rfl rfl ⟨rfl,rfl,rfl,rfl,rfl⟩ rfl rfl rfl rfl rfl (by kernel_rfl) Tryz.func6 (by kernel_rfl)
  (of_decide_eq_true (by kernel_rfl)) (by unfold Func.isWrapper;first|(rw[if_pos (by decide +kernel)];kernel_rfl)|(rw[if_neg (by decide +kernel)];exact⟨rfl,rfl⟩))
  (λos started H enc _ F=>lifted os started H enc F)
end
end Go.Proofs.YtncolficnfcdcaaGreat.historyMarks
namespace Go.Proofs.YtncolficnfcdcaaGreat
section
theorem historyMarksUptoHolds:Rows.HistoryMarksUptoSaid:=historyMarks.ze
end
end Go.Proofs.YtncolficnfcdcaaGreat
