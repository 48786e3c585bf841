
/-
  PROVED HERE: the law HistoryAll of package copyistlaw7 returns true for all arguments of the row's bulk; what it is given reads as before.
  CONDITIONS: none beyond the row's own (the row Rows.historyAllUptoRow, unchanged).
-/
import Derived.Test.YtncolficnfcdcaaGreatRows
import Derived.Test.YtncolficnfcdcaaGreatSwXhistoryZm
import Derived.Test.YtncolficnfcdcaaGreatSwBhistoryZm
import Derived.Test.YtncolficnfcdcaaGreatSwZ3
set_option linter.unusedVariables false
set_option linter.unusedSimpArgs false
namespace Go.Proofs.YtncolficnfcdcaaGreat.historyAll
open Go.ChangeShapes Go.WideShapes Go.ChangeAt Go.RowKit
section
set_option maxRecDepth 100000
theorem own:ownKnob Tryz.prog.godebug=none:=by kernel_rfl
theorem Y9(H:Type)(enc:TypeId×Value->H)(W:World)(aD:Nat)(args:Array Value)(ds gs:List (DataW H))(before:List MemPlace)
  (b:∀(j:Nat) t v,Tryz.f8.params[j]?=some t->args[j]?=some v->Value.okWide Tryz.prog W .any aD t v)
  (l:DataW.Whole enc Tryz.prog Tryz.f8.params.toList Rows.historyAllSpec.vars false W args.toList ds gs before) (F:Rows.uptoSmall H (ds++gs)=true) :
  Calls Tryz.prog 8 args W λe k=>∃v,e = .returned v/\Rows.historyAllSpec.post enc Tryz.prog Tryz.f8 false true false false W args v k:=by
 have a:∀(j:Nat) t v,Tryz.f8.params[j]?=some t->args[j]?=some v->Value.okWide Tryz.prog W .any aD t v:=b;have m:=l;obtain⟨p,q,g,E,rfl,O,P⟩:=l;have h:DataW.TrodAll enc Tryz.prog W 0 (λ_=>true) true Tryz.f8.params.toList args.toList ds p:=g;rw[Tryz.params8]at h a;obtain⟨v0,Q,d0,L,T,X,r,rfl,rfl,h0,r0⟩:=trodAll_cons h;obtain⟨v1,R,d1,M,U,Y,rfl,rfl,rfl,C,G⟩:=trodAll_cons r0;obtain⟨v2,S,d2,N,V,Z,rfl,rfl,rfl,D,I⟩:=trodAll_cons G;obtain⟨rfl,rfl,rfl⟩:=trodAll_nil I;obtain rfl:args = #[v0,v1,v2]:=by cases args;simp_all
 obtain⟨rfl,rfl⟩:=trodVars_none E;have f:=bulks.bound F;simp only[List.append_nil,Rows.uptoBulkAll]at f;obtain⟨c,rfl,w,J⟩:=Sw.TL (s:=(.pair (.int .i64) (.pair (.int .i64) (.pair (.int .i64) (.pair (.list (.int .u8)) (.unit)))))) bulks.ok (by kernel_rfl) (a 0 61 v0 rfl rfl) h0;obtain⟨d,rfl,A,w1⟩:=Sw.TL (s:=(.pair (.int .i64) (.pair (.int .i64) (.pair (.int .i64) (.pair (.list (.int .u8)) (.unit)))))) bulks.ok (by kernel_rfl) (a 1 61 v1 rfl rfl) C;obtain⟨o,rfl,B,K⟩:=Sw.XQ (e:=(.str (.pair (.int .i64) (.pair (.int .i64) (.pair (.int .i64) (.pair (.int .i64) (.pair (.list (.str (.pair (.int .i64) (.pair (.int .i64) (.pair (.list (.int .i64)) (.unit)))))) (.pair (.list (.int .i64)) (.unit))))))))) bulks.ok (by kernel_rfl) (a 2 62 v2 rfl rfl) D;clear g b a h;refine(Sw.Y7 I0 (tys:=[.one .bool]) ((c.1,c.2.1,c.2.2.1,c.2.2.2.1.1,()),(d.1,d.2.1,d.2.2.1,d.2.2.2.1.1,()),o.1,()) W (Sw.Hist.Ql xf clh cl clt clm (y:=c) (z:=d) (x:=o) w (Nat.succ_le_succ (Nat.le_trans J (by omega:Rows.uptoBulk d0<=1048576))) A (Nat.succ_le_succ (Nat.le_trans w1 (by omega:Rows.uptoBulk d1<=1048576))) B (Nat.le_trans K (by omega:Rows.uptoBulk d2<=1048577)))).mono λe k ⟨⟨y,u⟩,he,i,hb,n⟩=>?_;have i:y=true:=i;subst i;exact⟨.bool true,he,Sw.ZJ (tb:=4) (by kernel_rfl) (of_decide_eq_true (by kernel_rfl)) rfl Tryz.underlying4 (by kernel_rfl) m rfl (by simp[Rows.historyAllSpec]) rfl hb n⟩
theorem lifted(os:Os)(started:os.Started)(H:Type)(enc:TypeId×Value->H)(F:Stop.Interp) :
  ReturnsInHanded {} Tryz.checked os 8 .any ((Rows.OpenSpec.upto Rows.historyAllSpec).pre6 enc Tryz.prog Tryz.f8 Rows.historyAllUptoRow.domain false) (((Rows.OpenSpec.upto Rows.historyAllSpec).at F).post enc Tryz.prog Tryz.f8 false true false false):=by
 refine returnsInHanded_of_cond (C:=Tryz.checked) (s:=Rows.OpenSpec.upto Rows.historyAllSpec) (k:=Rows.uptoSmall) rfl own started (by kernel_rfl) Tryz.func8
  (OpenSpec.witness (enc:=enc) (C:=Tryz.checked) (s:=Rows.OpenSpec.upto Rows.historyAllSpec) (k:=Rows.uptoSmall) rfl false ⟨#[], #[.agg #[.int .i64 0, .int .i64 0, .int .i64 0, .slice none 0 0], .agg #[.int .i64 0, .int .i64 0, .int .i64 0, .slice none 0 0], .slice none 0 0],[]⟩ 8 (by kernel_rfl) (by kernel_rfl) (by kernel_rfl)
   (x:=([.agg [.lit (.int .i64 0), .lit (.int .i64 0), .lit (.int .i64 0), .nil], .agg [.lit (.int .i64 0), .lit (.int .i64 0), .lit (.int .i64 0), .nil], .nil],[],[])) (by kernel_rfl) rfl (by kernel_rfl)) ?_
 intro W aD args b gs before a c _ d _;exact Y9 H enc W aD args b gs before a c d
theorem zh:Rows.historyAllUptoRow.holds Tryz.pinned (Rows.OpenSpec.upto Rows.historyAllSpec):=
 OpenClaim.holds_of_cond 8 Tryz.f8 rfl rfl rfl rfl rfl rfl rfl ⟨rfl,rfl,rfl,rfl,rfl⟩ rfl rfl rfl rfl rfl (by kernel_rfl) Tryz.func8 (by kernel_rfl)
  (of_decide_eq_true (by kernel_rfl)) (by unfold Func.isWrapper;first|(rw[if_pos (by decide +kernel)];kernel_rfl)|(rw[if_neg (by decide +kernel)];exact⟨rfl,rfl⟩))
  (λos started H enc _ F=>lifted os started H enc F)
end
end Go.Proofs.YtncolficnfcdcaaGreat.historyAll
namespace Go.Proofs.YtncolficnfcdcaaGreat
section
theorem historyAllUptoHolds:Rows.HistoryAllUptoSaid:=historyAll.zh
end
end Go.Proofs.YtncolficnfcdcaaGreat
