
/- Steps. -/
import Derived.Test.YtncolficnfcdcaaGreatSwZ1
import Derived.Test.YtncolficnfcdcaaGreatSwU3
import Derived.WalkKit
import Derived.ProofKit
import Derived.OpenShut
import Derived.JoinedCond
import Derived.Carry
import Derived.Deep.Slices
set_option linter.unusedVariables false
set_option linter.unusedSimpArgs false
namespace Go.Sw
open Go.ChangeShapes Go.WideShapes Go.ChangeAt Go.RowKit Go.WideElems
section
variable{H:Type}{enc:TypeId×Value->H}{P:Program}
variable{W':World}
theorem jz{k:IntKind}{n:Int}(h:(Lit.int k n).wf=true):cX k n:=by
 simpa[Lit.wf,cX] using h
theorem Ph(i:laidOutB P=true){W:World}{sp:Nat->Bool}:∀{ts:List TypeId} {vs:List Value} {ds:List (DataW H)} {p:List MemPlace},(∀t,t∈ts->P.readableRec t=true/\t<P.types.size) ->
  DataW.TrodAll enc P W 0 (λ_=>true) true ts vs ds p->(∀x,x∈p->x.block<W.heap.size/\sp x.block=true)->Below W.heap.size W W'->DataW.TrodAll enc P W' 0 sp true ts vs ds p:=by
 intro ts
 induction ts with
 |nil=>intro vs ds p _ h _ _;cases vs<;>cases ds<;>exact h
 |cons t ts j=>
  intro vs ds p ht h c hb;cases vs with
  |nil=>exact h.elim
  |cons v vs=>
   cases ds with
   |nil=>exact h.elim
   |cons d ds=>
    obtain⟨k,l,f,g,e⟩:=h;have b:=ht t (eO ..);exact⟨k,l,Trod_stays i b.1 b.2 f (λx a=>hb.same (c x (by rw[e];exact oV _ a)).1) (λx a=>(c x (by rw[e];exact oV _ a)).2),
     j (λt h=>ht t (eK _ h)) g (λx a=>c x (by rw[e];exact qI _ a)) hb,e⟩
theorem ZG{f:Func}{s:ChangeSpec}{W:World}{args:Array Value}{ds gs:List (DataW H)}{before:List MemPlace}{tb:TypeId}(w:laidOutB P=true)(r:∀t,t∈f.params.toList->P.readableRec t=true/\t<P.types.size)
  (c:s.vars=[]) (h:P.underlying tb=some .bool) (d:f.resultTypes = #[tb])
  (i:DataW.Whole enc P f.params.toList s.vars false W args.toList ds gs before) (l:(s.fn H (ds++gs)).results=[.lit (.bool true)]) (k:(s.fn H (ds++gs)).args=ds) (m:(s.fn H (ds++gs)).vars=[])
  (hb:Below W.heap.size W W') (n:∀a,W'.frozen? a=W.frozen? a):s.post enc P f false true false false W args (.bool true) W':=by
 have o:=i.lt;obtain⟨p,q,v,j,e,_,_⟩:=id i;rw[c]at j;obtain⟨A,y⟩:=trodVars_none j;subst y;rw[kQ]at e;subst e;refine post_of_same (pa:=before) (pv:=[]) i ?_ ?_ ?_ (by simp) (hb.frame _) n ?_
 .intro b sp z
  rw[l,d];exact trodAll_cons_mk (shut_bool h _) trodAll_mk0
 .intro sp g
  rw[k];exact Ph w r v (λx u=>⟨o x u,g x u⟩) hb
 .intro sp g
  rw[m,c];rfl
 .exact ok_one d rfl (okWide_bool_mk h _)
end
end Go.Sw
