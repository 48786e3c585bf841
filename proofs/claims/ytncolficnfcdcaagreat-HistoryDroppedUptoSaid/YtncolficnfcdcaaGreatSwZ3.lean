/-
  A law's row, out of its contract: arguments opened; behind the call they read as before.
-/
import Derived.Test.YtncolficnfcdcaaGreatSwZ1
import Derived.Test.YtncolficnfcdcaaGreatSwU3
import Derived.WalkKit
import Derived.ProofKit
import Derived.OpenShut
import Derived.JoinedCond
import Derived.Carry
import Derived.Deep.Slices
set_option linter.unusedSimpArgs false
set_option linter.unusedVariables false
namespace Go.Sw
open Go.ChangeShapes Go.WideShapes Go.ChangeAt Go.RowKit Go.WideElems
variable {H:Type} {enc:TypeId×Value→H} {P:Program}
def dcells:DataW H→Nat
 | .slice e s=>e.length+s.length
 | _=>0
def intOf:Value→Int
 | .int _ n=>n
 | _=>0
theorem wf_fits {k:IntKind} {n:Int} (h:(Lit.int k n).wf=true):fitsI k n:=by
 simpa [Lit.wf,fitsI] using h
theorem open_ints {t e:TypeId} {k:IntKind} {W:World} {v:Value} {d:DataW H} {p:List MemPlace} {r:Reach} {b0:Nat} (ht:P.underlying t=some (.slice e)) (he:P.underlying e=some (.int k)) (hc:P.cellsOf e=1)
  (hval:Value.okWide P W r b0 t v) (h:DataW.Trod enc P W 0 (fun _=>true) true t v d p):∃ (s:Sl) (l:List Int),v = .slice s.base s.len s.cap∧Lst k W.heap s l∧l.length≤dcells d:=by
 obtain ⟨fuel,h⟩:=h
 obtain ⟨a',len',cap',rfl⟩:=okWide_slice ht hval
 rcases Go.Deep.open_slice1 ht hc h with ⟨e1,e2⟩ | ⟨a,len,cap,m,n,V,D,Pl,e1,_,h2,h3,h4,h5,h6⟩
 ·simp [Value.cells] at e1
  obtain ⟨rfl,rfl,rfl⟩:=e1
  exact ⟨⟨none,0,0⟩,[],rfl,Lst.nil (by decide),by simp⟩
 ·simp only [if_true] at h4
  subst h4
  simp [Value.cells] at e1
  obtain ⟨rfl,rfl,rfl⟩:=e1
  refine ⟨⟨some a,len',cap'⟩,(List.range len').map fun i=>intOf (V i),rfl,?_,?_⟩
  ·have key:∀ i,i<cap'→V i = .int k (intOf (V i))∧fitsI k (intOf (V i)):=by
    intro i hi
    obtain ⟨_,ht⟩:=h6 i hi
    obtain ⟨n,e1,_,hw⟩:=DataW.trod_int he ht
    simp at e1
    rw [e1]
    exact ⟨rfl,wf_fits hw⟩
   refine ⟨⟨by simp,fun i v hi=>?_⟩,h2,Nat.lt_of_le_of_lt h3 (by decide),fun x hx=>?_⟩
   ·rw [List.getElem?_map,List.getElem?_map] at hi
    by_cases hlt:i<len'
    ·rw [List.getElem?_range hlt] at hi
     simp at hi
     subst hi
     rw [← (key i (by omega)).1]
     exact ⟨a,rfl,(h6 i (by omega)).1⟩
    ·rw [List.getElem?_eq_none (by simpa using hlt)] at hi; cases hi
   ·obtain ⟨i,hi,rfl⟩:=List.mem_map.1 hx
    exact (key i (by have:=List.mem_range.1 hi; omega)).2
  ·have:d=_:=congrArg Prod.fst h5
   rw [this]; simp [dcells]
theorem trodAll_stays (hl:laidOutB P=true) {W W':World} {sp:Nat→Bool}:∀ {ts:List TypeId} {vs:List Value} {ds:List (DataW H)} {p:List MemPlace},(∀ t,t∈ts→P.readableRec t=true∧t<P.types.size) →
  DataW.TrodAll enc P W 0 (fun _=>true) true ts vs ds p→(∀ x,x∈p→x.block<W.heap.size∧sp x.block=true)→Below W.heap.size W W'→DataW.TrodAll enc P W' 0 sp true ts vs ds p:=by
 intro ts
 induction ts with
 | nil=>intro vs ds p _ h _ _; cases vs <;> cases ds <;> exact h
 | cons t ts ih=>
  intro vs ds p ht h hp hb
  cases vs with
  | nil=>exact h.elim
  | cons v vs=>
   cases ds with
   | nil=>exact h.elim
   | cons d ds=>
    obtain ⟨p1,q1,h1,h2,e⟩:=h
    have ht0:=ht t (List.mem_cons_self ..)
    exact ⟨p1,q1,Trod_stays hl ht0.1 ht0.2 h1 (fun x hx=>hb.same (hp x (by rw [e]; exact List.mem_append_left _ hx)).1) (fun x hx=>(hp x (by rw [e]; exact List.mem_append_left _ hx)).2),
     ih (fun t h=>ht t (List.mem_cons_of_mem _ h)) h2 (fun x hx=>hp x (by rw [e]; exact List.mem_append_right _ hx)) hb,e⟩
theorem law_post {f:Func} {s:ChangeSpec} {W W':World} {args:Array Value} {ds gs:List (DataW H)} {before:List MemPlace} {tb:TypeId} (hl:laidOutB P=true) (hts:∀ t,t∈f.params.toList→P.readableRec t=true∧t<P.types.size)
  (hvars:s.vars=[]) (htb:P.underlying tb=some .bool) (hres:f.resultTypes = #[tb])
  (hW:DataW.Whole enc P f.params.toList s.vars false W args.toList ds gs before) (hfr:(s.fn H (ds++gs)).results=[.lit (.bool true)]) (hfa:(s.fn H (ds++gs)).args=ds) (hfv:(s.fn H (ds++gs)).vars=[])
  (hb:Below W.heap.size W W') (hfz:∀ a,W'.frozen? a=W.frozen? a):s.post enc P f false true false false W args (.bool true) W':=by
 have hlt:=hW.lt
 obtain ⟨p,q,hA,hV,hpq,_,_⟩:=id hW
 rw [hvars] at hV
 obtain ⟨hg,hq⟩:=trodVars_none hV
 subst hq
 rw [List.append_nil] at hpq
 subst hpq
 refine post_of_same (pa:=before) (pv:=[]) hW ?_ ?_ ?_ (by simp) (hb.frame _) hfz ?_
 ·intro b sp hd
  rw [hfr,hres]
  exact trodAll_cons_mk (shut_bool htb _) trodAll_mk0
 ·intro sp hsp
  rw [hfa]
  exact trodAll_stays hl hts hA (fun x hx=>⟨hlt x hx,hsp x hx⟩) hb
 ·intro sp hsp
  rw [hfv,hvars]; rfl
 ·exact ok_one hres rfl (okWide_bool_mk htb _)
end Go.Sw
