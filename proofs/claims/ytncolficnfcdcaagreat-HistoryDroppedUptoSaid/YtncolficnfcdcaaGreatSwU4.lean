/-
  Laws for the user of shallow programs: objects written over, lists of any shape.
-/
import Derived.Test.YtncolficnfcdcaaGreatSwU3
import Derived.Test.YtncolficnfcdcaaGreatSwZ5
set_option linter.unusedVariables false
set_option linter.unusedSimpArgs false
namespace Go.Sw
variable {P:Program} {h:Heap} {Q:Nat→List Value→Heap→Prop}
theorem s_putV {n m c:Nat} {a:Addr} {old:List Value} (new:List Value) {K:Prog} (ho:Own n 1 h ⟨some a,m,c⟩ old) (hl:new.length=old.length) (hf:∀ v∈new,flat v=true)
  (hk:∀ h',Own n 1 h' ⟨some a,m,c⟩ new→Upd ⟨some a,m,c⟩ h h'→h'.size=h.size→wp P K h' Q):wp P (.store (some a) new K) h Q:=by
 obtain ⟨o1,o2,o3,o4⟩:=ho
 obtain ⟨b,off,spot⟩:=a
 obtain ⟨e0,e1,e2,cs,elem,e3,e4,e5⟩:=o4
 dsimp only at e0 e1 e2 e3 o1 o2 e4
 subst e0; subst e1
 obtain ⟨w,cs',c1,c2,c3,c4,c5,c6⟩:=puts_block (vs:=new) (i:=0) (off:=0) e3 hf (by simp; omega)
 refine ⟨⟨b,0,none⟩,rfl,w,hk _ ⟨by dsimp only; omega,o2,o3,rfl,rfl,e2,cs',elem,c1,by rw [c2,e4],fun i u hi=>?_⟩
  ⟨by unfold puts; omega,fun i hi hne=>c6 i fun e=>(hne _ rfl) e.symm,fun a e=>by unfold puts; rw [thaw_putFrom]; exact e⟩ (by unfold puts; omega)⟩
 have:=c3 i u hi
 simpa using this
theorem s_atSh {e:Sh} {x:Sl×List e.den} {bs:List B} {y:e.den} {z:Bs.den bs} {j:Int} {m:Nat} {K:Bs.den bs→Prog} (o:(Sh.list e).ok h x) (h0:0≤j) (hj:x.2[j.toNat]? = some y) (hm:m=e.size) (hz:Bs.inj bs z=e.cells y) (hk:wp P (K z) h Q) :
  wp P (grd (andB (someB x.1.base) (inB j x.1.len)) (.load (.agg bs) (shiftTo x.1.base (mulN (toN j) m)) K)) h Q:=by
 obtain ⟨o1,o2,o3,o4⟩:=o
 obtain ⟨a,ea,c,_⟩:=o4 _ _ hj
 have hlt:=(List.getElem?_eq_some_iff.1 hj).1
 subst hm
 exact wp_grd (andB_iff.2 ⟨by simp [someB,ea],inB_is.2 ⟨h0,by omega⟩⟩) ⟨a.add (j.toNat*e.size),by simp [shiftTo,ea,mulN,toN],z,by show Cells h _ (Bs.inj bs z); rw [hz]; exact c,hk⟩
theorem s_fieldSh {e:Sh} {x:Sl×List e.den} {b:B} {y:e.den} {z:b.den} {j:Int} {m i:Nat} {K:b.den→Prog} (o:(Sh.list e).ok h x) (h0:0≤j) (hj:x.2[j.toNat]? = some y) (hm:m=e.size) (hz:(e.cells y)[i]? = some (b.inj z)) (hk:wp P (K z) h Q) :
  wp P (grd (andB (someB x.1.base) (inB j x.1.len)) (grd (someB (shiftTo x.1.base (mulN (toN j) m))) (.load (.one b) (shiftTo (shiftTo x.1.base (mulN (toN j) m)) i) K))) h Q:=by
 obtain ⟨o1,o2,o3,o4⟩:=o
 obtain ⟨a,ea,c,_⟩:=o4 _ _ hj
 have hlt:=(List.getElem?_eq_some_iff.1 hj).1
 subst hm
 have e1:shiftTo x.1.base (mulN (toN j) e.size)=some (a.add (j.toNat*e.size)):=by simp [shiftTo,ea,mulN,toN]
 rw [e1]
 exact wp_grd (andB_iff.2 ⟨by simp [someB,ea],inB_is.2 ⟨h0,by omega⟩⟩) (wp_grd rfl (wp_load1 _ z rfl (cells_iff.1 c i _ hz) hk))
theorem Sh.ok.len {e:Sh} {x:Sl×List e.den} (o:(Sh.list e).ok h x):x.1.len=x.2.length:=o.1
theorem Sh.ok.el {e:Sh} {x:Sl×List e.den} {i:Nat} {y:e.den} (o:(Sh.list e).ok h x) (hi:x.2[i]? = some y):e.ok h y:=let ⟨_,_,_,k⟩:=o.2.2.2 i y hi; k
theorem sum_take_le {α:Type} (f:α→Nat) (l:List α) (i:Nat):((l.take i).map f).sum≤(l.map f).sum:=by
 have:=congrArg (fun l=>(l.map f).sum) (List.take_append_drop i l)
 simp only [List.map_append,List.sum_append_nat] at this
 omega
end Go.Sw
