/-
  Laws for the user of shallow programs: objects written over, lists of any shape.
-/
import Derived.Test.YtaebgdhdldfigaaSwU3
import Derived.Test.YtaebgdhdldfigaaSwZ5
set_option linter.unusedVariables false
set_option linter.unusedSimpArgs false
namespace Go.Sw
variable {P : Program} {h : Heap} {Q : Nat → List Value → Heap → Prop}
theorem s_atSh {e : Sh} {x : Sl × List e.den} {bs : List B} {y : e.den} {z : Bs.den bs} {j : Int} {m : Nat} {K : Bs.den bs → Prog} (o : (Sh.list e).ok h x) (h0 : 0 ≤ j) (hj : x.2[j.toNat]? = some y) (hm : m = e.size) (hz : Bs.inj bs z = e.cells y) (hk : wp P (K z) h Q) :
  wp P (grd (andB (someB x.1.base) (inB j x.1.len)) (.load (.agg bs) (shiftTo x.1.base (mulN (toN j) m)) K)) h Q := by
 obtain ⟨o1, o2, o3, o4⟩ := o
 obtain ⟨a, ea, c, _⟩ := o4 _ _ hj
 have hlt := (List.getElem?_eq_some_iff.1 hj).1
 subst hm
 exact wp_grd (andB_iff.2 ⟨by simp [someB, ea], inB_is.2 ⟨h0, by omega⟩⟩) ⟨a.add (j.toNat * e.size), by simp [shiftTo, ea, mulN, toN], z, by show Cells h _ (Bs.inj bs z); rw [hz]; exact c, hk⟩
theorem Sh.ok.len {e : Sh} {x : Sl × List e.den} (o : (Sh.list e).ok h x) : x.1.len = x.2.length := o.1
theorem Sh.ok.el {e : Sh} {x : Sl × List e.den} {i : Nat} {y : e.den} (o : (Sh.list e).ok h x) (hi : x.2[i]? = some y) : e.ok h y := let ⟨_, _, _, k⟩ := o.2.2.2 i y hi; k
end Go.Sw
