/-
  More laws for the user of shallow programs: methods of interface values, answers of one value.
-/
import Derived.Test.YtncolficnfcdcaaGreatSwU1
set_option linter.unusedSimpArgs false
set_option linter.unusedVariables false
namespace Go.Sw
variable {P:Program} {h:Heap} {Q:Nat→List Value→Heap→Prop}
def Inv (P:Program) (c:Value) (name:String) (args:List Value) (m:Prog):Prop:=
 ∀ (h:Heap) (Q:List Value→Heap→Prop),wp P m h (fun t vs h'=>t=0∧Q vs h')→InvokesV P c name args h Q
theorem wp_inv {c:Value} {name:String} {args:List Value} {m:Prog} {tys:List Ty} {K:Ts.den tys→Prog} {R:Ts.den tys→Heap→Prop}
  (hi:Inv P c name args m) (g:Gives P m tys h R) (hk:∀ x h',Ext h h'→R x h'→wp P (K x) h' Q):wp P (.invoke c name args tys K) h Q:=
 hi h _ (wp_mono m (fun _ _ _ ⟨a,b,x,c,d⟩=>⟨a,x,c,hk x _ b d⟩) g)
theorem e_ret {t:Nat} {vs:List Value}:wp P (.ret t vs) h Q=Q t vs h:=rfl
theorem e_if {b:Bool} {X Y:Prog}:wp P (ifB b X Y) h Q=if b=true then wp P X h Q else wp P Y h Q:=by cases b <;> rfl
theorem e_grd {b:Bool} {X:Prog}:wp P (grd b X) h Q=(b=true∧wp P X h Q):=by cases b <;> simp [grd,wp]
theorem e_cast0 {K:Unit→Prog}:wp P (.cast [] [] K) h Q=wp P (K ()) h Q:=by
 apply propext; constructor
 ·rintro ⟨x,_,hx⟩; exact hx
 ·intro hx; exact ⟨(),rfl,hx⟩
theorem eqN_same (a:Nat):eqN a a=true:=eqN_iff.2 rfl
theorem s_ret {t:Nat} {vs:List Value} (hq:Q t vs h):wp P (.ret t vs) h Q:=hq
theorem s_bind {m:Prog} {K:Nat→List Value→Prog} (hm:wp P m h fun t vs h'=>wp P (K t vs) h' Q):wp P (.bind m K) h Q:=hm
theorem s_alloc {vs:List Value} {K:Addr→Prog} (hk:∀ elem,wp P (K ⟨h.size,0,none⟩) (h.push (.cells vs.toArray elem)) Q):wp P (.alloc vs K) h Q:=hk
theorem s_tag {a:Nat} {X Y:Prog} (hx:wp P X h Q):wp P (ifB (eqN a a) X Y) h Q:=by rw [e_if,eqN_same,if_pos rfl]; exact hx
theorem s_tagNo {a b:Nat} {X Y:Prog} (hn:eqN a b=false) (hx:wp P Y h Q):wp P (ifB (eqN a b) X Y) h Q:=by rw [e_if,hn,if_neg (by simp)]; exact hx
theorem s_not {X:Prog} (hx:wp P X h Q):wp P (grd (notB Bool.false) X) h Q:=hx
theorem s_ifT {X Y:Prog} (hx:wp P X h Q):wp P (ifB Bool.true X Y) h Q:=hx
theorem s_ifF {X Y:Prog} (hx:wp P Y h Q):wp P (ifB Bool.false X Y) h Q:=hx
theorem s_cast0 {K:Unit→Prog} (hk:wp P (K ()) h Q):wp P (.cast [] [] K) h Q:=e_cast0 ▸ hk
theorem s_castB {b:Bool} {K:Bool×Unit→Prog} (hk:wp P (K (b,())) h Q):wp P (.cast [.one .bool] [.bool b] K) h Q:=⟨(b,()),rfl,hk⟩
theorem s_castI {k:IntKind} {b:Int} {K:Int×Unit→Prog} (hk:wp P (K (b,())) h Q):wp P (.cast [.one (.int k)] [.int k b] K) h Q:=⟨(b,()),rfl,hk⟩
theorem s_castII {k k':IntKind} {b c:Int} {K:Int×Int×Unit→Prog} (hk:wp P (K (b,c,())) h Q):wp P (.cast [.one (.int k), .one (.int k')] [.int k b, .int k' c] K) h Q:=⟨(b,c,()),rfl,hk⟩
theorem gives_pure {m:Prog} {tys:List Ty} {R:Ts.den tys→Heap→Prop} (v:Ts.den tys) (hw:∀ Q:Nat→List Value→Heap→Prop,(∀ h',Ext h h'→Q 0 (Ts.inj tys v) h')→wp P m h Q) (hr:∀ h',R v h'):Gives P m tys h R:=
 hw _ fun h' e=>⟨rfl,e,v,rfl,hr h'⟩
theorem own_alloc {vs:List Value} {elem:TypeId} {size n:Nat} (hn:n*size=vs.length) (hs:0<size) (hb:n<2 ^ 63):Own h.size size (h.push (.cells vs.toArray elem)) ⟨some ⟨h.size,0,none⟩,n,n⟩ vs:=
 ⟨hn,Nat.le_refl _,hb,rfl,rfl,Nat.le_refl _,vs.toArray,elem,Array.getElem?_push_size,by simp [hn],fun i v hi=>by simpa using hi⟩
end Go.Sw
