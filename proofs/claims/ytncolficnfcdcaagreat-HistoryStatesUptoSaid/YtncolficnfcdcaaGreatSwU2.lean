
/- Steps. -/
import Derived.Test.YtncolficnfcdcaaGreatSwU1
set_option linter.unusedVariables false
set_option linter.unusedSimpArgs false
namespace Go.Sw
section
variable{P:Program}{h:aE}{Q:Nat->List Value->aE->Prop}
variable{vs:List Value}{X Y:aK}{a:Nat}
def Inv(P:Program)(c:Value)(name:String)(args:List Value)(m:aK):Prop:=
 ∀(h:aE) (Q:List Value->aE->Prop),wp P m h (λt vs h'=>t=0/\Q vs h')->Cv P c name args h Q
theorem zX{c:Value}{name:String}{args:List Value}{m:aK}{tys:List Ty}{K:Ts.den tys->aK}{R:Ts.den tys->aE->Prop}
  (hi:Inv P c name args m) (g:aS P m tys h R) (f:∀x e,Ext h e->R x e->wp P (K x) e Q):wp P (.invoke c name args tys K) h Q:=
 hi h _ (cU m (λ_ _ _ ⟨a,b,x,c,d⟩=>⟨a,x,c,f x _ b d⟩) g)
theorem Ym{t:Nat}:wp P (.ret t vs) h Q=Q t vs h:=rfl
theorem PS{b:Bool}:wp P (aR b X Y) h Q=if b=true then wp P X h Q else wp P Y h Q:=by cases b<;>rfl
theorem R8{b:Bool}:wp P (bD b X) h Q=(b=true/\wp P X h Q):=by cases b<;>simp[bD,wp]
theorem cj{K:Unit->aK}:wp P (.cast [] [] K) h Q=wp P (K ()) h Q:=by
 apply propext;constructor
 .rintro⟨x,_,b⟩;exact b
 .intro b;exact⟨(),rfl,b⟩
theorem Ys(a:Nat):jC a a=true:=Vq.2 rfl
theorem aC{t:Nat}(b:Q t vs h):wp P (.ret t vs) h Q:=b
theorem xN{m:aK}{K:Nat->List Value->aK}(hm:wp P m h λt vs b=>wp P (K t vs) b Q):wp P (.bind m K) h Q:=hm
theorem wB{K:Addr->aK}(b:∀elem,wp P (K ⟨h.size,0,none⟩) (h.push (.cells vs.toArray elem)) Q):wp P (.alloc vs K) h Q:=b
theorem bK(b:wp P X h Q):wp P (aR (jC a a) X Y) h Q:=by rw[PS,Ys,if_pos rfl];exact b
theorem nT{b:Nat}(c:jC a b=false)(d:wp P Y h Q):wp P (aR (jC a b) X Y) h Q:=by rw[PS,c,if_neg (by simp)];exact d
theorem Ag(b:wp P X h Q):wp P (bD (cO Bool.false) X) h Q:=b
theorem mI(b:wp P X h Q):wp P (aR Bool.true X Y) h Q:=b
theorem lI(b:wp P Y h Q):wp P (aR Bool.false X Y) h Q:=b
theorem bV{K:Unit->aK}(b:wp P (K ()) h Q):wp P (.cast [] [] K) h Q:=cj ▸ b
theorem jQ{b:Bool}{K:Bool×Unit->aK}(c:wp P (K (b,())) h Q):wp P (.cast [.one .bool] [.bool b] K) h Q:=⟨(b,()),rfl,c⟩
theorem gZ{k:IntKind}{b:Int}{K:Int×Unit->aK}(c:wp P (K (b,())) h Q):wp P (.cast [.one (.int k)] [.int k b] K) h Q:=⟨(b,()),rfl,c⟩
theorem wC{k d:IntKind}{b c:Int}{K:Int×Int×Unit->aK}(e:wp P (K (b,c,())) h Q):wp P (.cast [.one (.int k), .one (.int d)] [.int k b, .int d c] K) h Q:=⟨(b,c,()),rfl,e⟩
theorem lZ{p:Option Addr}{n c:Nat}{K:Sl×Unit->aK}(b:wp P (K (⟨p,n,c⟩,())) h Q):wp P (.cast [.one .sl] [.slice p n c] K) h Q:=⟨(⟨p,n,c⟩,()),rfl,b⟩
theorem MJ{m:aK}{tys:List Ty}{R:Ts.den tys->aE->Prop}(v:Ts.den tys)(hw:∀Q:Nat->List Value->aE->Prop,(∀b,Ext h b->Q 0 (Ts.inj tys v) b)->wp P m h Q)(c:∀b,R v b):aS P m tys h R:=
 hw _ λb e=>⟨rfl,e,v,rfl,c b⟩
theorem bX{elem:TypeId}{size n:Nat}(b:n*size=vs.length)(c:0<size)(hb:n<2^63):cC h.size size (h.push (.cells vs.toArray elem)) ⟨some ⟨h.size,0,none⟩,n,n⟩ vs:=
 ⟨b,bL _,hb,rfl,rfl,bL _,vs.toArray,elem,FH,by simp[b],λi v hi=>by simpa using hi⟩
end
end Go.Sw
