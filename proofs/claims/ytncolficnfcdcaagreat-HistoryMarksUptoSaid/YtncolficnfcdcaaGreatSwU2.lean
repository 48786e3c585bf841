
/- Steps. -/
import Derived.Test.YtncolficnfcdcaaGreatSwU1
set_option linter.unusedVariables false
set_option linter.unusedSimpArgs false
namespace Go.Sw
section
variable{P:Program}{h:aG}{Q:Nat->List Value->aG->Prop}
variable{vs:List Value}{X Y:aK}{a:Nat}
def Inv(P:Program)(c:Value)(name:String)(args:List Value)(m:aK):Prop:=
 ∀(h:aG) (Q:List Value->aG->Prop),wp P m h (λt vs h'=>t=0/\Q vs h')->CO P c name args h Q
theorem Am{c:Value}{name:String}{args:List Value}{m:aK}{tys:List Ty}{K:Ts.den tys->aK}{R:Ts.den tys->aG->Prop}
  (hi:Inv P c name args m) (g:aS P m tys h R) (f:∀x e,Ext h e->R x e->wp P (K x) e Q):wp P (.invoke c name args tys K) h Q:=
 hi h _ (cM m (λ_ _ _ ⟨a,b,x,c,d⟩=>⟨a,x,c,f x _ b d⟩) g)
theorem Zc{t:Nat}:wp P (.ret t vs) h Q=Q t vs h:=rfl
theorem Qr{b:Bool}:wp P (aR b X Y) h Q=if b=true then wp P X h Q else wp P Y h Q:=by cases b<;>rfl
theorem SV{b:Bool}:wp P (bF b X) h Q=(b=true/\wp P X h Q):=by cases b<;>simp[bF,wp]
theorem gz{K:Unit->aK}:wp P (.cast [] [] K) h Q=wp P (K ()) h Q:=by
 apply propext;constructor
 .rintro⟨x,_,b⟩;exact b
 .intro b;exact⟨(),rfl,b⟩
theorem Zj(a:Nat):jL a a=true:=V8.2 rfl
theorem aC{t:Nat}(b:Q t vs h):wp P (.ret t vs) h Q:=b
theorem yC{m:aK}{K:Nat->List Value->aK}(hm:wp P m h λt vs b=>wp P (K t vs) b Q):wp P (.bind m K) h Q:=hm
theorem wP{K:Addr->aK}(b:∀elem,wp P (K ⟨h.size,0,none⟩) (h.push (.cells vs.toArray elem)) Q):wp P (.alloc vs K) h Q:=b
theorem bE(b:wp P X h Q):wp P (aR (jL a a) X Y) h Q:=by rw[Qr,Zj,if_pos rfl];exact b
theorem oD{b:Nat}(c:jL a b=false)(d:wp P Y h Q):wp P (aR (jL a b) X Y) h Q:=by rw[Qr,c,if_neg (by simp)];exact d
theorem pE(b:wp P X h Q):wp P (bF (cU Bool.false) X) h Q:=b
theorem mV(b:wp P X h Q):wp P (aR Bool.true X Y) h Q:=b
theorem lW(b:wp P Y h Q):wp P (aR Bool.false X Y) h Q:=b
theorem bO{K:Unit->aK}(b:wp P (K ()) h Q):wp P (.cast [] [] K) h Q:=gz ▸ b
theorem gF{b:Bool}{K:Bool×Unit->aK}(c:wp P (K (b,())) h Q):wp P (.cast [.one .bool] [.bool b] K) h Q:=⟨(b,()),rfl,c⟩
theorem fI{k:IntKind}{b:Int}{K:Int×Unit->aK}(c:wp P (K (b,())) h Q):wp P (.cast [.one (.int k)] [.int k b] K) h Q:=⟨(b,()),rfl,c⟩
theorem tV{k d:IntKind}{b c:Int}{K:Int×Int×Unit->aK}(e:wp P (K (b,c,())) h Q):wp P (.cast [.one (.int k), .one (.int d)] [.int k b, .int d c] K) h Q:=⟨(b,c,()),rfl,e⟩
theorem mP{p:Option Addr}{n c:Nat}{K:Sl×Unit->aK}(b:wp P (K (⟨p,n,c⟩,())) h Q):wp P (.cast [.one .sl] [.slice p n c] K) h Q:=⟨(⟨p,n,c⟩,()),rfl,b⟩
theorem Nl{m:aK}{tys:List Ty}{R:Ts.den tys->aG->Prop}(v:Ts.den tys)(hw:∀Q:Nat->List Value->aG->Prop,(∀b,Ext h b->Q 0 (Ts.inj tys v) b)->wp P m h Q)(c:∀b,R v b):aS P m tys h R:=
 hw _ λb e=>⟨rfl,e,v,rfl,c b⟩
theorem bR{elem:TypeId}{size n:Nat}(b:n*size=vs.length)(c:0<size)(hb:n<2^63):cA h.size size (h.push (.cells vs.toArray elem)) ⟨some ⟨h.size,0,none⟩,n,n⟩ vs:=
 ⟨b,bM _,hb,rfl,rfl,bM _,vs.toArray,elem,Ee,by simp[b],λi v hi=>by simpa using hi⟩
end
end Go.Sw
