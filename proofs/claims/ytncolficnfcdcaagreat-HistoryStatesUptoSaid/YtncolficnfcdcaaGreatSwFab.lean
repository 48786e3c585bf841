
/- Steps. -/
import Derived.Test.YtncolficnfcdcaaGreatSwSw
set_option linter.unusedVariables false
set_option linter.unusedSimpArgs false
namespace Go.Sw
section
abbrev vI(n:Int):Value:=.int .i64 n
abbrev vS(x:Sl):Value:=.slice x.aD x.len x.cap
abbrev vB(b:Bool):Value:=.bool b
abbrev vP(p:Option Addr):Value:=.pointer p
abbrev vU(n:Int):Value:=.int .u8 n
abbrev tI:Ty:=.one (.int .i64)
abbrev tU:Ty:=.one (.int .u8)
abbrev tS:Ty:=.one .sl
abbrev tP:Ty:=.one .ptr
abbrev tB:Ty:=.one .bool
abbrev bI:B:=.int .i64
abbrev OA:=Option Addr
abbrev b7:List B:=[.sl,bI,bI,bI,bI, .bool, .bool]
abbrev b5:List B:=[bI,bI,bI, .bool, .bool]
abbrev d7:=Sl×Int×Int×Int×Int×Bool×Bool×Unit
abbrev d5:=Int×Int×Int×Bool×Bool×Unit
abbrev nS:Value:=.slice none 0 0
abbrev z7:List Value:=[nS,vI 0,vI 0,vI 0,vI 0, .bool false, .bool false]
abbrev z5:List Value:=[vI 0,vI 0,vI 0, .bool false, .bool false]
abbrev dX(n:Nat)(T:List Ty)(X:aK)(K:Ts.den T->aK):aK:=.bind X λk vs=>aR (jC k n) (.cast T vs K) .fail
abbrev bQ(T:Ty)(p:Option Addr)(i:Nat)(K:T.den->aK):aK:=bD (aJ p) (bD (aJ p) (.load T (aB p i) K))
abbrev Bm(p:Option Addr)(i:Nat)(V:List Value)(K:aK):aK:=bD (aJ p) (bD (aJ p) (.store (aB p i) V K))
abbrev arr(T:Ty)(w:Option Addr)(o:Nat)(i:Int)(m:Nat)(K:T.den->aK):aK:=bD (aJ w) (bD (aJ w) (bD (bN (aJ (aB w o)) (eV i m)) (.load T (aB (aB w o) (bB (bP i) 1)) K)))
abbrev lP(T:Ty)(l:Sl)(i:Int)(m:Nat)(K:T.den->aK):aK:=bD (bN (aJ l.aD) (eV i l.len)) (.load T (aB l.aD (bB (bP i) m)) K)
abbrev mA(o:List (Nat × (List (List Nat) × List (Nat × Nat))))(r j l:List (Nat × (zM × List Nat)))(b:List (Nat × zM))(e:zM)(y:List Nat):TB:={order:=look o,uo:=look r,join:=look j,loop:=look l,Ml:=gn b,res:=e,pP:=y}
abbrev m0(e:zM)(y:List Nat):TB:=mA [] [] [] [] [] e y
abbrev cH(T:Ty)(a:Addr)(i:Nat)(K:T.den -> aK):aK:=.load T (aB (some a) i) K
abbrev Fu(a:Addr)(i:Nat)(V:List Value)(K:aK):aK:=.store (aB (some a) i) V K
abbrev Gl(a:Addr)(i:Nat)(V:List Value)(K:aK):aK:=.check (aB (some a) i) V K
abbrev iJ:aK:=.ret 0 [vB true]
abbrev fJ:aK:=.ret 0 [vB false]
abbrev bE:=List Value
abbrev aW:=List Int
end
end Go.Sw
