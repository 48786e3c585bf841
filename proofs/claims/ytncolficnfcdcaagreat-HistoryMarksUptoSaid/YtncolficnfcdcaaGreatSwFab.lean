
/- Steps. -/
import Derived.Test.YtncolficnfcdcaaGreatSwSw
set_option linter.unusedVariables false
set_option linter.unusedSimpArgs false
namespace Go.Sw
section
abbrev vI(n:Int):Value:=.int .i64 n
abbrev vS(x:Sl):Value:=.slice x.aD x.len x.cap
abbrev vB(b:Bool):Value:=.bool b
abbrev vP(p:Option Addr):Value:=.pointer p
abbrev vU(n:Int):Value:=.int .u8 n
abbrev tI:Ty:=.one (.int .i64)
abbrev tU:Ty:=.one (.int .u8)
abbrev tS:Ty:=.one .sl
abbrev tP:Ty:=.one .ptr
abbrev tB:Ty:=.one .bool
abbrev bI:B:=.int .i64
abbrev OA:=Option Addr
abbrev b7:List B:=[.sl,bI,bI,bI,bI, .bool, .bool]
abbrev b5:List B:=[bI,bI,bI, .bool, .bool]
abbrev d7:=Sl×Int×Int×Int×Int×Bool×Bool×Unit
abbrev d5:=Int×Int×Int×Bool×Bool×Unit
abbrev nS:Value:=.slice none 0 0
abbrev z7:List Value:=[nS,vI 0,vI 0,vI 0,vI 0, .bool false, .bool false]
abbrev z5:List Value:=[vI 0,vI 0,vI 0, .bool false, .bool false]
abbrev eE(n:Nat)(T:List Ty)(X:aK)(K:Ts.den T->aK):aK:=.bind X λk vs=>aR (jL k n) (.cast T vs K) .fail
abbrev bS(T:Ty)(p:Option Addr)(i:Nat)(K:T.den->aK):aK:=bF (aJ p) (bF (aJ p) (.load T (aB p i) K))
abbrev BF(p:Option Addr)(i:Nat)(V:List Value)(K:aK):aK:=bF (aJ p) (bF (aJ p) (.store (aB p i) V K))
abbrev arr(T:Ty)(w:Option Addr)(o:Nat)(i:Int)(m:Nat)(K:T.den->aK):aK:=bF (aJ w) (bF (aJ w) (bF (bN (aJ (aB w o)) (eV i m)) (.load T (aB (aB w o) (aZ (bQ i) 1)) K)))
abbrev mE(T:Ty)(l:Sl)(i:Int)(m:Nat)(K:T.den->aK):aK:=bF (bN (aJ l.aD) (eV i l.len)) (.load T (aB l.aD (aZ (bQ i) m)) K)
abbrev mA(o:List (Nat × (List (List Nat) × List (Nat × Nat))))(r j l:List (Nat × (Ad × List Nat)))(b:List (Nat × Ad))(e:Ad)(y:List Nat):Um:={order:=look o,yh:=look r,join:=look j,loop:=look l,MN:=ko b,res:=e,pX:=y}
abbrev m0(e:Ad)(y:List Nat):Um:=mA [] [] [] [] [] e y
abbrev cJ(T:Ty)(a:Addr)(i:Nat)(K:T.den -> aK):aK:=.load T (aB (some a) i) K
abbrev FP(a:Addr)(i:Nat)(V:List Value)(K:aK):aK:=.store (aB (some a) i) V K
abbrev GH(a:Addr)(i:Nat)(V:List Value)(K:aK):aK:=.check (aB (some a) i) V K
abbrev iZ:aK:=.ret 0 [vB true]
abbrev fR:aK:=.ret 0 [vB false]
abbrev bG:=List Value
abbrev bB:=List Int
end
end Go.Sw
