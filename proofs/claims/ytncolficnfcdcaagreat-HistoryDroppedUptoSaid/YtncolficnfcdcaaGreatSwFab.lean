/-
  Short names for what recurs in printed programs. Nothing is proved here.
-/
import Derived.Test.YtncolficnfcdcaaGreatSwSw
namespace Go.Sw
abbrev vI (n:Int):Value:=.int .i64 n
abbrev vS (x:Sl):Value:=.slice x.base x.len x.cap
abbrev vB (b:Bool):Value:=.bool b
abbrev vP (p:Option Addr):Value:=.pointer p
abbrev vU (n:Int):Value:=.int .u8 n
abbrev tI:Ty:=.one (.int .i64)
abbrev tU:Ty:=.one (.int .u8)
abbrev tS:Ty:=.one .sl
abbrev tP:Ty:=.one .ptr
abbrev tB:Ty:=.one .bool
abbrev bI:B:=.int .i64
abbrev OA:=Option Addr
abbrev b7:List B:=[.sl,bI,bI,bI,bI, .bool, .bool]
abbrev b5:List B:=[bI,bI,bI, .bool, .bool]
abbrev d7:=Sl×Int×Int×Int×Int×Bool×Bool×Unit
abbrev d5:=Int×Int×Int×Bool×Bool×Unit
abbrev nS:Value:=.slice none 0 0
abbrev z7:List Value:=[nS,vI 0,vI 0,vI 0,vI 0, .bool false, .bool false]
abbrev z5:List Value:=[vI 0,vI 0,vI 0, .bool false, .bool false]
abbrev thn (n:Nat) (T:List Ty) (X:Prog) (K:Ts.den T→Prog):Prog:=.bind X fun k vs=>ifB (eqN k n) (.cast T vs K) .fail
abbrev fld (T:Ty) (p:Option Addr) (i:Nat) (K:T.den→Prog):Prog:=grd (someB p) (grd (someB p) (.load T (shiftTo p i) K))
abbrev sto (p:Option Addr) (i:Nat) (V:List Value) (K:Prog):Prog:=grd (someB p) (grd (someB p) (.store (shiftTo p i) V K))
abbrev arr (T:Ty) (w:Option Addr) (o:Nat) (i:Int) (m:Nat) (K:T.den→Prog):Prog:=grd (someB w) (grd (someB w) (grd (andB (someB (shiftTo w o)) (inB i m)) (.load T (shiftTo (shiftTo w o) (mulN (toN i) 1)) K)))
abbrev atx (T:Ty) (l:Sl) (i:Int) (m:Nat) (K:T.den→Prog):Prog:=grd (andB (someB l.base) (inB i l.len)) (.load T (shiftTo l.base (mulN (toN i) m)) K)
end Go.Sw
