
/- Steps. -/
import Derived.Test.YtncolficnfcdcaaGreatSwLhistoryZ4m
import Derived.Test.YtncolficnfcdcaaGreatSwG4
import Derived.Test.YtncolficnfcdcaaGreatSwZ2
set_option linter.unusedVariables false
set_option linter.unusedSimpArgs false
set_option maxRecDepth 100000
namespace Go.Proofs.YtncolficnfcdcaaGreat
open Go
section
theorem xf:Sw.Codec.kJ Tryz.prog ids where
 c_ a:=Sw.DQ (f:=189) (recv:=.agg #[]) (λw=>by kernel_rfl) IY ((),a,()) rfl
 Rx r a:=Sw.DQ (f:=196) (recv:=.agg #[.int .i64 r]) (λw=>by kernel_rfl) NK ((r,()),a,()) rfl
 bz a:=Sw.DQ (f:=205) (recv:=.agg #[]) (λw=>by kernel_rfl) QZ ((),a,()) rfl
 xm s a:=Sw.DQ (f:=188) (recv:=.agg #[]) (λw=>by kernel_rfl) Tp ((),s,a,()) rfl
 ae r s a:=Sw.DQ (f:=195) (recv:=.agg #[.int .i64 r]) (λw=>by kernel_rfl) Pa ((r,()),s,a,()) rfl
 Di s a:=Sw.DQ (f:=204) (recv:=.agg #[]) (λw=>by kernel_rfl) Tq ((),s,a,()) rfl
 nM s:=Sw.DQ (f:=185) (recv:=.agg #[]) (λw=>by kernel_rfl) O4 ((),s,()) rfl
 gV r s:=Sw.DQ (f:=192) (recv:=.agg #[.int .i64 r]) (λw=>by kernel_rfl) LI ((r,()),s,()) rfl
 Zr s:=Sw.DQ (f:=201) (recv:=.agg #[]) (λw=>by kernel_rfl) O5 ((),s,()) rfl
 xh enc he:=by
  rcases Sw.Codec.rQ he with rfl|rfl|rfl|rfl<;>exact λw=>by kernel_rfl
theorem clh:Sw.Hist.Yo Tryz.prog ids where
 shut:=λb h R hw=>Q9 (b,()) h R hw
theorem clt:Sw.Piece.Yu Tryz.prog ids where
 it:=λy a b=>Sw.Ho (i:=66) (caps:=[.pointer a, .pointer b]) (args:=[y]) Az (y,a,b,()) rfl
 wk:=λp i a b=>Sw.Ho (i:=67) (caps:=[.pointer a, .pointer b]) (args:=[.pointer p, .int .i64 i]) xI (p,i,a,b,()) rfl
 tags:=λa t p=>Sw.Ho (i:=61) (caps:=[.pointer p]) (args:=[.int .i64 a, .int .i64 t]) O2 (a,t,p,()) rfl
theorem clm:Sw.Hist.P8 Tryz.prog ids where
 cmp:=λx y=>Sw.Ho (i:=63) (caps:=[]) (args:=[.agg #[.int .i64 x.1, .int .i64 x.2.1], .agg #[.int .i64 y.1, .int .i64 y.2.1]]) Ns (x,y,()) rfl
theorem cl:Sw.Piece.Cl0 Tryz.prog ids where
 it:=λy a b=>Sw.Ho (i:=66) (caps:=[.pointer a, .pointer b]) (args:=[y]) Az (y,a,b,()) rfl
 wk:=λp i a b=>Sw.Ho (i:=67) (caps:=[.pointer a, .pointer b]) (args:=[.pointer p, .int .i64 i]) xI (p,i,a,b,()) rfl
 atoms:=λa t p=>Sw.Ho (i:=60) (caps:=[.pointer p]) (args:=[.int .i64 a, .int .i64 t]) Nv (a,t,p,()) rfl
end
end Go.Proofs.YtncolficnfcdcaaGreat
