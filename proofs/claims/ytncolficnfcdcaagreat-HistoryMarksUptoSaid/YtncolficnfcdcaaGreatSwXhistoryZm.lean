
/- Steps. -/
import Derived.Test.YtncolficnfcdcaaGreatSwLhistoryZ4m
import Derived.Test.YtncolficnfcdcaaGreatSwG4
import Derived.Test.YtncolficnfcdcaaGreatSwZ2
set_option linter.unusedVariables false
set_option linter.unusedSimpArgs false
set_option maxRecDepth 100000
namespace Go.Proofs.YtncolficnfcdcaaGreat
open Go
section
theorem xd:Sw.Codec.kB Tryz.prog ids where
 bw a:=Sw.DP (f:=189) (recv:=.agg #[]) (λw=>by kernel_rfl) I1 ((),a,()) rfl
 Ru r a:=Sw.DP (f:=196) (recv:=.agg #[.int .i64 r]) (λw=>by kernel_rfl) NJ ((r,()),a,()) rfl
 bu a:=Sw.DP (f:=205) (recv:=.agg #[]) (λw=>by kernel_rfl) QV ((),a,()) rfl
 xk s a:=Sw.DP (f:=188) (recv:=.agg #[]) (λw=>by kernel_rfl) Tp ((),s,a,()) rfl
 a_ r s a:=Sw.DP (f:=195) (recv:=.agg #[.int .i64 r]) (λw=>by kernel_rfl) Pa ((r,()),s,a,()) rfl
 Di s a:=Sw.DP (f:=204) (recv:=.agg #[]) (λw=>by kernel_rfl) Tq ((),s,a,()) rfl
 nM s:=Sw.DP (f:=185) (recv:=.agg #[]) (λw=>by kernel_rfl) O4 ((),s,()) rfl
 gV r s:=Sw.DP (f:=192) (recv:=.agg #[.int .i64 r]) (λw=>by kernel_rfl) LI ((r,()),s,()) rfl
 Zo s:=Sw.DP (f:=201) (recv:=.agg #[]) (λw=>by kernel_rfl) O5 ((),s,()) rfl
 xf enc he:=by
  rcases Sw.Codec.rO he with rfl|rfl|rfl|rfl<;>exact λw=>by kernel_rfl
theorem clh:Sw.Hist.WT Tryz.prog ids where
 shut:=λb h R hw=>Q6 (b,()) h R hw
theorem clt:Sw.Piece.Ym Tryz.prog ids where
 it:=λy a b=>Sw.Ho (i:=66) (caps:=[.pointer a, .pointer b]) (args:=[y]) Ax (y,a,b,()) rfl
 wk:=λp i a b=>Sw.Ho (i:=67) (caps:=[.pointer a, .pointer b]) (args:=[.pointer p, .int .i64 i]) xG (p,i,a,b,()) rfl
 tags:=λa t p=>Sw.Ho (i:=61) (caps:=[.pointer p]) (args:=[.int .i64 a, .int .i64 t]) O2 (a,t,p,()) rfl
theorem clm:Sw.Hist.Sf Tryz.prog ids where
 cmp:=λx y=>Sw.Ho (i:=63) (caps:=[]) (args:=[.agg #[.int .i64 x.1, .int .i64 x.2.1], .agg #[.int .i64 y.1, .int .i64 y.2.1]]) Nr (x,y,()) rfl
theorem cl:Sw.Piece.Cl0 Tryz.prog ids where
 it:=λy a b=>Sw.Ho (i:=66) (caps:=[.pointer a, .pointer b]) (args:=[y]) Ax (y,a,b,()) rfl
 wk:=λp i a b=>Sw.Ho (i:=67) (caps:=[.pointer a, .pointer b]) (args:=[.pointer p, .int .i64 i]) xG (p,i,a,b,()) rfl
 atoms:=λa t p=>Sw.Ho (i:=60) (caps:=[.pointer p]) (args:=[.int .i64 a, .int .i64 t]) Nu (a,t,p,()) rfl
end
end Go.Proofs.YtncolficnfcdcaaGreat
