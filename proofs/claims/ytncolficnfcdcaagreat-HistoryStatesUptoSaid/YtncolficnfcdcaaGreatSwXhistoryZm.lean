
/- Steps. -/
import Derived.Test.YtncolficnfcdcaaGreatSwLhistoryZ4m
import Derived.Test.YtncolficnfcdcaaGreatSwG4
import Derived.Test.YtncolficnfcdcaaGreatSwZ2
set_option linter.unusedVariables false
set_option linter.unusedSimpArgs false
set_option maxRecDepth 100000
namespace Go.Proofs.YtncolficnfcdcaaGreat
open Go
section
theorem ry:Sw.Codec.jM Tryz.prog ids where
 ZG a:=Sw.Dv (f:=189) (recv:=.agg #[]) (λw=>by kernel_rfl) IB ((),a,()) rfl
 QV r a:=Sw.Dv (f:=196) (recv:=.agg #[.int .i64 r]) (λw=>by kernel_rfl) Nb ((r,()),a,()) rfl
 ZF a:=Sw.Dv (f:=205) (recv:=.agg #[]) (λw=>by kernel_rfl) Qn ((),a,()) rfl
 sq s a:=Sw.Dv (f:=188) (recv:=.agg #[]) (λw=>by kernel_rfl) SK ((),s,a,()) rfl
 Zh r s a:=Sw.Dv (f:=195) (recv:=.agg #[.int .i64 r]) (λw=>by kernel_rfl) OB ((r,()),s,a,()) rfl
 CW s a:=Sw.Dv (f:=204) (recv:=.agg #[]) (λw=>by kernel_rfl) SL ((),s,a,()) rfl
 nB s:=Sw.Dv (f:=185) (recv:=.agg #[]) (λw=>by kernel_rfl) Ou ((),s,()) rfl
 gB r s:=Sw.Dv (f:=192) (recv:=.agg #[.int .i64 r]) (λw=>by kernel_rfl) Lf ((r,()),s,()) rfl
 Yw s:=Sw.Dv (f:=201) (recv:=.agg #[]) (λw=>by kernel_rfl) Ov ((),s,()) rfl
 sc enc he:=by
  rcases Sw.Codec.rA he with rfl|rfl|rfl|rfl<;>exact λw=>by kernel_rfl
theorem xl:Sw.Hist.V8 Tryz.prog ids where
 shut:=λb h R hw=>Qz (b,()) h R hw
theorem xm:Sw.Piece.Xv Tryz.prog ids where
 it:=λy a b=>Sw.JC (i:=66) (caps:=[.pointer a, .pointer b]) (args:=[y]) Af (y,a,b,()) rfl
 wk:=λp i a b=>Sw.JC (i:=67) (caps:=[.pointer a, .pointer b]) (args:=[.pointer p, .int .i64 i]) wQ (p,i,a,b,()) rfl
 tags:=λa t p=>Sw.JC (i:=61) (caps:=[.pointer p]) (args:=[.int .i64 a, .int .i64 t]) Oq (a,t,p,()) rfl
theorem cl:Sw.Piece.Cl0 Tryz.prog ids where
 it:=λy a b=>Sw.JC (i:=66) (caps:=[.pointer a, .pointer b]) (args:=[y]) Af (y,a,b,()) rfl
 wk:=λp i a b=>Sw.JC (i:=67) (caps:=[.pointer a, .pointer b]) (args:=[.pointer p, .int .i64 i]) wQ (p,i,a,b,()) rfl
 atoms:=λa t p=>Sw.JC (i:=60) (caps:=[.pointer p]) (args:=[.int .i64 a, .int .i64 t]) MR (a,t,p,()) rfl
end
end Go.Proofs.YtncolficnfcdcaaGreat
