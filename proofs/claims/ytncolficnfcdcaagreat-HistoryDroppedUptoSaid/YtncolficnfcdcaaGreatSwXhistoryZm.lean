/-
  The methods of the coders and the function values of the text are their shallow programs.
-/
import Derived.Test.YtncolficnfcdcaaGreatSwLhistoryZ4m
import Derived.Test.YtncolficnfcdcaaGreatSwG3
import Derived.Test.YtncolficnfcdcaaGreatSwZ2
set_option maxRecDepth 100000
namespace Go.Proofs.YtncolficnfcdcaaGreat
open Go
theorem meth0:Sw.Codec.Meth0 Tryz.prog ids where
 size8 a:=Sw.inv_of (f:=189) (recv:=.agg #[]) (fun w=>by kernel_rfl) l_eight_size ((),a,()) rfl
 size16 r a:=Sw.inv_of (f:=196) (recv:=.agg #[.int .i64 r]) (fun w=>by kernel_rfl) l_sixteen_size ((r,()),a,()) rfl
 size1 a:=Sw.inv_of (f:=205) (recv:=.agg #[]) (fun w=>by kernel_rfl) l_latin_size ((),a,()) rfl
 put8 s a:=Sw.inv_of (f:=188) (recv:=.agg #[]) (fun w=>by kernel_rfl) l_eight_put ((),s,a,()) rfl
 put16 r s a:=Sw.inv_of (f:=195) (recv:=.agg #[.int .i64 r]) (fun w=>by kernel_rfl) l_sixteen_put ((r,()),s,a,()) rfl
 put1 s a:=Sw.inv_of (f:=204) (recv:=.agg #[]) (fun w=>by kernel_rfl) l_latin_put ((),s,a,()) rfl
 first8 s:=Sw.inv_of (f:=185) (recv:=.agg #[]) (fun w=>by kernel_rfl) l_eight_first ((),s,()) rfl
 first16 r s:=Sw.inv_of (f:=192) (recv:=.agg #[.int .i64 r]) (fun w=>by kernel_rfl) l_sixteen_first ((r,()),s,()) rfl
 first1 s:=Sw.inv_of (f:=201) (recv:=.agg #[]) (fun w=>by kernel_rfl) l_latin_first ((),s,()) rfl
 nilf enc he:=by
  rcases Sw.Codec.known_cases he with rfl | rfl | rfl | rfl <;> exact fun w=>by kernel_rfl
theorem clh:Sw.Hist.ClH Tryz.prog ids where
 shut:=fun b h R hw=>ld_Book_shut (b,()) h R hw
theorem clt:Sw.Piece.Clt Tryz.prog ids where
 it:=fun y a b=>Sw.dyn_of (i:=66) (caps:=[.pointer a, .pointer b]) (args:=[y]) l_Tree_part_Items_1 (y,a,b,()) rfl
 wk:=fun p i a b=>Sw.dyn_of (i:=67) (caps:=[.pointer a, .pointer b]) (args:=[.pointer p, .int .i64 i]) l_Tree_part_Items_1_1 (p,i,a,b,()) rfl
 tags:=fun a t p=>Sw.dyn_of (i:=61) (caps:=[.pointer p]) (args:=[.int .i64 a, .int .i64 t]) l_Text_Tags_1 (a,t,p,()) rfl
theorem clm:Sw.Hist.ClM Tryz.prog ids where
 cmp:=fun x y=>Sw.dyn_of (i:=63) (caps:=[]) (args:=[.agg #[.int .i64 x.1, .int .i64 x.2.1], .agg #[.int .i64 y.1, .int .i64 y.2.1]]) l_Book_Marks_1 (x,y,()) rfl
theorem cl:Sw.Piece.Cl0 Tryz.prog ids where
 it:=fun y a b=>Sw.dyn_of (i:=66) (caps:=[.pointer a, .pointer b]) (args:=[y]) l_Tree_part_Items_1 (y,a,b,()) rfl
 wk:=fun p i a b=>Sw.dyn_of (i:=67) (caps:=[.pointer a, .pointer b]) (args:=[.pointer p, .int .i64 i]) l_Tree_part_Items_1_1 (p,i,a,b,()) rfl
 atoms:=fun a t p=>Sw.dyn_of (i:=60) (caps:=[.pointer p]) (args:=[.int .i64 a, .int .i64 t]) l_Text_Atoms_1 (a,t,p,()) rfl
end Go.Proofs.YtncolficnfcdcaaGreat
