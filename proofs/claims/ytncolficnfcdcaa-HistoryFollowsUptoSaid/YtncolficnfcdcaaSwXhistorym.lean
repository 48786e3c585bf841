/-
  The methods of the coders and the function values of the text are their shallow programs.
-/
import Derived.Test.YtncolficnfcdcaaSwLhistory2m
import Derived.Test.YtncolficnfcdcaaSwG2
import Derived.Test.YtncolficnfcdcaaSwZ2
set_option maxRecDepth 100000
namespace Go.Proofs.Ytncolficnfcdcaa
open Go
theorem meth0 : Sw.Codec.Meth0 Try.prog ids where
 size8 a := Sw.inv_of (f := 100) (recv := .agg #[]) (fun w => by kernel_rfl) l_eight_size ((), a, ()) rfl
 size16 r a := Sw.inv_of (f := 107) (recv := .agg #[.int .i64 r]) (fun w => by kernel_rfl) l_sixteen_size ((r, ()), a, ()) rfl
 size1 a := Sw.inv_of (f := 116) (recv := .agg #[]) (fun w => by kernel_rfl) l_latin_size ((), a, ()) rfl
 put8 s a := Sw.inv_of (f := 99) (recv := .agg #[]) (fun w => by kernel_rfl) l_eight_put ((), s, a, ()) rfl
 put16 r s a := Sw.inv_of (f := 106) (recv := .agg #[.int .i64 r]) (fun w => by kernel_rfl) l_sixteen_put ((r, ()), s, a, ()) rfl
 put1 s a := Sw.inv_of (f := 115) (recv := .agg #[]) (fun w => by kernel_rfl) l_latin_put ((), s, a, ()) rfl
 first8 s := Sw.inv_of (f := 96) (recv := .agg #[]) (fun w => by kernel_rfl) l_eight_first ((), s, ()) rfl
 first16 r s := Sw.inv_of (f := 103) (recv := .agg #[.int .i64 r]) (fun w => by kernel_rfl) l_sixteen_first ((r, ()), s, ()) rfl
 first1 s := Sw.inv_of (f := 112) (recv := .agg #[]) (fun w => by kernel_rfl) l_latin_first ((), s, ()) rfl
 nilf enc he := by
  rcases Sw.Codec.known_cases he with rfl | rfl | rfl | rfl <;> exact fun w => by kernel_rfl
theorem clh : Sw.Hist.ClH Try.prog ids where
 shut := fun b h R hw => ld_Book_shut (b, ()) h R hw
theorem clt : Sw.Piece.Clt Try.prog ids where
 it := fun y a b => Sw.dyn_of (i := 51) (caps := [.pointer a, .pointer b]) (args := [y]) l_Tree_part_Items_1 (y, a, b, ()) rfl
 wk := fun p i a b => Sw.dyn_of (i := 52) (caps := [.pointer a, .pointer b]) (args := [.pointer p, .int .i64 i]) l_Tree_part_Items_1_1 (p, i, a, b, ()) rfl
 tags := fun a t p => Sw.dyn_of (i := 32) (caps := [.pointer p]) (args := [.int .i64 a, .int .i64 t]) l_Text_Tags_1 (a, t, p, ()) rfl
end Go.Proofs.Ytncolficnfcdcaa
