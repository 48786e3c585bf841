/-
  The methods of the coders and the function values of the text are their shallow programs.
-/
import Derived.Test.YtncolficnfcdcaaSwLhistory2m
import Derived.Test.YtncolficnfcdcaaSwG2
import Derived.Test.YtncolficnfcdcaaSwZ2
set_option maxRecDepth 100000
namespace Go.Proofs.Ytncolficnfcdcaa
open Go
theorem meth0 : Sw.Codec.Meth0 Try.prog ids where
 size8 a := Sw.inv_of (f := 100) (recv := .agg #[]) (fun w => by kernel_rfl) l_eight_size ((), a, ()) rfl
 size16 r a := Sw.inv_of (f := 107) (recv := .agg #[.int .i64 r]) (fun w => by kernel_rfl) l_sixteen_size ((r, ()), a, ()) rfl
 size1 a := Sw.inv_of (f := 116) (recv := .agg #[]) (fun w => by kernel_rfl) l_latin_size ((), a, ()) rfl
 put8 s a := Sw.inv_of (f := 99) (recv := .agg #[]) (fun w => by kernel_rfl) l_eight_put ((), s, a, ()) rfl
 put16 r s a := Sw.inv_of (f := 106) (recv := .agg #[.int .i64 r]) (fun w => by kernel_rfl) l_sixteen_put ((r, ()), s, a, ()) rfl
 put1 s a := Sw.inv_of (f := 115) (recv := .agg #[]) (fun w => by kernel_rfl) l_latin_put ((), s, a, ()) rfl
 first8 s := Sw.inv_of (f := 96) (recv := .agg #[]) (fun w => by kernel_rfl) l_eight_first ((), s, ()) rfl
 first16 r s := Sw.inv_of (f := 103) (recv := .agg #[.int .i64 r]) (fun w => by kernel_rfl) l_sixteen_first ((r, ()), s, ()) rfl
 first1 s := Sw.inv_of (f := 112) (recv := .agg #[]) (fun w => by kernel_rfl) l_latin_first ((), s, ()) rfl
 nilf enc he := by
  rcases Sw.Codec.known_cases he with rfl | rfl | rfl | rfl <;> exact fun w => by kernel_rfl
theorem clh : Sw.Hist.ClH Try.prog ids where
 shut := fun b h R hw => ld_Book_shut (b, ()) h R hw
end Go.Proofs.Ytncolficnfcdcaa
