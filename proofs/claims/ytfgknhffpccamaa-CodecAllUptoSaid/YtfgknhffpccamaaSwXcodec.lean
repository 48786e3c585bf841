/-
  The methods of the coders are their shallow programs.
-/
import Derived.Test.YtfgknhffpccamaaSwLcodec2
import Derived.Test.YtfgknhffpccamaaSwC7
import Derived.Test.YtfgknhffpccamaaSwZ2
set_option maxRecDepth 100000
namespace Go.Proofs.Ytfgknhffpccamaa
open Go
theorem meth : Sw.Codec.Meth Try.prog ids where
  size8 a := Sw.inv_of (f := 110) (recv := .agg #[]) (fun w => by kernel_rfl) l_eight_size ((), a, ()) rfl
  size16 r a := Sw.inv_of (f := 115) (recv := .agg #[.int .i64 r]) (fun w => by kernel_rfl) l_sixteen_size ((r, ()), a, ()) rfl
  size1 a := Sw.inv_of (f := 124) (recv := .agg #[]) (fun w => by kernel_rfl) l_latin_size ((), a, ()) rfl
  put8 s a := Sw.inv_of (f := 109) (recv := .agg #[]) (fun w => by kernel_rfl) l_eight_put ((), s, a, ()) rfl
  put16 r s a := Sw.inv_of (f := 114) (recv := .agg #[.int .i64 r]) (fun w => by kernel_rfl) l_sixteen_put ((r, ()), s, a, ()) rfl
  put1 s a := Sw.inv_of (f := 123) (recv := .agg #[]) (fun w => by kernel_rfl) l_latin_put ((), s, a, ()) rfl
  first8 s := Sw.inv_of (f := 82) (recv := .agg #[]) (fun w => by kernel_rfl) l_eight_first ((), s, ()) rfl
  first16 r s := Sw.inv_of (f := 111) (recv := .agg #[.int .i64 r]) (fun w => by kernel_rfl) l_sixteen_first ((r, ()), s, ()) rfl
  first1 s := Sw.inv_of (f := 120) (recv := .agg #[]) (fun w => by kernel_rfl) l_latin_first ((), s, ()) rfl
  last8 s := Sw.inv_of (f := 108) (recv := .agg #[]) (fun w => by kernel_rfl) l_eight_last ((), s, ()) rfl
  last16 r s := Sw.inv_of (f := 113) (recv := .agg #[.int .i64 r]) (fun w => by kernel_rfl) l_sixteen_last ((r, ()), s, ()) rfl
  last1 s := Sw.inv_of (f := 122) (recv := .agg #[]) (fun w => by kernel_rfl) l_latin_last ((), s, ()) rfl
  held8 s := Sw.inv_of (f := 107) (recv := .agg #[]) (fun w => by kernel_rfl) l_eight_held ((), s, ()) rfl
  held16 r s := Sw.inv_of (f := 112) (recv := .agg #[.int .i64 r]) (fun w => by kernel_rfl) l_sixteen_held ((r, ()), s, ()) rfl
  held1 s := Sw.inv_of (f := 121) (recv := .agg #[]) (fun w => by kernel_rfl) l_latin_held ((), s, ()) rfl
  nils enc he := by
    rcases Sw.Codec.known_cases he with rfl | rfl | rfl | rfl <;> exact ⟨fun w => by kernel_rfl, fun w => by kernel_rfl⟩
end Go.Proofs.Ytfgknhffpccamaa
