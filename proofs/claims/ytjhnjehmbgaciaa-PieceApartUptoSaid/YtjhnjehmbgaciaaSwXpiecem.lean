/-
  The methods of the coders and the function values of the text are their shallow programs.
-/
import Derived.Test.YtjhnjehmbgaciaaSwLpiece3m
import Derived.Test.YtjhnjehmbgaciaaSwG2
import Derived.Test.YtjhnjehmbgaciaaSwZ2
set_option maxRecDepth 100000
namespace Go.Proofs.Ytjhnjehmbgaciaa
open Go
theorem meth0 : Sw.Codec.Meth0 Try.prog ids where
 size8 a := Sw.inv_of (f := 138) (recv := .agg #[]) (fun w => by kernel_rfl) l_eight_size ((), a, ()) rfl
 size16 r a := Sw.inv_of (f := 145) (recv := .agg #[.int .i64 r]) (fun w => by kernel_rfl) l_sixteen_size ((r, ()), a, ()) rfl
 size1 a := Sw.inv_of (f := 154) (recv := .agg #[]) (fun w => by kernel_rfl) l_latin_size ((), a, ()) rfl
 put8 s a := Sw.inv_of (f := 137) (recv := .agg #[]) (fun w => by kernel_rfl) l_eight_put ((), s, a, ()) rfl
 put16 r s a := Sw.inv_of (f := 144) (recv := .agg #[.int .i64 r]) (fun w => by kernel_rfl) l_sixteen_put ((r, ()), s, a, ()) rfl
 put1 s a := Sw.inv_of (f := 153) (recv := .agg #[]) (fun w => by kernel_rfl) l_latin_put ((), s, a, ()) rfl
 first8 s := Sw.inv_of (f := 134) (recv := .agg #[]) (fun w => by kernel_rfl) l_eight_first ((), s, ()) rfl
 first16 r s := Sw.inv_of (f := 141) (recv := .agg #[.int .i64 r]) (fun w => by kernel_rfl) l_sixteen_first ((r, ()), s, ()) rfl
 first1 s := Sw.inv_of (f := 150) (recv := .agg #[]) (fun w => by kernel_rfl) l_latin_first ((), s, ()) rfl
 nilf enc he := by
  rcases Sw.Codec.known_cases he with rfl | rfl | rfl | rfl <;> exact fun w => by kernel_rfl
theorem cl : Sw.Piece.Cl Try.prog ids where
 it := fun y a b => Sw.dyn_of (i := 78) (caps := [.pointer a, .pointer b]) (args := [y]) l_Tree_part_Items_1 (y, a, b, ()) rfl
 wk := fun p i a b => Sw.dyn_of (i := 79) (caps := [.pointer a, .pointer b]) (args := [.pointer p, .int .i64 i]) l_Tree_part_Items_1_1 (p, i, a, b, ()) rfl
 atoms := fun a t p => Sw.dyn_of (i := 71) (caps := [.pointer p]) (args := [.int .i64 a, .int .i64 t]) l_Text_Atoms_1 (a, t, p, ()) rfl
 tags := fun a t p => Sw.dyn_of (i := 83) (caps := [.pointer p]) (args := [.int .i64 a, .int .i64 t]) l_Text_Tags_1 (a, t, p, ()) rfl
 chunks := fun y a b => Sw.dyn_of (i := 46) (caps := [.pointer a, .pointer b]) (args := [y]) l_Text_Chunks_1 (y, a, b, ()) rfl
theorem cla : Sw.Piece.ClA Try.prog ids where
 qa := fun c a => Sw.dyn_of (i := 66) (caps := [.pointer a]) (args := [.slice c.base c.len c.cap]) l_quiet_ask_1 (c, a, ()) rfl
 ho := fun c a b => Sw.dyn_of (i := 69) (caps := [.pointer a, .pointer b]) (args := [.slice c.base c.len c.cap]) l_shelf_handOut_1 (c, a, b, ()) rfl
end Go.Proofs.Ytjhnjehmbgaciaa
