/-
  The methods of the coders and the function values of the text are their shallow programs.
-/
import Derived.Test.YtjhnjehmbgaciaaGreatSwLpieceZ2m
import Derived.Test.YtjhnjehmbgaciaaGreatSwG2
import Derived.Test.YtjhnjehmbgaciaaGreatSwZ2
set_option maxRecDepth 100000
namespace Go.Proofs.YtjhnjehmbgaciaaGreat
open Go
theorem meth0 : Sw.Codec.Meth0 Tryz.prog ids where
 size8 a := Sw.inv_of (f := 127) (recv := .agg #[]) (fun w => by kernel_rfl) l_eight_size ((), a, ()) rfl
 size16 r a := Sw.inv_of (f := 134) (recv := .agg #[.int .i64 r]) (fun w => by kernel_rfl) l_sixteen_size ((r, ()), a, ()) rfl
 size1 a := Sw.inv_of (f := 143) (recv := .agg #[]) (fun w => by kernel_rfl) l_latin_size ((), a, ()) rfl
 put8 s a := Sw.inv_of (f := 126) (recv := .agg #[]) (fun w => by kernel_rfl) l_eight_put ((), s, a, ()) rfl
 put16 r s a := Sw.inv_of (f := 133) (recv := .agg #[.int .i64 r]) (fun w => by kernel_rfl) l_sixteen_put ((r, ()), s, a, ()) rfl
 put1 s a := Sw.inv_of (f := 142) (recv := .agg #[]) (fun w => by kernel_rfl) l_latin_put ((), s, a, ()) rfl
 first8 s := Sw.inv_of (f := 123) (recv := .agg #[]) (fun w => by kernel_rfl) l_eight_first ((), s, ()) rfl
 first16 r s := Sw.inv_of (f := 130) (recv := .agg #[.int .i64 r]) (fun w => by kernel_rfl) l_sixteen_first ((r, ()), s, ()) rfl
 first1 s := Sw.inv_of (f := 139) (recv := .agg #[]) (fun w => by kernel_rfl) l_latin_first ((), s, ()) rfl
 nilf enc he := by
  rcases Sw.Codec.known_cases he with rfl | rfl | rfl | rfl <;> exact fun w => by kernel_rfl
theorem cl : Sw.Piece.Cl Tryz.prog ids where
 it := fun y a b => Sw.dyn_of (i := 79) (caps := [.pointer a, .pointer b]) (args := [y]) l_Tree_part_Items_1 (y, a, b, ()) rfl
 wk := fun p i a b => Sw.dyn_of (i := 80) (caps := [.pointer a, .pointer b]) (args := [.pointer p, .int .i64 i]) l_Tree_part_Items_1_1 (p, i, a, b, ()) rfl
 atoms := fun a t p => Sw.dyn_of (i := 46) (caps := [.pointer p]) (args := [.int .i64 a, .int .i64 t]) l_Text_Atoms_1 (a, t, p, ()) rfl
 tags := fun a t p => Sw.dyn_of (i := 47) (caps := [.pointer p]) (args := [.int .i64 a, .int .i64 t]) l_Text_Tags_1 (a, t, p, ()) rfl
 chunks := fun y a b => Sw.dyn_of (i := 84) (caps := [.pointer a, .pointer b]) (args := [y]) l_Text_Chunks_1 (y, a, b, ()) rfl
theorem clw : Sw.Piece.ClW Tryz.prog ids where
 wc := fun c x1 x2 x3 x4 x5 => Sw.dyn_of (i := 59) (caps := [.pointer x1, .pointer x2, .pointer x3, .pointer x4, .pointer x5]) (args := [.slice c.base c.len c.cap]) l_world_chunks_1 (c, x1, x2, x3, x4, x5, ()) rfl
end Go.Proofs.YtjhnjehmbgaciaaGreat
