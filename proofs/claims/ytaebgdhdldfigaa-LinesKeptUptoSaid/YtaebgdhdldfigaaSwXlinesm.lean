/-
  The methods of the coders and the function values of the text are their shallow programs.
-/
import Derived.Test.YtaebgdhdldfigaaSwLlines2m
import Derived.Test.YtaebgdhdldfigaaSwG1
import Derived.Test.YtaebgdhdldfigaaSwZ2
set_option maxRecDepth 100000
namespace Go.Proofs.Ytaebgdhdldfigaa
open Go
theorem meth0 : Sw.Codec.Meth0 Try.prog ids where
 size8 a := Sw.inv_of (f := 123) (recv := .agg #[]) (fun w => by kernel_rfl) l_eight_size ((), a, ()) rfl
 size16 r a := Sw.inv_of (f := 130) (recv := .agg #[.int .i64 r]) (fun w => by kernel_rfl) l_sixteen_size ((r, ()), a, ()) rfl
 size1 a := Sw.inv_of (f := 139) (recv := .agg #[]) (fun w => by kernel_rfl) l_latin_size ((), a, ()) rfl
 put8 s a := Sw.inv_of (f := 122) (recv := .agg #[]) (fun w => by kernel_rfl) l_eight_put ((), s, a, ()) rfl
 put16 r s a := Sw.inv_of (f := 129) (recv := .agg #[.int .i64 r]) (fun w => by kernel_rfl) l_sixteen_put ((r, ()), s, a, ()) rfl
 put1 s a := Sw.inv_of (f := 138) (recv := .agg #[]) (fun w => by kernel_rfl) l_latin_put ((), s, a, ()) rfl
 first8 s := Sw.inv_of (f := 119) (recv := .agg #[]) (fun w => by kernel_rfl) l_eight_first ((), s, ()) rfl
 first16 r s := Sw.inv_of (f := 126) (recv := .agg #[.int .i64 r]) (fun w => by kernel_rfl) l_sixteen_first ((r, ()), s, ()) rfl
 first1 s := Sw.inv_of (f := 135) (recv := .agg #[]) (fun w => by kernel_rfl) l_latin_first ((), s, ()) rfl
 nilf enc he := by
  rcases Sw.Codec.known_cases he with rfl | rfl | rfl | rfl <;> exact fun w => by kernel_rfl
theorem cl : Sw.Piece.Cl1 Try.prog ids where
 it := fun y a b => Sw.dyn_of (i := 81) (caps := [.pointer a, .pointer b]) (args := [y]) l_Tree_part_Items_1 (y, a, b, ()) rfl
 wk := fun p i a b => Sw.dyn_of (i := 82) (caps := [.pointer a, .pointer b]) (args := [.pointer p, .int .i64 i]) l_Tree_part_Items_1_1 (p, i, a, b, ()) rfl
 atoms := fun a t p => Sw.dyn_of (i := 51) (caps := [.pointer p]) (args := [.int .i64 a, .int .i64 t]) l_Text_Atoms_1 (a, t, p, ()) rfl
 tags := fun a t p => Sw.dyn_of (i := 47) (caps := [.pointer p]) (args := [.int .i64 a, .int .i64 t]) l_Text_Tags_1 (a, t, p, ()) rfl
theorem cll : Sw.Piece.ClL Try.prog ids where
 all := fun y a => Sw.dyn_of (i := 52) (caps := [.pointer a]) (args := [y]) l_lines_All_1 (y, a, ()) rfl
end Go.Proofs.Ytaebgdhdldfigaa
