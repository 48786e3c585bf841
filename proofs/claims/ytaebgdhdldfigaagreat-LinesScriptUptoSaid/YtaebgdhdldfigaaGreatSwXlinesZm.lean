/-
  The methods of the coders and the function values of the text are their shallow programs.
-/
import Derived.Test.YtaebgdhdldfigaaGreatSwLlinesZ2m
import Derived.Test.YtaebgdhdldfigaaGreatSwG2
import Derived.Test.YtaebgdhdldfigaaGreatSwZ2
set_option maxRecDepth 100000
namespace Go.Proofs.YtaebgdhdldfigaaGreat
open Go
theorem meth0 : Sw.Codec.Meth0 Tryz.prog ids where
 size8 a := Sw.inv_of (f := 128) (recv := .agg #[]) (fun w => by kernel_rfl) l_eight_size ((), a, ()) rfl
 size16 r a := Sw.inv_of (f := 135) (recv := .agg #[.int .i64 r]) (fun w => by kernel_rfl) l_sixteen_size ((r, ()), a, ()) rfl
 size1 a := Sw.inv_of (f := 144) (recv := .agg #[]) (fun w => by kernel_rfl) l_latin_size ((), a, ()) rfl
 put8 s a := Sw.inv_of (f := 127) (recv := .agg #[]) (fun w => by kernel_rfl) l_eight_put ((), s, a, ()) rfl
 put16 r s a := Sw.inv_of (f := 134) (recv := .agg #[.int .i64 r]) (fun w => by kernel_rfl) l_sixteen_put ((r, ()), s, a, ()) rfl
 put1 s a := Sw.inv_of (f := 143) (recv := .agg #[]) (fun w => by kernel_rfl) l_latin_put ((), s, a, ()) rfl
 first8 s := Sw.inv_of (f := 124) (recv := .agg #[]) (fun w => by kernel_rfl) l_eight_first ((), s, ()) rfl
 first16 r s := Sw.inv_of (f := 131) (recv := .agg #[.int .i64 r]) (fun w => by kernel_rfl) l_sixteen_first ((r, ()), s, ()) rfl
 first1 s := Sw.inv_of (f := 140) (recv := .agg #[]) (fun w => by kernel_rfl) l_latin_first ((), s, ()) rfl
 nilf enc he := by
  rcases Sw.Codec.known_cases he with rfl | rfl | rfl | rfl <;> exact fun w => by kernel_rfl
theorem cl : Sw.Piece.Cl0 Tryz.prog ids where
 it := fun y a b => Sw.dyn_of (i := 94) (caps := [.pointer a, .pointer b]) (args := [y]) l_Tree_part_Items_1 (y, a, b, ()) rfl
 wk := fun p i a b => Sw.dyn_of (i := 95) (caps := [.pointer a, .pointer b]) (args := [.pointer p, .int .i64 i]) l_Tree_part_Items_1_1 (p, i, a, b, ()) rfl
 atoms := fun a t p => Sw.dyn_of (i := 74) (caps := [.pointer p]) (args := [.int .i64 a, .int .i64 t]) l_Text_Atoms_1 (a, t, p, ()) rfl
theorem cll : Sw.Piece.ClL Tryz.prog ids where
 all := fun y a => Sw.dyn_of (i := 79) (caps := [.pointer a]) (args := [y]) l_lines_All_1 (y, a, ()) rfl
theorem cly : Sw.Piece.ClY Tryz.prog ids where
 y1 := fun k x a => Sw.dyn_of (i := 52) (caps := [.pointer a]) (args := Sw.Ts.inj [.one (.int .i64), Sw.Piece.t4] (k, x, ())) l_Both_alls_1 (k, x, a, ()) rfl
 y2 := fun k x a => Sw.dyn_of (i := 54) (caps := [.pointer a]) (args := Sw.Ts.inj [.one (.int .i64), Sw.Piece.t4] (k, x, ())) l_Both_alls_2 (k, x, a, ()) rfl
 y3 := fun k x a b c => Sw.dyn_of (i := 55) (caps := [.pointer a, .pointer b, .pointer c]) (args := Sw.Ts.inj [.one (.int .i64), Sw.Piece.t4] (k, x, ())) l_Both_alls_3 (k, x, a, b, c, ()) rfl
 y4 := fun k x a => Sw.dyn_of (i := 56) (caps := [.pointer a]) (args := Sw.Ts.inj [.one (.int .i64), Sw.Piece.t4] (k, x, ())) l_Both_alls_3_1 (k, x, a, ()) rfl
end Go.Proofs.YtaebgdhdldfigaaGreat
