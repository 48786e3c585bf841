/-
  Each function of the cut does what its shallow program says (the text is printed by program).
-/
import Derived.Test.YtncolficnfcdcaaSwLhistory1m
set_option maxRecDepth 100000
set_option maxHeartbeats 4000000
set_option linter.unusedVariables false
namespace Go.Proofs.Ytncolficnfcdcaa
open Go Go.Sw
noncomputable section
def e_codec_high : Shallow := ⟨[tI], [tB], fun x => F_codec_high ids x.1⟩
def an_codec_high : Ann := { order := Sw.look [], reg := Sw.look [], join := Sw.look [], loop := Sw.look [], blk := Sw.lookL [], res := [(2, tB)], anys := [] }
theorem l_codec_high : FnOk Try.prog 109 e_codec_high :=
 fn_ok mixed (l := []) trivial (An := an_codec_high) Try.func109 (c := Try.f109.body.getD .skip) (by kernel_rfl) Try.ntmps109 (by kernel_rfl) (fun _ _ => Try.call109 _ _) _ (by kernel_rfl) (fun x => by kernel_rfl) (by kernel_rfl)
def e_codec_low : Shallow := ⟨[tI], [tB], fun x => F_codec_low ids x.1⟩
def an_codec_low : Ann := { order := Sw.look [], reg := Sw.look [], join := Sw.look [], loop := Sw.look [], blk := Sw.lookL [], res := [(2, tB)], anys := [] }
theorem l_codec_low : FnOk Try.prog 110 e_codec_low :=
 fn_ok mixed (l := []) trivial (An := an_codec_low) Try.func110 (c := Try.f110.body.getD .skip) (by kernel_rfl) Try.ntmps110 (by kernel_rfl) (fun _ _ => Try.call110 _ _) _ (by kernel_rfl) (fun x => by kernel_rfl) (by kernel_rfl)
def e_sixteen_first : Shallow := ⟨[(.agg [bI]), tS], [tI, tI], fun x => F_sixteen_first ids x.1 x.2.1⟩
def an_sixteen_first : Ann := { order := Sw.look [(5, ([[0, 1, 2, 3, 4]], []))], reg := Sw.look [(4, ([(25, tB)], [1, 2, 6]))], join := Sw.look [(8, ([], [6]))], loop := Sw.look [], blk := Sw.lookL [], res := [(4, tI), (5, tI)], anys := [] }
theorem l_sixteen_first : FnOk Try.prog 103 e_sixteen_first :=
 fn_ok mixed (l := [(108, e_sixteen_unit), (109, e_codec_high), (110, e_codec_low)]) ⟨l_sixteen_unit, l_codec_high, l_codec_low, trivial⟩ (An := an_sixteen_first) Try.func103 (c := Try.f103.body.getD .skip) (by kernel_rfl) Try.ntmps103 (by kernel_rfl) (fun _ _ => Try.call103 _ _) _ (by kernel_rfl) (fun x => by kernel_rfl) (by kernel_rfl)
def e_sixteen_half : Shallow := ⟨[(.agg [bI]), tS, tI], [tS], fun x => F_sixteen_half ids x.1 x.2.1 x.2.2.1⟩
def an_sixteen_half : Ann := { order := Sw.look [(2, ([[0, 1, 2, 3, 4, 5, 6, 7, 8, 9, 10, 11, 12, 13]], [(3, 11)]))], reg := Sw.look [], join := Sw.look [], loop := Sw.look [], blk := Sw.lookL [], res := [(6, tS)], anys := [] }
theorem l_sixteen_half : FnOk Try.prog 111 e_sixteen_half :=
 fn_ok mixed (l := []) trivial (An := an_sixteen_half) Try.func111 (c := Try.f111.body.getD .skip) (by kernel_rfl) Try.ntmps111 (by kernel_rfl) (fun _ _ => Try.call111 _ _) _ (by kernel_rfl) (fun x => by kernel_rfl) (by kernel_rfl)
def e_sixteen_put : Shallow := ⟨[(.agg [bI]), tS, tI], [tS], fun x => F_sixteen_put ids x.1 x.2.1 x.2.2.1⟩
def an_sixteen_put : Ann := { order := Sw.look [(5, ([[0, 1, 2, 3, 4, 5, 6, 8, 9, 10, 7, 11, 12]], [(0, 7)]))], reg := Sw.look [], join := Sw.look [], loop := Sw.look [], blk := Sw.lookL [(0, [])], res := [(6, tS)], anys := [] }
theorem l_sixteen_put : FnOk Try.prog 106 e_sixteen_put :=
 fn_ok mixed (l := [(111, e_sixteen_half)]) ⟨l_sixteen_half, trivial⟩ (An := an_sixteen_put) Try.func106 (c := Try.f106.body.getD .skip) (by kernel_rfl) Try.ntmps106 (by kernel_rfl) (fun _ _ => Try.call106 _ _) _ (by kernel_rfl) (fun x => by kernel_rfl) (by kernel_rfl)
def e_sixteen_size : Shallow := ⟨[(.agg [bI]), tI], [tI], fun x => F_sixteen_size ids x.1 x.2.1⟩
def an_sixteen_size : Ann := { order := Sw.look [], reg := Sw.look [(1, ([(5, tB)], [1]))], join := Sw.look [], loop := Sw.look [], blk := Sw.lookL [(0, [])], res := [(4, tI)], anys := [] }
theorem l_sixteen_size : FnOk Try.prog 107 e_sixteen_size :=
 fn_ok mixed (l := []) trivial (An := an_sixteen_size) Try.func107 (c := Try.f107.body.getD .skip) (by kernel_rfl) Try.ntmps107 (by kernel_rfl) (fun _ _ => Try.call107 _ _) _ (by kernel_rfl) (fun x => by kernel_rfl) (by kernel_rfl)
def e_latin_first : Shallow := ⟨[(.agg []), tS], [tI, tI], fun x => F_latin_first ids x.1 x.2.1⟩
def an_latin_first : Ann := { order := Sw.look [], reg := Sw.look [], join := Sw.look [], loop := Sw.look [], blk := Sw.lookL [], res := [(4, tI), (5, tI)], anys := [] }
theorem l_latin_first : FnOk Try.prog 112 e_latin_first :=
 fn_ok mixed (l := []) trivial (An := an_latin_first) Try.func112 (c := Try.f112.body.getD .skip) (by kernel_rfl) Try.ntmps112 (by kernel_rfl) (fun _ _ => Try.call112 _ _) _ (by kernel_rfl) (fun x => by kernel_rfl) (by kernel_rfl)
def e_latin_put : Shallow := ⟨[(.agg []), tS, tI], [tS], fun x => F_latin_put ids x.1 x.2.1 x.2.2.1⟩
def an_latin_put : Ann := { order := Sw.look [], reg := Sw.look [], join := Sw.look [], loop := Sw.look [], blk := Sw.lookL [], res := [(6, tS)], anys := [] }
theorem l_latin_put : FnOk Try.prog 115 e_latin_put :=
 fn_ok mixed (l := []) trivial (An := an_latin_put) Try.func115 (c := Try.f115.body.getD .skip) (by kernel_rfl) Try.ntmps115 (by kernel_rfl) (fun _ _ => Try.call115 _ _) _ (by kernel_rfl) (fun x => by kernel_rfl) (by kernel_rfl)
def e_latin_size : Shallow := ⟨[(.agg []), tI], [tI], fun x => F_latin_size ids x.1 x.2.1⟩
def an_latin_size : Ann := { order := Sw.look [], reg := Sw.look [(1, ([(10, tB)], []))], join := Sw.look [], loop := Sw.look [], blk := Sw.lookL [], res := [(4, tI)], anys := [] }
theorem l_latin_size : FnOk Try.prog 116 e_latin_size :=
 fn_ok mixed (l := []) trivial (An := an_latin_size) Try.func116 (c := Try.f116.body.getD .skip) (by kernel_rfl) Try.ntmps116 (by kernel_rfl) (fun _ _ => Try.call116 _ _) _ (by kernel_rfl) (fun x => by kernel_rfl) (by kernel_rfl)
end
end Go.Proofs.Ytncolficnfcdcaa
