/-
  Codec: the law CodecMarks.
-/
import Derived.Test.YtfgknhffpccamaaSwC4
set_option linter.unusedVariables false
set_option linter.unusedSimpArgs false
set_option maxRecDepth 100000
namespace Go.Sw.Codec
variable {P : Program} {S : Ids} {h : Heap} {Q : Nat → List Value → Heap → Prop}

theorem Lent.ext {n : Nat} {k : IntKind} {M : Int → Int} {l : List Int} {x : Sl × Unit} {h' : Heap} (hl : Lent n k M l x h) (e : Ext h h') : Lent n k M l x h' := ⟨hl.1, hl.2.1, hl.2.2.ext e⟩

/-- What was lent, cut to what is handed in. -/
theorem Lent.part {n : Nat} {k : IntKind} {M : Int → Int} {l : List Int} {x : Sl × Unit} (hl : Lent n k M l x h) : Lst k h ⟨x.1.base, l.length, x.1.cap⟩ l :=
  lent_take hl _ (by have := hl.1; omega) hl.2.2.own.2.2.1
theorem OwnL.part {n m : Nat} {k : IntKind} {s : Sl} {l r : List Int} (hl : OwnL n k h s (l ++ r)) (hm : m = l.length) : Lst k h ⟨s.base, m, s.cap⟩ l := by
  subst hm; exact hl.pre.lst

theorem s_leB {i : Int} {n : Nat} {X : Prog} (h0 : 0 ≤ i) (h1 : i ≤ n) (hk : wp P X h Q) : wp P (grd (leB i n) X) h Q := s_grd (leB_ok h0 h1) hk

theorem c_marked {enc : Int} {b : Sl} {l : List Int} (hb : Lst .u8 h b l) (hl : l.length ≤ 1099511627776) : Gives P (F_law1_marked S enc b) [.one .bool] h fun (x : Bool × Unit) _ => x.1 = Bool.true := by
  have hlb := hb.len
  unfold F_law1_marked
  refine wp_call (c_Mark enc) fun m h1 e1 hm => wp_call (c_lend (hb.ext e1) (by omega)) fun c h2 e2 hc => ?_
  have hc1 := hc.1
  have hb2 := (hb.ext e1).ext e2
  simp only [cutBase_zero, subZero, natTo, hlb]
  refine s_leB (by simp [natI]) (by rw [natI_def]; omega) (wp_call (c_Detect hc.part) fun x h3 e3 hx => wp_call (c_ref_Detect (hb2.ext e3) (by omega)) fun y h4 e4 hy => ?_)
  have e04 := ((e1.trans e2).trans e3).trans e4
  have hm : OwnL h.size .u8 h1 m.1 (markF enc) := hm
  refine bind_bool False ?_ fun c' h5 e5 hc' => wp_ifB (fun h => (hc'.1 h).elim) fun _ => ?_
  · refine wp_call (c_ref_Mark enc) fun z h5 e5 hz => wp_call (c_sameBytes ((((hm.ext e2).ext e3).ext e4).ext e5).lst hz.lst) fun w h6 e6 hw => ?_
    have hw : w.1 = true := by rw [hw]; simp
    have hxy : (x.1, x.2.1) = (y.1, y.2.1) := Eq.trans hx (Eq.symm hy)
    have hxy1 : x.1 = y.1 := (Prod.mk.inj hxy).1
    have hxy2 : x.2.1 = y.2.1 := (Prod.mk.inj hxy).2
    refine wp_ifB (fun hn => by rw [notB_iff, hw] at hn; cases hn) fun _ => wp_ifB (fun hn => by rw [neI_iff] at hn; exact absurd hxy1 hn) fun _ => wp_ifB (fun hn => by rw [neI_iff] at hn; exact absurd hxy2 hn) fun _ => ?_
    refine wp_call (c_kept ((((hc.ext e3).ext e4).ext e5).ext e6) ((((hb2.ext e3).ext e4).ext e5).ext e6)) fun v h7 e7 hv => s_ret ⟨rfl, (e5.trans e6).trans e7, _, rfl, ?_⟩
    have hv : v.1 = true := hv
    simp [hv, notB]
  · have ho := (((hc.ext e3).ext e4).ext e5).2.2
    refine wp_callN (c_turned (n := l.length) ho (by have := e2.size; have := e3.size; have := e4.size; have := e5.size; omega) (by rw [List.length_append]; omega) (by omega)) fun z h6 k6 ⟨l', hl', ho', hz⟩ => ?_
    have hp := OwnL.part ho' hl'.symm
    refine s_leB (by simp [natI]) (by rw [natI_def]; omega) (wp_call (c_Detect hp) fun x h7 e7 hx => wp_call (c_ref_Detect (hz.ext e7) (by omega)) fun y h8 e8 hy => ?_)
    have hxy : (x.1, x.2.1) = (y.1, y.2.1) := Eq.trans hx (Eq.symm hy)
    have hxy1 : x.1 = y.1 := (Prod.mk.inj hxy).1
    have hxy2 : x.2.1 = y.2.1 := (Prod.mk.inj hxy).2
    have e08 : Keep h.size h h8 := Keep.trans (Keep.trans e04 (Keep.trans (e5.keep e04.size) (k6.mono e1.size))) (Keep.trans (e7.keep (by have := e04.size; have := e5.size; have := k6.1; omega)) (e8.keep (by have := e04.size; have := e5.size; have := k6.1; have := e7.size; omega)))
    refine bind_bool True ?_ fun c' h9 e9 hc' => s_ret ⟨rfl, Keep.trans e08 (e9.keep e08.size), _, rfl, hc'.2 trivial⟩
    refine wp_ifB (fun hn => ?_) fun hn => by rw [eqI_not] at hn; exact absurd hxy1 hn
    exact s_ret ⟨rfl, Ext.refl _, _, rfl, by simp [eqI_iff, hxy2]⟩

theorem c_CodecMarks {enc : Int} {b : Sl} {l : List Int} (hb : Lst .u8 h b l) (hl : l.length ≤ 1099511627776) : Gives P (F_law1_CodecMarks S enc b) [.one .bool] h fun (x : Bool × Unit) _ => x.1 = Bool.true := by
  unfold F_law1_CodecMarks
  refine bind_bool True ?_ fun c' h9 e9 hc' => s_ret ⟨rfl, e9, _, rfl, hc'.2 trivial⟩
  refine s_alloc fun el => ?_
  have e1 := Ext.push h (Array.mk [Value.int IntKind.u8 254, Value.int IntKind.u8 255]) el
  refine wp_call (c_marked (l := [254, 255]) (lst_alloc' (l := [254, 255]) rfl rfl (bytes_fit rfl) (by decide)).lst (by decide)) fun x h2 e2 hx => wp_ifB (fun _ => ?_) fun hn => no_tf hx hn
  exact wp_call (c_marked ((hb.ext e1).ext e2) hl) fun y h3 e3 hy => s_ret ⟨rfl, (e1.trans e2).trans e3, _, rfl, by rw [hy]; simp⟩
end Go.Sw.Codec
