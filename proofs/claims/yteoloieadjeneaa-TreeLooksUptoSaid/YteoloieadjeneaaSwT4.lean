/-
  Tree: the law TreeRuns.
-/
import Derived.Test.YteoloieadjeneaaSwT3
set_option linter.unusedVariables false
set_option linter.unusedSimpArgs false
set_option maxRecDepth 100000
namespace Go.Sw.Tree
variable {P : Program} {S : Ids} {h : Heap} {Q : Nat → List Value → Heap → Prop}

/-- One object of four numbers that is new. -/
theorem s_put4 (s : R4) {K : Addr → Prog} (hf : ∀ x, x ∈ [s.1, s.2.1, s.2.2.1, s.2.2.2.1] → fitsI .i64 x) (hk : ∀ h', Ext h h' → obj h.size h' ⟨h.size, 0, none⟩ s → wp P (K ⟨h.size, 0, none⟩) h' Q) :
    wp P (.alloc [.int .i64 0, .int .i64 0, .int .i64 0, .int .i64 0] fun a => .store (some a) [.int .i64 s.1, .int .i64 s.2.1, .int .i64 s.2.2.1, .int .i64 s.2.2.2.1] (K a)) h Q :=
  s_zero4 fun h1 e1 o1 => s_store4 s o1 hf fun h2 o2 u2 => hk h2 (Upd.extN e1 u2 (by intro a ha; cases ha; exact Nat.le_refl _)) o2

/-- What is told by the address of an object. -/
def Told (h0 : Heap) (s : R4) (t : Nat) (vs : List Value) (h' : Heap) : Prop := t = 0 ∧ ∃ p : Addr, vs = [.pointer (some p)] ∧ Ext h0 h' ∧ obj h0.size h' p s

theorem s_told {h0 : Heap} {n : Nat} {a : Addr} {t : R4} (s : R4) (ho : obj n h a t) (hn : h0.size ≤ n) (hf : ∀ x, x ∈ [s.1, s.2.1, s.2.2.1, s.2.2.2.1] → fitsI .i64 x) (e : Ext h0 h) :
    wp P (.store (some a) [.int .i64 s.1, .int .i64 s.2.1, .int .i64 s.2.2.1, .int .i64 s.2.2.2.1] <| .ret 0 [.pointer (some a)]) h (Told h0 s) :=
  s_store4 s ho hf fun h' o u => s_ret ⟨rfl, a, rfl, Upd.extN e u fun b hb => Nat.le_trans hn (ho.base b hb), o.mono hn⟩

theorem c_TreeRuns {a b c : Sl} {la lb lc : List (Int × Int)} (ha : Runs h a la) (hb : Runs h b lb) (hc : Runs h c lc) : Gives P (F_law4_TreeRuns S a b c) [.one .bool] h fun (x : Bool × Unit) _ => x.1 = true := by
  have na := ha.len; have nb := hb.len; have nc := hc.len
  unfold F_law4_TreeRuns Gives
  refine bind_bool (1099511627776 < la.length ∨ 1099511627776 < lb.length ∨ 1099511627776 < lc.length) ?_ fun big h1 e1 hbig => ?_
  · refine wp_ifB (fun hx => ?_) fun hx => ?_
    · rw [gtI_iff, natI_def, na] at hx
      exact s_ret ⟨rfl, Ext.refl _, true, rfl, fun _ => .inl (by omega), fun _ => rfl⟩
    · rw [gtI_not, natI_def, na] at hx
      refine wp_ifB (fun hy => ?_) fun hy => ?_
      · rw [gtI_iff, natI_def, nb] at hy
        exact s_ret ⟨rfl, Ext.refl _, true, rfl, fun _ => .inr (.inl (by omega)), fun _ => rfl⟩
      · rw [gtI_not, natI_def, nb] at hy
        refine s_ret ⟨rfl, Ext.refl _, gtI (natI c.len) 1099511627776, rfl, ?_⟩
        rw [gtI_iff, natI_def, nc]; omega
  dsimp only
  refine wp_ifB (fun hx => s_ret ⟨rfl, e1, (true, ()), rfl, rfl⟩) fun hx => ?_
  have hno : ¬(1099511627776 < la.length ∨ 1099511627776 < lb.length ∨ 1099511627776 < lc.length) := fun x => by rw [hbig.2 x] at hx; cases hx
  have h32 : wfR [((3 : Int), (2 : Int))] := by intro r hr; rw [List.mem_singleton.1 hr]; exact ⟨fits_i64.2 (by decide), fits_i64.2 (by decide)⟩
  have ga := V.sum ha.wf; have gb := V.sum hb.wf
  have gz := V.sum (hc.wf.append h32)
  rw [List.length_append] at gz
  -- the whole list
  refine s_append2 (OwnR.nil h1.size h1) (Nat.le_refl _) (ha.ext e1) (by simp; omega) fun r1 h2 k2 p1 => ?_
  rw [List.nil_append] at p1
  have s2 := k2.size
  have e2 : Ext h h2 := e1.trans k2
  refine s_append2 p1 s2 (hb.ext e2) (by omega) fun r2 h3 k3 p2 => ?_
  have s3 : h1.size ≤ h3.size := Nat.le_trans s2 k3.size
  have e3 : Ext h h3 := e1.trans (Keep.trans (k2 : Ext h1 h2) k3)
  refine s_append2 p2 s3 (hc.ext e3) (by rw [List.length_append]; omega) fun r3 h4 k4 p3 => ?_
  have e13 : Ext h1 h4 := Keep.trans (Keep.trans (k2 : Ext h1 h2) k3) k4
  refine s_push2 p3 e13.size (h32 _ (List.mem_singleton_self _)).1 (h32 _ (List.mem_singleton_self _)).2 (by rw [List.length_append, List.length_append]; omega) fun r4 h5 k5 p4 => ?_
  have e5 : Ext h h5 := e1.trans (Keep.trans e13 k5)
  -- x, y, z
  refine wp_call (c_added (ha.ext e5) (by omega)) fun x h6 e6 hx6 => ?_
  obtain ⟨x, u6⟩ := x
  dsimp only at hx6
  subst hx6
  refine s_put4 (sum la) (ga.fits (by omega)) fun h7 e7 ox => ?_
  have e57 := e5.trans (e6.trans e7)
  refine wp_call (c_added (hb.ext e57) (by omega)) fun x h8 e8 hx8 => ?_
  obtain ⟨x, u8⟩ := x
  dsimp only at hx8
  subst hx8
  refine s_put4 (sum lb) (gb.fits (by omega)) fun h9 e9 oy => ?_
  have e9' := e57.trans (e8.trans e9)
  refine s_append2 (OwnR.nil h9.size h9) (Nat.le_refl _) (hc.ext e9') (by simp; omega) fun r5 h10 k10 p5 => ?_
  rw [List.nil_append] at p5
  refine s_push2 p5 k10.size (h32 _ (List.mem_singleton_self _)).1 (h32 _ (List.mem_singleton_self _)).2 (by omega) fun r6 h11 k11 p6 => ?_
  have e911 : Ext h9 h11 := Keep.trans k10 k11
  refine wp_call (c_added p6.runs (by simp; omega)) fun x h12 e12 hx12 => ?_
  obtain ⟨x, u12⟩ := x
  dsimp only at hx12
  subst hx12
  refine s_put4 (sum (lc ++ [(3, 2)])) (gz.fits (by simp; omega)) fun h13 e13' oz => ?_
  have e913 := (e911.trans e12).trans e13'
  have ox := ox.ext ((e8.trans e9).trans e913)
  have oy := oy.ext e913
  have eall := e9'.trans e913
  have q4 := p4.ext (((e6.trans e7).trans (e8.trans e9)).trans e913)
  clear p1 p2 p3 p4 p5 p6 k2 k3 k4 k5 k10 k11 e13
  -- what they add up to
  have hall : sum (la ++ lb ++ lc ++ [(3, 2)]) = add (add (sum la) (sum lb)) (sum (lc ++ [(3, 2)])) := by
    rw [List.append_assoc (la ++ lb), sum_append (ha.wf.append hb.wf) (hc.wf.append h32), sum_append ha.wf hb.wf]
  have hass := add_assoc4 ga gb gz
  have gl : V (la.length + lb.length + (lc.length + [((3 : Int), (2 : Int))].length)) (add (add (sum la) (sum lb)) (sum (lc ++ [(3, 2)]))) := (ga.add gb).add gz
  have hn : la.length + lb.length + (lc.length + [((3 : Int), (2 : Int))].length) ≤ 4398046511104 := by simp; omega
  have hn1 : la.length + lb.length ≤ 4398046511104 := by omega
  have hn2 : lb.length + (lc.length + [((3 : Int), (2 : Int))].length) ≤ 4398046511104 := by simp; omega
  have hn3 : la.length + (lb.length + (lc.length + [((3 : Int), (2 : Int))].length)) ≤ 4398046511104 := by simp; omega
  generalize hL : add (add (sum la) (sum lb)) (sum (lc ++ [(3, 2)])) = L at *
  have gab := ga.add gb
  have gbz := gb.add gz
  have fL := gl.fits hn
  refine wp_bind (Told h13 L) ⟨?_, ?_, ?_⟩ ?_
  · refine s_get4 rfl ox (s_get4 rfl oy (s_get4 rfl oz (wp_call (c_Add ga gb hn1) fun x k1 d1 hx1 => ?_)))
    obtain ⟨x, w1⟩ := x
    dsimp only at hx1
    subst hx1
    refine s_same4 (oz.ext d1) (wp_call (c_Add gab gz hn) fun x k2 d2 hx2 => ?_)
    obtain ⟨x, w2⟩ := x
    dsimp only at hx2
    rw [hL] at hx2
    subst hx2
    refine s_zero4 fun k3 d3 o3 => ?_
    have d := (d1.trans d2).trans d3
    exact s_same4 (oz.ext d) (s_same4 (oy.ext d) (s_same4 (ox.ext d) (s_told x o3 (d1.trans d2).size fL d)))
  · refine s_get4 rfl ox (s_get4 rfl oy (s_get4 rfl oz (wp_call (c_Add ga gb hn1) fun x k1 d1 hx1 => ?_)))
    obtain ⟨x, w1⟩ := x
    dsimp only at hx1
    subst hx1
    refine s_same4 (oz.ext d1) (s_zero4 fun k2 d2 o2 => ?_)
    have d := d1.trans d2
    refine s_same4 (oz.ext d) (s_same4 (oy.ext d) (s_same4 (ox.ext d) (wp_call (c_Add gab gz hn) fun x k3 d3 hx2 => ?_)))
    obtain ⟨x, w2⟩ := x
    dsimp only at hx2
    rw [hL] at hx2
    subst hx2
    exact s_told x (o2.ext d3) d1.size fL (d.trans d3)
  · refine s_get4 rfl ox (s_get4 rfl oy (s_get4 rfl oz (s_zero4 fun k1 d1 o1 => ?_)))
    refine s_same4 (oz.ext d1) (s_same4 (oy.ext d1) (s_same4 (ox.ext d1) (wp_call (c_Add ga gb hn1) fun x k2 d2 hx1 => ?_)))
    obtain ⟨x, w1⟩ := x
    dsimp only at hx1
    subst hx1
    refine s_same4 (oz.ext (d1.trans d2)) (wp_call (c_Add gab gz hn) fun x k3 d3 hx2 => ?_)
    obtain ⟨x, w2⟩ := x
    dsimp only at hx2
    rw [hL] at hx2
    subst hx2
    exact s_told x (o1.ext (d2.trans d3)) (Nat.le_refl _) fL ((d1.trans d2).trans d3)
  rintro t vs h14 ⟨rfl, pl, rfl, e14, ol⟩
  refine s_tag ⟨(some pl, ()), rfl, ?_⟩
  dsimp only
  have ox := ox.ext e14
  have oy := oy.ext e14
  have oz := oz.ext e14
  refine wp_bind (Told h14 L) ⟨?_, ?_, ?_⟩ ?_
  · refine s_get4 rfl ox (s_get4 rfl oy (s_get4 rfl oz (wp_call (c_Add gb gz hn2) fun x k1 d1 hx1 => ?_)))
    obtain ⟨x, w1⟩ := x
    dsimp only at hx1
    subst hx1
    refine s_same4 (ox.ext d1) (wp_call (c_Add ga gbz hn3) fun x k2 d2 hx2 => ?_)
    obtain ⟨x, w2⟩ := x
    dsimp only at hx2
    rw [← hass] at hx2
    subst hx2
    refine s_zero4 fun k3 d3 o3 => ?_
    have d := (d1.trans d2).trans d3
    exact s_same4 (oz.ext d) (s_same4 (oy.ext d) (s_same4 (ox.ext d) (s_told x o3 (d1.trans d2).size fL d)))
  · refine s_get4 rfl ox (s_get4 rfl oy (s_get4 rfl oz (wp_call (c_Add gb gz hn2) fun x k1 d1 hx1 => ?_)))
    obtain ⟨x, w1⟩ := x
    dsimp only at hx1
    subst hx1
    refine s_same4 (ox.ext d1) (s_zero4 fun k2 d2 o2 => ?_)
    have d := d1.trans d2
    refine s_same4 (oz.ext d) (s_same4 (oy.ext d) (s_same4 (ox.ext d) (wp_call (c_Add ga gbz hn3) fun x k3 d3 hx2 => ?_)))
    obtain ⟨x, w2⟩ := x
    dsimp only at hx2
    rw [← hass] at hx2
    subst hx2
    exact s_told x (o2.ext d3) d1.size fL (d.trans d3)
  · refine s_get4 rfl ox (s_get4 rfl oy (s_get4 rfl oz (s_zero4 fun k1 d1 o1 => ?_)))
    refine s_same4 (oz.ext d1) (s_same4 (oy.ext d1) (s_same4 (ox.ext d1) (wp_call (c_Add gb gz hn2) fun x k2 d2 hx1 => ?_)))
    obtain ⟨x, w1⟩ := x
    dsimp only at hx1
    subst hx1
    refine s_same4 (ox.ext (d1.trans d2)) (wp_call (c_Add ga gbz hn3) fun x k3 d3 hx2 => ?_)
    obtain ⟨x, w2⟩ := x
    dsimp only at hx2
    rw [← hass] at hx2
    subst hx2
    exact s_told x (o1.ext (d2.trans d3)) (Nat.le_refl _) fL ((d1.trans d2).trans d3)
  rintro t vs h15 ⟨rfl, pr, rfl, e15, orr⟩
  refine s_tag ⟨(some pr, ()), rfl, ?_⟩
  dsimp only
  have ox := ox.ext e15
  have ol := ol.ext e15
  have q4 := q4.ext (e14.trans e15)
  have eall := eall.trans (e14.trans e15)
  refine wp_call (c_plain q4.runs (by simp; omega)) fun x h16 e16 hx16 => ?_
  obtain ⟨(sp : Sl), u16⟩ := x
  dsimp only at hx16 ⊢
  have hq4 := q4.len
  refine wp_call (c_Upto hx16.runs (by simp; omega)) fun x h17 e17 hx17 => ?_
  obtain ⟨x, u17⟩ := x
  dsimp only at hx17
  rw [natI_def, hq4, Int.toNat_natCast, List.take_length, hall] at hx17
  subst hx17
  refine s_put4 x fL fun h18 e18 ow => ?_
  have e1518 := (e16.trans e17).trans e18
  have ox := ox.ext e1518
  have ol := ol.ext e1518
  have orr := orr.ext e1518
  have eall := eall.trans e1518
  refine bind_bool False ?_ fun b h19 e19 hb19 => ?_
  · refine s_get4 rfl ol (s_get4 rfl ow (wp_call (c_sameRuns gl hn) fun y k1 d1 hy => ?_))
    obtain ⟨(y : Bool), w1⟩ := y
    dsimp only at hy ⊢
    subst hy
    refine s_ifF (s_get4 rfl (orr.ext d1) (s_get4 rfl (ow.ext d1) (wp_call (c_sameRuns gl hn) fun y k2 d2 hy => ?_)))
    obtain ⟨(y : Bool), w2⟩ := y
    dsimp only at hy ⊢
    subst hy
    exact s_ret ⟨rfl, d1.trans d2, false, rfl, Iff.intro (fun x => by cases x) False.elim⟩
  have hbf : b = false := by cases b; rfl; exact (hb19.1 rfl).elim
  subst hbf
  dsimp only
  have ox := ox.ext e19
  have ol := ol.ext e19
  have ow := ow.ext e19
  have eall := eall.trans e19
  refine s_ifF (wp_while (fun (s : Int × Unit) h' => -2 ≤ s.1 ∧ s.1 ≤ 4 ∧ Ext h19 h') (fun s _ => (4 - s.1).toNat) (fun t vs h' => t = 2 ∧ vs = [] ∧ Ext h19 h') ⟨by simp, by simp, Ext.refl _⟩ ?_ ?_)
  · rintro ⟨(k : Int), u⟩ h20 ⟨k0, k1, e20⟩
    dsimp only at k0 k1 ⊢
    have ox := ox.ext e20
    have ol := ol.ext e20
    have ow := ow.ext e20
    refine wp_ifB (fun hk => ?_) fun hk => ?_
    · rw [leI_iff] at hk
      refine bind_bool False ?_ fun b h21 e21 hb21 => ?_
      · refine s_get4 rfl ol (s_get4 rfl ow (wp_call (c_Key gl hn) fun y k1 d1 hy => ?_))
        obtain ⟨(y : Int), w1⟩ := y
        dsimp only at hy ⊢
        subst hy
        refine s_same4 (ow.ext d1) (wp_call (c_refKey gl hn) fun y k2 d2 hy => ?_)
        obtain ⟨(y : Int), w2⟩ := y
        dsimp only at hy ⊢
        subst hy
        have d := d1.trans d2
        rw [show ∀ v, neI v v = false from fun v => neI_not.2 rfl]
        refine s_ifF (s_get4 rfl (ol.ext d) (s_get4 rfl (ox.ext d) (wp_call (c_Key gl hn) fun y k3 d3 hy => ?_)))
        obtain ⟨(y : Int), w3⟩ := y
        dsimp only at hy ⊢
        subst hy
        refine s_same4 (ox.ext (d.trans d3)) (wp_call (c_Key ga (by omega)) fun y k4 d4 hy => ?_)
        obtain ⟨(y : Int), w4⟩ := y
        dsimp only at hy ⊢
        subst hy
        have hmono := key_mono ga gbz k
        rw [← hass] at hmono
        refine s_ret ⟨rfl, (d.trans d3).trans d4, ltI (key x k) (key (sum la) k), rfl, Iff.intro (fun hz => ?_) False.elim⟩
        rw [ltI_iff] at hz; omega
      · have hbf : b = false := by cases b; rfl; exact (hb21.1 rfl).elim
        subst hbf
        dsimp only
        rw [add_ok (by omega) (by omega)]
        exact s_ifF (s_ret ⟨fun _ => ⟨(k + 1, ()), rfl, ⟨by dsimp only; omega, by dsimp only; omega, e20.trans e21⟩, by dsimp only; omega⟩, fun h => absurd rfl h⟩)
    · exact s_ret ⟨fun h => absurd h (by decide), fun _ => ⟨rfl, rfl, e20⟩⟩
  · rintro t vs h20 ⟨rfl, rfl, e20⟩
    exact s_tag (s_cast0 (s_ret ⟨rfl, eall.trans e20, (true, ()), rfl, rfl⟩))

end Go.Sw.Tree
