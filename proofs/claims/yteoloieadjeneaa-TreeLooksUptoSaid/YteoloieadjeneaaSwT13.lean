/-
  Tree: the law TreeCuts.
-/
import Derived.Test.YteoloieadjeneaaSwT12
set_option linter.unusedVariables false
set_option linter.unusedSimpArgs false
set_option maxRecDepth 100000
namespace Go.Sw.Tree
variable {P : Program} {S : Ids} {h : Heap} {Q : Nat → List Value → Heap → Prop}

theorem cut_back {L o : List (Int × Int)} {i j : Nat} (hij : i ≤ j) (hj : j ≤ L.length) :
    ((L.take i ++ o ++ L.drop j).take i ++ (L.drop i).take (j - i) ++ (L.take i ++ o ++ L.drop j).drop (i + o.length)) = L := by
  have h1 : (L.take i).length = i := by rw [List.length_take]; omega
  rw [List.append_assoc (L.take i), List.take_left' h1]
  have h2 : (L.take i ++ (o ++ L.drop j)).drop (i + o.length) = L.drop j := by
    rw [← List.append_assoc, List.drop_left' (by rw [List.length_append, h1])]
  rw [h2, List.append_assoc]
  have h3 : (L.drop i).take (j - i) ++ L.drop j = L.drop i := by
    have : L.drop j = (L.drop i).drop (j - i) := by rw [List.drop_drop]; congr 1; omega
    rw [this, List.take_append_drop]
  rw [h3, List.take_append_drop]

theorem mid_sum {L : List (Int × Int)} {i j : Nat} (hw : wfR L) (hij : i ≤ j) : add (add (sum (L.take i)) (sum ((L.drop i).take (j - i)))) (sum (L.drop j)) = sum L := by
  rw [← sum_append (hw.take _) ((hw.drop _).take _), ← sum_append ((hw.take _).append ((hw.drop _).take _)) (hw.drop _), List.append_assoc]
  congr 1
  have : L.drop j = (L.drop i).drop (j - i) := by rw [List.drop_drop]; congr 1; omega
  rw [this, List.take_append_drop, List.take_append_drop]

theorem c_TreeCuts {s o : Sl} {l lo : List (Int × Int)} {fr to : Int} (hr : Runs h s l) (ho : Runs h o lo) : Gives P (F_law4_TreeCuts S s fr to o) [.one .bool] h fun (x : Bool × Unit) _ => x.1 = true := by
  have hlen := hr.len
  have hlo := ho.len
  unfold F_law4_TreeCuts Gives
  refine bind_bool (1099511627776 < l.length ∨ 1099511627776 < lo.length) ?_ fun big h1 e1 hbig => ?_
  · refine wp_ifB (fun hx => ?_) fun hx => ?_
    · rw [gtI_iff, natI_def, hlen] at hx
      exact s_ret ⟨rfl, Ext.refl _, true, rfl, fun _ => .inl (by omega), fun _ => rfl⟩
    · rw [gtI_not, natI_def, hlen] at hx
      refine s_ret ⟨rfl, Ext.refl _, gtI (natI o.len) 1099511627776, rfl, ?_⟩
      rw [gtI_iff, natI_def, hlo]; omega
  dsimp only
  refine wp_ifB (fun hx => s_ret ⟨rfl, e1, (true, ()), rfl, rfl⟩) fun hx => ?_
  have hno : ¬(1099511627776 < l.length ∨ 1099511627776 < lo.length) := fun x => by rw [hbig.2 x] at hx; cases hx
  have hr1 := hr.ext e1
  have ho1 := ho.ext e1
  have h11 : wfR [((1 : Int), (1 : Int))] := by intro r hr; rw [List.mem_singleton.1 hr]; exact ⟨fits_i64.2 (by decide), fits_i64.2 (by decide)⟩
  intro elem
  have e2 : Ext h1 (h1.push (.cells [.int .i64 1, .int .i64 1].toArray elem)) := Ext.push ..
  have o2 : OwnR h1.size (h1.push (.cells [.int .i64 1, .int .i64 1].toArray elem)) ⟨some ⟨h1.size, 0, none⟩, 1, 1⟩ [(1, 1)] := ⟨own_alloc rfl (by decide) (by decide), h11⟩
  generalize (h1.push (.cells [.int .i64 1, .int .i64 1].toArray elem)) = h2 at e2 o2 ⊢
  refine s_append2 o2 e2.size (hr1.ext e2) (by simp; omega) fun r2 h3 k2 o3 => ?_
  have e3 : Ext h1 h3 := Keep.trans e2 k2
  rw [show [((1 : Int), (1 : Int))] ++ l = (1, 1) :: l from rfl] at o3
  have hL : ((1, 1) :: l).length ≤ 1099511627777 := by simp; omega
  have hr2 := o3.len
  revert hL hr2
  generalize hLL : ((1 : Int), (1 : Int)) :: l = L at o3
  intro hL hr2
  have hw := o3.wf
  have hwo := ho.wf
  refine wp_call (c_Of o3.runs (by omega)) fun y h4 e4 hy => ?_
  obtain ⟨⟨(p : Option Addr), w0⟩, w1⟩ := y
  obtain ⟨t, nt, rfl, _⟩ := hy
  dsimp only at nt ⊢
  refine s_putTree p nt fun h5 e5 oT => ?_
  have nt5 := nt.ext e5
  have o5 := (o3.ext e4).ext e5
  have ho5 := ((ho1.ext e3).ext e4).ext e5
  have e15 := ((e1.trans e3).trans e4).trans e5
  rw [natI_def, hr2]
  refine wp_call (c_slot (by omega) (by omega)) fun y h6 e6 hy => ?_
  obtain ⟨(s1 : Int), w2⟩ := y
  refine wp_call (c_slot (by omega) (by omega)) fun z h7 e7 hz => ?_
  obtain ⟨(s2 : Int), w3⟩ := z
  dsimp only at hy hz ⊢
  refine bind_val (tys := [.one (.int .i64), .one (.int .i64)]) (fun (x : Int × Int × Unit) _ => 0 ≤ x.1 ∧ x.1 ≤ x.2.1 ∧ x.2.1 ≤ t.list.length) ?_ fun x h8 e8 hx => ?_
  · refine wp_ifB (fun hc => ?_) fun hc => ?_
    · rw [gtI_iff] at hc
      exact s_ret ⟨rfl, Ext.refl _, (s2, s1, ()), rfl, hz.1, by dsimp only; omega, hy.2⟩
    · rw [gtI_not] at hc
      exact s_ret ⟨rfl, Ext.refl _, (s1, s2, ()), rfl, hy.1, hc, hz.2⟩
  obtain ⟨(i : Int), (j : Int), w4⟩ := x
  obtain ⟨hi0, hij, hjn⟩ := hx
  dsimp only at hi0 hij hjn ⊢
  have e58 := (e6.trans e7).trans e8
  have oT8 := oT.ext e58
  have nt8 := nt5.ext e58
  have o8 := o5.ext e58
  have ho8 := ho5.ext e58
  have hcap := o8.runs.cap
  have hslice : ∀ {h'}, Ext h8 h' → Runs h' ⟨cutBase r2.base r2.cap (toN i) 2, subN (toN j) (toN i), subN r2.cap (toN i)⟩ ((t.list.drop i.toNat).take (j.toNat - i.toNat)) := fun e => (o8.runs.ext e).mid (i := i.toNat) (j := j.toNat) (by omega) (by omega)
  have hgrd : andB (leB j r2.cap) (leB i (toN j)) = true := andB_iff.2 ⟨leB_ok (by omega) (by omega), leB_ok hi0 (by rw [toN_def]; omega)⟩
  have hmid : ((t.list.drop i.toNat).take (j.toNat - i.toNat)).length = j.toNat - i.toNat := by rw [List.length_take, List.length_drop]; omega
  refine s_getT oT8 (wp_call (c_Replace nt8 ho8 hw hi0 hij hjn (by omega)) fun y h9 e9 hy => ?_)
  obtain ⟨⟨(pu : Option Addr), w5⟩, (eu : Int), w6⟩ := y
  obtain ⟨heu, tu, nu, lu, _⟩ := hy
  dsimp only at heu nu ⊢
  subst heu
  refine s_putTree pu nu fun h10 e10 oU => ?_
  have nu10 := nu.ext e10
  have e810 := e9.trans e10
  have hlu : tu.list.length = i.toNat + lo.length + (t.list.length - j.toNat) := by
    rw [lu, List.length_append, List.length_append, List.length_take, List.length_drop]; omega
  have hwu : wfR tu.list := by rw [lu]; exact ((hw.take _).append hwo).append (hw.drop _)
  have hback : tu.list.take i.toNat ++ (t.list.drop i.toNat).take (j.toNat - i.toNat) ++ tu.list.drop (i + lo.length).toNat = t.list := by
    rw [lu, show (i + (lo.length : Int)).toNat = i.toNat + lo.length by omega]
    exact cut_back (by omega) (by omega)
  rw [natI_def, hlo, add_ok (a := i) (by omega) (by omega)]
  refine wp_bind (ToldT h10 t.list) ⟨?_, ?_⟩ ?_
  · refine s_getT oU (s_grd hgrd (wp_call (c_Replace nu10 (hslice e810) hwu hi0 (by omega) (by omega) (by rw [hmid]; omega)) fun y k1 d1 hy => ?_))
    obtain ⟨⟨(pb : Option Addr), w7⟩, (eb : Int), w8⟩ := y
    obtain ⟨heb, tb, nb, lb, _⟩ := hy
    dsimp only at heb nb ⊢
    subst heb
    refine s_newP none fun k2 d2 o => s_ckP ((oU.ext d1).ext d2) (s_putP pb o fun k3 o3 u3 => s_ret ⟨rfl, _, pb, rfl, Upd.extN (d1.trans d2) u3 (by intro a ha; cases ha; exact d1.size), o3.mono d1.size, tb, (nb.ext d2).upd u3 o (by decide), by rw [lb]; exact hback⟩)
  · refine s_getT oU (s_grd hgrd (s_newP none fun k1 d1 oz => s_ckP (oU.ext d1) (wp_call (c_Replace (nu10.ext d1) (hslice (e810.trans d1)) hwu hi0 (by omega) (by omega) (by rw [hmid]; omega)) fun y k2 d2 hy => ?_)))
    obtain ⟨⟨(pb : Option Addr), w7⟩, (eb : Int), w8⟩ := y
    obtain ⟨heb, tb, nb, lb, _⟩ := hy
    dsimp only at heb nb ⊢
    subst heb
    refine s_putP pb (oz.ext d2) fun k3 o3 u3 => s_ret ⟨rfl, _, pb, rfl, Upd.extN (d1.trans d2) u3 (by intro a ha; cases ha; exact Nat.le_refl _), o3, tb, nb.upd u3 (oz.ext d2) (by decide), by rw [lb]; exact hback⟩
  rintro tg vs h11 ⟨rfl, aB, pb, rfl, e11, oB, tb, nb, lb⟩
  refine s_tag ⟨(some aB, 0, ()), rfl, ?_⟩
  dsimp only
  have e811 := e810.trans e11
  refine s_getT (oT8.ext e811) (wp_call (c_Replace (i := Int.ofNat 0) (its := []) (nt8.ext e811) ⟨⟨rfl, fun i v hi => by simp [cR] at hi⟩, Nat.le_refl _, by decide, by simp [wfR]⟩ hw (by decide) (by show (0 : Int) ≤ j; omega) hjn (by simp; omega)) fun y h12 e12 hy => ?_)
  obtain ⟨⟨(pg : Option Addr), w7⟩, (eg : Int), w8⟩ := y
  obtain ⟨heg, tg, ng, lg, _⟩ := hy
  dsimp only at heg ng ⊢
  subst heg
  have lg : tg.list = t.list.drop j.toNat := by rw [lg]; rfl
  refine s_putTree pg ng fun h13 e13 oG => ?_
  have ng13 := ng.ext e13
  have e813 := (e811.trans e12).trans e13
  have e1113 := e12.trans e13
  refine bind_bool False ?_ fun b h14 e14 hb => ?_
  · refine wp_call c_num fun y k1 d1 hy => ?_
    obtain ⟨(y : Int), w1⟩ := y
    dsimp only at hy ⊢
    subst hy
    refine s_ifF (wp_call c_num fun y k2 d2 hy => ?_)
    obtain ⟨(y : Int), w1⟩ := y
    dsimp only at hy ⊢
    subst hy
    refine s_ifF (wp_call c_num fun y k3 d3 hy => ?_)
    obtain ⟨(y : Int), w1⟩ := y
    dsimp only at hy ⊢
    subst hy
    exact s_ret ⟨rfl, (d1.trans d2).trans d3, false, rfl, Iff.intro (fun x => by cases x) False.elim⟩
  have hbf : b = false := by cases b; rfl; exact (hb.1 rfl).elim
  subst hbf
  dsimp only
  have e814 := e813.trans e14
  refine s_ifF (s_grd hgrd (wp_call (c_Of (hslice e814) (by rw [hmid]; omega)) fun y h15 e15' hy => ?_))
  obtain ⟨⟨(pm : Option Addr), w9⟩, w10⟩ := y
  obtain ⟨tm, nm, lm, _⟩ := hy
  dsimp only at nm ⊢
  refine s_putTree pm nm fun h16 e16 oM => ?_
  have e1316 := (e14.trans e15').trans e16
  have e816 := e813.trans e1316
  have oT16 := oT8.ext e816
  have nt16 := nt8.ext e816
  have oG16 := oG.ext e1316
  have ng16 := ng13.ext e1316
  have nm16 := nm.ext e16
  have hwm : wfR tm.list := by rw [lm]; exact (hw.drop _).take _
  have hwg : wfR tg.list := by rw [lg]; exact hw.drop _
  have hgl : tg.list.length = t.list.length - j.toNat := by rw [lg, List.length_drop]
  have hml : tm.list.length = j.toNat - i.toNat := by rw [lm, hmid]
  have hsum : add (add (sum (t.list.take i.toNat)) (sum tm.list)) (sum tg.list) = sum t.list := by rw [lm, lg]; exact mid_sum hw (by omega)
  refine wp_bind (Told h16 (sum t.list)) (c_six oT16 oM oG16 nt16 nm16 ng16 hw hwm hwg (by omega) (by omega) (by omega) hsum) ?_
  rintro tg' vs h17 ⟨rfl, aS, rfl, e17, oS⟩
  refine s_tag ⟨(some aS, ()), rfl, ?_⟩
  dsimp only
  have e817 := e816.trans e17
  refine wp_call (c_Of (o8.runs.ext e817) (by omega)) fun y h18 e18 hy => ?_
  obtain ⟨⟨(pa : Option Addr), w11⟩, w12⟩ := y
  obtain ⟨ta, na, la, _⟩ := hy
  dsimp only at na ⊢
  refine s_putTree pa na fun h19 e19 oA => ?_
  have na19 := na.ext e19
  have e1719 := e18.trans e19
  have e819 := e817.trans e1719
  have e1119 := e1113.trans ((e1316.trans e17).trans e1719)
  have e1019 := e11.trans e1119
  have e1319 := (e1316.trans e17).trans e1719
  have oT := oT8.ext e819
  have nt := nt8.ext e819
  have oS := oS.ext e1719
  have oB := oB.ext e1119
  have nb := nb.ext e1119
  have oU := oU.ext e1019
  have nu := nu10.ext e1019
  have oG := oG.ext e1319
  have ng := ng13.ext e1319
  have hoo := ho8.ext e819
  have eall := (e15.trans e58).trans e819
  have vL := V.sum hw
  have hsu : sum tu.list = add (add (sum (t.list.take i.toNat)) (sum lo)) (sum tg.list) := by
    rw [lu, sum_append ((hw.take _).append hwo) (hw.drop _), sum_append (hw.take _) hwo, lg]
  clear oT8 nt8 oT16 nt16 oG16 ng16 nu10 ng13
  refine bind_val (tys := [.one .bool]) (fun (x : Bool × Unit) _ => x.1 = true) ?_ fun x h20 e20 hx => s_ret ⟨rfl, eall.trans e20, (x.1, ()), rfl, hx⟩
  refine s_getT oT (wp_call (c_Size nt) fun y k1 d1 hy => ?_)
  obtain ⟨(y : Int), w1⟩ := y
  dsimp only at hy ⊢
  rw [hy, eqI_self]
  refine s_ifT (s_get4 rfl (oS.ext d1) (s_getT (oT.ext d1) (wp_call (c_Sum (nt.ext d1) hw (by omega)) fun y k2 d2 hy => ?_)))
  obtain ⟨y, w2⟩ := y
  dsimp only at hy
  subst hy
  have D2 := d1.trans d2
  refine s_same4 (oS.ext D2) ?_
  dsimp only
  simp only [eqI_self]
  refine s_ifT (s_getT (oB.ext D2) (s_getT (oT.ext D2) (wp_call (c_same (nb.ext D2) (nt.ext D2) (by rw [lb]; exact hw) (by rw [lb]; omega) lb.symm) fun y k3 d3 hy => ?_)))
  obtain ⟨(y : Bool), w3⟩ := y
  dsimp only at hy ⊢
  subst hy
  have D3 := D2.trans d3
  refine s_ifT (s_getT (oA.ext D3) (s_getT (oT.ext D3) (wp_call (c_same (na19.ext D3) (nt.ext D3) (by rw [la]; exact hw) (by rw [la]; omega) la.symm) fun y k4 d4 hy => ?_)))
  obtain ⟨(y : Bool), w4⟩ := y
  dsimp only at hy ⊢
  subst hy
  have D4 := D3.trans d4
  refine s_ifT (s_getT (oU.ext D4) (wp_call (c_Size (nu.ext D4)) fun y k5 d5 hy => ?_))
  obtain ⟨(y : Int), w5⟩ := y
  dsimp only at hy ⊢
  subst hy
  have D5 := D4.trans d5
  rw [sub_ok (a := j) (by omega) (by omega), sub_ok (a := ((t.list.length : Nat) : Int)) (by omega) (by omega), add_ok (by omega) (by omega)]
  rw [show eqI ((tu.list.length : Nat) : Int) ((t.list.length : Nat) - (j - i) + ((lo.length : Nat) : Int)) = true from eqI_iff.2 (by omega)]
  have vU : V t.list.length (sum (t.list.take i.toNat)) := (V.sum (hw.take _)).mono (by rw [List.length_take]; omega)
  have vO := V.sum hwo
  have vG := V.sum hwg
  refine s_ifT (s_getT (oU.ext D5) (s_getT (oT.ext D5) (s_getT (oG.ext D5) (wp_call (c_Sum (nu.ext D5) hwu (by omega)) fun y k6 d6 hy => ?_))))
  obtain ⟨y, w6⟩ := y
  dsimp only at hy
  rw [hsu] at hy
  have D6 := D5.trans d6
  refine s_ckP (oG.ext D6) (s_ckP (oT.ext D6) (wp_call (c_Upto' (nt.ext D6) hw (by omega)) fun z k7 d7 hz => ?_))
  obtain ⟨z, w7⟩ := z
  dsimp only at hz
  subst hz
  have D7 := D6.trans d7
  refine s_ckP (oG.ext D7) (wp_call (c_added (hoo.ext D7) (by omega)) fun z k8 d8 hz => ?_)
  obtain ⟨z, w8⟩ := z
  dsimp only at hz
  subst hz
  have D8 := D7.trans d8
  refine s_ckP (oG.ext D8) (wp_call (c_Add vU vO (by omega)) fun z k9 d9 hz => ?_)
  obtain ⟨z, w9⟩ := z
  dsimp only at hz
  subst hz
  have D9 := D8.trans d9
  refine s_ckP (oG.ext D9) (wp_call (c_Sum (ng.ext D9) hwg (by omega)) fun z k10 d10 hz => ?_)
  obtain ⟨z, w10⟩ := z
  dsimp only at hz
  subst hz
  refine wp_call (c_Add (vU.add vO) vG (by omega)) fun z k11 d11 hz => ?_
  obtain ⟨z, w11⟩ := z
  dsimp only at hz
  rw [← hy] at hz
  subst hz
  dsimp only
  simp only [eqI_self]
  exact s_ret ⟨rfl, (D9.trans d10).trans d11, (true, ()), rfl, rfl⟩

end Go.Sw.Tree
