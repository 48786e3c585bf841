/-
  Tree: Replace, At, slot, same.
-/
import Derived.Test.YteoloieadjeneaaSwT10
set_option linter.unusedVariables false
set_option linter.unusedSimpArgs false
set_option maxRecDepth 100000
namespace Go.Sw.Tree
variable {P : Program} {S : Ids} {h : Heap} {Q : Nat → List Value → Heap → Prop}

theorem c_Replace {p : Option Addr} {t : BT} {items : Sl} {its : List (Int × Int)} {i j : Int} (nt : Nd h p t) (hr : Runs h items its) (hw : wfR t.list) (h0 : 0 ≤ i) (h1 : i ≤ j) (h2 : j ≤ t.list.length) (hroom : t.list.length + its.length ≤ 4398046511104) :
    Gives P (F_Tree_Run_Replace S (p, ()) i j items) [.agg [.ptr], .one (.int .i64)] h fun (y : TR × Int × Unit) h' => y.2.1 = 0 ∧ ∃ t', Nd h' y.1.1 t' ∧ t'.list = t.list.take i.toNat ++ its ++ t.list.drop j.toNat ∧ (t.Avl → t'.Avl) := by
  unfold F_Tree_Run_Replace Gives
  refine s_newP p fun k1 e1 o1 => s_newP none fun k2 e2 o2 => ?_
  have e02 := e1.trans e2
  have o12 := o1.ext e2
  refine bind_bool False ?_ fun b k3 e3 hb => ?_
  · refine wp_ifB (fun hz => ?_) fun hz => wp_ifB (fun hy => ?_) fun hy => s_getT o12 (wp_call (c_Size (nt.ext e02)) fun y k3 e3 hy => ?_)
    · rw [ltI_iff] at hz; omega
    · rw [gtI_iff] at hy; omega
    · obtain ⟨(y : Int), w⟩ := y
      dsimp only at hy ⊢
      refine s_ret ⟨rfl, e3, gtI j y, rfl, Iff.intro (fun hx => ?_) False.elim⟩
      rw [gtI_iff] at hx; omega
  have hbf : b = false := by cases b; rfl; exact (hb.1 rfl).elim
  subst hbf
  dsimp only
  have o13 := o12.ext e3
  have e03 := e02.trans e3
  have l1 : (t.list.take i.toNat).length ≤ t.list.length := by rw [List.length_take]; omega
  have l3 : (t.list.take i.toNat).length + (t.list.drop j.toNat).length ≤ t.list.length := by rw [List.length_take, List.length_drop]; omega
  refine s_ifF (s_getP o13 (wp_call (c_cut (nt.ext e03) hw (by omega) h0 (by omega)) fun y k4 e4 hy => s_getP (o13.ext e4) (wp_call (c_cut (nt.ext (e03.trans e4)) hw (by omega) (by omega) h2) fun z k5 e5 hz => ?_)))
  obtain ⟨(pa : Option Addr), (pb : Option Addr), w1⟩ := y
  obtain ⟨ta, tb, na, nb, la, lb, hav⟩ := hy
  obtain ⟨(pc : Option Addr), (pd : Option Addr), w2⟩ := z
  obtain ⟨tc, td, nc, nd, lc, ld, hav2⟩ := hz
  dsimp only at na nb nc nd ⊢
  have e05 := (e03.trans e4).trans e5
  refine wp_call (R := fun (y : Option Addr × Unit) h' => ∃ t : BT, Nd h' y.1 t ∧ t.list = its ∧ t.Full) ⟨its.length + 1, c_buildR S _ (Nat.lt_succ_self _) (hr.ext e05) (by omega)⟩ fun y k6 e6 hy => ?_
  obtain ⟨(pm : Option Addr), w3⟩ := y
  obtain ⟨tm, nm, lm, fm⟩ := hy
  dsimp only at nm ⊢
  refine wp_call (c_both ((na.ext e5).ext e6) nm (by rw [la, lm]; exact (hw.take _).append hr.wf) (by rw [la, lm, List.length_append]; omega)) fun y k7 e7 hy => ?_
  obtain ⟨(pn : Option Addr), w4⟩ := y
  obtain ⟨tn, nn, ln, hav3⟩ := hy
  dsimp only at nn ⊢
  rw [la, lm] at ln
  refine wp_call (c_both nn ((nd.ext e6).ext e7) (by rw [ln, ld]; exact ((hw.take _).append hr.wf).append (hw.drop _)) (by rw [ln, ld, List.length_append, List.length_append]; omega)) fun y k8 e8 hy => ?_
  obtain ⟨(pz : Option Addr), w5⟩ := y
  obtain ⟨tz, nz, lz, hav4⟩ := hy
  dsimp only at nz ⊢
  have e28 := (((((e3.trans e4).trans e5).trans e6).trans e7).trans e8)
  have o28 := o2.ext e28
  refine s_putP pz o28 fun k9 o9 u9 => s_getT o9 (s_ret ⟨rfl, Upd.extN (e02.trans e28) u9 (by intro a ha; cases ha; exact e1.size), ((pz, ()), 0, ()), rfl, rfl, tz, nz.upd u9 o28 (by decide), by rw [lz, ln, ld], fun hv => hav4 (hav3 (hav hv).1 fm.2.2) (hav2 hv).2⟩)

theorem c_At {p : Option Addr} {t : BT} {i : Int} {x : Int × Int} (nt : Nd h p t) (hw : wfR t.list) (hroom : t.list.length ≤ 4398046511104) (h0 : 0 ≤ i) (hx : t.list[i.toNat]? = some x) :
    Gives P (F_Tree_Run_At S (p, ()) i) [A2, .one .bool] h fun (y : R2 × Bool × Unit) h' => y.1.1 = x.1 ∧ y.1.2.1 = x.2 ∧ y.2.1 = true := by
  have hi := (List.getElem?_eq_some_iff.1 hx).1
  have hxf := hw.get hx
  unfold F_Tree_Run_At Gives
  refine s_newP p fun h1 e1 o1 => s_zero2 fun h2 e2 o2 => s_getP (o1.ext e2) ?_
  refine wp_whileG (G := BT) (fun g (s : Int × Option Addr × Unit) h' => Ext h h' ∧ Nd h' s.2.1 g ∧ 0 ≤ s.1 ∧ s.1 < g.list.length ∧ g.list.length ≤ 4398046511104 ∧ g.list[s.1.toNat]? = some x ∧ OwnL h1.size .i64 h' ⟨some ⟨h1.size, 0, none⟩, 2, 2⟩ [0, 0]) (fun g => g.list.length)
    (fun t' vs h' => t' = 1 ∧ vs = [.pointer (some ⟨h1.size, 0, none⟩), .bool true] ∧ Ext h h' ∧ OwnL h1.size .i64 h' ⟨some ⟨h1.size, 0, none⟩, 2, 2⟩ [x.1, x.2])
    t ⟨e1.trans e2, nt.ext (e1.trans e2), h0, by first | omega | (dsimp only; omega), hroom, hx, o2⟩ ?_ ?_
  · rintro g ⟨(j : Int), (q : Option Addr), u⟩ h3 ⟨e3, nq, hj0, hj1, hg, hgx, oa⟩
    dsimp only at nq hj0 hj1 hgx ⊢
    cases g with
    | nil => simp [BT.list] at hj1; omega
    | node l y r =>
      have hl := node_len l r y
      obtain ⟨a, ql, qr, rfl, c, n1, n2⟩ := nq
      have c : NdC h3 a ql qr l y r := c
      refine bind_bool True (s_ifT (s_ret ⟨rfl, Ext.refl _, geI j 0, rfl, by rw [geI_iff]; exact Iff.intro (fun _ => trivial) (fun _ => hj0)⟩)) fun b h4 e4 hb => ?_
      have hbt : b = true := hb.2 trivial
      subst hbt
      dsimp only
      have c4 := c.ext e4
      have e04 := e3.trans e4
      refine s_ifT (q_left c4 (wp_call (c_count (n1.ext e4)) fun k h5 e5 hk => ?_))
      obtain ⟨(k : Int), w⟩ := k
      dsimp only at hk ⊢
      subst hk
      have c5 := c4.ext e5
      have oa5 := (oa.ext e4).ext e5
      have e05 := e04.trans e5
      have hbt : (BT.node l y r).list = l.list ++ y :: r.list := rfl
      rw [hbt] at hgx
      refine wp_ifB (fun hc => ?_) fun hc => wp_ifB (fun hd => ?_) fun hd => ?_
      · rw [eqI_iff] at hc
        have hxy : y = x := by
          rw [List.getElem?_append_right (by omega), show j.toNat - l.list.length = 0 by omega] at hgx
          simpa using hgx
        subst hxy
        exact q_item c5 (s_store2 y.1 y.2 oa5 hxf fun h6 o6 u6 => s_ret ⟨fun h => absurd h (by decide), fun _ => ⟨rfl, rfl, Upd.extN e05 u6 (by intro a ha; cases ha; exact e1.size), o6⟩⟩)
      · rw [ltI_iff] at hd
        rw [List.getElem?_append_left (by omega)] at hgx
        exact q_left c5 (s_ret ⟨fun _ => ⟨l, (j, ql, ()), rfl, ⟨e05, (n1.ext e4).ext e5, hj0, hd, by omega, hgx, oa5⟩, by first | omega | (dsimp only; omega)⟩, fun h => absurd rfl h⟩)
      · rw [eqI_not] at hc
        rw [ltI_not] at hd
        rw [sub_ok (a := j) (by omega) (by omega), sub_ok (by omega) (by omega)]
        obtain ⟨d, hd'⟩ : ∃ d : Nat, j = l.list.length + 1 + d := ⟨(j - l.list.length - 1).toNat, by omega⟩
        have h2' : (j - l.list.length - 1).toNat = d := by omega
        rw [List.getElem?_append_right (by omega), show j.toNat - l.list.length = d + 1 by omega, List.getElem?_cons_succ] at hgx
        exact q_right c5 (s_ret ⟨fun _ => ⟨r, (j - l.list.length - 1, qr, ()), rfl, ⟨e05, (n2.ext e4).ext e5, by first | omega | (dsimp only; omega), by first | omega | (dsimp only; omega), by omega, by rw [h2']; exact hgx, oa5⟩, by first | omega | (dsimp only; omega)⟩, fun h => absurd rfl h⟩)
  · rintro tg vs h3 ⟨rfl, rfl, e3, oa⟩
    exact s_skip (by decide) (s_tag ⟨(some ⟨h1.size, 0, none⟩, true, ()), rfl, s_get2 rfl oa (s_ret ⟨rfl, e3, ((x.1, x.2, ()), true, ()), rfl, rfl, rfl, rfl⟩)⟩)

theorem c_slot {i n : Int} (hn : 0 ≤ n) (hn1 : n ≤ 4398046511104) : Gives P (F_law4_slot S i n) [.one (.int .i64)] h fun (y : Int × Unit) h' => 0 ≤ y.1 ∧ y.1 ≤ n := by
  unfold F_law4_slot Gives
  rw [add_ok (a := n) (by omega) (by omega)]
  have h1 : eqI (n + 1) 0 = false := eqI_not.2 (by omega)
  have hr : remI .i64 i (n + 1) = i.tmod (n + 1) := rfl
  have hb1 : i.tmod (n + 1) < n + 1 := Int.tmod_lt_of_pos i (by omega)
  have hb2 : -(n + 1) < i.tmod (n + 1) := by
    have := Int.lt_tmod_of_pos i (show 0 < n + 1 by omega)
    omega
  rw [hr, h1]
  refine s_not (bind_val (tys := [.one (.int .i64)]) (fun (x : Int × Unit) _ => 0 ≤ x.1 ∧ x.1 ≤ n) ?_ fun x h2 e2 hx => s_ret ⟨rfl, e2, (x.1, ()), rfl, hx⟩)
  refine wp_ifB (fun hc => ?_) fun hc => ?_
  · rw [ltI_iff] at hc
    rw [add_ok (a := i.tmod (n + 1)) (by omega) (by omega), add_ok (by omega) (by omega)]
    exact s_ret ⟨rfl, Ext.refl _, (i.tmod (n + 1) + n + 1, ()), rfl, by dsimp only; omega, by dsimp only; omega⟩
  · rw [ltI_not] at hc
    exact s_ret ⟨rfl, Ext.refl _, (i.tmod (n + 1), ()), rfl, hc, by dsimp only; omega⟩

theorem s_ckP {n : Nat} {a : Addr} {p : Option Addr} {K : Prog} (ho : Own n 1 h ⟨some a, 1, 1⟩ [.pointer p]) (hk : wp P K h Q) : wp P (.check (some a) [.pointer p] K) h Q := s_check0 rfl ho.cells hk
theorem eqI_self (a : Int) : eqI a a = true := eqI_iff.2 rfl

theorem c_same {p q : Option Addr} {t s : BT} (nt : Nd h p t) (ns : Nd h q s) (hw : wfR t.list) (hroom : t.list.length ≤ 4398046511104) (heq : s.list = t.list) :
    Gives P (F_law4_same S (p, ()) (q, ())) [.one .bool] h fun (y : Bool × Unit) h' => y.1 = true := by
  unfold F_law4_same Gives
  refine s_newP p fun h1 e1 o1 => s_newP q fun h2 e2 o2 => ?_
  have o1 := o1.ext e2
  have nt := nt.ext (e1.trans e2)
  have ns := ns.ext (e1.trans e2)
  refine bind_bool False ?_ fun b h3 e3 hb => ?_
  · refine s_getT o1 (s_getT o2 (wp_call (c_Size nt) fun y k1 d1 hy => s_ckP (o2.ext d1) (wp_call (c_Size (ns.ext d1)) fun z k2 d2 hz => ?_)))
    obtain ⟨(y : Int), w1⟩ := y
    obtain ⟨(z : Int), w2⟩ := z
    dsimp only at hy hz ⊢
    rw [show neI y z = false from neI_not.2 (by rw [hy, hz, heq])]
    have d := d1.trans d2
    refine s_ifF (s_getT (o1.ext d) (s_getT (o2.ext d) (wp_call (c_Sum (nt.ext d) hw hroom) fun y k3 d3 hy => s_ckP ((o2.ext d).ext d3) (wp_call (c_Sum ((ns.ext d).ext d3) (by rw [heq]; exact hw) (by rw [heq]; exact hroom)) fun z k4 d4 hz => ?_))))
    obtain ⟨y, w1⟩ := y
    obtain ⟨z, w2⟩ := z
    dsimp only at hy hz
    rw [heq, ← hy] at hz
    subst hz
    dsimp only
    simp only [eqI_self]
    exact s_ret ⟨rfl, (d.trans d3).trans d4, false, rfl, Iff.intro (fun x => by cases x) False.elim⟩
  have hbf : b = false := by cases b; rfl; exact (hb.1 rfl).elim
  subst hbf
  dsimp only
  have o1 := o1.ext e3
  have o2 := o2.ext e3
  have nt := nt.ext e3
  have ns := ns.ext e3
  refine s_ifF (wp_while (fun (s : Int × Unit) h' => 0 ≤ s.1 ∧ s.1 ≤ t.list.length ∧ Ext h3 h') (fun s _ => t.list.length - s.1.toNat) (fun t vs h' => t = 2 ∧ vs = [] ∧ Ext h3 h') ⟨by simp, by simp, Ext.refl _⟩ ?_ ?_)
  · rintro ⟨(i : Int), u⟩ h4 ⟨i0, i1, e4⟩
    dsimp only at i0 i1 ⊢
    have o1 := o1.ext e4
    have o2 := o2.ext e4
    have nt := nt.ext e4
    have ns := ns.ext e4
    refine s_getT o1 (wp_call (c_Size nt) fun y k1 d1 hy => ?_)
    obtain ⟨(y : Int), w1⟩ := y
    dsimp only at hy ⊢
    subst hy
    refine wp_ifB (fun hc => ?_) fun hc => s_ret ⟨fun h => absurd h (by decide), fun _ => ⟨rfl, rfl, e4.trans d1⟩⟩
    rw [ltI_iff] at hc
    have hlt : i.toNat < t.list.length := by omega
    have hx : t.list[i.toNat]? = some t.list[i.toNat] := List.getElem?_eq_getElem hlt
    have hxf := hw.get hx
    refine s_getT (o1.ext d1) (wp_call (c_At (nt.ext d1) hw hroom i0 hx) fun y k2 d2 hy => ?_)
    obtain ⟨⟨(y1 : Int), (y2 : Int), w2⟩, (y3 : Bool), w3⟩ := y
    obtain ⟨hy1, hy2, hy3⟩ := hy
    dsimp only at hy1 hy2 hy3 ⊢
    subst hy1; subst hy2; subst hy3
    refine s_put2 _ _ hxf fun k3 d3 q3 => s_getT (o2.ext ((d1.trans d2).trans d3)) (wp_call (c_At (ns.ext ((d1.trans d2).trans d3)) (by rw [heq]; exact hw) (by rw [heq]; exact hroom) i0 (by rw [heq]; exact hx)) fun y k4 d4 hy => ?_)
    obtain ⟨⟨(y1 : Int), (y2 : Int), w2⟩, (y3 : Bool), w3⟩ := y
    obtain ⟨hy1, hy2, hy3⟩ := hy
    dsimp only at hy1 hy2 hy3 ⊢
    subst hy1; subst hy2; subst hy3
    refine s_put2 _ _ hxf fun k5 d5 q5 => bind_bool False (s_get2 rfl ((q3.ext d4).ext d5) (s_get2 rfl q5 ?_)) fun b k6 d6 hb => ?_
    · dsimp only
      simp only [eqI_self]
      exact s_ifF (s_ifF (s_ret ⟨rfl, Ext.refl _, false, rfl, Iff.intro (fun x => by cases x) False.elim⟩))
    · have hbf : b = false := by cases b; rfl; exact (hb.1 rfl).elim
      subst hbf
      dsimp only
      rw [add_ok (by omega) (by omega)]
      exact s_ifF (s_ret ⟨fun _ => ⟨(i + 1, ()), rfl, ⟨by dsimp only; omega, by dsimp only; omega, (((((e4.trans d1).trans d2).trans d3).trans d4).trans d5).trans d6⟩, by dsimp only; omega⟩, fun h => absurd rfl h⟩)
  · rintro tg vs h4 ⟨rfl, rfl, e4⟩
    exact s_tag (s_cast0 (s_ret ⟨rfl, ((e1.trans e2).trans e3).trans e4, (true, ()), rfl, rfl⟩))

end Go.Sw.Tree
