/-
  Tree: At of a place that is none; the step that asks for a place; TreeLooks.
-/
import Derived.Test.YteoloieadjeneaaSwT29
set_option linter.unusedVariables false
set_option linter.unusedSimpArgs false
set_option maxRecDepth 100000
namespace Go.Sw.Tree
variable {P : Program} {S : Ids} {h : Heap} {Q : Nat → List Value → Heap → Prop}

theorem c_AtNo {p : Option Addr} {t : BT} {i : Int} (nt : Nd h p t) (hroom : t.list.length ≤ 4398046511104) (hf : i ≤ 9223372036854775807) (hno : i < 0 ∨ (t.list.length : Int) ≤ i) :
    Gives P (F_Tree_Run_At S (p, ()) i) [A2, .one .bool] h fun (y : R2 × Bool × Unit) h' => y.1.1 = 0 ∧ y.1.2.1 = 0 ∧ y.2.1 = false := by
  unfold F_Tree_Run_At Gives
  refine s_newP p fun h1 e1 o1 => s_zero2 fun h2 e2 o2 => s_getP (o1.ext e2) ?_
  refine wp_whileG (G := BT) (fun g (s : Int × Option Addr × Unit) h' => Ext h h' ∧ Nd h' s.2.1 g ∧ (s.1 < 0 ∨ (g.list.length : Int) ≤ s.1) ∧ s.1 ≤ 9223372036854775807 ∧ g.list.length ≤ 4398046511104 ∧ OwnL h1.size .i64 h' ⟨some ⟨h1.size, 0, none⟩, 2, 2⟩ [0, 0]) (fun g => g.list.length)
    (fun t' vs h' => t' = 2 ∧ vs = [] ∧ Ext h h' ∧ OwnL h1.size .i64 h' ⟨some ⟨h1.size, 0, none⟩, 2, 2⟩ [0, 0])
    t ⟨e1.trans e2, nt.ext (e1.trans e2), hno, hf, hroom, o2⟩ ?_ ?_
  · rintro g ⟨(j : Int), (q : Option Addr), u⟩ h3 ⟨e3, nq, hj0, hj1, hg, oa⟩
    dsimp only at nq hj0 hj1 ⊢
    cases g with
    | nil =>
      obtain rfl := nq
      refine bind_bool False (s_ifF (s_ret ⟨rfl, Ext.refl _, false, rfl, Iff.intro (fun x => by cases x) False.elim⟩)) fun b h4 e4 hb => ?_
      have hbb : b = false := by cases b; rfl; exact (hb.1 rfl).elim
      subst hbb
      exact s_ifF (s_ret ⟨fun h => absurd h (by decide), fun _ => ⟨rfl, rfl, e3.trans e4, oa.ext e4⟩⟩)
    | node l y r =>
      have hl := node_len l r y
      obtain ⟨a, ql, qr, rfl, c, n1, n2⟩ := nq
      have c : NdC h3 a ql qr l y r := c
      refine bind_bool (0 ≤ j) (s_ifT (s_ret ⟨rfl, Ext.refl _, geI j 0, rfl, geI_iff⟩)) fun b h4 e4 hb => ?_
      have c4 := c.ext e4
      have e04 := e3.trans e4
      dsimp only
      refine wp_ifB (fun hc => ?_) fun hc => s_ret ⟨fun h => absurd h (by decide), fun _ => ⟨rfl, rfl, e04, oa.ext e4⟩⟩
      have h0 := hb.1 hc
      refine q_left c4 (wp_call (c_count (n1.ext e4)) fun k h5 e5 hk => ?_)
      obtain ⟨(k : Int), w⟩ := k
      dsimp only at hk ⊢
      subst hk
      have c5 := c4.ext e5
      have oa5 := (oa.ext e4).ext e5
      have e05 := e04.trans e5
      rw [show eqI j (l.list.length : Int) = false from eqI_not.2 (by omega), show ltI j (l.list.length : Int) = false from ltI_not.2 (by omega)]
      rw [sub_ok (a := j) (by omega) (by omega), sub_ok (by omega) (by omega)]
      exact s_ifF (s_ifF (q_right c5 (s_ret ⟨fun _ => ⟨r, (j - l.list.length - 1, qr, ()), rfl, ⟨e05, (n2.ext e4).ext e5, by dsimp only; omega, by dsimp only; omega, by omega, oa5⟩, by omega⟩, fun h => absurd rfl h⟩)))
  · rintro tg vs h3 ⟨rfl, rfl, e3, oa⟩
    refine s_tag (s_cast0 (s_zero2 fun h4 e4 oz => s_get2 rfl oz (s_store2 0 0 (oa.ext e4) ⟨fits_zero _, fits_zero _⟩ fun h5 o5 u5 => s_get2 rfl o5 (s_ret ⟨rfl, Upd.extN (e3.trans e4) u5 (by intro a ha; cases ha; exact e1.size), ((0, 0, ()), false, ()), rfl, rfl, rfl, rfl⟩))))

theorem eqB_same (a : Bool) : eqB a a = true := by cases a <;> rfl

theorem c_tells6 {w : Addr} {ts ss : Sl} {ps : List (Option Addr)} {sl : List Sl} {bs : List BT} {o : Op7} (hW : WoodR h w ts ss ps sl bs) (hk : o.1 = 6) (hf : o.2.2.2.2.2.1 ≤ 9223372036854775807) :
    Gives P (F_wood_tells S (some w) o) [.one .bool] h fun (y : Bool × Unit) _ => y.1 = true := by
  obtain ⟨(o0 : Int), (o1 : Int), (o2 : Int), (o3 : Int), (o4 : Int), (o5 : Int), s, u⟩ := o
  dsimp only at hk hf
  subst o0
  unfold F_wood_tells Gives
  dsimp only
  intro elem
  have e1 : Ext h (h.push (.cells [iv 6, iv o1, iv o2, iv o3, iv o4, iv o5, .slice s.base s.len s.cap].toArray elem)) := Ext.push ..
  have q1 : Own h.size 1 (h.push (.cells [iv 6, iv o1, iv o2, iv o3, iv o4, iv o5, .slice s.base s.len s.cap].toArray elem)) ⟨some ⟨h.size, 0, none⟩, 7, 7⟩ [iv 6, iv o1, iv o2, iv o3, iv o4, iv o5, .slice s.base s.len s.cap] := own_alloc rfl (by decide) (by decide)
  generalize (h.push (.cells [iv 6, iv o1, iv o2, iv o3, iv o4, iv o5, .slice s.base s.len s.cap].toArray elem)) = h1 at e1 q1 ⊢
  have hW1 := hW.ext e1
  have htl := hW.t.1
  rw [List.length_map, hW.tl] at htl
  have hpos := hW.pos
  have hrm := hW.room
  refine ⟨⟨h.size, 0, none⟩, rfl, (6, o1, o2, o3, o4, o5, s, ()), q1.cells, ?_⟩
  refine wp_call (c_who (o := (6, o1, o2, o3, o4, o5, s, ())) hW1.obj (by omega) (by omega)) fun y h2 e2 hy => ?_
  obtain ⟨(k : Int), w1⟩ := y
  obtain ⟨k0, k1⟩ := hy
  dsimp only at k0 k1 ⊢
  have hW2 := hW1.ext e2
  have hb : bs[k.toNat]? = some bs[k.toNat] := List.getElem?_eq_getElem (by omega)
  obtain ⟨p, x, hp, hx, nd, rn, av, rm⟩ := hW2.nd _ _ hb
  generalize bs[k.toNat] = t at nd rn av rm
  refine grd_some rfl (grd_some rfl (s_cell (b := .sl) (x := ts) rfl hW2.obj rfl (s_atP hW2.t k0 hp (s_putTree p nd fun h3 e3 oT => ?_))))
  have hW3 := hW2.ext e3
  have n3 := nd.ext e3
  have r3 := rn.ext e3
  have q3 := (q1.ext (e2.trans e3)).cells
  have hw := rn.wf
  have e03 := (e1.trans e2).trans e3
  refine grd_some rfl (grd_some rfl (s_cell (b := .sl) (x := ss) rfl hW3.obj rfl (s_atS hW3.s k0 hx (s_cell (b := .int .i64) (x := 6) rfl q3 rfl ?_))))
  refine s_ifF (s_ifF (s_ifF (s_ifT ?_)))
  refine s_getT oT (s_cell (b := .int .i64) (x := o5) rfl q3 rfl ?_)
  have fin : ∀ {x1 x2 : Int} {b : Bool} {m1 m2 : Nat} {a1 a2 : Addr} {k : Heap}, fitsI .i64 x1 ∧ fitsI .i64 x2 → Ext h k → OwnL m1 .i64 k ⟨some a1, 2, 2⟩ [x1, x2] → OwnL m2 .i64 k ⟨some a2, 2, 2⟩ [x1, x2] →
      wp P (.bind (ifB (eqB b b) (.load A2 (some a1) fun (r35 : R2) => .load A2 (some a2) fun (r36 : R2) => .call (F_law4_sameRun S (r35.1, (r35.2.1, ())) (r36.1, (r36.2.1, ()))) [.one .bool] fun (r37 : Bool × Unit) => .ret 0 [.bool r37.1]) <| .ret 0 [.bool false])
        fun k38 vs39 => ifB (eqN k38 0) (.cast [.one .bool] vs39 fun (r40 : Bool × Unit) => .ret 0 [.bool r40.1]) .fail) k
        fun tag vs h' => tag = 0 ∧ Ext h h' ∧ ∃ x, vs = Ts.inj [.one .bool] x ∧ x.1 = true := by
    intro x1 x2 b m1 m2 a1 a2 k hf e l1 l2
    refine bind_val (tys := [.one .bool]) (fun (x : Bool × Unit) _ => x.1 = true) ?_ fun x k2 d2 hx => s_ret ⟨rfl, e.trans d2, (x.1, ()), rfl, hx⟩
    rw [eqB_same]
    refine s_ifT (s_get2 rfl l1 (s_get2 rfl l2 (wp_call (c_sameRun (a := (x1, x2, ())) (b := (x1, x2, ())) hf hf) fun y k2 d2 hy => ?_)))
    exact s_ret ⟨rfl, d2, (y.1, ()), rfl, hy.2 ⟨rfl, rfl⟩⟩
  by_cases hin : 0 ≤ o5 ∧ o5 < t.list.length
  · have hat : t.list[o5.toNat]? = some t.list[o5.toNat] := List.getElem?_eq_getElem (by omega)
    refine wp_call (c_At n3 hw (by omega) hin.1 hat) fun y h4 e4 hy => ?_
    have hfx := hw.get hat
    generalize t.list[o5.toNat] = xx at hat hy hfx
    obtain ⟨x1, x2⟩ := xx
    obtain ⟨⟨(y1 : Int), (y2 : Int), w13⟩, (y3 : Bool), w14⟩ := y
    obtain ⟨hy1, hy2, hy3⟩ := hy
    dsimp only at hy1 hy2 hy3 ⊢
    subst y1; subst y2; subst y3
    refine s_put2 x1 x2 hfx fun h5 e5 oX => ?_
    have q5 := (e4.trans e5).cells q3
    refine s_cell (b := .int .i64) (x := o5) rfl q5 rfl (wp_call (c_refAt (r3.ext (e4.trans e5))) fun z h6 e6 hz => ?_)
    obtain ⟨⟨(z1 : Int), (z2 : Int), w15⟩, (z3 : Bool), w16⟩ := z
    rcases hz with ⟨a1, a2, a3⟩ | ⟨a1, a2, a3, a4⟩
    · dsimp only at a1 a3 ⊢
      rw [hat] at a3
      cases a3
      subst z3
      exact s_put2 x1 x2 hfx fun h7 e7 oY => fin hfx ((((e03.trans e4).trans e5).trans e6).trans e7) (oX.ext (e6.trans e7)) oY
    · omega
  · refine wp_call (c_AtNo n3 (by omega) hf (by omega)) fun y h4 e4 hy => ?_
    obtain ⟨⟨(y1 : Int), (y2 : Int), w13⟩, (y3 : Bool), w14⟩ := y
    obtain ⟨hy1, hy2, hy3⟩ := hy
    dsimp only at hy1 hy2 hy3 ⊢
    subst y1; subst y2; subst y3
    have hfx : fitsI .i64 0 ∧ fitsI .i64 0 := ⟨fits_zero _, fits_zero _⟩
    refine s_put2 0 0 hfx fun h5 e5 oX => ?_
    have q5 := (e4.trans e5).cells q3
    refine s_cell (b := .int .i64) (x := o5) rfl q5 rfl (wp_call (c_refAt (r3.ext (e4.trans e5))) fun z h6 e6 hz => ?_)
    obtain ⟨⟨(z1 : Int), (z2 : Int), w15⟩, (z3 : Bool), w16⟩ := z
    rcases hz with ⟨a1, a2, a3⟩ | ⟨a1, a2, a3, a4⟩
    · have := (List.getElem?_eq_some_iff.1 a3).1
      omega
    · dsimp only at a1 a3 a4 ⊢
      subst z1; subst z2; subst z3
      exact s_put2 0 0 hfx fun h7 e7 oY => fin hfx ((((e03.trans e4).trans e5).trans e6).trans e7) (oX.ext (e6.trans e7)) oY

theorem c_TreeLooks {s : Sl} {l : List OpV} (hr : Ops h s l) (hl : l.length ≤ 2097152) (htot : tot l ≤ 2097152) : Gives P (F_law4_TreeLooks S s) [.one .bool] h fun (y : Bool × Unit) _ => y.1 = true := by
  unfold F_law4_TreeLooks Gives
  refine wp_call (c_fits hr) fun y h1 e1 _ => bind_val (tys := [.one .bool]) (fun (x : Bool × Unit) _ => x.1 = true) ?_ fun x h2 e2 hx => s_ret ⟨rfl, e1.trans e2, (x.1, ()), rfl, hx⟩
  refine wp_ifB (fun _ => s_ret ⟨rfl, Ext.refl _, (true, ()), rfl, rfl⟩) fun _ => wp_call (c_plays (hr.ext e1) (told_plain fun k h1 h2 => ⟨fun e => by subst e; exact absurd h2 (by decide), fun e => by subst e; exact absurd h2 (by decide), fun e => by subst e; exact absurd h2 (by decide)⟩) hl htot) fun y h2 e2 hy => ?_
  obtain ⟨(y : Bool), w⟩ := y
  dsimp only at hy ⊢
  subst y
  refine s_ifT (wp_call (c_plays (hr.ext (e1.trans e2)) (fun {_ _ _ _ _ _ _ o} hW h1 h2 hf _ => c_tells6 hW (Int.le_antisymm h2 h1) (fits_i64.1 hf.2.2.2.2.2).2) hl htot) fun y h3 e3 hy => ?_)
  exact s_ret ⟨rfl, e2.trans e3, (y.1, ()), rfl, hy⟩

end Go.Sw.Tree
