/-
  The tree over any kind of things: build, Of, Size, Sum, Replace, At.
-/
import Derived.Test.YteoloieadjeneaaSwK3
set_option linter.unusedVariables false
set_option linter.unusedSimpArgs false
set_option maxRecDepth 100000
namespace Go.Sw.Any
open Go.Sw.Tree (iv s_putAll s_newP s_getP s_getT s_putP small_ne cells_upd wp_whileG least TR minI_eq eqI_self Placed)
variable {P : Program} {I : Inst} {h : Heap} {Q : Nat → List Value → Heap → Prop}

theorem c_buildR (O : I.Ok P) : ∀ (fuel : Nat) {h : Heap} {items : Sl} {l : List I.It}, l.length < fuel → Its I h items l → I.W l ≤ 4398046511104 →
    Gives P (Gr_build fuel I items) [.one .ptr] h fun (y : Option Addr × Unit) h' => ∃ t : Bt I.It, Nd I h' y.1 t ∧ t.list = l ∧ t.Full := by
  intro fuel
  induction fuel with
  | zero => intro h items l hf; omega
  | succ fuel ih =>
    intro h items l hf hr hroom
    have hlen := hr.len O
    have hlW := W_len O l
    have hcap := hr.cap
    have hmax := hr.max
    unfold Gr_build Gives
    refine wp_ifB (fun hc => ?_) fun hc => ?_
    · rw [eqI_iff, natI_def, hlen] at hc
      exact s_ret ⟨rfl, Ext.refl _, (none, ()), rfl, .nil, rfl, by cases l; rfl; simp at hc; omega, full_nil⟩
    · rw [eqI_not, natI_def, hlen] at hc
      have hq : quoI .i64 (natI items.len) 2 = ((l.length / 2 : Nat) : Int) := by
        rw [natI_def, hlen, quo_ok (by omega) (by omega) (by omega)]; omega
      have hk : l.length / 2 < l.length := by omega
      have hj : l[l.length / 2]? = some l[l.length / 2] := List.getElem?_eq_getElem hk
      rw [hq, add_ok (by omega) (by omega)]
      have ht : toN ((l.length / 2 : Nat) : Int) = l.length / 2 := by rw [toN_def]; omega
      have ht1 : toN (((l.length / 2 : Nat) : Int) + 1) = l.length / 2 + 1 := by rw [toN_def]; omega
      rw [ht1, show subN items.cap 0 = items.cap from rfl, cutBase_zero, show subN (toN ((l.length / 2 : Nat) : Int)) 0 = l.length / 2 by rw [ht]; rfl]
      refine s_not (s_grd (leB_ok (by omega) (by omega)) (s_atI O hr (by omega) (by omega) fun x hx => s_grd (leB_ok (by omega) (by omega)) ?_))
      rw [show ((l.length / 2 : Nat) : Int).toNat = l.length / 2 by omega] at hx
      refine wp_call (ih (l := l.take (l.length / 2)) (by rw [List.length_take]; omega) (hr.take O (by omega) (by omega) hmax) (Nat.le_trans (W_take _ _) hroom)) fun y h1 e1 hy => ?_
      obtain ⟨(pl : Option Addr), u1⟩ := y
      obtain ⟨tl, n1, l1, fl⟩ := hy
      dsimp only at n1 ⊢
      rw [ht]
      refine s_sameI O (hr.ext e1) hx ?_
      refine wp_call (ih (l := l.drop (l.length / 2 + 1)) (by rw [List.length_drop]; omega) ((hr.ext e1).drop O (by omega) (by unfold subN; omega) (by unfold subN; omega)) (Nat.le_trans (W_drop _ _) hroom)) fun y h2 e2 hy => ?_
      obtain ⟨(pr : Option Addr), u2⟩ := y
      obtain ⟨tr, n2, l2, fr⟩ := hy
      dsimp only at n2 ⊢
      refine s_sameI O (hr.ext (e1.trans e2)) hx ?_
      have hlist : (Bt.node tl x tr).list = l := by
        simp only [Bt.list]
        rw [l1, l2]
        have := List.getElem?_eq_some_iff.1 hx
        obtain ⟨_, rfl⟩ := this
        rw [← List.drop_eq_getElem_cons hk, List.take_append_drop]
      refine wp_call (c_of O (x := x) (n1.ext e2) n2 (by rw [hlist]; exact hr.wf) (by rw [hlist]; exact hroom)) fun y h3 e3 hy => ?_
      obtain ⟨(p : Option Addr), u3⟩ := y
      exact s_ret ⟨rfl, (e1.trans e2).trans e3, (p, ()), rfl, _, hy, hlist, full_node fl fr (by rw [l1, l2, List.length_take, List.length_drop]; omega) (by rw [l1, l2, List.length_take, List.length_drop]; omega)⟩

theorem c_Of (O : I.Ok P) {items : Sl} {l : List I.It} (hr : Its I h items l) (hroom : I.W l ≤ 4398046511104) : Gives P (G_Of I items) [.agg [.ptr]] h fun (y : TR × Unit) h' => ∃ t : Bt I.It, Nd I h' y.1.1 t ∧ t.list = l ∧ t.Full := by
  unfold G_Of Gives
  refine s_newP none fun h1 e1 o1 => ?_
  refine wp_call (R := fun (y : Option Addr × Unit) h' => ∃ t : Bt I.It, Nd I h' y.1 t ∧ t.list = l ∧ t.Full) ⟨l.length + 1, c_buildR O _ (Nat.lt_succ_self _) (hr.ext e1) hroom⟩ fun y h2 e2 hy => ?_
  obtain ⟨(p : Option Addr), u⟩ := y
  obtain ⟨t, n, hl, hfull⟩ := hy
  dsimp only at n ⊢
  refine s_putP p (o1.ext e2) fun h3 o3 u3 => s_getT o3 (s_ret ?_)
  have e := Upd.extN (e1.trans e2) u3 (by intro a ha; cases ha; exact Nat.le_refl _)
  exact ⟨rfl, e, ((p, ()), ()), rfl, t, n.upd u3 (o1.ext e2) (by omega), hl, hfull⟩

theorem c_Size {p : Option Addr} {t : Bt I.It} (ht : Nd I h p t) : Gives P (G_Size I (p, ())) [.one (.int .i64)] h fun (x : Int × Unit) _ => x.1 = t.list.length := by
  unfold G_Size Gives
  refine s_newP p fun h1 e1 o1 => s_getP o1 (wp_call (c_count (ht.ext e1)) fun x h2 e2 hx => ?_)
  exact s_ret ⟨rfl, e1.trans e2, (x.1, ()), rfl, hx⟩

theorem c_Sum (O : I.Ok P) {p : Option Addr} {t : Bt I.It} (ht : Nd I h p t) (hw : I.wf t.list) (hroom : I.W t.list ≤ 4398046511104) : Gives P (G_Sum I (p, ())) [(.agg I.sB)] h fun (x : I.Su × Unit) _ => x.1 = I.sum t.list := by
  unfold G_Sum Gives
  refine s_newP p fun h1 e1 o1 => s_newO I.zs O.s1.2 fun h2 e2 o2 => s_getP (o1.ext e2) ?_
  cases t with
  | nil =>
    obtain rfl := ht
    exact s_ifT (s_newO I.zs O.s1.2 fun h3 e3 o3 => s_getO o3 (s_tellO I.zs (o2.ext e3) e1.size ((e1.trans e2).trans e3) (O.fs _) fun h' e => ⟨rfl, e, (I.zs, ()), rfl, rfl⟩))
  | node l x r =>
    obtain ⟨a, ql, qr, rfl, c, _, _⟩ := ht
    exact s_ifF (s_getP (o1.ext e2) (q_sum (c.ext (e1.trans e2)) (s_tellO (I.sum (Bt.node l x r).list) o2 e1.size (e1.trans e2) (O.fs _) fun h' e => ⟨rfl, e, (_, ()), rfl, rfl⟩)))

theorem W_two (l : List I.It) {i j : Nat} (h : i ≤ j) : I.W (l.take i) + I.W (l.drop j) ≤ I.W l := by
  have h1 := W_append (l.take i) (l.drop i)
  rw [List.take_append_drop] at h1
  have h2 := W_drop (l.drop i) (j - i)
  rw [List.drop_drop, show i + (j - i) = j by omega] at h2
  omega

theorem c_Replace (O : I.Ok P) {p : Option Addr} {t : Bt I.It} {items : Sl} {its : List I.It} {i j : Int} (nt : Nd I h p t) (hr : Its I h items its) (hw : I.wf t.list) (h0 : 0 ≤ i) (h1 : i ≤ j) (h2 : j ≤ t.list.length) (hroom : I.W t.list + I.W its ≤ 4398046511104) :
    Gives P (G_Replace I (p, ()) i j items) [.agg [.ptr], .one (.int .i64)] h fun (y : TR × Int × Unit) h' => y.2.1 = 0 ∧ ∃ t', Nd I h' y.1.1 t' ∧ t'.list = t.list.take i.toNat ++ its ++ t.list.drop j.toNat ∧ (t.Avl → t'.Avl) := by
  unfold G_Replace Gives
  refine s_newP p fun k1 e1 o1 => s_newP none fun k2 e2 o2 => ?_
  have e02 := e1.trans e2
  have o12 := o1.ext e2
  refine bind_bool False ?_ fun b k3 e3 hb => ?_
  · refine wp_ifB (fun hz => ?_) fun hz => wp_ifB (fun hy => ?_) fun hy => s_getT o12 (wp_call (c_Size (nt.ext e02)) fun y k3 e3 hy => ?_)
    · rw [ltI_iff] at hz; omega
    · rw [gtI_iff] at hy; omega
    · obtain ⟨(y : Int), w⟩ := y
      dsimp only at hy ⊢
      refine s_ret ⟨rfl, e3, gtI j y, rfl, Iff.intro (fun hx => ?_) False.elim⟩
      rw [gtI_iff] at hx; omega
  have hbf : b = false := by cases b; rfl; exact (hb.1 rfl).elim
  subst hbf
  dsimp only
  have o13 := o12.ext e3
  have e03 := e02.trans e3
  have l1 := W_take t.list i.toNat
  have l3 := W_two t.list (i := i.toNat) (j := j.toNat) (by omega)
  refine s_ifF (s_getP o13 (wp_call (c_cut O (nt.ext e03) hw (by omega) h0 (by omega)) fun y k4 e4 hy => s_getP (o13.ext e4) (wp_call (c_cut O (nt.ext (e03.trans e4)) hw (by omega) (by omega) h2) fun z k5 e5 hz => ?_)))
  obtain ⟨(pa : Option Addr), (pb : Option Addr), w1⟩ := y
  obtain ⟨ta, tb, na, nb, la, lb, hav⟩ := hy
  obtain ⟨(pc : Option Addr), (pd : Option Addr), w2⟩ := z
  obtain ⟨tc, td, nc, nd, lc, ld, hav2⟩ := hz
  dsimp only at na nb nc nd ⊢
  have e05 := (e03.trans e4).trans e5
  refine wp_call (R := fun (y : Option Addr × Unit) h' => ∃ t : Bt I.It, Nd I h' y.1 t ∧ t.list = its ∧ t.Full) ⟨its.length + 1, c_buildR O _ (Nat.lt_succ_self _) (hr.ext e05) (by omega)⟩ fun y k6 e6 hy => ?_
  obtain ⟨(pm : Option Addr), w3⟩ := y
  obtain ⟨tm, nm, lm, fm⟩ := hy
  dsimp only at nm ⊢
  refine wp_call (c_both O ((na.ext e5).ext e6) nm (by rw [la, lm]; exact wf_append (wf_take hw _) hr.wf) (by rw [la, lm, W_append]; omega)) fun y k7 e7 hy => ?_
  obtain ⟨(pn : Option Addr), w4⟩ := y
  obtain ⟨tn, nn, ln, hav3⟩ := hy
  dsimp only at nn ⊢
  rw [la, lm] at ln
  refine wp_call (c_both O nn ((nd.ext e6).ext e7) (by rw [ln, ld]; exact wf_append (wf_append (wf_take hw _) hr.wf) (wf_drop hw _)) (by rw [ln, ld, W_append, W_append]; omega)) fun y k8 e8 hy => ?_
  obtain ⟨(pz : Option Addr), w5⟩ := y
  obtain ⟨tz, nz, lz, hav4⟩ := hy
  dsimp only at nz ⊢
  have e28 := (((((e3.trans e4).trans e5).trans e6).trans e7).trans e8)
  have o28 := o2.ext e28
  refine s_putP pz o28 fun k9 o9 u9 => s_getT o9 (s_ret ⟨rfl, Upd.extN (e02.trans e28) u9 (by intro a ha; cases ha; exact e1.size), ((pz, ()), 0, ()), rfl, rfl, tz, nz.upd u9 o28 (by omega), by rw [lz, ln, ld], fun hv => hav4 (hav3 (hav hv).1 fm.2.2) (hav2 hv).2⟩)

theorem c_At (O : I.Ok P) {p : Option Addr} {t : Bt I.It} {i : Int} {x : I.It} (nt : Nd I h p t) (hw : I.wf t.list) (hroom : I.W t.list ≤ 4398046511104) (h0 : 0 ≤ i) (hx : t.list[i.toNat]? = some x) :
    Gives P (G_At I (p, ()) i) [(.agg I.iB), .one .bool] h fun (y : I.It × Bool × Unit) h' => y.1 = x ∧ y.2.1 = true := by
  have hi := (List.getElem?_eq_some_iff.1 hx).1
  unfold G_At Gives
  refine s_newP p fun h1 e1 o1 => s_newO I.zi O.i1.2 fun h2 e2 o2 => s_getP (o1.ext e2) ?_
  refine wp_whileG (G := Bt I.It) (fun g (s : Int × Option Addr × Unit) h' => Ext h h' ∧ Nd I h' s.2.1 g ∧ 0 ≤ s.1 ∧ s.1 < g.list.length ∧ I.W g.list ≤ 4398046511104 ∧ g.list[s.1.toNat]? = some x ∧ Own h1.size 1 h' ⟨some ⟨h1.size, 0, none⟩, I.iB.length, I.iB.length⟩ (Bs.inj I.iB I.zi)) (fun g => g.list.length)
    (fun t' vs h' => t' = 1 ∧ vs = [.pointer (some ⟨h1.size, 0, none⟩), .bool true] ∧ Ext h h' ∧ Own h1.size 1 h' ⟨some ⟨h1.size, 0, none⟩, I.iB.length, I.iB.length⟩ (Bs.inj I.iB x))
    t ⟨e1.trans e2, nt.ext (e1.trans e2), h0, by first | omega | (dsimp only; omega), hroom, hx, o2⟩ ?_ ?_
  · rintro g ⟨(j : Int), (q : Option Addr), u⟩ h3 ⟨e3, nq, hj0, hj1, hg, hgx, oa⟩
    dsimp only at nq hj0 hj1 hgx ⊢
    cases g with
    | nil => simp [Bt.list] at hj1; omega
    | node l y r =>
      have hl := node_len l r y; have hlw := node_W (I := I) l r y; have hll := W_len O (Bt.node l y r).list
      obtain ⟨a, ql, qr, rfl, c, n1, n2⟩ := nq
      have c : NdC I h3 a ql qr l y r := c
      refine bind_bool True (s_ifT (s_ret ⟨rfl, Ext.refl _, geI j 0, rfl, by rw [geI_iff]; exact Iff.intro (fun _ => trivial) (fun _ => hj0)⟩)) fun b h4 e4 hb => ?_
      have hbt : b = true := hb.2 trivial
      subst hbt
      dsimp only
      have c4 := c.ext e4
      have e04 := e3.trans e4
      refine s_ifT (q_left c4 (wp_call (c_count (n1.ext e4)) fun k h5 e5 hk => ?_))
      obtain ⟨(k : Int), w⟩ := k
      dsimp only at hk ⊢
      subst hk
      have c5 := c4.ext e5
      have oa5 := (oa.ext e4).ext e5
      have e05 := e04.trans e5
      have hbt : (Bt.node l y r).list = l.list ++ y :: r.list := rfl
      rw [hbt] at hgx
      refine wp_ifB (fun hc => ?_) fun hc => wp_ifB (fun hd => ?_) fun hd => ?_
      · rw [eqI_iff] at hc
        have hxy : y = x := by
          rw [List.getElem?_append_right (by omega), show j.toNat - l.list.length = 0 by omega] at hgx
          simpa using hgx
        subst hxy
        exact q_item c5 (s_stoO y oa5 (O.fi _) fun h6 o6 u6 => s_ret ⟨fun h => absurd h (by decide), fun _ => ⟨rfl, rfl, Upd.extN e05 u6 (by intro a ha; cases ha; exact e1.size), o6⟩⟩)
      · rw [ltI_iff] at hd
        rw [List.getElem?_append_left (by omega)] at hgx
        exact q_left c5 (s_ret ⟨fun _ => ⟨l, (j, ql, ()), rfl, ⟨e05, (n1.ext e4).ext e5, hj0, hd, by omega, hgx, oa5⟩, by first | omega | (dsimp only; omega)⟩, fun h => absurd rfl h⟩)
      · rw [eqI_not] at hc
        rw [ltI_not] at hd
        rw [sub_ok (a := j) (by omega) (by omega), sub_ok (by omega) (by omega)]
        obtain ⟨d, hd'⟩ : ∃ d : Nat, j = l.list.length + 1 + d := ⟨(j - l.list.length - 1).toNat, by omega⟩
        have h2' : (j - l.list.length - 1).toNat = d := by omega
        rw [List.getElem?_append_right (by omega), show j.toNat - l.list.length = d + 1 by omega, List.getElem?_cons_succ] at hgx
        exact q_right c5 (s_ret ⟨fun _ => ⟨r, (j - l.list.length - 1, qr, ()), rfl, ⟨e05, (n2.ext e4).ext e5, by first | omega | (dsimp only; omega), by first | omega | (dsimp only; omega), by omega, by rw [h2']; exact hgx, oa5⟩, by first | omega | (dsimp only; omega)⟩, fun h => absurd rfl h⟩)
  · rintro tg vs h3 ⟨rfl, rfl, e3, oa⟩
    exact s_skip (by decide) (s_tag ⟨(some ⟨h1.size, 0, none⟩, true, ()), rfl, s_getO oa (s_ret ⟨rfl, e3, (x, true, ()), rfl, rfl, rfl⟩)⟩)

theorem c_ReplaceNo {p : Option Addr} {t : Bt I.It} {items : Sl} {i j : Int} (nt : Nd I h p t) (hno : ¬ Placed i j t.list.length) :
    Gives P (G_Replace I (p, ()) i j items) [.agg [.ptr], .one (.int .i64)] h fun (y : TR × Int × Unit) h' => y.2.1 = 1 ∧ y.1.1 = none := by
  unfold Placed at hno
  unfold G_Replace Gives
  refine s_newP p fun k1 e1 o1 => s_newP none fun k2 e2 o2 => ?_
  have e02 := e1.trans e2
  have o12 := o1.ext e2
  refine bind_bool True ?_ fun b k3 e3 hb => ?_
  · refine wp_ifB (fun hz => s_ret ⟨rfl, Ext.refl _, true, rfl, Iff.intro (fun _ => trivial) (fun _ => rfl)⟩) fun hz => wp_ifB (fun hy => s_ret ⟨rfl, Ext.refl _, true, rfl, Iff.intro (fun _ => trivial) (fun _ => rfl)⟩) fun hy => s_getT o12 (wp_call (c_Size (nt.ext e02)) fun y k3 e3 hx => ?_)
    obtain ⟨(y : Int), w⟩ := y
    dsimp only at hx ⊢
    rw [ltI_not] at hz
    rw [gtI_not] at hy
    exact s_ret ⟨rfl, e3, gtI j y, rfl, Iff.intro (fun _ => trivial) (fun _ => gtI_iff.2 (by omega))⟩
  have hbt : b = true := hb.2 trivial
  subst hbt
  dsimp only
  exact s_ifT (s_putP none (o2.ext e3) fun k4 o4 u4 => s_getT o4 (s_ret ⟨rfl, Upd.extN (e02.trans e3) u4 (by intro a ha; cases ha; exact e1.size), ((none, ()), 1, ()), rfl, rfl, rfl⟩))

theorem c_AtNo (O : I.Ok P) {p : Option Addr} {t : Bt I.It} {i : Int} (nt : Nd I h p t) (hroom : I.W t.list ≤ 4398046511104) (hf : i ≤ 9223372036854775807) (hno : i < 0 ∨ (t.list.length : Int) ≤ i) :
    Gives P (G_At I (p, ()) i) [(.agg I.iB), .one .bool] h fun (y : I.It × Bool × Unit) h' => y.1 = I.zi ∧ y.2.1 = false := by
  unfold G_At Gives
  refine s_newP p fun h1 e1 o1 => s_newO I.zi O.i1.2 fun h2 e2 o2 => s_getP (o1.ext e2) ?_
  refine wp_whileG (G := Bt I.It) (fun g (s : Int × Option Addr × Unit) h' => Ext h h' ∧ Nd I h' s.2.1 g ∧ (s.1 < 0 ∨ (g.list.length : Int) ≤ s.1) ∧ s.1 ≤ 9223372036854775807 ∧ I.W g.list ≤ 4398046511104 ∧ Own h1.size 1 h' ⟨some ⟨h1.size, 0, none⟩, I.iB.length, I.iB.length⟩ (Bs.inj I.iB I.zi)) (fun g => g.list.length)
    (fun t' vs h' => t' = 2 ∧ vs = [] ∧ Ext h h' ∧ Own h1.size 1 h' ⟨some ⟨h1.size, 0, none⟩, I.iB.length, I.iB.length⟩ (Bs.inj I.iB I.zi))
    t ⟨e1.trans e2, nt.ext (e1.trans e2), hno, hf, hroom, o2⟩ ?_ ?_
  · rintro g ⟨(j : Int), (q : Option Addr), u⟩ h3 ⟨e3, nq, hj0, hj1, hg, oa⟩
    dsimp only at nq hj0 hj1 ⊢
    cases g with
    | nil =>
      obtain rfl := nq
      refine bind_bool False (s_ifF (s_ret ⟨rfl, Ext.refl _, false, rfl, Iff.intro (fun x => by cases x) False.elim⟩)) fun b h4 e4 hb => ?_
      have hbb : b = false := by cases b; rfl; exact (hb.1 rfl).elim
      subst hbb
      exact s_ifF (s_ret ⟨fun h => absurd h (by decide), fun _ => ⟨rfl, rfl, e3.trans e4, oa.ext e4⟩⟩)
    | node l y r =>
      have hl := node_len l r y; have hlw := node_W (I := I) l r y; have hll := W_len O (Bt.node l y r).list
      obtain ⟨a, ql, qr, rfl, c, n1, n2⟩ := nq
      have c : NdC I h3 a ql qr l y r := c
      refine bind_bool (0 ≤ j) (s_ifT (s_ret ⟨rfl, Ext.refl _, geI j 0, rfl, geI_iff⟩)) fun b h4 e4 hb => ?_
      have c4 := c.ext e4
      have e04 := e3.trans e4
      dsimp only
      refine wp_ifB (fun hc => ?_) fun hc => s_ret ⟨fun h => absurd h (by decide), fun _ => ⟨rfl, rfl, e04, oa.ext e4⟩⟩
      have h0 := hb.1 hc
      refine q_left c4 (wp_call (c_count (n1.ext e4)) fun k h5 e5 hk => ?_)
      obtain ⟨(k : Int), w⟩ := k
      dsimp only at hk ⊢
      subst hk
      have c5 := c4.ext e5
      have oa5 := (oa.ext e4).ext e5
      have e05 := e04.trans e5
      rw [show eqI j (l.list.length : Int) = false from eqI_not.2 (by omega), show ltI j (l.list.length : Int) = false from ltI_not.2 (by omega)]
      rw [sub_ok (a := j) (by omega) (by omega), sub_ok (by omega) (by omega)]
      exact s_ifF (s_ifF (q_right c5 (s_ret ⟨fun _ => ⟨r, (j - l.list.length - 1, qr, ()), rfl, ⟨e05, (n2.ext e4).ext e5, by dsimp only; omega, by dsimp only; omega, by omega, oa5⟩, by omega⟩, fun h => absurd rfl h⟩)))
  · rintro tg vs h3 ⟨rfl, rfl, e3, oa⟩
    refine s_tag (s_cast0 (s_newO I.zi O.i1.2 fun h4 e4 oz => s_getO oz (s_stoO I.zi (oa.ext e4) (O.fi _) fun h5 o5 u5 => s_getO o5 (s_ret ⟨rfl, Upd.extN (e3.trans e4) u5 (by intro a ha; cases ha; exact e1.size), (I.zi, false, ()), rfl, rfl, rfl⟩))))

end Go.Sw.Any
