/-
  Tree: heights; the law TreeGrows.
-/
import Derived.Test.YteoloieadjeneaaSwT13
set_option linter.unusedVariables false
set_option linter.unusedSimpArgs false
set_option maxRecDepth 100000
namespace Go.Sw.Tree
variable {P : Program} {S : Ids} {h : Heap} {Q : Nat → List Value → Heap → Prop}

theorem avl_size : ∀ t : BT, t.Avl → 2 ^ (t.ht / 2) ≤ t.list.length + 1
  | .nil, _ => by decide
  | .node l x r, ⟨a, b, c, d⟩ => by
    have h1 := avl_size l a
    have h2 := avl_size r b
    rw [node_len]
    have hh : (BT.node l x r).ht = max l.ht r.ht + 1 := rfl
    by_cases hz : (BT.node l x r).ht ≤ 1
    · rw [show (BT.node l x r).ht / 2 = 0 by omega]; omega
    · have e : (BT.node l x r).ht / 2 = ((BT.node l x r).ht - 2) / 2 + 1 := by omega
      have g1 : 2 ^ (((BT.node l x r).ht - 2) / 2) ≤ 2 ^ (l.ht / 2) := Nat.pow_le_pow_right (by decide) (by omega)
      have g2 : 2 ^ (((BT.node l x r).ht - 2) / 2) ≤ 2 ^ (r.ht / 2) := Nat.pow_le_pow_right (by decide) (by omega)
      rw [e, Nat.pow_succ]; omega

theorem low {t : BT} {d : Nat} (ha : t.Avl) (h1 : 1 ≤ t.list.length) (hd : t.list.length < 2 ^ d) : t.ht ≤ 3 * d := by
  have h2 := avl_size t ha
  have h3 : 2 ^ (t.ht / 2) ≤ 2 ^ d := by omega
  have h4 := (Nat.pow_le_pow_iff_right (by decide : 1 < 2)).1 h3
  have h5 : d ≠ 0 := by intro e; subst e; have : (2 : Nat) ^ 0 = 1 := rfl; omega
  omega

theorem c_Digits {n : Int} (h0 : 0 ≤ n) (h1 : n ≤ 4398046511104) : Gives P (F_ref4_Digits S n) [.one (.int .i64)] h fun (y : Int × Unit) _ => ∃ d : Nat, y.1 = d ∧ d ≤ 4398046511104 ∧ n.toNat < 2 ^ d := by
  unfold F_ref4_Digits Gives
  refine wp_while (fun (s : Int × Int × Unit) h' => Ext h h' ∧ ∃ m d : Nat, s.1 = m ∧ s.2.1 = d ∧ m + d ≤ n.toNat ∧ n.toNat < (m + 1) * 2 ^ d) (fun s _ => s.1.toNat)
    (fun t vs h' => t = 2 ∧ Ext h h' ∧ ∃ x : Int × Unit, vs = Ts.inj [.one (.int .i64)] x ∧ ∃ d : Nat, x.1 = d ∧ d ≤ 4398046511104 ∧ n.toNat < 2 ^ d) ⟨Ext.refl h, n.toNat, 0, by dsimp only; omega, rfl, by omega, by simp⟩ ?_ ?_
  · rintro ⟨(m' : Int), (d' : Int), u⟩ h' ⟨e, m, d, hm, hd, hs, hlt⟩
    dsimp only at hm hd ⊢
    subst hm; subst hd
    refine wp_ifB (fun hc => ?_) fun hc => ?_
    · rw [gtI_iff] at hc
      have hq : quoI .i64 (m : Int) 2 = ((m / 2 : Nat) : Int) := by rw [quo_ok (by omega) (by omega) (by omega)]; omega
      rw [hq, add_ok (by omega) (by omega)]
      refine s_not (s_ret ⟨fun _ => ⟨(((m / 2 : Nat) : Int), (d : Int) + 1, ()), rfl, ⟨e, m / 2, d + 1, rfl, by dsimp only; omega, by omega, ?_⟩, by dsimp only; omega⟩, fun h => absurd rfl h⟩)
      have : (m + 1) * 2 ^ d ≤ (2 * (m / 2 + 1)) * 2 ^ d := Nat.mul_le_mul_right _ (by omega)
      rw [Nat.pow_succ, show (m / 2 + 1) * (2 ^ d * 2) = (2 * (m / 2 + 1)) * 2 ^ d by rw [Nat.mul_comm (2 ^ d) 2, ← Nat.mul_assoc, Nat.mul_comm (m / 2 + 1) 2]]
      omega
    · rw [gtI_not] at hc
      have hm0 : m = 0 := by omega
      subst hm0
      exact s_ret ⟨fun h => absurd h (by decide), fun _ => ⟨rfl, e, ((d : Int), ()), rfl, d, rfl, by omega, by simpa using hlt⟩⟩
  · rintro t vs h' ⟨rfl, e, x, rfl, hx⟩
    exact s_exit rfl x rfl (s_ret ⟨rfl, e, x, rfl, hx⟩)

theorem c_Height {p : Option Addr} {t : BT} (ht : Nd h p t) : Gives P (F_Tree_Run_Height S (p, ())) [.one (.int .i64)] h fun (x : Int × Unit) _ => x.1 = t.ht := by
  unfold F_Tree_Run_Height Gives
  refine s_newP p fun h1 e1 o1 => s_getP o1 (wp_call (c_tall (ht.ext e1)) fun x h2 e2 hx => ?_)
  exact s_ret ⟨rfl, e1.trans e2, (x.1, ()), rfl, hx⟩

theorem add_letters {n m : Nat} {s o : R4} (v : V n s) (w : V m o) : (add s o).1 = s.1 + o.1 := by
  by_cases hs : s.2.1 = 0
  · rw [v.z hs, zero4_add]; simp [zero4]
  · by_cases ho : o.2.1 = 0
    · rw [w.z ho, add_zero4 v]; simp [zero4]
    · rw [add_ne hs ho]
theorem ones {l : List (Int × Int)} (hw : wfR l) (h1 : ∀ r, r ∈ l → r.2 = 1) : (sum l).1 = l.length := by
  induction l with
  | nil => rfl
  | cons x l ih =>
    have hx : wfR [x] := fun r hr => hw r (by rw [List.mem_singleton.1 hr]; exact List.mem_cons_self ..)
    have hl : wfR l := fun r hr => hw r (List.mem_cons_of_mem _ hr)
    rw [show x :: l = [x] ++ l from rfl, sum_append hx hl, add_letters (V.sum hx) (V.sum hl), ih hl fun r hr => h1 r (List.mem_cons_of_mem _ hr)]
    have : sum [x] = measure x := zero4_add _
    rw [this]
    have h2 := h1 x (List.mem_cons_self ..)
    unfold measure
    rw [if_neg (by omega), h2]
    simp; omega

theorem c_TreeGrows {s : Sl} {l : List Int} {how : Int} (hr : Lst .i64 h s l) (hroom : l.length ≤ 1048576) : Gives P (F_law4_TreeGrows S s how) [.one .bool] h fun (x : Bool × Unit) _ => x.1 = true := by
  have hlen := hr.len
  unfold F_law4_TreeGrows Gives
  refine s_newP none fun h1 e1 o1 => ?_
  refine wp_while (fun (s : Int × Unit) h' => 0 ≤ s.1 ∧ s.1 ≤ l.length + 1 ∧ Ext h h' ∧ ∃ (p : Option Addr) (t : BT), Own h.size 1 h' ⟨some ⟨h.size, 0, none⟩, 1, 1⟩ [.pointer p] ∧ Nd h' p t ∧ t.Avl ∧ wfR t.list ∧ (t.list.length : Int) = s.1 ∧ ∀ r, r ∈ t.list → r.2 = 1)
    (fun s _ => (l.length + 1 - s.1).toNat)
    (fun tg vs h' => tg = 2 ∧ vs = [] ∧ Ext h h' ∧ ∃ (p : Option Addr) (t : BT), Own h.size 1 h' ⟨some ⟨h.size, 0, none⟩, 1, 1⟩ [.pointer p] ∧ Nd h' p t ∧ wfR t.list ∧ t.list.length = l.length + 1 ∧ ∀ r, r ∈ t.list → r.2 = 1)
    ⟨by simp, by dsimp only; omega, e1, none, .nil, o1, rfl, trivial, by simp [wfR, BT.list], rfl, by simp [BT.list]⟩ ?_ ?_
  · rintro ⟨(i : Int), u⟩ h2 ⟨i0, i1, e2, p, t, o2, nt, ha, hw, hti, hone⟩
    dsimp only at i0 i1 hti ⊢
    refine wp_ifB (fun hc => ?_) fun hc => ?_
    · rw [leI_iff, natI_def, hlen] at hc
      refine bind_val (tys := [.one (.int .i64)]) (fun (x : Int × Unit) _ => 0 ≤ x.1 ∧ x.1 ≤ i) ?_ fun x h3 e3 hx => ?_
      · refine s_not (wp_ifB (fun hd => s_ret ⟨rfl, Ext.refl _, (i, ()), rfl, i0, Int.le_refl _⟩) fun hd => ?_)
        refine wp_bind (fun tg vs h' => tg = 0 ∧ Ext h2 h' ∧ ∃ b : Bool, vs = [.bool b] ∧ (b = true → i < l.length)) ?_ ?_
        · refine s_not (wp_ifB (fun hd => ?_) fun hd => s_ret ⟨rfl, Ext.refl _, false, rfl, fun h => by cases h⟩)
          refine s_ret ⟨rfl, Ext.refl _, _, rfl, fun hx => ?_⟩
          rw [ltI_iff, natI_def, hlen] at hx; exact hx
        · rintro tg vs h3 ⟨rfl, e3, b, rfl, hb⟩
          refine s_tag ⟨(b, ()), rfl, ?_⟩
          dsimp only
          refine wp_ifB (fun hx => ?_) fun hx => s_ret ⟨rfl, e3, (0, ()), rfl, Int.le_refl _, i0⟩
          refine s_at ((hr.ext e2).ext e3) i0 (hb hx) fun hf => wp_call (c_slot i0 (by omega)) fun y h4 e4 hy => s_ret ⟨rfl, e3.trans e4, (y.1, ()), rfl, hy⟩
      obtain ⟨(a : Int), w0⟩ := x
      obtain ⟨a0, a1⟩ := hx
      dsimp only at a0 a1 ⊢
      have o3 := o2.ext e3
      have nt3 := nt.ext e3
      refine s_getT o3 ?_
      intro elem
      have hfi : wfR [(i, (1 : Int))] := by intro r hr; rw [List.mem_singleton.1 hr]; exact ⟨fits_i64.2 ⟨by dsimp only; omega, by dsimp only; omega⟩, fits_i64.2 (by dsimp only; decide)⟩
      have e4 : Ext h3 (h3.push (.cells [.int .i64 i, .int .i64 1].toArray elem)) := Ext.push ..
      have q4 : OwnR h3.size (h3.push (.cells [.int .i64 i, .int .i64 1].toArray elem)) ⟨some ⟨h3.size, 0, none⟩, 1, 1⟩ [(i, 1)] := ⟨own_alloc rfl (by decide) (by decide), hfi⟩
      generalize (h3.push (.cells [.int .i64 i, .int .i64 1].toArray elem)) = h4 at e4 q4 ⊢
      refine wp_call (c_Replace (nt3.ext e4) q4.runs hw a0 (Int.le_refl _) (by omega) (by simp; omega)) fun y h5 e5 hy => ?_
      obtain ⟨⟨(pu : Option Addr), w5⟩, (eu : Int), w6⟩ := y
      obtain ⟨heu, tu, nu, lu, hav⟩ := hy
      dsimp only at heu nu ⊢
      subst heu
      have hau := hav ha
      have hlu : tu.list.length = t.list.length + 1 := by rw [lu]; simp; omega
      have hwu : wfR tu.list := by rw [lu]; exact ((hw.take _).append hfi).append (hw.drop _)
      have hou : ∀ r, r ∈ tu.list → r.2 = 1 := by
        intro r hr
        rw [lu] at hr
        rcases List.mem_append.1 hr with hr | hr
        · rcases List.mem_append.1 hr with hr | hr
          · exact hone r (List.mem_of_mem_take hr)
          · rw [List.mem_singleton.1 hr]
        · exact hone r (List.mem_of_mem_drop hr)
      have hat : tu.list[a.toNat]? = some (i, 1) := by
        have hl1 : (t.list.take a.toNat).length = a.toNat := by rw [List.length_take]; omega
        rw [lu, List.append_assoc, List.getElem?_append_right (by omega), hl1, Nat.sub_self]; rfl
      refine s_putTree pu nu fun h6 e6 oU => s_getT oU (wp_call (c_At (nu.ext e6) hwu (by omega) a0 hat) fun y h7 e7 hy => ?_)
      obtain ⟨⟨(y1 : Int), (y2 : Int), w2⟩, (y3 : Bool), w3⟩ := y
      obtain ⟨hy1, hy2, hy3⟩ := hy
      dsimp only at hy1 hy2 hy3 ⊢
      subst y1; subst y2; subst y3
      refine s_put2 _ _ (hfi _ (List.mem_singleton_self _)) fun h8 e8 oX => ?_
      have oU8 := (oU.ext e7).ext e8
      have nu8 := ((nu.ext e6).ext e7).ext e8
      refine bind_bool False ?_ fun b h9 e9 hb => ?_
      · refine wp_call c_num fun y k1 d1 hy => ?_
        obtain ⟨(y : Int), w1⟩ := y
        dsimp only at hy ⊢
        subst hy
        refine s_ifF (s_getT (oU8.ext d1) (wp_call (c_Size (nu8.ext d1)) fun y k2 d2 hy => ?_))
        obtain ⟨(y : Int), w1⟩ := y
        dsimp only at hy ⊢
        have D2 := d1.trans d2
        rw [add_ok (by omega) (by omega), show neI y (i + 1) = false from neI_not.2 (by omega)]
        refine s_ifF (s_ifF (s_loadX (oX.ext D2).lst (x := i) rfl ?_))
        rw [show neI i i = false from neI_not.2 rfl]
        refine s_ifF (s_getT (oU8.ext D2) (wp_call (c_Height (nu8.ext D2)) fun y k3 d3 hy => ?_))
        obtain ⟨(y : Int), w1⟩ := y
        dsimp only at hy ⊢
        have D3 := D2.trans d3
        have hge : 1 ≤ tu.ht := by
          cases tu with
          | nil => simp [BT.list] at hlu
          | node _ _ _ => simp [BT.ht]
        rw [show ltI y 1 = false from ltI_not.2 (by omega)]
        refine s_ifF (s_getT (oU8.ext D3) (wp_call (c_Height (nu8.ext D3)) fun y k4 d4 hy => wp_call (c_Digits (by omega) (by omega)) fun z k5 d5 hz => ?_))
        obtain ⟨(y : Int), w1⟩ := y
        obtain ⟨(z : Int), w2⟩ := z
        obtain ⟨d, hzd, hd1, hd2⟩ := hz
        dsimp only at hy hzd ⊢
        subst hzd
        have hlow := low hau (by omega) (show tu.list.length < 2 ^ d by rw [show tu.list.length = (i + 1).toNat by omega]; exact hd2)
        rw [mul_ok (by omega) (by omega)]
        refine s_ret ⟨rfl, (D3.trans d4).trans d5, _, rfl, Iff.intro (fun hx => ?_) False.elim⟩
        rw [gtI_iff] at hx; omega
      have hbf : b = false := by cases b; rfl; exact (hb.1 rfl).elim
      subst hbf
      dsimp only
      have oU9 := oU8.ext e9
      have nu9 := nu8.ext e9
      have e39 := ((((e4.trans e5).trans e6).trans e7).trans e8).trans e9
      have o9 := o3.ext e39
      refine s_ifF (s_getT oU9 (s_putP pu o9 fun h10 o10 u10 => ?_))
      rw [add_ok (by omega) (by omega)]
      refine s_ret ⟨fun _ => ⟨(i + 1, ()), rfl, ⟨by dsimp only; omega, by dsimp only; omega, Upd.extN ((e2.trans e3).trans e39) u10 (by intro a ha; cases ha; exact Nat.le_refl _), pu, tu, o10, nu9.upd u10 o9 (by decide), hau, hwu, by dsimp only; omega, hou⟩, by dsimp only; omega⟩, fun h => absurd rfl h⟩
    · rw [leI_not, natI_def, hlen] at hc
      exact s_ret ⟨fun h => absurd h (by decide), fun _ => ⟨rfl, rfl, e2, p, t, o2, nt, hw, by omega, hone⟩⟩
  · rintro tg vs h2 ⟨rfl, rfl, e2, p, t, o2, nt, hw, hti, hone⟩
    refine s_tag (s_cast0 (s_getT o2 (wp_call (c_Sum nt hw (by omega)) fun y h3 e3 hy => ?_)))
    obtain ⟨y, w1⟩ := y
    dsimp only at hy
    subst hy
    refine s_put4 (sum t.list) ((V.sum hw).fits (by omega)) fun h4 e4 o4 => s_loadX o4.lst (x := (sum t.list).1) rfl ?_
    rw [natI_def, hlen, add_ok (by omega) (by omega)]
    refine s_ret ⟨rfl, (e2.trans e3).trans e4, (_, ()), rfl, ?_⟩
    exact eqI_iff.2 (by rw [ones hw hone]; omega)

end Go.Sw.Tree
