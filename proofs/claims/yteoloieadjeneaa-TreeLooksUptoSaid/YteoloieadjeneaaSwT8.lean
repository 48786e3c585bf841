/-
  Tree: Upto; the law TreeFinds.
-/
import Derived.Test.YteoloieadjeneaaSwT7
set_option linter.unusedVariables false
set_option linter.unusedSimpArgs false
set_option maxRecDepth 100000
namespace Go.Sw.Tree
variable {P : Program} {S : Ids} {h : Heap} {Q : Nat → List Value → Heap → Prop}

theorem c_Upto' {p : Option Addr} {t : BT} {i : Int} (ht : Nd h p t) (hw : wfR t.list) (hroom : t.list.length < 4398046511104) :
    Gives P (F_Tree_Run_Upto S (p, ()) i) [A4] h fun (x : R4 × Unit) _ => x.1 = sum (t.list.take i.toNat) := by
  unfold F_Tree_Run_Upto Gives
  refine s_newP p fun h1 e1 o1 => s_zero4 fun h2 e2 o2 => s_zero4 fun h3 e3 o3 => s_getT ((o1.ext e2).ext e3) (wp_call (c_Size (ht.ext ((e1.trans e2).trans e3))) fun y h4 e4 hy => s_getP (((o1.ext e2).ext e3).ext e4) ?_)
  obtain ⟨(y : Int), w1⟩ := y
  dsimp only at hy ⊢
  subst hy
  have b2 := (o2.own.lt rfl).2
  have b1 := (o1.lt rfl).2
  dsimp only at b1 b2
  have e04 : Ext h h4 := (((e1.trans e2).trans e3).trans e4)
  refine wp_whileG (G := BT × List (Int × Int) × List (Int × Int)) (fun g (s : Int × Option Addr × Unit) h' => Ext h h' ∧ Nd h' s.2.1 g.1 ∧ t.list = g.2.1 ++ g.1.list ++ g.2.2 ∧ t.list.take i.toNat = g.2.1 ++ g.1.list.take s.1.toNat ∧ s.1 ≤ g.1.list.length ∧
      obj h1.size h' ⟨h1.size, 0, none⟩ zero4 ∧ obj h2.size h' ⟨h2.size, 0, none⟩ (sum g.2.1)) (fun g => g.1.list.length)
    (fun t' vs h' => t' = 2 ∧ vs = [] ∧ Ext h h' ∧ obj h1.size h' ⟨h1.size, 0, none⟩ zero4 ∧ obj h2.size h' ⟨h2.size, 0, none⟩ (sum (t.list.take i.toNat)))
    (t, [], []) ⟨e04, ht.ext e04, by simp, ?_, ?_, (o2.ext e3).ext e4, o3.ext e4⟩ ?_ ?_
  · dsimp only
    rw [List.nil_append]
    have : minI i ((t.list.length : Nat) : Int) = min i (t.list.length : Int) := minI_eq ..
    rw [this]
    by_cases hi : i ≤ (t.list.length : Int)
    · rw [show min i (t.list.length : Int) = i by omega]
    · rw [show min i (t.list.length : Int) = (t.list.length : Int) by omega, List.take_of_length_le (by omega), Int.toNat_natCast, List.take_length]
  · dsimp only
    rw [minI_eq]; omega
  · rintro ⟨t', pre, post⟩ ⟨(j : Int), (q : Option Addr), u⟩ h5 ⟨e5, nq, hL, htake, hj, oz, oa⟩
    dsimp only at nq hL htake hj oz oa ⊢
    have hw0 : wfR (pre ++ t'.list ++ post) := hL ▸ hw
    have hwp : wfR pre := fun y hy => hw0 y (by simp [hy])
    have hwt : wfR t'.list := fun y hy => hw0 y (by simp [hy])
    have hlenL : t.list.length = pre.length + t'.list.length + post.length := by rw [hL]; simp [Nat.add_assoc]
    refine bind_bool (t' ≠ .nil ∧ 0 < j) ?_ fun b h6 e6 hb => ?_
    · cases t' with
      | nil => obtain rfl := nq; exact s_ifF (s_ret ⟨rfl, Ext.refl _, false, rfl, Iff.intro (fun x => by cases x) (fun x => absurd rfl x.1)⟩)
      | node l x r =>
        obtain ⟨a, _, _, rfl, _⟩ := nq
        exact s_ifT (s_ret ⟨rfl, Ext.refl _, gtI j 0, rfl, by rw [gtI_iff]; exact Iff.intro (fun x => ⟨by simp, x⟩) (fun x => x.2)⟩)
    have e6' := e5.trans e6
    have nq6 := nq.ext e6
    have oz6 := oz.ext e6
    have oa6 := oa.ext e6
    dsimp only
    refine wp_ifB (fun hc => ?_) fun hc => ?_
    · obtain ⟨hnn, hj0⟩ := hb.1 hc
      cases t' with
      | nil => exact absurd rfl hnn
      | node l x r =>
        have hnl := node_len l r x
        obtain ⟨f1, f2⟩ := wf_mid hwt
        have vp := V.sum hwp
        have vl := V.sum (wf_left hwt)
        have vm := V.measure (r := x) f1
        have hpl : sum (pre ++ l.list) = add (sum pre) (sum l.list) := sum_append hwp (wf_left hwt)
        have vpl : V (pre.length + l.list.length) (sum (pre ++ l.list)) := hpl ▸ vp.add vl
        refine s_left nq6 fun pl nl => wp_call (c_count nl) fun c h7 e7 hc7 => ?_
        obtain ⟨(c : Int), w7⟩ := c
        dsimp only at hc7 ⊢
        subst hc7
        have nq7 := nq6.ext e7
        refine wp_ifB (fun hg => ?_) fun hg => ?_
        · rw [leI_iff] at hg
          refine s_left nq7 fun pl nl => s_ret ⟨fun _ => ⟨(l, pre, x :: r.list ++ post), (j, pl, ()), rfl, ⟨e6'.trans e7, nl, by rw [hL]; simp [BT.list], ?_, hg, oz6.ext e7, oa6.ext e7⟩, by dsimp only; omega⟩, fun h => absurd rfl h⟩
          dsimp only
          rw [htake]; simp only [BT.list]
          rw [List.take_append_of_le_length (by omega)]
        · rw [leI_not] at hg
          refine wp_bind (fun t vs h' => t = 0 ∧ vs = [] ∧ Ext h h' ∧ Nd h' q (.node l x r) ∧ obj h1.size h' ⟨h1.size, 0, none⟩ zero4 ∧ obj h2.size h' ⟨h2.size, 0, none⟩ (sum (pre ++ l.list))) ?_ ?_
          · refine s_left nq7 fun pl nl => ?_
            cases l with
            | nil =>
              obtain rfl := nl
              exact s_ifF (s_ret ⟨rfl, rfl, e6'.trans e7, nq7, oz6.ext e7, by simpa [BT.list] using oa6.ext e7⟩)
            | node ll lx lr =>
              have hp : ∃ a, pl = some a := by obtain ⟨a, _, _, h1, _⟩ := nl; exact ⟨a, h1⟩
              obtain ⟨la, rfl⟩ := hp
              refine s_ifT (s_get4 rfl (oa6.ext e7) (s_left nq7 fun pl nl => s_sum nl (wp_call (c_Add vp vl (by omega)) fun m h8 e8 hm => ?_)))
              obtain ⟨m, w5⟩ := m
              dsimp only at hm
              rw [← hpl] at hm
              subst hm
              refine s_store4 (sum (pre ++ (BT.node ll lx lr).list)) ((oa6.ext e7).ext e8) (vpl.fits (by omega)) fun h9 o9 u9 => s_ret ⟨rfl, rfl, Upd.extN ((e6'.trans e7).trans e8) u9 (by intro a ha; cases ha; dsimp only; omega),
                (nq7.ext e8).upd u9 ((oa6.ext e7).ext e8).own (by decide), ((oz6.ext e7).ext e8).obj_upd u9 (by dsimp only; omega), o9⟩
          · rintro tg vs h8 ⟨rfl, rfl, e8, nq8, oz8, oa8⟩
            refine s_tag (s_cast0 (s_get4 rfl oa8 (s_item nq8 (wp_call (c_Measure f1 f2) fun m h9 e9 hm => ?_))))
            obtain ⟨m, w9⟩ := m
            dsimp only at hm
            subst hm
            refine s_same4 (oa8.ext e9) (wp_call (c_Add vpl vm (by omega)) fun m h10 e10 hm => ?_)
            obtain ⟨m, w10⟩ := m
            dsimp only at hm
            rw [← sum_snoc] at hm
            subst hm
            have vq : V (pre.length + l.list.length + 1) (sum (pre ++ l.list ++ [x])) := by rw [sum_snoc]; exact vpl.add vm
            refine s_store4 (sum (pre ++ l.list ++ [x])) ((oa8.ext e9).ext e10) (vq.fits (by omega)) fun h11 o11 u11 => ?_
            have nq11 := ((nq8.ext e9).ext e10).upd u11 ((oa8.ext e9).ext e10).own (by decide)
            have hsub : subI .i64 (subI .i64 j ((l.list.length : Nat) : Int)) 1 = j - l.list.length - 1 := by
              rw [sub_ok (a := j) (by omega) (by omega), sub_ok (by omega) (by omega)]
            rw [hsub]
            refine s_right nq11 fun pr nr => s_ret ⟨fun _ => ⟨(r, pre ++ l.list ++ [x], post), (j - l.list.length - 1, pr, ()), rfl, ⟨Upd.extN ((e8.trans e9).trans e10) u11 (by intro a ha; cases ha; dsimp only; omega), nr, by rw [hL]; simp [BT.list], ?_, by dsimp only; omega,
              ((oz8.ext e9).ext e10).obj_upd u11 (by dsimp only; omega), o11⟩, by dsimp only; omega⟩, fun h => absurd rfl h⟩
            dsimp only
            rw [htake]
            obtain ⟨d, hd⟩ : ∃ d : Nat, j = l.list.length + 1 + d := ⟨(j - l.list.length - 1).toNat, by omega⟩
            have h1' : j.toNat = (l.list ++ [x]).length + d := by simp; omega
            have h2' : (j - l.list.length - 1).toNat = d := by omega
            rw [h1', h2', show (BT.node l x r).list = (l.list ++ [x]) ++ r.list by simp [BT.list], List.take_append, List.take_of_length_le (by omega), Nat.add_sub_cancel_left]
            simp
    · have hno : ¬(t' ≠ .nil ∧ 0 < j) := fun x => by rw [hb.2 x] at hc; cases hc
      refine s_ret ⟨fun h => absurd h (by decide), fun _ => ⟨rfl, rfl, e6', oz6, ?_⟩⟩
      rw [htake]
      by_cases hn : t' = .nil
      · subst hn; simpa [BT.list] using oa6
      · have hj0 : j.toNat = 0 := by have : ¬ 0 < j := fun x => hno ⟨hn, x⟩; omega
        rw [hj0, List.take_zero, List.append_nil]; exact oa6
  · rintro tg vs h5 ⟨rfl, rfl, e5, oz, oa⟩
    have hv : V t.list.length (sum (t.list.take i.toNat)) := (V.sum (hw.take _)).mono (by rw [List.length_take]; omega)
    exact s_tag (s_cast0 (s_get4 rfl oa (s_tell4 (sum (t.list.take i.toNat)) oz e1.size (hv.fits (by omega)) e5 fun _ _ => rfl)))

/-- The root's object, put. -/
theorem s_putTree (p : Option Addr) {K : Addr → Prog} {t : BT} (ht : Nd h p t) (hk : ∀ h', Ext h h' → Own h.size 1 h' ⟨some ⟨h.size, 0, none⟩, 1, 1⟩ [.pointer p] → wp P (K ⟨h.size, 0, none⟩) h' Q) :
    wp P (.alloc [.pointer none] fun a => .store (some a) [.pointer p] (K a)) h Q :=
  s_newP none fun h1 e1 o1 => s_putP p o1 fun h2 o2 u2 => hk h2 (Upd.extN e1 u2 (by intro a ha; cases ha; exact Nat.le_refl _)) o2

theorem key0_pos (l : List (Int × Int)) (hl : wfR l) : 1 ≤ key (sum ((1, 1) :: l)) 0 := by
  have h1 : wfR [((1 : Int), (1 : Int))] := by intro r hr; rw [List.mem_singleton.1 hr]; exact ⟨fits_i64.2 (by decide), fits_i64.2 (by decide)⟩
  rw [show ((1, 1) :: l) = [((1 : Int), (1 : Int))] ++ l from rfl, sum_append h1 hl]
  have := key_mono (V.sum h1) (V.sum hl) 0
  have h2 : key (sum [((1 : Int), (1 : Int))]) 0 = 1 := by decide
  omega

theorem c_TreeFinds {s : Sl} {l : List (Int × Int)} {k n : Int} (hr : Runs h s l) : Gives P (F_law4_TreeFinds S s k n) [.one .bool] h fun (x : Bool × Unit) _ => x.1 = true := by
  have hlen := hr.len
  unfold F_law4_TreeFinds Gives
  refine wp_ifB (fun hc => s_ret ⟨rfl, Ext.refl _, (true, ()), rfl, rfl⟩) fun hc => ?_
  rw [gtI_not, natI_def, hlen] at hc
  have h11 : wfR [((1 : Int), (1 : Int))] := by intro r hr; rw [List.mem_singleton.1 hr]; exact ⟨fits_i64.2 (by decide), fits_i64.2 (by decide)⟩
  intro elem
  have e1 : Ext h (h.push (.cells [.int .i64 1, .int .i64 1].toArray elem)) := Ext.push ..
  have o1 : OwnR h.size (h.push (.cells [.int .i64 1, .int .i64 1].toArray elem)) ⟨some ⟨h.size, 0, none⟩, 1, 1⟩ [(1, 1)] := ⟨own_alloc rfl (by decide) (by decide), h11⟩
  generalize (h.push (.cells [.int .i64 1, .int .i64 1].toArray elem)) = h1 at e1 o1 ⊢
  refine s_append2 o1 e1.size (hr.ext e1) (by simp; omega) fun r2 h2 k2 o2 => ?_
  have e2 : Ext h h2 := Keep.trans e1 k2
  rw [show [((1 : Int), (1 : Int))] ++ l = (1, 1) :: l from rfl] at o2
  have hpos := key0_pos l hr.wf
  have hL : ((1, 1) :: l).length ≤ 1099511627777 := by simp; omega
  have hr2 := o2.len
  revert hpos hL hr2
  generalize hLL : ((1 : Int), (1 : Int)) :: l = L at o2
  intro hpos hL hr2
  have hw := o2.wf
  have vL := V.sum hw
  refine wp_call (c_Of o2.runs (by omega)) fun y h3 e3 hy => ?_
  obtain ⟨⟨(p : Option Addr), w0⟩, w1⟩ := y
  obtain ⟨t, nt, rfl, _⟩ := hy
  dsimp only at nt ⊢
  refine s_putTree p nt fun h4 e4 o4 => s_getT o4 (wp_call (c_Sum (nt.ext e4) hw (by omega)) fun y h5 e5 hy => ?_)
  obtain ⟨y, w2⟩ := y
  dsimp only at hy
  subst hy
  refine s_put4 (sum t.list) (vL.fits (by omega)) fun h6 e6 o6 => ?_
  have nt6 := ((nt.ext e4).ext e5).ext e6
  have o46 := (o4.ext e5).ext e6
  have e06 := (((e2.trans e3).trans e4).trans e5).trans e6
  refine bind_bool False ?_ fun b h7 e7 hb => ?_
  · refine s_getT o46 (wp_call (c_Size nt6) fun y k1 d1 hy => ?_)
    obtain ⟨(y : Int), w3⟩ := y
    dsimp only at hy ⊢
    rw [show neI y (natI r2.len) = false from neI_not.2 (by rw [hy, natI_def, hr2])]
    refine s_ifF (s_get4 rfl (o6.ext d1) (wp_call (c_Key vL (by omega)) fun y k2 d2 hy => ?_))
    obtain ⟨(y : Int), w4⟩ := y
    dsimp only at hy ⊢
    refine s_ret ⟨rfl, d1.trans d2, ltI y 1, rfl, Iff.intro (fun hz => ?_) False.elim⟩
    have hy' : y = key (sum t.list) 0 := hy
    rw [ltI_iff] at hz; omega
  have hbf : b = false := by cases b; rfl; exact (hb.1 rfl).elim
  subst hbf
  dsimp only
  have nt7 := nt6.ext e7
  have o47 := o46.ext e7
  have e07 := e06.trans e7
  refine s_ifF (s_getT o47 (wp_call (c_Find nt7 hw (by omega)) fun y h8 e8 hf => ?_))
  obtain ⟨(i : Int), w5⟩ := y
  dsimp only at hf ⊢
  have hi : 0 ≤ i ∧ i ≤ t.list.length + 1 := by rcases hf with ⟨h1, _⟩ | ⟨h1, h2, _⟩ | ⟨h1, _⟩ <;> omega
  have nt8 := nt7.ext e8
  have o48 := o47.ext e8
  have e08 := e07.trans e8
  refine bind_bool False ?_ fun b h9 e9 hb => ?_
  · refine wp_ifB (fun hz => ?_) fun hz => ?_
    · rw [ltI_iff] at hz; omega
    · refine s_ret ⟨rfl, Ext.refl _, _, rfl, Iff.intro (fun hz => ?_) False.elim⟩
      rw [gtI_iff, natI_def, hr2, add_ok (by omega) (by omega)] at hz; omega
  have hbf : b = false := by cases b; rfl; exact (hb.1 rfl).elim
  subst hbf
  dsimp only
  refine s_ifF ?_
  have nt9 := nt8.ext e9
  have o49 := o48.ext e9
  have e09 := e08.trans e9
  have vt : ∀ j : Nat, V t.list.length (sum (t.list.take j)) := fun j => (V.sum (hw.take j)).mono (by rw [List.length_take]; omega)
  refine wp_bind (fun t vs h' => t = 0 ∧ vs = [] ∧ Ext h9 h') ?_ ?_
  · refine wp_ifB (fun hz => ?_) fun hz => s_ret ⟨rfl, rfl, Ext.refl _⟩
    rw [leI_iff, natI_def, hr2] at hz
    refine s_getT o49 (wp_call (c_Upto' nt9 hw (by omega)) fun y k1 d1 hy => ?_)
    obtain ⟨y, w6⟩ := y
    dsimp only at hy
    subst hy
    refine s_put4 (sum (t.list.take i.toNat)) ((vt _).fits (by omega)) fun k2 d2 q2 => s_get4 rfl q2 (wp_call (c_Key (vt _) (by omega)) fun y k3 d3 hy => ?_)
    obtain ⟨(y : Int), w7⟩ := y
    dsimp only at hy ⊢
    have hge : n ≤ y := by
      rw [hy]
      rcases hf with ⟨rfl, h2⟩ | ⟨h1, h2, h3, _⟩ | ⟨h1, _⟩
      · have : key (sum (t.list.take (0 : Int).toNat)) k = 0 := by
          rw [show (0 : Int).toNat = 0 from rfl, List.take_zero, show sum [] = zero4 from rfl, key_zero]
        exact (by omega : n ≤ key (sum (t.list.take (0 : Int).toNat)) k)
      · exact h3
      · omega
    rw [show ltI y n = false from ltI_not.2 hge]
    exact s_ifF (s_ret ⟨rfl, rfl, (d1.trans d2).trans d3⟩)
  · rintro tg vs h10 ⟨rfl, rfl, e10⟩
    refine s_skip (by decide) (s_tag (s_cast0 ?_))
    have nt10 := nt9.ext e10
    have o410 := o49.ext e10
    refine wp_bind (fun t vs h' => t = 0 ∧ vs = [] ∧ Ext h10 h') ?_ ?_
    · refine wp_ifB (fun hz => ?_) fun hz => s_ret ⟨rfl, rfl, Ext.refl _⟩
      rw [gtI_iff] at hz
      rw [sub_ok (by omega) (by omega)]
      refine s_getT o410 (wp_call (c_Upto' nt10 hw (by omega)) fun y k1 d1 hy => ?_)
      obtain ⟨y, w6⟩ := y
      dsimp only at hy
      subst hy
      refine s_put4 (sum (t.list.take (i - 1).toNat)) ((vt _).fits (by omega)) fun k2 d2 q2 => s_get4 rfl q2 (wp_call (c_Key (vt _) (by omega)) fun y k3 d3 hy => ?_)
      obtain ⟨(y : Int), w7⟩ := y
      dsimp only at hy ⊢
      have hlt : y < n := by
        rw [hy]
        rcases hf with ⟨rfl, h2⟩ | ⟨h1, h2, _, h3⟩ | ⟨h1, h2⟩
        · omega
        · rw [show i.toNat - 1 = (i - 1).toNat by omega] at h3; exact h3
        · rw [show (i - 1).toNat = t.list.length by omega, List.take_length]; exact h2
      rw [show geI y n = false from geI_not.2 hlt]
      exact s_ifF (s_ret ⟨rfl, rfl, (d1.trans d2).trans d3⟩)
    · rintro tg vs h11 ⟨rfl, rfl, e11⟩
      exact s_skip (by decide) (s_tag (s_cast0 (s_ret ⟨rfl, (e09.trans e10).trans e11, (true, ()), rfl, rfl⟩)))

end Go.Sw.Tree
