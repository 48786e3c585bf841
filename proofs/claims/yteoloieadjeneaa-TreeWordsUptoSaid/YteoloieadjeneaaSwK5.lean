/-
  The tree over any kind of things: Find, Upto.
-/
import Derived.Test.YteoloieadjeneaaSwK4
set_option linter.unusedVariables false
set_option linter.unusedSimpArgs false
set_option maxRecDepth 100000
namespace Go.Sw.Any
open Go.Sw.Tree (iv s_putAll s_newP s_getP s_getT s_putP small_ne cells_upd wp_whileG least TR minI_eq eqI_self Placed)
variable {P : Program} {I : Inst} {h : Heap} {Q : Nat → List Value → Heap → Prop}

theorem s_left {p : Option Addr} {l r : Bt I.It} {x : I.It} {K : Option Addr → Prog} (ht : Nd I h p (.node l x r)) (hk : ∀ q, Nd I h q l → wp P (K q) h Q) : wp P (grd (someB p) <| grd (someB p) <| .load (.one .ptr) (shiftTo p 0) K) h Q := by
  obtain ⟨a, pl, pr, rfl, c, n1, n2⟩ := ht; exact q_left c (hk pl n1)
theorem s_right {p : Option Addr} {l r : Bt I.It} {x : I.It} {K : Option Addr → Prog} (ht : Nd I h p (.node l x r)) (hk : ∀ q, Nd I h q r → wp P (K q) h Q) : wp P (grd (someB p) <| grd (someB p) <| .load (.one .ptr) (shiftTo p 1) K) h Q := by
  obtain ⟨a, pl, pr, rfl, c, n1, n2⟩ := ht; exact q_right c (hk pr n2)
theorem s_item {p : Option Addr} {l r : Bt I.It} {x : I.It} {K : I.It → Prog} (ht : Nd I h p (.node l x r)) (hk : wp P (K x) h Q) : wp P (grd (someB p) <| grd (someB p) <| .load (.agg I.iB) (shiftTo p 2) K) h Q := by
  obtain ⟨a, pl, pr, rfl, c, n1, n2⟩ := ht; exact q_item c hk
theorem s_sum {p : Option Addr} {l r : Bt I.It} {x : I.It} {K : I.Su → Prog} (ht : Nd I h p (.node l x r)) (hk : wp P (K (I.sum (Bt.node l x r).list)) h Q) : wp P (grd (someB p) <| grd (someB p) <| .load (.agg I.sB) (shiftTo p (I.ni + 4)) K) h Q := by
  obtain ⟨a, pl, pr, rfl, c, n1, n2⟩ := ht; exact q_sum c hk

theorem Nd.root {p : Option Addr} {t : Bt I.It} (ht : Nd I h p t) : noneB p = true ↔ t = .nil := by
  cases t with
  | nil => obtain rfl := ht; exact Iff.intro (fun _ => rfl) (fun _ => rfl)
  | node l x r => obtain ⟨a, _, _, rfl, _⟩ := ht; exact Iff.intro (fun h => by cases h) (fun h => by cases h)

/-- What Find tells. -/
def Found (I : Inst) (l : List I.It) (k n i : Int) : Prop :=
  (i = 0 ∧ n ≤ 0) ∨ (1 ≤ i ∧ i ≤ l.length ∧ n ≤ I.key (I.sum (l.take i.toNat)) k ∧ I.key (I.sum (l.take (i.toNat - 1))) k < n) ∨ (i = l.length + 1 ∧ I.key (I.sum l) k < n)


theorem key_take (O : I.Ok P) {l : List I.It} (hw : I.wf l) (k : Int) {a b : Nat} (hab : a ≤ b) : I.key (I.sum (l.take a)) k ≤ I.key (I.sum (l.take b)) k := by
  have h1 : l.take b = l.take a ++ (l.drop a).take (b - a) := by
    rw [show b = a + (b - a) by omega, List.take_add, show a + (b - a) - a = b - a by omega]
  rw [h1, sum_append O (wf_take hw _) (wf_take (wf_drop hw _) _)]
  exact O.kmono _ _ _ _ k (V.sum O (wf_take hw _)) (V.sum O (wf_take (wf_drop hw _) _))

theorem found_one (O : I.Ok P) {l : List I.It} (hw : I.wf l) {k n i j : Int} (hi : Found I l k n i) (hj : Found I l k n j) : i = j := by
  have hz : I.key (I.sum (l.take 0)) k = 0 := by rw [List.take_zero, show I.sum [] = I.zs from rfl, O.key0]
  have hall : l.take l.length = l := List.take_length
  have low : ∀ {i j : Int}, Found I l k n i → Found I l k n j → i ≤ j := by
    intro i j hi hj
    rcases hi with ⟨h1, h2⟩ | ⟨h1, h2, h3, h4⟩ | ⟨h1, h2⟩ <;> rcases hj with ⟨g1, g2⟩ | ⟨g1, g2, g3, g4⟩ | ⟨g1, g2⟩
    · omega
    · omega
    · omega
    · have := key_take O hw k (a := 0) (b := i.toNat - 1) (by omega); omega
    · by_cases hlt : j < i
      · have := key_take O hw k (a := j.toNat) (b := i.toNat - 1) (by omega); omega
      · omega
    · omega
    · have := key_take O hw k (a := 0) (b := l.length) (by omega)
      rw [hall] at this; omega
    · have := key_take O hw k (a := j.toNat) (b := l.length) (by omega)
      rw [hall] at this; omega
    · omega
  have := low hi hj
  have := low hj hi
  omega

theorem c_Find (O : I.Ok P) {p : Option Addr} {t : Bt I.It} {k n : Int} (ht : Nd I h p t) (hw : I.wf t.list) (hroom : I.W t.list < 4398046511104) :
    Gives P (G_Find I (p, ()) k n) [.one (.int .i64)] h fun (x : Int × Unit) _ => Found I t.list k n x.1 := by
  have hWl := W_len O t.list
  have hns : I.sB.length = I.ns := rfl
  unfold G_Find Gives
  refine s_newP p fun h1 e1 o1 => wp_ifB (fun hc => ?_) fun hc => ?_
  · rw [leI_iff] at hc
    exact s_ret ⟨rfl, e1, (0, ()), rfl, .inl ⟨rfl, hc⟩⟩
  rw [leI_not] at hc
  refine s_newO I.zs O.s1.2 fun h2 e2 o2 => s_getP (o1.ext e2) ?_
  refine wp_whileG (G := Bt I.It × List I.It × List I.It) (fun g (s : Int × Option Addr × Unit) h' => Ext h1 h' ∧ Nd I h' s.2.1 g.1 ∧ t.list = g.2.1 ++ g.1.list ++ g.2.2 ∧ s.1 = g.2.1.length ∧ Own h1.size 1 h' ⟨some ⟨h1.size, 0, none⟩, I.sB.length, I.sB.length⟩ (Bs.inj I.sB (I.sum g.2.1)) ∧ I.key (I.sum g.2.1) k < n ∧
      (g.2.2 = [] ∨ n ≤ I.key (I.sum (g.2.1 ++ g.1.list)) k)) (fun g => g.1.list.length)
    (fun t' vs h' => Ext h1 h' ∧ ((t' = 2 ∧ ∃ x : Int × Unit, vs = Ts.inj [.one (.int .i64)] x ∧ x.1 = t.list.length ∧ I.key (I.sum t.list) k < n) ∨ (t' = 1 ∧ ∃ x : Int × Unit, vs = Ts.inj [.one (.int .i64)] x ∧ Found I t.list k n x.1)))
    (t, [], []) ⟨e2, ht.ext (e1.trans e2), by simp, rfl, o2, by rw [show I.sum [] = I.zs from rfl, O.key0]; exact hc, .inl rfl⟩ ?_ ?_
  · rintro ⟨t', pre, post⟩ ⟨(at_ : Int), (q : Option Addr), u⟩ h3 ⟨e3, nq, hL, hat, oa, hkey, hpost⟩
    dsimp only at nq hL hat oa hkey hpost ⊢
    have hw0 : I.wf (pre ++ t'.list ++ post) := hL ▸ hw
    have hwp : I.wf pre := fun y hy => hw0 y (by simp [hy])
    have hwt : I.wf t'.list := fun y hy => hw0 y (by simp [hy])
    have hlenL : t.list.length = pre.length + t'.list.length + post.length := by rw [hL]; simp [Nat.add_assoc]
    have hWL : I.W t.list = I.W pre + I.W t'.list + I.W post := by rw [hL, W_append, W_append]
    have hWlen := W_len O t.list
    cases t' with
    | nil =>
      obtain rfl := nq
      refine s_ifF (s_ret ⟨fun h => absurd h (by decide), fun _ => ⟨e3, .inl ⟨rfl, (at_, ()), rfl, ?_, ?_⟩⟩⟩)
      · rcases hpost with rfl | hpost
        · rw [hlenL, hat]; simp [Bt.list]
        · simp only [Bt.list, List.append_nil] at hpost; omega
      · rcases hpost with rfl | hpost
        · rw [hL]; simpa [Bt.list] using hkey
        · simp only [Bt.list, List.append_nil] at hpost; omega
    | node l x r =>
      have hq : ∃ a, q = some a := by obtain ⟨a, _, _, h1, _⟩ := nq; exact ⟨a, h1⟩
      obtain ⟨qa, rfl⟩ := hq
      have hnl := node_len l r x; have hnlw := node_W (I := I) l r x; have hnll := W_len O (Bt.node l x r).list
      have hx := wf_mid hwt
      have vp := V.sum O hwp
      have vl := V.sum O (wf_left hwt)
      have vm := O.vm x hx
      have hpl : I.sum (pre ++ l.list) = I.add (I.sum pre) (I.sum l.list) := sum_append O hwp (wf_left hwt)
      have vpl := O.va _ _ _ _ vp vl
      refine s_ifT (s_getO oa (s_putO (I.sum pre) O.s1.2 (O.fs _) fun h4 e4 ob => ?_))
      have oa := oa.ext e4
      have nq := nq.ext e4
      have e34 := e3.trans e4
      have hb3 := (oa.lt rfl).2
      -- the sum ahead of the thing
      refine wp_bind (fun t vs h' => t = 0 ∧ vs = [] ∧ Ext h3 h' ∧ Own h3.size 1 h' ⟨some ⟨h3.size, 0, none⟩, I.sB.length, I.sB.length⟩ (Bs.inj I.sB (I.sum (pre ++ l.list)))) ?_ ?_
      · refine s_left nq fun pl nl => ?_
        cases l with
        | nil =>
          obtain rfl := nl
          exact s_ifF (s_ret ⟨rfl, rfl, e4, by simpa [Bt.list] using ob⟩)
        | node ll lx lr =>
          have hp : ∃ a, pl = some a := by obtain ⟨a, _, _, h1, _⟩ := nl; exact ⟨a, h1⟩
          obtain ⟨la, rfl⟩ := hp
          refine s_ifT (s_getO oa (s_left nq fun pl nl => s_sum nl (wp_call (O.ca _ _ _ _ _ vp vl (by omega)) fun m h5 e5 hm => ?_)))
          obtain ⟨m, w5⟩ := m
          dsimp only at hm
          rw [← hpl] at hm
          subst hm
          refine s_stoO (I.sum (pre ++ (Bt.node ll lx lr).list)) (ob.ext e5) (O.fs _) fun h6 o6 u6 => s_ret ⟨rfl, rfl, Upd.extN (e4.trans e5) u6 (by intro a ha; cases ha; exact Nat.le_refl _), o6⟩
      · rintro tg vs h5 ⟨rfl, rfl, e5, ob⟩
        have oa := (‹Own h1.size 1 h3 ⟨some ⟨h1.size, 0, none⟩, I.sB.length, I.sB.length⟩ (Bs.inj I.sB (I.sum pre))›).ext e5
        have nq := (‹Nd I h3 (some qa) (.node l x r)›).ext e5
        have e35 := e3.trans e5
        refine s_tag (s_cast0 (s_getO ob (wp_call (O.ck _ _ _ _ (hpl ▸ vpl) (by omega)) fun y h6 e6 hy => ?_)))
        obtain ⟨(y : Int), w6⟩ := y
        dsimp only at hy ⊢
        subst hy
        have nq6 := nq.ext e6
        refine wp_ifB (fun hg => ?_) fun hg => ?_
        · rw [geI_iff] at hg
          refine s_left nq6 fun pl nl => s_ret ⟨fun _ => ⟨(l, pre, x :: r.list ++ post), (at_, pl, ()), rfl, ⟨e35.trans e6, nl, by rw [hL]; simp [Bt.list], hat, oa.ext e6, hkey, .inr hg⟩, by dsimp only; omega⟩, fun h => absurd rfl h⟩
        · rw [geI_not] at hg
          refine s_left nq6 fun pl nl => wp_call (c_count nl) fun c h7 e7 hc7 => ?_
          obtain ⟨(c : Int), w7⟩ := c
          dsimp only at hc7 ⊢
          subst hc7
          have nq7 := nq6.ext e7
          have ob7 := ob.ext (e6.trans e7)
          have oa7 := oa.ext (e6.trans e7)
          refine s_getO ob7 (s_item nq7 (wp_call (O.cm _ x hx) fun m h8 e8 hm => ?_))
          obtain ⟨m, w8⟩ := m
          dsimp only at hm
          subst hm
          refine s_ckO (ob7.ext e8) (wp_call (O.ca _ _ _ _ _ (hpl ▸ vpl) vm (by omega)) fun m h9 e9 hm => ?_)
          obtain ⟨m, w9⟩ := m
          dsimp only at hm
          rw [← sum_snoc] at hm
          subst hm
          have vq : I.V (I.W pre + I.W l.list + I.wt x) (I.sum (pre ++ l.list ++ [x])) := by rw [sum_snoc, hpl]; exact O.va _ _ _ _ vpl vm
          refine s_stoO (I.sum (pre ++ l.list ++ [x])) ((oa7.ext e8).ext e9) (O.fs _) fun h10 ob10 u10 => ?_
          have e10 : Ext h1 h10 := Upd.extN ((((e35.trans e6).trans e7).trans e8).trans e9) u10 (by intro a ha; cases ha; exact Nat.le_refl _)
          have nq10 : Nd I h10 (some qa) (.node l x r) := ((nq7.ext e8).ext e9).upd u10 ((oa7.ext e8).ext e9) (by omega)
          have oa := ob10
          refine s_getO oa (wp_call (O.ck _ _ _ _ vq (by omega)) fun y h11 e11 hy => ?_)
          obtain ⟨(y : Int), w11⟩ := y
          dsimp only at hy ⊢
          subst hy
          have hsum3 : addI .i64 at_ (addI .i64 ((l.list.length : Nat) : Int) 1) = ((pre.length + l.list.length + 1 : Nat) : Int) := by
            rw [add_ok (a := ((l.list.length : Nat) : Int)) (by omega) (by omega), add_ok (by omega) (by omega)]; omega
          rw [hsum3]
          have hpre : t.list.take (pre.length + l.list.length + 1) = pre ++ l.list ++ [x] := by
            rw [show t.list = (pre ++ l.list ++ [x]) ++ (r.list ++ post) by rw [hL]; simp [Bt.list]]
            exact List.take_left' (by simp [Nat.add_assoc])
          have hpre' : t.list.take (pre.length + l.list.length) = pre ++ l.list := by
            rw [show t.list = (pre ++ l.list) ++ (x :: r.list ++ post) by rw [hL]; simp [Bt.list]]
            exact List.take_left' (by simp)
          refine wp_ifB (fun hg2 => ?_) fun hg2 => ?_
          · rw [geI_iff] at hg2
            refine s_ret ⟨fun h => absurd h (by decide), fun _ => ⟨e10.trans e11, .inr ⟨rfl, (((pre.length + l.list.length + 1 : Nat) : Int), ()), rfl, .inr (.inl ⟨by dsimp only; omega, by dsimp only; omega, ?_, ?_⟩)⟩⟩⟩
            · dsimp only; rw [Int.toNat_natCast, hpre]; exact hg2
            · dsimp only; rw [Int.toNat_natCast, Nat.add_sub_cancel, hpre']; exact hg
          · rw [geI_not] at hg2
            refine s_right (nq10.ext e11) fun pr nr => s_ret ⟨fun _ => ⟨(r, pre ++ l.list ++ [x], post), (((pre.length + l.list.length + 1 : Nat) : Int), pr, ()), rfl, ⟨e10.trans e11, nr, by rw [hL]; simp [Bt.list], by simp; omega, oa.ext e11, hg2, ?_⟩, by dsimp only; omega⟩, fun h => absurd rfl h⟩
            rcases hpost with hp | hp
            · exact .inl hp
            · refine .inr ?_
              dsimp only
              rw [show pre ++ l.list ++ [x] ++ r.list = pre ++ (Bt.node l x r).list by simp [Bt.list]]; exact hp
  · rintro tg vs h3 ⟨e3, ⟨rfl, x, rfl, hx, hk⟩ | ⟨rfl, x, rfl, hx⟩⟩
    · obtain ⟨(x : Int), w⟩ := x
      dsimp only at hx
      refine s_tag ⟨(x, ()), rfl, ?_⟩
      dsimp only
      subst hx
      rw [add_ok (by omega) (by omega)]
      exact s_ret ⟨rfl, e1.trans e3, (_, ()), rfl, .inr (.inr ⟨rfl, hk⟩)⟩
    · obtain ⟨(x : Int), w⟩ := x
      exact s_skip (by decide) (s_tag ⟨(x, ()), rfl, s_ret ⟨rfl, e1.trans e3, (x, ()), rfl, hx⟩⟩)

theorem c_Upto' (O : I.Ok P) {p : Option Addr} {t : Bt I.It} {i : Int} (ht : Nd I h p t) (hw : I.wf t.list) (hroom : I.W t.list < 4398046511104) :
    Gives P (G_Upto I (p, ()) i) [(.agg I.sB)] h fun (x : I.Su × Unit) _ => x.1 = I.sum (t.list.take i.toNat) := by
  have hWl := W_len O t.list
  have hns : I.sB.length = I.ns := rfl
  unfold G_Upto Gives
  refine s_newP p fun h1 e1 o1 => s_newO I.zs O.s1.2 fun h2 e2 o2 => s_newO I.zs O.s1.2 fun h3 e3 o3 => s_getT ((o1.ext e2).ext e3) (wp_call (c_Size (ht.ext ((e1.trans e2).trans e3))) fun y h4 e4 hy => s_getP (((o1.ext e2).ext e3).ext e4) ?_)
  obtain ⟨(y : Int), w1⟩ := y
  dsimp only at hy ⊢
  subst hy
  have b2 := (o2.lt rfl).2
  have b1 := (o1.lt rfl).2
  dsimp only at b1 b2
  have e04 : Ext h h4 := (((e1.trans e2).trans e3).trans e4)
  refine wp_whileG (G := Bt I.It × List I.It × List I.It) (fun g (s : Int × Option Addr × Unit) h' => Ext h h' ∧ Nd I h' s.2.1 g.1 ∧ t.list = g.2.1 ++ g.1.list ++ g.2.2 ∧ t.list.take i.toNat = g.2.1 ++ g.1.list.take s.1.toNat ∧ s.1 ≤ g.1.list.length ∧
      Own h1.size 1 h' ⟨some ⟨h1.size, 0, none⟩, I.sB.length, I.sB.length⟩ (Bs.inj I.sB I.zs) ∧ Own h2.size 1 h' ⟨some ⟨h2.size, 0, none⟩, I.sB.length, I.sB.length⟩ (Bs.inj I.sB (I.sum g.2.1))) (fun g => g.1.list.length)
    (fun t' vs h' => t' = 2 ∧ vs = [] ∧ Ext h h' ∧ Own h1.size 1 h' ⟨some ⟨h1.size, 0, none⟩, I.sB.length, I.sB.length⟩ (Bs.inj I.sB I.zs) ∧ Own h2.size 1 h' ⟨some ⟨h2.size, 0, none⟩, I.sB.length, I.sB.length⟩ (Bs.inj I.sB (I.sum (t.list.take i.toNat))))
    (t, [], []) ⟨e04, ht.ext e04, by simp, ?_, ?_, (o2.ext e3).ext e4, o3.ext e4⟩ ?_ ?_
  · dsimp only
    rw [List.nil_append]
    have : minI i ((t.list.length : Nat) : Int) = min i (t.list.length : Int) := minI_eq ..
    rw [this]
    by_cases hi : i ≤ (t.list.length : Int)
    · rw [show min i (t.list.length : Int) = i by omega]
    · rw [show min i (t.list.length : Int) = (t.list.length : Int) by omega, List.take_of_length_le (by omega), Int.toNat_natCast, List.take_length]
  · dsimp only
    rw [minI_eq]; omega
  · rintro ⟨t', pre, post⟩ ⟨(j : Int), (q : Option Addr), u⟩ h5 ⟨e5, nq, hL, htake, hj, oz, oa⟩
    dsimp only at nq hL htake hj oz oa ⊢
    have hw0 : I.wf (pre ++ t'.list ++ post) := hL ▸ hw
    have hwp : I.wf pre := fun y hy => hw0 y (by simp [hy])
    have hwt : I.wf t'.list := fun y hy => hw0 y (by simp [hy])
    have hlenL : t.list.length = pre.length + t'.list.length + post.length := by rw [hL]; simp [Nat.add_assoc]
    have hWL : I.W t.list = I.W pre + I.W t'.list + I.W post := by rw [hL, W_append, W_append]
    have hWlen := W_len O t.list
    refine bind_bool (t' ≠ .nil ∧ 0 < j) ?_ fun b h6 e6 hb => ?_
    · cases t' with
      | nil => obtain rfl := nq; exact s_ifF (s_ret ⟨rfl, Ext.refl _, false, rfl, Iff.intro (fun x => by cases x) (fun x => absurd rfl x.1)⟩)
      | node l x r =>
        obtain ⟨a, _, _, rfl, _⟩ := nq
        exact s_ifT (s_ret ⟨rfl, Ext.refl _, gtI j 0, rfl, by rw [gtI_iff]; exact Iff.intro (fun x => ⟨by simp, x⟩) (fun x => x.2)⟩)
    have e6' := e5.trans e6
    have nq6 := nq.ext e6
    have oz6 := oz.ext e6
    have oa6 := oa.ext e6
    dsimp only
    refine wp_ifB (fun hc => ?_) fun hc => ?_
    · obtain ⟨hnn, hj0⟩ := hb.1 hc
      cases t' with
      | nil => exact absurd rfl hnn
      | node l x r =>
        have hnl := node_len l r x; have hnlw := node_W (I := I) l r x; have hnll := W_len O (Bt.node l x r).list
        have hx := wf_mid hwt
        have vp := V.sum O hwp
        have vl := V.sum O (wf_left hwt)
        have vm := O.vm x hx
        have hpl : I.sum (pre ++ l.list) = I.add (I.sum pre) (I.sum l.list) := sum_append O hwp (wf_left hwt)
        have vpl : I.V (I.W pre + I.W l.list) (I.sum (pre ++ l.list)) := hpl ▸ O.va _ _ _ _ vp vl
        refine s_left nq6 fun pl nl => wp_call (c_count nl) fun c h7 e7 hc7 => ?_
        obtain ⟨(c : Int), w7⟩ := c
        dsimp only at hc7 ⊢
        subst hc7
        have nq7 := nq6.ext e7
        refine wp_ifB (fun hg => ?_) fun hg => ?_
        · rw [leI_iff] at hg
          refine s_left nq7 fun pl nl => s_ret ⟨fun _ => ⟨(l, pre, x :: r.list ++ post), (j, pl, ()), rfl, ⟨e6'.trans e7, nl, by rw [hL]; simp [Bt.list], ?_, hg, oz6.ext e7, oa6.ext e7⟩, by dsimp only; omega⟩, fun h => absurd rfl h⟩
          dsimp only
          rw [htake]; simp only [Bt.list]
          rw [List.take_append_of_le_length (by omega)]
        · rw [leI_not] at hg
          refine wp_bind (fun t vs h' => t = 0 ∧ vs = [] ∧ Ext h h' ∧ Nd I h' q (.node l x r) ∧ Own h1.size 1 h' ⟨some ⟨h1.size, 0, none⟩, I.sB.length, I.sB.length⟩ (Bs.inj I.sB I.zs) ∧ Own h2.size 1 h' ⟨some ⟨h2.size, 0, none⟩, I.sB.length, I.sB.length⟩ (Bs.inj I.sB (I.sum (pre ++ l.list)))) ?_ ?_
          · refine s_left nq7 fun pl nl => ?_
            cases l with
            | nil =>
              obtain rfl := nl
              exact s_ifF (s_ret ⟨rfl, rfl, e6'.trans e7, nq7, oz6.ext e7, by simpa [Bt.list] using oa6.ext e7⟩)
            | node ll lx lr =>
              have hp : ∃ a, pl = some a := by obtain ⟨a, _, _, h1, _⟩ := nl; exact ⟨a, h1⟩
              obtain ⟨la, rfl⟩ := hp
              refine s_ifT (s_getO (oa6.ext e7) (s_left nq7 fun pl nl => s_sum nl (wp_call (O.ca _ _ _ _ _ vp vl (by omega)) fun m h8 e8 hm => ?_)))
              obtain ⟨m, w5⟩ := m
              dsimp only at hm
              rw [← hpl] at hm
              subst hm
              refine s_stoO (I.sum (pre ++ (Bt.node ll lx lr).list)) ((oa6.ext e7).ext e8) (O.fs _) fun h9 o9 u9 => s_ret ⟨rfl, rfl, Upd.extN ((e6'.trans e7).trans e8) u9 (by intro a ha; cases ha; dsimp only; omega),
                (nq7.ext e8).upd u9 ((oa6.ext e7).ext e8) (by omega), ob_upd ((oz6.ext e7).ext e8) u9 (by dsimp only; omega), o9⟩
          · rintro tg vs h8 ⟨rfl, rfl, e8, nq8, oz8, oa8⟩
            refine s_tag (s_cast0 (s_getO oa8 (s_item nq8 (wp_call (O.cm _ x hx) fun m h9 e9 hm => ?_))))
            obtain ⟨m, w9⟩ := m
            dsimp only at hm
            subst hm
            refine s_ckO (oa8.ext e9) (wp_call (O.ca _ _ _ _ _ vpl vm (by omega)) fun m h10 e10 hm => ?_)
            obtain ⟨m, w10⟩ := m
            dsimp only at hm
            rw [← sum_snoc] at hm
            subst hm
            have vq : I.V (I.W pre + I.W l.list + I.wt x) (I.sum (pre ++ l.list ++ [x])) := by rw [sum_snoc]; exact O.va _ _ _ _ vpl vm
            refine s_stoO (I.sum (pre ++ l.list ++ [x])) ((oa8.ext e9).ext e10) (O.fs _) fun h11 o11 u11 => ?_
            have nq11 := ((nq8.ext e9).ext e10).upd u11 ((oa8.ext e9).ext e10) (by omega)
            have hsub : subI .i64 (subI .i64 j ((l.list.length : Nat) : Int)) 1 = j - l.list.length - 1 := by
              rw [sub_ok (a := j) (by omega) (by omega), sub_ok (by omega) (by omega)]
            rw [hsub]
            refine s_right nq11 fun pr nr => s_ret ⟨fun _ => ⟨(r, pre ++ l.list ++ [x], post), (j - l.list.length - 1, pr, ()), rfl, ⟨Upd.extN ((e8.trans e9).trans e10) u11 (by intro a ha; cases ha; dsimp only; omega), nr, by rw [hL]; simp [Bt.list], ?_, by dsimp only; omega,
              ob_upd ((oz8.ext e9).ext e10) u11 (by dsimp only; omega), o11⟩, by dsimp only; omega⟩, fun h => absurd rfl h⟩
            dsimp only
            rw [htake]
            obtain ⟨d, hd⟩ : ∃ d : Nat, j = l.list.length + 1 + d := ⟨(j - l.list.length - 1).toNat, by omega⟩
            have h1' : j.toNat = (l.list ++ [x]).length + d := by simp; omega
            have h2' : (j - l.list.length - 1).toNat = d := by omega
            rw [h1', h2', show (Bt.node l x r).list = (l.list ++ [x]) ++ r.list by simp [Bt.list], List.take_append, List.take_of_length_le (by omega), Nat.add_sub_cancel_left]
            simp
    · have hno : ¬(t' ≠ .nil ∧ 0 < j) := fun x => by rw [hb.2 x] at hc; cases hc
      refine s_ret ⟨fun h => absurd h (by decide), fun _ => ⟨rfl, rfl, e6', oz6, ?_⟩⟩
      rw [htake]
      by_cases hn : t' = .nil
      · subst hn; simpa [Bt.list] using oa6
      · have hj0 : j.toNat = 0 := by have : ¬ 0 < j := fun x => hno ⟨hn, x⟩; omega
        rw [hj0, List.take_zero, List.append_nil]; exact oa6
  · rintro tg vs h5 ⟨rfl, rfl, e5, oz, oa⟩
    exact s_tag (s_cast0 (s_getO oa (s_tellO (I.sum (t.list.take i.toNat)) oz e1.size e5 (O.fs _) fun h' e => ⟨rfl, e, (_, ()), rfl, rfl⟩)))

end Go.Sw.Any
