/-
  Tree: join, cut, first, both, Replace.
-/
import Derived.Test.YteoloieadjeneaaSwT9
set_option linter.unusedVariables false
set_option linter.unusedSimpArgs false
set_option maxRecDepth 100000
namespace Go.Sw.Tree
variable {P : Program} {S : Ids} {h : Heap} {Q : Nat → List Value → Heap → Prop}

theorem c_joinR (S : Ids) : ∀ (fuel : Nat) {h : Heap} {pl pr : Option Addr} {l r : BT} {x : R2}, l.list.length + r.list.length < fuel → Nd h pl l → Nd h pr r → wfR (BT.node l (x.1, x.2.1) r).list → (BT.node l (x.1, x.2.1) r).list.length ≤ 4398046511104 →
    Gives P (R_tree_join_Run fuel S pl x pr) [.one .ptr] h fun (y : Option Addr × Unit) h' => ∃ t, Nd h' y.1 t ∧ Join l (x.1, x.2.1) r t := by
  intro fuel
  induction fuel with
  | zero => intro h pl pr l r x hf; omega
  | succ fuel ih =>
    intro h pl pr l r x hf nl nr hw hroom
    obtain ⟨(kd : Int), (n : Int), u⟩ := x
    dsimp only at hw hroom ⊢
    obtain ⟨f1, f2⟩ := wf_mid hw
    have hl := node_len l r (kd, n)
    have g1 := l.ht_le; have g2 := r.ht_le
    unfold R_tree_join_Run Gives
    refine s_new2 kd n f1 f2 fun h1 e1 o1 => ?_
    have ld : ∀ {h'} {K : R2 → Prog} {Q : Nat → List Value → Heap → Prop}, Ext h1 h' → wp P (K (kd, n, ())) h' Q → wp P (.load (.agg [.int .i64, .int .i64]) (some ⟨h.size, 0, none⟩) K) h' Q := fun e hk =>
      ⟨_, rfl, (kd, n, ()), (o1.ext e).lst.cells, hk⟩
    have nl1 := nl.ext e1
    have nr1 := nr.ext e1
    refine wp_call (c_tall nl1) fun y h2 e2 hy => wp_call (c_tall (nr1.ext e2)) fun z h3 e3 hz => ?_
    obtain ⟨(y : Int), w1⟩ := y
    obtain ⟨(z : Int), w2⟩ := z
    dsimp only at hy hz ⊢
    subst hy; subst hz
    have e13 := e2.trans e3
    have nl3 := nl1.ext e13
    have nr3 := nr1.ext e13
    rw [add_ok (by omega) (by omega)]
    refine wp_ifB (fun hc => ?_) fun hc => ?_
    · rw [gtI_iff] at hc
      cases l with
      | nil => simp only [BT.ht] at hc; omega
      | node ll lx lr =>
        have hll := node_len ll lr lx
        obtain ⟨a, ql, qr, rfl, c, n1, n2⟩ := nl3
        have c : NdC h3 a ql qr ll lx lr := c
        refine q_left c (q_item c (q_right c (ld e13 (wp_call (ih (x := (kd, n, ())) (by omega) n2 nr3 (wf_sub hw (by intro y hy; simp only [BT.list, List.mem_append, List.mem_cons] at hy ⊢; grind)) (by rw [node_len]; omega)) fun p h4 e4 hp => ?_))))
        obtain ⟨(p : Option Addr), w3⟩ := p
        obtain ⟨t1, np, hj⟩ := hp
        dsimp only at np hj ⊢
        have hlist : (BT.node ll (lx.1, lx.2) t1).list = (BT.node (.node ll lx lr) (kd, n) r).list := by simp only [BT.list]; rw [hj.1]; simp
        refine q_ckI (c.ext e4) (q_ckL (c.ext e4) (wp_call (c_even (x := (lx.1, lx.2, ())) (n1.ext e4) np (by rw [hlist]; exact hw) (by rw [hlist]; exact hroom)) fun p h5 e5 hp => ?_))
        obtain ⟨(p : Option Addr), w4⟩ := p
        obtain ⟨t2, np, he⟩ := hp
        exact s_ret ⟨rfl, e1.trans ((e13.trans e4).trans e5), (p, ()), rfl, t2, np, join_1 (by omega) hj he⟩
    · rw [gtI_not] at hc
      refine wp_call (c_tall nr3) fun y h4 e4 hy => wp_call (c_tall (nl3.ext e4)) fun z h5 e5 hz => ?_
      obtain ⟨(y : Int), w1⟩ := y
      obtain ⟨(z : Int), w2⟩ := z
      dsimp only at hy hz ⊢
      subst hy; subst hz
      have e35 := e4.trans e5
      have nl5 := nl3.ext e35
      have nr5 := nr3.ext e35
      have e15 := e13.trans e35
      rw [add_ok (by omega) (by omega)]
      refine wp_ifB (fun hd => ?_) fun hd => ?_
      · rw [gtI_iff] at hd
        cases r with
        | nil => simp only [BT.ht] at hd; omega
        | node rl rx rr =>
          have hrr := node_len rl rr rx
          obtain ⟨a, ql, qr, rfl, c, n1, n2⟩ := nr5
          have c : NdC h5 a ql qr rl rx rr := c
          refine ld e15 (q_left c (q_item c (q_right c (wp_call (ih (x := (kd, n, ())) (by omega) nl5 n1 (wf_sub hw (by intro y hy; simp only [BT.list, List.mem_append, List.mem_cons] at hy ⊢; grind)) (by rw [node_len]; omega)) fun p h6 e6 hp => ?_))))
          obtain ⟨(p : Option Addr), w3⟩ := p
          obtain ⟨t1, np, hj⟩ := hp
          dsimp only at np hj ⊢
          have hlist : (BT.node t1 (rx.1, rx.2) rr).list = (BT.node l (kd, n) (.node rl rx rr)).list := by simp only [BT.list]; rw [hj.1]; simp
          refine q_ckR (c.ext e6) (q_ckI (c.ext e6) (wp_call (c_even (x := (rx.1, rx.2, ())) np (n2.ext e6) (by rw [hlist]; exact hw) (by rw [hlist]; exact hroom)) fun p h7 e7 hp => ?_))
          obtain ⟨(p : Option Addr), w4⟩ := p
          obtain ⟨t2, np, he⟩ := hp
          exact s_ret ⟨rfl, e1.trans ((e15.trans e6).trans e7), (p, ()), rfl, t2, np, join_2 (by omega) hj he⟩
      · rw [gtI_not] at hd
        refine ld e15 (wp_call (c_of (x := (kd, n, ())) nl5 nr5 hw hroom) fun p h6 e6 hp => ?_)
        obtain ⟨(p : Option Addr), w3⟩ := p
        exact s_ret ⟨rfl, e1.trans (e15.trans e6), (p, ()), rfl, _, hp, join_3 (by omega) (by omega)⟩

theorem c_join {pl pr : Option Addr} {l r : BT} {x : R2} (nl : Nd h pl l) (nr : Nd h pr r) (hw : wfR (BT.node l (x.1, x.2.1) r).list) (hroom : (BT.node l (x.1, x.2.1) r).list.length ≤ 4398046511104) :
    Gives P (F_tree_join_Run S pl x pr) [.one .ptr] h fun (y : Option Addr × Unit) h' => ∃ t, Nd h' y.1 t ∧ Join l (x.1, x.2.1) r t :=
  ⟨l.list.length + r.list.length + 1, c_joinR S _ (Nat.lt_succ_self _) nl nr hw hroom⟩

theorem c_cutR (S : Ids) : ∀ (fuel : Nat) {h : Heap} {p : Option Addr} {t : BT} {i : Int}, t.list.length < fuel → Nd h p t → wfR t.list → t.list.length ≤ 4398046511104 → -4398046511104 ≤ i → i ≤ 9223372036854775807 →
    Gives P (R_node_Run_cut fuel S p i) [.one .ptr, .one .ptr] h fun (y : Option Addr × Option Addr × Unit) h' => ∃ a b, Nd h' y.1 a ∧ Nd h' y.2.1 b ∧ a.list = t.list.take i.toNat ∧ b.list = t.list.drop i.toNat ∧ (t.Avl → a.Avl ∧ b.Avl) := by
  intro fuel
  induction fuel with
  | zero => intro h p t i hf; omega
  | succ fuel ih =>
    intro h p t i hf nt hw hroom hi0 hi1
    unfold R_node_Run_cut Gives
    cases t with
    | nil =>
      obtain rfl := nt
      exact s_ifT (s_ret ⟨rfl, Ext.refl _, (none, none, ()), rfl, .nil, .nil, rfl, rfl, by simp [BT.list], by simp [BT.list], fun _ => ⟨trivial, trivial⟩⟩)
    | node l x r =>
      have hl := node_len l r x
      obtain ⟨a, ql, qr, rfl, c, n1, n2⟩ := nt
      have c : NdC h a ql qr l x r := c
      refine s_ifF (q_left c (wp_call (c_count n1) fun y h1 e1 hy => ?_))
      obtain ⟨(y : Int), w1⟩ := y
      dsimp only at hy ⊢
      subst hy
      have c1 := c.ext e1
      refine wp_ifB (fun hc => ?_) fun hc => ?_
      · rw [leI_iff] at hc
        refine q_left c1 (wp_call (ih (by omega) (n1.ext e1) (wf_left hw) (by omega) hi0 hi1) fun y h2 e2 hy => ?_)
        obtain ⟨(pa : Option Addr), (pb : Option Addr), w2⟩ := y
        obtain ⟨ta, tb, na, nb, la, lb, hav⟩ := hy
        dsimp only at na nb ⊢
        have hlist : (BT.node tb (x.1, x.2) r).list = (BT.node l x r).list.drop i.toNat := by
          simp only [BT.list]; rw [lb, List.drop_append_of_le_length (by omega)]
        refine q_item (c1.ext e2) (q_right (c1.ext e2) (wp_call (c_join (x := (x.1, x.2, ())) nb (n2.ext (e1.trans e2)) (by rw [hlist]; exact hw.drop _) (by rw [hlist, List.length_drop]; omega)) fun y h3 e3 hy => ?_))
        obtain ⟨(pc : Option Addr), w3⟩ := y
        obtain ⟨t2, nc, hj⟩ := hy
        refine s_ret ⟨rfl, (e1.trans e2).trans e3, (pa, pc, ()), rfl, ta, t2, na.ext e3, nc, ?_, ?_, fun hv => ⟨(hav hv.1).1, (hj.2 (hav hv.1).2 hv.2.1).1⟩⟩
        · rw [la]; simp only [BT.list]; rw [List.take_append_of_le_length (by omega)]
        · rw [hj.1, ← hlist]; rfl
      · rw [leI_not] at hc
        rw [sub_ok (a := i) (by omega) (by omega), sub_ok (by omega) (by omega)]
        refine q_right c1 (wp_call (ih (i := i - l.list.length - 1) (by omega) (n2.ext e1) (wf_right hw) (by omega) (by omega) (by omega)) fun y h2 e2 hy => ?_)
        obtain ⟨(pa : Option Addr), (pb : Option Addr), w2⟩ := y
        obtain ⟨ta, tb, na, nb, la, lb, hav⟩ := hy
        dsimp only at na nb ⊢
        obtain ⟨d, hd⟩ : ∃ d : Nat, i = l.list.length + 1 + d := ⟨(i - l.list.length - 1).toNat, by omega⟩
        have h1' : i.toNat = (l.list ++ [x]).length + d := by simp; omega
        have h2' : (i - l.list.length - 1).toNat = d := by omega
        rw [h2'] at la lb
        have hbt : (BT.node l x r).list = (l.list ++ [x]) ++ r.list := by simp [BT.list]
        have hlist : (BT.node l (x.1, x.2) ta).list = (BT.node l x r).list.take i.toNat := by
          rw [hbt, h1', List.take_append, List.take_of_length_le (by omega), Nat.add_sub_cancel_left, ← la]; simp [BT.list]
        refine q_left (c1.ext e2) (q_item (c1.ext e2) (wp_call (c_join (x := (x.1, x.2, ())) (n1.ext (e1.trans e2)) na (by rw [hlist]; exact hw.take _) (by rw [hlist, List.length_take]; omega)) fun y h3 e3 hy => ?_))
        obtain ⟨(pc : Option Addr), w3⟩ := y
        obtain ⟨t2, nc, hj⟩ := hy
        refine s_ret ⟨rfl, (e1.trans e2).trans e3, (pc, pb, ()), rfl, t2, tb, nc, nb.ext e3, ?_, ?_, fun hv => ⟨(hj.2 hv.1 (hav hv.2.1).1).1, (hav hv.2.1).2⟩⟩
        · rw [hj.1, ← hlist]; rfl
        · rw [lb, hbt, h1', List.drop_append, List.drop_of_length_le (show (l.list ++ [x]).length ≤ (l.list ++ [x]).length + d from Nat.le_add_right ..), Nat.add_sub_cancel_left, List.nil_append]
theorem c_cut {p : Option Addr} {t : BT} {i : Int} (nt : Nd h p t) (hw : wfR t.list) (hroom : t.list.length ≤ 4398046511104) (hi : 0 ≤ i) (hi1 : i ≤ t.list.length) :
    Gives P (F_node_Run_cut S p i) [.one .ptr, .one .ptr] h fun (y : Option Addr × Option Addr × Unit) h' => ∃ a b, Nd h' y.1 a ∧ Nd h' y.2.1 b ∧ a.list = t.list.take i.toNat ∧ b.list = t.list.drop i.toNat ∧ (t.Avl → a.Avl ∧ b.Avl) :=
  ⟨t.list.length + 1, c_cutR S _ (Nat.lt_succ_self _) nt hw hroom (by omega) (by omega)⟩

theorem s_store2 {n : Nat} {a : Addr} {u v : Int} (x y : Int) {K : Prog} (ho : OwnL n .i64 h ⟨some a, 2, 2⟩ [u, v]) (hf : fitsI .i64 x ∧ fitsI .i64 y)
    (hk : ∀ h', OwnL n .i64 h' ⟨some a, 2, 2⟩ [x, y] → Upd ⟨some a, 2, 2⟩ h h' → wp P K h' Q) : wp P (.store (some a) [.int .i64 x, .int .i64 y] K) h Q :=
  s_storeL (l := [u, v]) [x, y] ho rfl (by intro z hz; simp only [List.mem_cons, List.not_mem_nil, or_false] at hz; rcases hz with rfl | rfl; exact hf.1; exact hf.2) fun h' o u _ => hk h' o u
theorem s_get2 {n : Nat} {p : Option Addr} {a : Addr} {x y : Int} {K : R2 → Prog} (hp : p = some a) (ho : OwnL n .i64 h ⟨some a, 2, 2⟩ [x, y]) (hk : wp P (K (x, y, ())) h Q) : wp P (.load (.agg [.int .i64, .int .i64]) p K) h Q :=
  ⟨a, hp, (x, y, ()), ho.lst.cells, hk⟩
theorem s_zero2 {K : Addr → Prog} (hk : ∀ h', Ext h h' → OwnL h.size .i64 h' ⟨some ⟨h.size, 0, none⟩, 2, 2⟩ [0, 0] → wp P (K ⟨h.size, 0, none⟩) h' Q) : wp P (.alloc [.int .i64 0, .int .i64 0] K) h Q :=
  s_new2 0 0 (fits_zero _) (fits_zero _) hk
theorem s_put2 (x y : Int) {K : Addr → Prog} (hf : fitsI .i64 x ∧ fitsI .i64 y) (hk : ∀ h', Ext h h' → OwnL h.size .i64 h' ⟨some ⟨h.size, 0, none⟩, 2, 2⟩ [x, y] → wp P (K ⟨h.size, 0, none⟩) h' Q) :
    wp P (.alloc [.int .i64 0, .int .i64 0] fun a => .store (some a) [.int .i64 x, .int .i64 y] (K a)) h Q :=
  s_zero2 fun h1 e1 o1 => s_store2 x y o1 hf fun h2 o2 u2 => hk h2 (Upd.extN e1 u2 (by intro a ha; cases ha; exact Nat.le_refl _)) o2

abbrev A2 : Ty := .agg [.int .i64, .int .i64]
/-- The first thing, and the others. -/
def First (t : BT) (x : Int × Int) (t' : BT) : Prop := t.list = x :: t'.list ∧ (t.Avl → t'.Avl ∧ t'.ht ≤ t.ht ∧ t.ht ≤ t'.ht + 1)

theorem c_firstR (S : Ids) : ∀ (fuel : Nat) {h : Heap} {p : Option Addr} {t : BT}, t.list.length < fuel → Nd h p t → t ≠ .nil → wfR t.list → t.list.length ≤ 4398046511104 →
    Gives P (R_node_Run_first fuel S p) [A2, .one .ptr] h fun (y : R2 × Option Addr × Unit) h' => ∃ t', Nd h' y.2.1 t' ∧ First t (y.1.1, y.1.2.1) t' := by
  intro fuel
  induction fuel with
  | zero => intro h p t hf; omega
  | succ fuel ih =>
    intro h p t hf nt hne hw hroom
    cases t with
    | nil => exact absurd rfl hne
    | node l x r =>
      have hl := node_len l r x
      have hmid := wf_mid hw
      obtain ⟨a, ql, qr, rfl, c, n1, n2⟩ := nt
      have c : NdC h a ql qr l x r := c
      unfold R_node_Run_first Gives
      refine s_zero2 fun h1 e1 o1 => ?_
      have c1 := c.ext e1
      refine q_left c1 ?_
      cases l with
      | nil =>
        obtain rfl := n1
        refine s_ifT (q_item c1 (q_right c1 (s_store2 x.1 x.2 o1 hmid fun h2 o2 u2 => ?_)))
        have c2 : NdC h2 a none qr .nil x r := cells_upd u2 c1 (small_ne o1.own c1 (by simp [headV, sumV]))
        have e2 : Ext h h2 := Upd.extN e1 u2 (by intro a ha; cases ha; exact Nat.le_refl _)
        exact q_ckR c2 (s_get2 rfl o2 (s_ret ⟨rfl, e2, ((x.1, x.2, ()), qr, ()), rfl, r, n2.ext e2, by simp [BT.list], fun ⟨_, b, c, d⟩ => by simp only [BT.ht] at *; exact ⟨b, by omega, by omega⟩⟩))
      | node ll lx lr =>
        have hp : ∃ a, ql = some a := by obtain ⟨a, _, _, h1, _⟩ := n1; exact ⟨a, h1⟩
        obtain ⟨la, rfl⟩ := hp
        refine s_ifF (q_left c1 (wp_call (ih (by omega) (n1.ext e1) (by simp) (wf_left hw) (by omega)) fun y h2 e2 hy => ?_))
        obtain ⟨⟨(i : Int), (j : Int), w1⟩, (pq : Option Addr), w2⟩ := y
        obtain ⟨t1, nq, hfst⟩ := hy
        dsimp only at nq hfst ⊢
        have hij : fitsI .i64 i ∧ fitsI .i64 j := hw (i, j) (by
          have : (i, j) ∈ (BT.node ll lx lr).list := by rw [hfst.1]; exact List.mem_cons_self ..
          simp only [BT.list, List.mem_append, List.mem_cons] at this ⊢; grind)
        refine s_put2 i j hij fun h3 e3 o3 => s_get2 rfl o3 ?_
        have e13 := e2.trans e3
        have c3 := c1.ext e13
        have hlist : (BT.node (.node ll lx lr) x r).list = (i, j) :: (BT.node t1 (x.1, x.2) r).list := by
          rw [show (BT.node (.node ll lx lr) x r).list = (BT.node ll lx lr).list ++ x :: r.list from rfl, hfst.1]; simp [BT.list]
        have hlen := congrArg List.length hlist
        rw [List.length_cons] at hlen
        refine q_item c3 (q_right c3 (wp_call (c_even (x := (x.1, x.2, ())) (nq.ext e3) (n2.ext (e1.trans e13)) (fun z hz => hw z (by rw [hlist]; exact List.mem_cons_of_mem _ hz)) (by dsimp only; omega)) fun y h4 e4 hy => ?_))
        obtain ⟨(pe : Option Addr), w3⟩ := y
        obtain ⟨t2, ne, hev⟩ := hy
        dsimp only at ne hev ⊢
        have e14 := e13.trans e4
        refine s_check0 rfl (o3.ext e4).lst.cells (s_store2 i j (o1.ext e14) hij fun h5 o5 u5 => s_get2 rfl o5 (s_ret ⟨rfl, Upd.extN (e1.trans e14) u5 (by intro a ha; cases ha; exact Nat.le_refl _), ((i, j, ()), pe, ()), rfl, t2, ne.upd u5 (o1.ext e14).own (by decide), ?_, ?_⟩))
        · rw [hlist, hev.1]; rfl
        · intro ⟨a1, a2, a3, a4⟩
          obtain ⟨g1, g2, g3⟩ := hfst.2 a1
          obtain ⟨k1, k2, k3, k4⟩ := hev.2 g1 a2 (by omega) (by omega)
          rw [show (BT.node (.node ll lx lr) x r).ht = max (BT.node ll lx lr).ht r.ht + 1 from rfl]
          refine ⟨k1, ?_, ?_⟩ <;> (by_cases hx : t1.ht ≤ r.ht + 1 <;> by_cases hy : r.ht ≤ t1.ht + 1 <;> first | (have := k4 hx hy; omega) | omega)

theorem c_both {pl pr : Option Addr} {l r : BT} (nl : Nd h pl l) (nr : Nd h pr r) (hw : wfR (l.list ++ r.list)) (hroom : (l.list ++ r.list).length ≤ 4398046511104) :
    Gives P (F_tree_both_Run S pl pr) [.one .ptr] h fun (y : Option Addr × Unit) h' => ∃ t, Nd h' y.1 t ∧ t.list = l.list ++ r.list ∧ (l.Avl → r.Avl → t.Avl) := by
  have hlen := List.length_append (as := l.list) (bs := r.list)
  unfold F_tree_both_Run Gives
  cases r with
  | nil =>
    obtain rfl := nr
    exact s_ifT (s_ret ⟨rfl, Ext.refl _, (pl, ()), rfl, l, nl, by simp [BT.list], fun a _ => a⟩)
  | node rl rx rr =>
    have hp : ∃ a, pr = some a := by obtain ⟨a, _, _, h1, _⟩ := nr; exact ⟨a, h1⟩
    obtain ⟨la, rfl⟩ := hp
    refine s_ifF (wp_call (R := fun (y : R2 × Option Addr × Unit) h' => ∃ t', Nd h' y.2.1 t' ∧ First (.node rl rx rr) (y.1.1, y.1.2.1) t') ⟨(BT.node rl rx rr).list.length + 1, c_firstR S _ (Nat.lt_succ_self _) nr (by simp) (fun z hz => hw z (List.mem_append_right _ hz)) (by omega)⟩ fun y h1 e1 hy => ?_)
    obtain ⟨⟨(i : Int), (j : Int), w1⟩, (pq : Option Addr), w2⟩ := y
    obtain ⟨t1, nq, hfst⟩ := hy
    dsimp only at nq hfst ⊢
    have hij : fitsI .i64 i ∧ fitsI .i64 j := hw (i, j) (List.mem_append_right _ (by rw [hfst.1]; exact List.mem_cons_self ..))
    have hlist : (BT.node l (i, j) t1).list = l.list ++ (BT.node rl rx rr).list := by rw [hfst.1]; rfl
    refine s_put2 i j hij fun h2 e2 o2 => s_get2 rfl o2 (wp_call (c_join (x := (i, j, ())) (nl.ext (e1.trans e2)) (nq.ext e2) (by rw [hlist]; exact hw) (by rw [hlist]; exact hroom)) fun y h3 e3 hy => ?_)
    obtain ⟨(pe : Option Addr), w3⟩ := y
    obtain ⟨t2, ne, hj⟩ := hy
    exact s_ret ⟨rfl, (e1.trans e2).trans e3, (pe, ()), rfl, t2, ne, by rw [hj.1, ← hlist]; rfl, fun a b => (hj.2 a (hfst.2 b).1).1⟩

end Go.Sw.Tree
