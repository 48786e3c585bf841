/-
  Tree: even, join.
-/
import Derived.Test.YteoloieadjeneaaSwT8
set_option linter.unusedVariables false
set_option linter.unusedSimpArgs false
set_option maxRecDepth 100000
namespace Go.Sw.Tree
variable {P : Program} {S : Ids} {h : Heap} {Q : Nat → List Value → Heap → Prop}

def NdC (h : Heap) (a : Addr) (pl pr : Option Addr) (l : BT) (x : Int × Int) (r : BT) : Prop := Cells h a (headV pl pr (.node l x r) l r x ++ sumV (sum (BT.node l x r).list))
theorem NdC.ext {h h' : Heap} {a : Addr} {pl pr : Option Addr} {l r : BT} {x : Int × Int} (c : NdC h a pl pr l x r) (e : Ext h h') : NdC h' a pl pr l x r := e.cells c
theorem q_left {a : Addr} {pl pr : Option Addr} {l r : BT} {x : Int × Int} {K : Option Addr → Prog} (c : NdC h a pl pr l x r) (hk : wp P (K pl) h Q) : wp P (grd (someB (some a)) <| grd (someB (some a)) <| .load (.one .ptr) (shiftTo (some a) 0) K) h Q :=
  grd_some rfl (grd_some rfl (s_cell (b := .ptr) (x := pl) rfl c rfl hk))
theorem q_right {a : Addr} {pl pr : Option Addr} {l r : BT} {x : Int × Int} {K : Option Addr → Prog} (c : NdC h a pl pr l x r) (hk : wp P (K pr) h Q) : wp P (grd (someB (some a)) <| grd (someB (some a)) <| .load (.one .ptr) (shiftTo (some a) 1) K) h Q :=
  grd_some rfl (grd_some rfl (s_cell (b := .ptr) (x := pr) rfl c rfl hk))
theorem q_item {a : Addr} {pl pr : Option Addr} {l r : BT} {x : Int × Int} {K : R2 → Prog} (c : NdC h a pl pr l x r) (hk : wp P (K (x.1, x.2, ())) h Q) : wp P (grd (someB (some a)) <| grd (someB (some a)) <| .load (.agg [.int .i64, .int .i64]) (shiftTo (some a) 2) K) h Q :=
  grd_some rfl (grd_some rfl (s_cells2 (x := x.1) (y := x.2) rfl c rfl rfl hk))
theorem q_same {a : Addr} {vs ws : List Value} {j : Nat} {K : Prog} (c : Cells h a vs) (hj : ∀ i v, ws[i]? = some v → vs[j + i]? = some v) (hk : wp P K h Q) : wp P (.check (shiftTo (some a) j) ws K) h Q :=
  ⟨⟨a.add j, rfl, cells_iff.2 fun i v hi => by rw [add_add]; exact cells_iff.1 c _ _ (hj i v hi)⟩, hk⟩
theorem q_ckL {a : Addr} {pl pr : Option Addr} {l r : BT} {x : Int × Int} {K : Prog} (c : NdC h a pl pr l x r) (hk : wp P K h Q) : wp P (.check (shiftTo (some a) 0) [.pointer pl] K) h Q :=
  q_same c (fun i v hi => by match i, hi with | 0, hi => exact hi) hk
theorem q_ckR {a : Addr} {pl pr : Option Addr} {l r : BT} {x : Int × Int} {K : Prog} (c : NdC h a pl pr l x r) (hk : wp P K h Q) : wp P (.check (shiftTo (some a) 1) [.pointer pr] K) h Q :=
  q_same c (fun i v hi => by match i, hi with | 0, hi => exact hi) hk
theorem q_ckI {a : Addr} {pl pr : Option Addr} {l r : BT} {x : Int × Int} {K : Prog} (c : NdC h a pl pr l x r) (hk : wp P K h Q) : wp P (.check (shiftTo (some a) 2) [.int .i64 x.1, .int .i64 x.2] K) h Q :=
  q_same c (fun i v hi => by match i, hi with | 0, hi => exact hi | 1, hi => exact hi) hk

/-- What even answers. -/
def Even (l : BT) (x : Int × Int) (r t : BT) : Prop := t.list = l.list ++ x :: r.list ∧
  (l.Avl → r.Avl → l.ht ≤ r.ht + 2 → r.ht ≤ l.ht + 2 → t.Avl ∧ max l.ht r.ht ≤ t.ht ∧ t.ht ≤ max l.ht r.ht + 1 ∧ (l.ht ≤ r.ht + 1 → r.ht ≤ l.ht + 1 → t.ht = max l.ht r.ht + 1))
def Join (l : BT) (x : Int × Int) (r t : BT) : Prop := t.list = l.list ++ x :: r.list ∧ (l.Avl → r.Avl → t.Avl ∧ max l.ht r.ht ≤ t.ht ∧ t.ht ≤ max l.ht r.ht + 1)

theorem even_1 {ll lr r : BT} {lx x : Int × Int} (h1 : r.ht + 1 < (BT.node ll lx lr).ht) (h2 : lr.ht ≤ ll.ht) : Even (.node ll lx lr) x r (.node ll lx (.node lr x r)) := by
  refine ⟨by simp [BT.list], fun ⟨a1, a2, a3, a4⟩ a5 a6 a7 => ?_⟩
  simp only [BT.ht, BT.Avl] at *
  refine ⟨⟨a1, ⟨a2, a5, ?_, ?_⟩, ?_, ?_⟩, ?_, ?_, ?_⟩ <;> omega
theorem even_2 {ll m1 m2 r : BT} {lx x mx : Int × Int} (h1 : r.ht + 1 < (BT.node ll lx (.node m1 mx m2)).ht) (h2 : ll.ht < (BT.node m1 mx m2).ht) : Even (.node ll lx (.node m1 mx m2)) x r (.node (.node ll lx m1) mx (.node m2 x r)) := by
  refine ⟨by simp [BT.list], fun ⟨a1, ⟨b1, b2, b3, b4⟩, a3, a4⟩ a5 a6 a7 => ?_⟩
  simp only [BT.ht, BT.Avl] at *
  refine ⟨⟨⟨a1, b1, ?_, ?_⟩, ⟨b2, a5, ?_, ?_⟩, ?_, ?_⟩, ?_, ?_, ?_⟩ <;> omega
theorem even_3 {l rl rr : BT} {rx x : Int × Int} (h1 : l.ht + 1 < (BT.node rl rx rr).ht) (h2 : rl.ht ≤ rr.ht) : Even l x (.node rl rx rr) (.node (.node l x rl) rx rr) := by
  refine ⟨by simp [BT.list], fun a5 ⟨a1, a2, a3, a4⟩ a6 a7 => ?_⟩
  simp only [BT.ht, BT.Avl] at *
  refine ⟨⟨⟨a5, a1, ?_, ?_⟩, a2, ?_, ?_⟩, ?_, ?_, ?_⟩ <;> omega
theorem even_4 {l m1 m2 rr : BT} {rx x mx : Int × Int} (h1 : l.ht + 1 < (BT.node (.node m1 mx m2) rx rr).ht) (h2 : rr.ht < (BT.node m1 mx m2).ht) : Even l x (.node (.node m1 mx m2) rx rr) (.node (.node l x m1) mx (.node m2 rx rr)) := by
  refine ⟨by simp [BT.list], fun a5 ⟨⟨b1, b2, b3, b4⟩, a2, a3, a4⟩ a6 a7 => ?_⟩
  simp only [BT.ht, BT.Avl] at *
  refine ⟨⟨⟨a5, b1, ?_, ?_⟩, ⟨b2, a2, ?_, ?_⟩, ?_, ?_⟩, ?_, ?_, ?_⟩ <;> omega
theorem even_5 {l r : BT} {x : Int × Int} (h1 : l.ht ≤ r.ht + 1) (h2 : r.ht ≤ l.ht + 1) : Even l x r (.node l x r) := by
  refine ⟨by simp [BT.list], fun a b _ _ => ?_⟩
  simp only [BT.ht, BT.Avl] at *
  refine ⟨⟨a, b, ?_, ?_⟩, ?_, ?_, ?_⟩ <;> first | omega | (intros; first | trivial | omega)
theorem join_1 {ll lr r t1 t : BT} {lx x : Int × Int} (h1 : r.ht + 1 < (BT.node ll lx lr).ht) (j : Join lr x r t1) (e : Even ll lx t1 t) : Join (.node ll lx lr) x r t := by
  refine ⟨by rw [e.1, j.1]; simp [BT.list], fun ⟨a1, a2, a3, a4⟩ a5 => ?_⟩
  obtain ⟨j1, j2, j3⟩ := j.2 a2 a5
  simp only [BT.ht] at *
  obtain ⟨e1, e2, e3, e4⟩ := e.2 a1 j1 (by omega) (by omega)
  refine ⟨e1, ?_, ?_⟩ <;> (by_cases hx : ll.ht ≤ t1.ht + 1 <;> by_cases hy : t1.ht ≤ ll.ht + 1 <;> first | (have := e4 hx hy; omega) | omega)
theorem join_2 {l rl rr t1 t : BT} {rx x : Int × Int} (h1 : l.ht + 1 < (BT.node rl rx rr).ht) (j : Join l x rl t1) (e : Even t1 rx rr t) : Join l x (.node rl rx rr) t := by
  refine ⟨by rw [e.1, j.1]; simp [BT.list], fun a5 ⟨a1, a2, a3, a4⟩ => ?_⟩
  obtain ⟨j1, j2, j3⟩ := j.2 a5 a1
  simp only [BT.ht] at *
  obtain ⟨e1, e2, e3, e4⟩ := e.2 j1 a2 (by omega) (by omega)
  refine ⟨e1, ?_, ?_⟩ <;> (by_cases hx : t1.ht ≤ rr.ht + 1 <;> by_cases hy : rr.ht ≤ t1.ht + 1 <;> first | (have := e4 hx hy; omega) | omega)
theorem join_3 {l r : BT} {x : Int × Int} (h1 : l.ht ≤ r.ht + 1) (h2 : r.ht ≤ l.ht + 1) : Join l x r (.node l x r) := by
  refine ⟨by simp [BT.list], fun a b => ?_⟩
  simp only [BT.ht, BT.Avl] at *
  refine ⟨⟨a, b, ?_, ?_⟩, ?_, ?_⟩ <;> omega

theorem wf_sub {L M : List (Int × Int)} (w : wfR L) (hm : ∀ y, y ∈ M → y ∈ L) : wfR M := fun y hy => w y (hm y hy)

theorem c_even {pl pr : Option Addr} {l r : BT} {x : R2} (nl : Nd h pl l) (nr : Nd h pr r) (hw : wfR (BT.node l (x.1, x.2.1) r).list) (hroom : (BT.node l (x.1, x.2.1) r).list.length ≤ 4398046511104) :
    Gives P (F_tree_even_Run S pl x pr) [.one .ptr] h fun (y : Option Addr × Unit) h' => ∃ t, Nd h' y.1 t ∧ Even l (x.1, x.2.1) r t := by
  obtain ⟨(kd : Int), (n : Int), u⟩ := x
  dsimp only at hw hroom ⊢
  obtain ⟨f1, f2⟩ := wf_mid hw
  have hl := node_len l r (kd, n)
  have g1 := l.ht_le; have g2 := r.ht_le
  unfold F_tree_even_Run Gives
  refine s_new2 kd n f1 f2 fun h1 e1 o1 => ?_
  have ld : ∀ {h'} {K : R2 → Prog} {Q : Nat → List Value → Heap → Prop}, Ext h1 h' → wp P (K (kd, n, ())) h' Q → wp P (.load (.agg [.int .i64, .int .i64]) (some ⟨h.size, 0, none⟩) K) h' Q := fun e hk =>
    ⟨_, rfl, (kd, n, ()), (o1.ext e).lst.cells, hk⟩
  have ck : ∀ {h'} {K : Prog} {Q : Nat → List Value → Heap → Prop}, Ext h1 h' → wp P K h' Q → wp P (.check (some ⟨h.size, 0, none⟩) [iv kd, iv n] K) h' Q := fun e hk =>
    s_check0 rfl (o1.ext e).lst.cells hk
  have nl1 := nl.ext e1
  have nr1 := nr.ext e1
  refine wp_call (c_tall nl1) fun y h2 e2 hy => wp_call (c_tall (nr1.ext e2)) fun z h3 e3 hz => ?_
  obtain ⟨(y : Int), w1⟩ := y
  obtain ⟨(z : Int), w2⟩ := z
  dsimp only at hy hz ⊢
  subst hy; subst hz
  have e13 := e2.trans e3
  have nl3 := nl1.ext e13
  have nr3 := nr1.ext e13
  rw [add_ok (by omega) (by omega)]
  refine wp_ifB (fun hc => ?_) fun hc => ?_
  · rw [gtI_iff] at hc
    cases l with
    | nil => simp only [BT.ht] at hc; omega
    | node ll lx lr =>
      have hll := node_len ll lr lx
      obtain ⟨a, ql, qr, rfl, c, n1, n2⟩ := nl3
      have c : NdC h3 a ql qr ll lx lr := c
      refine q_left c (q_right c (wp_call (c_tall n1) fun y h4 e4 hy => q_ckR (c.ext e4) (wp_call (c_tall (n2.ext e4)) fun z h5 e5 hz => ?_)))
      obtain ⟨(y : Int), w1⟩ := y
      obtain ⟨(z : Int), w2⟩ := z
      dsimp only at hy hz ⊢
      subst hy; subst hz
      have e35 := e4.trans e5
      have c5 := c.ext e35
      have n15 := n1.ext e35
      have n25 := n2.ext e35
      have nr5 := nr3.ext e35
      have e15 := e13.trans e35
      refine wp_ifB (fun hg => ?_) fun hg => ?_
      · rw [geI_iff] at hg
        refine q_left c5 (q_item c5 (q_right c5 (ld e15 (wp_call (c_of (x := (kd, n, ())) n25 nr5 (wf_sub hw (by intro y hy; simp only [BT.list, List.mem_append, List.mem_cons] at hy ⊢; grind)) (by rw [node_len]; omega)) fun p h6 e6 hp => ?_))))
        obtain ⟨(p : Option Addr), w3⟩ := p
        dsimp only at hp ⊢
        have hev := even_1 (x := (kd, n)) (r := r) (lx := lx) (by omega) (show lr.ht ≤ ll.ht by omega)
        refine q_ckI (c5.ext e6) (q_ckL (c5.ext e6) (wp_call (c_of (x := (lx.1, lx.2, ())) (n15.ext e6) hp (by rw [hev.1]; exact hw) (by rw [hev.1]; exact hroom)) fun p h7 e7 hp => ?_))
        obtain ⟨(p : Option Addr), w4⟩ := p
        exact s_ret ⟨rfl, e1.trans ((e15.trans e6).trans e7), (p, ()), rfl, _, hp, hev⟩
      · rw [geI_not] at hg
        cases lr with
        | nil => simp only [BT.ht] at hg; omega
        | node m1 mx m2 =>
          have hmm := node_len m1 m2 mx
          obtain ⟨a', ml, mr, rfl, c', k1, k2⟩ := n25
          have c' : NdC h5 a' ml mr m1 mx m2 := c'
          have hev := even_2 (x := (kd, n)) (r := r) (lx := lx) (ll := ll) (m1 := m1) (mx := mx) (m2 := m2) (by omega) (by omega)
          refine q_right c5 (q_left c5 (q_item c5 (q_left c' (q_item c' (q_right c' (ld e15 (wp_call (c_of (x := (lx.1, lx.2, ())) n15 k1 (wf_sub hw (by intro y hy; simp only [BT.list, List.mem_append, List.mem_cons] at hy ⊢; grind)) (by rw [node_len]; omega)) fun p h6 e6 hp => ?_)))))))
          obtain ⟨(p : Option Addr), w3⟩ := p
          dsimp only at hp ⊢
          refine ck (e15.trans e6) (q_ckR (c'.ext e6) (q_ckI (c'.ext e6) (wp_call (c_of (x := (kd, n, ())) (k2.ext e6) (nr5.ext e6) (wf_sub hw (by intro y hy; simp only [BT.list, List.mem_append, List.mem_cons] at hy ⊢; grind)) (by rw [node_len]; omega)) fun p' h7 e7 hp' => ?_)))
          obtain ⟨(p' : Option Addr), w4⟩ := p'
          dsimp only at hp' ⊢
          refine q_ckI (c'.ext (e6.trans e7)) (wp_call (c_of (x := (mx.1, mx.2, ())) (hp.ext e7) hp' (by rw [hev.1]; exact hw) (by rw [hev.1]; exact hroom)) fun p'' h8 e8 hp'' => ?_)
          obtain ⟨(p'' : Option Addr), w5⟩ := p''
          exact s_ret ⟨rfl, e1.trans (((e15.trans e6).trans e7).trans e8), (p'', ()), rfl, _, hp'', hev⟩
  · rw [gtI_not] at hc
    refine wp_call (c_tall nr3) fun y h4 e4 hy => wp_call (c_tall (nl3.ext e4)) fun z h5 e5 hz => ?_
    obtain ⟨(y : Int), w1⟩ := y
    obtain ⟨(z : Int), w2⟩ := z
    dsimp only at hy hz ⊢
    subst hy; subst hz
    have e35 := e4.trans e5
    have nl5 := nl3.ext e35
    have nr5 := nr3.ext e35
    have e15 := e13.trans e35
    rw [add_ok (by omega) (by omega)]
    refine wp_ifB (fun hd => ?_) fun hd => ?_
    · rw [gtI_iff] at hd
      cases r with
      | nil => simp only [BT.ht] at hd; omega
      | node rl rx rr =>
        have hrr := node_len rl rr rx
        obtain ⟨a, ql, qr, rfl, c, n1, n2⟩ := nr5
        have c : NdC h5 a ql qr rl rx rr := c
        refine q_right c (q_left c (wp_call (c_tall n2) fun y h6 e6 hy => q_ckL (c.ext e6) (wp_call (c_tall (n1.ext e6)) fun z h7 e7 hz => ?_)))
        obtain ⟨(y : Int), w1⟩ := y
        obtain ⟨(z : Int), w2⟩ := z
        dsimp only at hy hz ⊢
        subst hy; subst hz
        have e57 := e6.trans e7
        have c7 := c.ext e57
        have n17 := n1.ext e57
        have n27 := n2.ext e57
        have nl7 := nl5.ext e57
        have e17 := e15.trans e57
        refine wp_ifB (fun hg => ?_) fun hg => ?_
        · rw [geI_iff] at hg
          refine ld e17 (q_left c7 (q_item c7 (q_right c7 (wp_call (c_of (x := (kd, n, ())) nl7 n17 (wf_sub hw (by intro y hy; simp only [BT.list, List.mem_append, List.mem_cons] at hy ⊢; grind)) (by rw [node_len]; omega)) fun p h8 e8 hp => ?_))))
          obtain ⟨(p : Option Addr), w3⟩ := p
          dsimp only at hp ⊢
          have hev := even_3 (x := (kd, n)) (l := l) (rx := rx) (rl := rl) (rr := rr) (by omega) (by omega)
          refine q_ckR (c7.ext e8) (q_ckI (c7.ext e8) (wp_call (c_of (x := (rx.1, rx.2, ())) hp (n27.ext e8) (by rw [hev.1]; exact hw) (by rw [hev.1]; exact hroom)) fun p h9 e9 hp => ?_))
          obtain ⟨(p : Option Addr), w4⟩ := p
          exact s_ret ⟨rfl, e1.trans ((e17.trans e8).trans e9), (p, ()), rfl, _, hp, hev⟩
        · rw [geI_not] at hg
          cases rl with
          | nil => simp only [BT.ht] at hg; omega
          | node m1 mx m2 =>
            have hmm := node_len m1 m2 mx
            obtain ⟨a', ml, mr, rfl, c', k1, k2⟩ := n17
            have c' : NdC h7 a' ml mr m1 mx m2 := c'
            have hev := even_4 (x := (kd, n)) (l := l) (rx := rx) (m1 := m1) (mx := mx) (m2 := m2) (rr := rr) (by omega) (by omega)
            refine q_left c7 (ld e17 (q_left c' (q_item c' (q_right c' (q_item c7 (q_right c7 (wp_call (c_of (x := (kd, n, ())) nl7 k1 (wf_sub hw (by intro y hy; simp only [BT.list, List.mem_append, List.mem_cons] at hy ⊢; grind)) (by rw [node_len]; omega)) fun p h8 e8 hp => ?_)))))))
            obtain ⟨(p : Option Addr), w3⟩ := p
            dsimp only at hp ⊢
            refine q_ckR (c7.ext e8) (q_ckI (c7.ext e8) (q_ckR (c'.ext e8) (q_ckI (c'.ext e8) (wp_call (c_of (x := (rx.1, rx.2, ())) (k2.ext e8) (n27.ext e8) (wf_sub hw (by intro y hy; simp only [BT.list, List.mem_append, List.mem_cons] at hy ⊢; grind)) (by rw [node_len]; omega)) fun p' h9 e9 hp' => ?_))))
            obtain ⟨(p' : Option Addr), w4⟩ := p'
            dsimp only at hp' ⊢
            refine q_ckI (c'.ext (e8.trans e9)) (wp_call (c_of (x := (mx.1, mx.2, ())) (hp.ext e9) hp' (by rw [hev.1]; exact hw) (by rw [hev.1]; exact hroom)) fun p'' h10 e10 hp'' => ?_)
            obtain ⟨(p'' : Option Addr), w5⟩ := p''
            exact s_ret ⟨rfl, e1.trans (((e17.trans e8).trans e9).trans e10), (p'', ()), rfl, _, hp'', hev⟩
    · rw [gtI_not] at hd
      refine ld e15 (wp_call (c_of (x := (kd, n, ())) nl5 nr5 hw hroom) fun p h6 e6 hp => ?_)
      obtain ⟨(p : Option Addr), w3⟩ := p
      exact s_ret ⟨rfl, e1.trans (e15.trans e6), (p, ()), rfl, _, hp, even_5 (by omega) (by omega)⟩

end Go.Sw.Tree
