/-
  The tree over any kind of things: even, join, cut, first, both.
-/
import Derived.Test.YteoloieadjeneaaSwK2
set_option linter.unusedVariables false
set_option linter.unusedSimpArgs false
set_option maxRecDepth 100000
namespace Go.Sw.Any
open Go.Sw.Tree (iv s_putAll s_newP s_getP s_getT s_putP small_ne cells_upd wp_whileG least TR minI_eq eqI_self Placed)
variable {P : Program} {I : Inst} {h : Heap} {Q : Nat → List Value → Heap → Prop}

/-- Two sides whose heights differ by one at most, all the way down. -/
def Bt.Avl {α : Type} : Bt α → Prop
  | .nil => True
  | .node l _ r => l.Avl ∧ r.Avl ∧ l.ht ≤ r.ht + 1 ∧ r.ht ≤ l.ht + 1

/-- As low as can be. -/
def Bt.Full {α : Type} (t : Bt α) : Prop := t.list.length < 2 ^ t.ht ∧ (2 ^ t.ht ≤ 2 * t.list.length ∨ t.ht = 0) ∧ t.Avl
theorem full_nil : (Bt.nil : Bt I.It).Full := ⟨by simp [Bt.list, Bt.ht], .inr rfl, trivial⟩
theorem full_node {l r : Bt I.It} {x : I.It} (hl : l.Full) (hr : r.Full) (h1 : r.list.length ≤ l.list.length) (h2 : l.list.length ≤ r.list.length + 1) : (Bt.node l x r).Full := by
  obtain ⟨a1, a2, a3⟩ := hl
  obtain ⟨b1, b2, b3⟩ := hr
  have hn := node_len l r x
  have c1 : r.ht ≤ l.ht := by
    rcases b2 with b2 | b2
    · have : 2 ^ r.ht < 2 ^ (l.ht + 1) := by rw [Nat.pow_succ]; omega
      have := (Nat.pow_lt_pow_iff_right (by decide : 1 < 2)).1 this
      omega
    · omega
  have c2 : l.ht ≤ r.ht + 1 := by
    rcases a2 with a2 | a2
    · have : 2 ^ l.ht ≤ 2 ^ (r.ht + 1) := by rw [Nat.pow_succ]; omega
      exact (Nat.pow_le_pow_iff_right (by decide : 1 < 2)).1 this
    · omega
  have hh : (Bt.node l x r).ht = l.ht + 1 := by simp only [Bt.ht]; omega
  refine ⟨?_, .inl ?_, a3, b3, c2, by omega⟩
  · rw [hh, hn, Nat.pow_succ]; omega
  · rw [hh, hn, Nat.pow_succ]
    rcases a2 with a2 | a2
    · omega
    · rw [a2]; omega

/-- What even answers. -/
def Even (l : Bt I.It) (x : I.It) (r t : Bt I.It) : Prop := t.list = l.list ++ x :: r.list ∧
  (l.Avl → r.Avl → l.ht ≤ r.ht + 2 → r.ht ≤ l.ht + 2 → t.Avl ∧ max l.ht r.ht ≤ t.ht ∧ t.ht ≤ max l.ht r.ht + 1 ∧ (l.ht ≤ r.ht + 1 → r.ht ≤ l.ht + 1 → t.ht = max l.ht r.ht + 1))
def Join (l : Bt I.It) (x : I.It) (r t : Bt I.It) : Prop := t.list = l.list ++ x :: r.list ∧ (l.Avl → r.Avl → t.Avl ∧ max l.ht r.ht ≤ t.ht ∧ t.ht ≤ max l.ht r.ht + 1)

theorem even_1 {ll lr r : Bt I.It} {lx x : I.It} (h1 : r.ht + 1 < (Bt.node ll lx lr).ht) (h2 : lr.ht ≤ ll.ht) : Even (.node ll lx lr) x r (.node ll lx (.node lr x r)) := by
  refine ⟨by simp [Bt.list], fun ⟨a1, a2, a3, a4⟩ a5 a6 a7 => ?_⟩
  simp only [Bt.ht, Bt.Avl] at *
  refine ⟨⟨a1, ⟨a2, a5, ?_, ?_⟩, ?_, ?_⟩, ?_, ?_, ?_⟩ <;> omega
theorem even_2 {ll m1 m2 r : Bt I.It} {lx x mx : I.It} (h1 : r.ht + 1 < (Bt.node ll lx (.node m1 mx m2)).ht) (h2 : ll.ht < (Bt.node m1 mx m2).ht) : Even (.node ll lx (.node m1 mx m2)) x r (.node (.node ll lx m1) mx (.node m2 x r)) := by
  refine ⟨by simp [Bt.list], fun ⟨a1, ⟨b1, b2, b3, b4⟩, a3, a4⟩ a5 a6 a7 => ?_⟩
  simp only [Bt.ht, Bt.Avl] at *
  refine ⟨⟨⟨a1, b1, ?_, ?_⟩, ⟨b2, a5, ?_, ?_⟩, ?_, ?_⟩, ?_, ?_, ?_⟩ <;> omega
theorem even_3 {l rl rr : Bt I.It} {rx x : I.It} (h1 : l.ht + 1 < (Bt.node rl rx rr).ht) (h2 : rl.ht ≤ rr.ht) : Even l x (.node rl rx rr) (.node (.node l x rl) rx rr) := by
  refine ⟨by simp [Bt.list], fun a5 ⟨a1, a2, a3, a4⟩ a6 a7 => ?_⟩
  simp only [Bt.ht, Bt.Avl] at *
  refine ⟨⟨⟨a5, a1, ?_, ?_⟩, a2, ?_, ?_⟩, ?_, ?_, ?_⟩ <;> omega
theorem even_4 {l m1 m2 rr : Bt I.It} {rx x mx : I.It} (h1 : l.ht + 1 < (Bt.node (.node m1 mx m2) rx rr).ht) (h2 : rr.ht < (Bt.node m1 mx m2).ht) : Even l x (.node (.node m1 mx m2) rx rr) (.node (.node l x m1) mx (.node m2 rx rr)) := by
  refine ⟨by simp [Bt.list], fun a5 ⟨⟨b1, b2, b3, b4⟩, a2, a3, a4⟩ a6 a7 => ?_⟩
  simp only [Bt.ht, Bt.Avl] at *
  refine ⟨⟨⟨a5, b1, ?_, ?_⟩, ⟨b2, a2, ?_, ?_⟩, ?_, ?_⟩, ?_, ?_, ?_⟩ <;> omega
theorem even_5 {l r : Bt I.It} {x : I.It} (h1 : l.ht ≤ r.ht + 1) (h2 : r.ht ≤ l.ht + 1) : Even l x r (.node l x r) := by
  refine ⟨by simp [Bt.list], fun a b _ _ => ?_⟩
  simp only [Bt.ht, Bt.Avl] at *
  refine ⟨⟨a, b, ?_, ?_⟩, ?_, ?_, ?_⟩ <;> first | omega | (intros; first | trivial | omega)
theorem join_1 {ll lr r t1 t : Bt I.It} {lx x : I.It} (h1 : r.ht + 1 < (Bt.node ll lx lr).ht) (j : Join lr x r t1) (e : Even ll lx t1 t) : Join (.node ll lx lr) x r t := by
  refine ⟨by rw [e.1, j.1]; simp [Bt.list], fun ⟨a1, a2, a3, a4⟩ a5 => ?_⟩
  obtain ⟨j1, j2, j3⟩ := j.2 a2 a5
  simp only [Bt.ht] at *
  obtain ⟨e1, e2, e3, e4⟩ := e.2 a1 j1 (by omega) (by omega)
  refine ⟨e1, ?_, ?_⟩ <;> (by_cases hx : ll.ht ≤ t1.ht + 1 <;> by_cases hy : t1.ht ≤ ll.ht + 1 <;> first | (have := e4 hx hy; omega) | omega)
theorem join_2 {l rl rr t1 t : Bt I.It} {rx x : I.It} (h1 : l.ht + 1 < (Bt.node rl rx rr).ht) (j : Join l x rl t1) (e : Even t1 rx rr t) : Join l x (.node rl rx rr) t := by
  refine ⟨by rw [e.1, j.1]; simp [Bt.list], fun a5 ⟨a1, a2, a3, a4⟩ => ?_⟩
  obtain ⟨j1, j2, j3⟩ := j.2 a5 a1
  simp only [Bt.ht] at *
  obtain ⟨e1, e2, e3, e4⟩ := e.2 j1 a2 (by omega) (by omega)
  refine ⟨e1, ?_, ?_⟩ <;> (by_cases hx : t1.ht ≤ rr.ht + 1 <;> by_cases hy : rr.ht ≤ t1.ht + 1 <;> first | (have := e4 hx hy; omega) | omega)
theorem join_3 {l r : Bt I.It} {x : I.It} (h1 : l.ht ≤ r.ht + 1) (h2 : r.ht ≤ l.ht + 1) : Join l x r (.node l x r) := by
  refine ⟨by simp [Bt.list], fun a b => ?_⟩
  simp only [Bt.ht, Bt.Avl] at *
  refine ⟨⟨a, b, ?_, ?_⟩, ?_, ?_⟩ <;> omega

theorem wf_sub {L M : List I.It} (w : I.wf L) (hm : ∀ y, y ∈ M → y ∈ L) : I.wf M := fun y hy => w y (hm y hy)

theorem c_even (O : I.Ok P) {pl pr : Option Addr} {l r : Bt I.It} {x : I.It} (nl : Nd I h pl l) (nr : Nd I h pr r) (hw : I.wf (Bt.node l x r).list) (hroom : I.W (Bt.node l x r).list ≤ 4398046511104) :
    Gives P (G_even I pl x pr) [.one .ptr] h fun (y : Option Addr × Unit) h' => ∃ t, Nd I h' y.1 t ∧ Even l x r t := by
  have hx := wf_mid hw
  have hl := node_len l r x; have hlw := node_W (I := I) l r x; have hll := W_len O (Bt.node l x r).list
  have g1 := l.ht_le; have g2 := r.ht_le
  unfold G_even Gives
  refine s_newO x O.i1.2 fun h1 e1 o1 => ?_
  have ld : ∀ {h'} {K : I.It → Prog} {Q : Nat → List Value → Heap → Prop}, Ext h1 h' → wp P (K x) h' Q → wp P (.load (.agg I.iB) (some ⟨h.size, 0, none⟩) K) h' Q := fun e hk => s_getO (o1.ext e) hk
  have ck : ∀ {h'} {K : Prog} {Q : Nat → List Value → Heap → Prop}, Ext h1 h' → wp P K h' Q → wp P (.check (some ⟨h.size, 0, none⟩) (Bs.inj I.iB x) K) h' Q := fun e hk => s_ckO (o1.ext e) hk
  have nl1 := nl.ext e1
  have nr1 := nr.ext e1
  refine wp_call (c_tall nl1) fun y h2 e2 hy => wp_call (c_tall (nr1.ext e2)) fun z h3 e3 hz => ?_
  obtain ⟨(y : Int), w1⟩ := y
  obtain ⟨(z : Int), w2⟩ := z
  dsimp only at hy hz ⊢
  subst hy; subst hz
  have e13 := e2.trans e3
  have nl3 := nl1.ext e13
  have nr3 := nr1.ext e13
  rw [add_ok (by omega) (by omega)]
  refine wp_ifB (fun hc => ?_) fun hc => ?_
  · rw [gtI_iff] at hc
    cases l with
    | nil => simp only [Bt.ht] at hc; omega
    | node ll lx lr =>
      have hll := node_len ll lr lx; have hllw := node_W (I := I) ll lr lx; have hlll := W_len O (Bt.node ll lx lr).list
      obtain ⟨a, ql, qr, rfl, c, n1, n2⟩ := nl3
      have c : NdC I h3 a ql qr ll lx lr := c
      refine q_left c (q_right c (wp_call (c_tall n1) fun y h4 e4 hy => q_ckR (c.ext e4) (wp_call (c_tall (n2.ext e4)) fun z h5 e5 hz => ?_)))
      obtain ⟨(y : Int), w1⟩ := y
      obtain ⟨(z : Int), w2⟩ := z
      dsimp only at hy hz ⊢
      subst hy; subst hz
      have e35 := e4.trans e5
      have c5 := c.ext e35
      have n15 := n1.ext e35
      have n25 := n2.ext e35
      have nr5 := nr3.ext e35
      have e15 := e13.trans e35
      refine wp_ifB (fun hg => ?_) fun hg => ?_
      · rw [geI_iff] at hg
        refine q_left c5 (q_item c5 (q_right c5 (ld e15 (wp_call (c_of O (x := x) n25 nr5 (wf_sub hw (by intro y hy; simp only [Bt.list, List.mem_append, List.mem_cons] at hy ⊢; grind)) (by rw [node_W]; omega)) fun p h6 e6 hp => ?_))))
        obtain ⟨(p : Option Addr), w3⟩ := p
        dsimp only at hp ⊢
        have hev := even_1 (x := x) (r := r) (lx := lx) (by omega) (show lr.ht ≤ ll.ht by omega)
        refine q_ckI (c5.ext e6) (q_ckL (c5.ext e6) (wp_call (c_of O (x := lx) (n15.ext e6) hp (by rw [hev.1]; exact hw) (by rw [hev.1]; exact hroom)) fun p h7 e7 hp => ?_))
        obtain ⟨(p : Option Addr), w4⟩ := p
        exact s_ret ⟨rfl, e1.trans ((e15.trans e6).trans e7), (p, ()), rfl, _, hp, hev⟩
      · rw [geI_not] at hg
        cases lr with
        | nil => simp only [Bt.ht] at hg; omega
        | node m1 mx m2 =>
          have hmm := node_len m1 m2 mx; have hmmw := node_W (I := I) m1 m2 mx; have hmml := W_len O (Bt.node m1 mx m2).list
          obtain ⟨a', ml, mr, rfl, c', k1, k2⟩ := n25
          have c' : NdC I h5 a' ml mr m1 mx m2 := c'
          have hev := even_2 (x := x) (r := r) (lx := lx) (ll := ll) (m1 := m1) (mx := mx) (m2 := m2) (by omega) (by omega)
          refine q_right c5 (q_left c5 (q_item c5 (q_left c' (q_item c' (q_right c' (ld e15 (wp_call (c_of O (x := lx) n15 k1 (wf_sub hw (by intro y hy; simp only [Bt.list, List.mem_append, List.mem_cons] at hy ⊢; grind)) (by rw [node_W]; omega)) fun p h6 e6 hp => ?_)))))))
          obtain ⟨(p : Option Addr), w3⟩ := p
          dsimp only at hp ⊢
          refine ck (e15.trans e6) (q_ckR (c'.ext e6) (q_ckI (c'.ext e6) (wp_call (c_of O (x := x) (k2.ext e6) (nr5.ext e6) (wf_sub hw (by intro y hy; simp only [Bt.list, List.mem_append, List.mem_cons] at hy ⊢; grind)) (by rw [node_W]; omega)) fun p' h7 e7 hp' => ?_)))
          obtain ⟨(p' : Option Addr), w4⟩ := p'
          dsimp only at hp' ⊢
          refine q_ckI (c'.ext (e6.trans e7)) (wp_call (c_of O (x := mx) (hp.ext e7) hp' (by rw [hev.1]; exact hw) (by rw [hev.1]; exact hroom)) fun p'' h8 e8 hp'' => ?_)
          obtain ⟨(p'' : Option Addr), w5⟩ := p''
          exact s_ret ⟨rfl, e1.trans (((e15.trans e6).trans e7).trans e8), (p'', ()), rfl, _, hp'', hev⟩
  · rw [gtI_not] at hc
    refine wp_call (c_tall nr3) fun y h4 e4 hy => wp_call (c_tall (nl3.ext e4)) fun z h5 e5 hz => ?_
    obtain ⟨(y : Int), w1⟩ := y
    obtain ⟨(z : Int), w2⟩ := z
    dsimp only at hy hz ⊢
    subst hy; subst hz
    have e35 := e4.trans e5
    have nl5 := nl3.ext e35
    have nr5 := nr3.ext e35
    have e15 := e13.trans e35
    rw [add_ok (by omega) (by omega)]
    refine wp_ifB (fun hd => ?_) fun hd => ?_
    · rw [gtI_iff] at hd
      cases r with
      | nil => simp only [Bt.ht] at hd; omega
      | node rl rx rr =>
        have hrr := node_len rl rr rx; have hrrw := node_W (I := I) rl rr rx; have hrrl := W_len O (Bt.node rl rx rr).list
        obtain ⟨a, ql, qr, rfl, c, n1, n2⟩ := nr5
        have c : NdC I h5 a ql qr rl rx rr := c
        refine q_right c (q_left c (wp_call (c_tall n2) fun y h6 e6 hy => q_ckL (c.ext e6) (wp_call (c_tall (n1.ext e6)) fun z h7 e7 hz => ?_)))
        obtain ⟨(y : Int), w1⟩ := y
        obtain ⟨(z : Int), w2⟩ := z
        dsimp only at hy hz ⊢
        subst hy; subst hz
        have e57 := e6.trans e7
        have c7 := c.ext e57
        have n17 := n1.ext e57
        have n27 := n2.ext e57
        have nl7 := nl5.ext e57
        have e17 := e15.trans e57
        refine wp_ifB (fun hg => ?_) fun hg => ?_
        · rw [geI_iff] at hg
          refine ld e17 (q_left c7 (q_item c7 (q_right c7 (wp_call (c_of O (x := x) nl7 n17 (wf_sub hw (by intro y hy; simp only [Bt.list, List.mem_append, List.mem_cons] at hy ⊢; grind)) (by rw [node_W]; omega)) fun p h8 e8 hp => ?_))))
          obtain ⟨(p : Option Addr), w3⟩ := p
          dsimp only at hp ⊢
          have hev := even_3 (x := x) (l := l) (rx := rx) (rl := rl) (rr := rr) (by omega) (by omega)
          refine q_ckR (c7.ext e8) (q_ckI (c7.ext e8) (wp_call (c_of O (x := rx) hp (n27.ext e8) (by rw [hev.1]; exact hw) (by rw [hev.1]; exact hroom)) fun p h9 e9 hp => ?_))
          obtain ⟨(p : Option Addr), w4⟩ := p
          exact s_ret ⟨rfl, e1.trans ((e17.trans e8).trans e9), (p, ()), rfl, _, hp, hev⟩
        · rw [geI_not] at hg
          cases rl with
          | nil => simp only [Bt.ht] at hg; omega
          | node m1 mx m2 =>
            have hmm := node_len m1 m2 mx; have hmmw := node_W (I := I) m1 m2 mx; have hmml := W_len O (Bt.node m1 mx m2).list
            obtain ⟨a', ml, mr, rfl, c', k1, k2⟩ := n17
            have c' : NdC I h7 a' ml mr m1 mx m2 := c'
            have hev := even_4 (x := x) (l := l) (rx := rx) (m1 := m1) (mx := mx) (m2 := m2) (rr := rr) (by omega) (by omega)
            refine q_left c7 (ld e17 (q_left c' (q_item c' (q_right c' (q_item c7 (q_right c7 (wp_call (c_of O (x := x) nl7 k1 (wf_sub hw (by intro y hy; simp only [Bt.list, List.mem_append, List.mem_cons] at hy ⊢; grind)) (by rw [node_W]; omega)) fun p h8 e8 hp => ?_)))))))
            obtain ⟨(p : Option Addr), w3⟩ := p
            dsimp only at hp ⊢
            refine q_ckR (c7.ext e8) (q_ckI (c7.ext e8) (q_ckR (c'.ext e8) (q_ckI (c'.ext e8) (wp_call (c_of O (x := rx) (k2.ext e8) (n27.ext e8) (wf_sub hw (by intro y hy; simp only [Bt.list, List.mem_append, List.mem_cons] at hy ⊢; grind)) (by rw [node_W]; omega)) fun p' h9 e9 hp' => ?_))))
            obtain ⟨(p' : Option Addr), w4⟩ := p'
            dsimp only at hp' ⊢
            refine q_ckI (c'.ext (e8.trans e9)) (wp_call (c_of O (x := mx) (hp.ext e9) hp' (by rw [hev.1]; exact hw) (by rw [hev.1]; exact hroom)) fun p'' h10 e10 hp'' => ?_)
            obtain ⟨(p'' : Option Addr), w5⟩ := p''
            exact s_ret ⟨rfl, e1.trans (((e17.trans e8).trans e9).trans e10), (p'', ()), rfl, _, hp'', hev⟩
    · rw [gtI_not] at hd
      refine ld e15 (wp_call (c_of O (x := x) nl5 nr5 hw hroom) fun p h6 e6 hp => ?_)
      obtain ⟨(p : Option Addr), w3⟩ := p
      exact s_ret ⟨rfl, e1.trans (e15.trans e6), (p, ()), rfl, _, hp, even_5 (by omega) (by omega)⟩

theorem c_joinR (O : I.Ok P) : ∀ (fuel : Nat) {h : Heap} {pl pr : Option Addr} {l r : Bt I.It} {x : I.It}, l.list.length + r.list.length < fuel → Nd I h pl l → Nd I h pr r → I.wf (Bt.node l x r).list → I.W (Bt.node l x r).list ≤ 4398046511104 →
    Gives P (Gr_join fuel I pl x pr) [.one .ptr] h fun (y : Option Addr × Unit) h' => ∃ t, Nd I h' y.1 t ∧ Join l x r t := by
  intro fuel
  induction fuel with
  | zero => intro h pl pr l r x hf; omega
  | succ fuel ih =>
    intro h pl pr l r x hf nl nr hw hroom
    have hx := wf_mid hw
    have hl := node_len l r x; have hlw := node_W (I := I) l r x; have hll := W_len O (Bt.node l x r).list
    have g1 := l.ht_le; have g2 := r.ht_le
    unfold Gr_join Gives
    refine s_newO x O.i1.2 fun h1 e1 o1 => ?_
    have ld : ∀ {h'} {K : I.It → Prog} {Q : Nat → List Value → Heap → Prop}, Ext h1 h' → wp P (K x) h' Q → wp P (.load (.agg I.iB) (some ⟨h.size, 0, none⟩) K) h' Q := fun e hk => s_getO (o1.ext e) hk
    have nl1 := nl.ext e1
    have nr1 := nr.ext e1
    refine wp_call (c_tall nl1) fun y h2 e2 hy => wp_call (c_tall (nr1.ext e2)) fun z h3 e3 hz => ?_
    obtain ⟨(y : Int), w1⟩ := y
    obtain ⟨(z : Int), w2⟩ := z
    dsimp only at hy hz ⊢
    subst hy; subst hz
    have e13 := e2.trans e3
    have nl3 := nl1.ext e13
    have nr3 := nr1.ext e13
    rw [add_ok (by omega) (by omega)]
    refine wp_ifB (fun hc => ?_) fun hc => ?_
    · rw [gtI_iff] at hc
      cases l with
      | nil => simp only [Bt.ht] at hc; omega
      | node ll lx lr =>
        have hll := node_len ll lr lx; have hllw := node_W (I := I) ll lr lx; have hlll := W_len O (Bt.node ll lx lr).list
        obtain ⟨a, ql, qr, rfl, c, n1, n2⟩ := nl3
        have c : NdC I h3 a ql qr ll lx lr := c
        refine q_left c (q_item c (q_right c (ld e13 (wp_call (ih (x := x) (by omega) n2 nr3 (wf_sub hw (by intro y hy; simp only [Bt.list, List.mem_append, List.mem_cons] at hy ⊢; grind)) (by rw [node_W]; omega)) fun p h4 e4 hp => ?_))))
        obtain ⟨(p : Option Addr), w3⟩ := p
        obtain ⟨t1, np, hj⟩ := hp
        dsimp only at np hj ⊢
        have hlist : (Bt.node ll lx t1).list = (Bt.node (.node ll lx lr) x r).list := by simp only [Bt.list]; rw [hj.1]; simp
        refine q_ckI (c.ext e4) (q_ckL (c.ext e4) (wp_call (c_even O (x := lx) (n1.ext e4) np (by rw [hlist]; exact hw) (by rw [hlist]; exact hroom)) fun p h5 e5 hp => ?_))
        obtain ⟨(p : Option Addr), w4⟩ := p
        obtain ⟨t2, np, he⟩ := hp
        exact s_ret ⟨rfl, e1.trans ((e13.trans e4).trans e5), (p, ()), rfl, t2, np, join_1 (by omega) hj he⟩
    · rw [gtI_not] at hc
      refine wp_call (c_tall nr3) fun y h4 e4 hy => wp_call (c_tall (nl3.ext e4)) fun z h5 e5 hz => ?_
      obtain ⟨(y : Int), w1⟩ := y
      obtain ⟨(z : Int), w2⟩ := z
      dsimp only at hy hz ⊢
      subst hy; subst hz
      have e35 := e4.trans e5
      have nl5 := nl3.ext e35
      have nr5 := nr3.ext e35
      have e15 := e13.trans e35
      rw [add_ok (by omega) (by omega)]
      refine wp_ifB (fun hd => ?_) fun hd => ?_
      · rw [gtI_iff] at hd
        cases r with
        | nil => simp only [Bt.ht] at hd; omega
        | node rl rx rr =>
          have hrr := node_len rl rr rx; have hrrw := node_W (I := I) rl rr rx; have hrrl := W_len O (Bt.node rl rx rr).list
          obtain ⟨a, ql, qr, rfl, c, n1, n2⟩ := nr5
          have c : NdC I h5 a ql qr rl rx rr := c
          refine ld e15 (q_left c (q_item c (q_right c (wp_call (ih (x := x) (by omega) nl5 n1 (wf_sub hw (by intro y hy; simp only [Bt.list, List.mem_append, List.mem_cons] at hy ⊢; grind)) (by rw [node_W]; omega)) fun p h6 e6 hp => ?_))))
          obtain ⟨(p : Option Addr), w3⟩ := p
          obtain ⟨t1, np, hj⟩ := hp
          dsimp only at np hj ⊢
          have hlist : (Bt.node t1 rx rr).list = (Bt.node l x (.node rl rx rr)).list := by simp only [Bt.list]; rw [hj.1]; simp
          refine q_ckR (c.ext e6) (q_ckI (c.ext e6) (wp_call (c_even O (x := rx) np (n2.ext e6) (by rw [hlist]; exact hw) (by rw [hlist]; exact hroom)) fun p h7 e7 hp => ?_))
          obtain ⟨(p : Option Addr), w4⟩ := p
          obtain ⟨t2, np, he⟩ := hp
          exact s_ret ⟨rfl, e1.trans ((e15.trans e6).trans e7), (p, ()), rfl, t2, np, join_2 (by omega) hj he⟩
      · rw [gtI_not] at hd
        refine ld e15 (wp_call (c_of O (x := x) nl5 nr5 hw hroom) fun p h6 e6 hp => ?_)
        obtain ⟨(p : Option Addr), w3⟩ := p
        exact s_ret ⟨rfl, e1.trans (e15.trans e6), (p, ()), rfl, _, hp, join_3 (by omega) (by omega)⟩

theorem c_join (O : I.Ok P) {pl pr : Option Addr} {l r : Bt I.It} {x : I.It} (nl : Nd I h pl l) (nr : Nd I h pr r) (hw : I.wf (Bt.node l x r).list) (hroom : I.W (Bt.node l x r).list ≤ 4398046511104) :
    Gives P (G_join I pl x pr) [.one .ptr] h fun (y : Option Addr × Unit) h' => ∃ t, Nd I h' y.1 t ∧ Join l x r t :=
  ⟨l.list.length + r.list.length + 1, c_joinR O _ (Nat.lt_succ_self _) nl nr hw hroom⟩

theorem c_cutR (O : I.Ok P) : ∀ (fuel : Nat) {h : Heap} {p : Option Addr} {t : Bt I.It} {i : Int}, t.list.length < fuel → Nd I h p t → I.wf t.list → I.W t.list ≤ 4398046511104 → -4398046511104 ≤ i → i ≤ 9223372036854775807 →
    Gives P (Gr_cut fuel I p i) [.one .ptr, .one .ptr] h fun (y : Option Addr × Option Addr × Unit) h' => ∃ a b, Nd I h' y.1 a ∧ Nd I h' y.2.1 b ∧ a.list = t.list.take i.toNat ∧ b.list = t.list.drop i.toNat ∧ (t.Avl → a.Avl ∧ b.Avl) := by
  intro fuel
  induction fuel with
  | zero => intro h p t i hf; omega
  | succ fuel ih =>
    intro h p t i hf nt hw hroom hi0 hi1
    unfold Gr_cut Gives
    cases t with
    | nil =>
      obtain rfl := nt
      exact s_ifT (s_ret ⟨rfl, Ext.refl _, (none, none, ()), rfl, .nil, .nil, rfl, rfl, by simp [Bt.list], by simp [Bt.list], fun _ => ⟨trivial, trivial⟩⟩)
    | node l x r =>
      have hl := node_len l r x; have hlw := node_W (I := I) l r x; have hll := W_len O (Bt.node l x r).list
      obtain ⟨a, ql, qr, rfl, c, n1, n2⟩ := nt
      have c : NdC I h a ql qr l x r := c
      refine s_ifF (q_left c (wp_call (c_count n1) fun y h1 e1 hy => ?_))
      obtain ⟨(y : Int), w1⟩ := y
      dsimp only at hy ⊢
      subst hy
      have c1 := c.ext e1
      refine wp_ifB (fun hc => ?_) fun hc => ?_
      · rw [leI_iff] at hc
        refine q_left c1 (wp_call (ih (by omega) (n1.ext e1) (wf_left hw) (by omega) hi0 hi1) fun y h2 e2 hy => ?_)
        obtain ⟨(pa : Option Addr), (pb : Option Addr), w2⟩ := y
        obtain ⟨ta, tb, na, nb, la, lb, hav⟩ := hy
        dsimp only at na nb ⊢
        have hlist : (Bt.node tb x r).list = (Bt.node l x r).list.drop i.toNat := by
          simp only [Bt.list]; rw [lb, List.drop_append_of_le_length (by omega)]
        refine q_item (c1.ext e2) (q_right (c1.ext e2) (wp_call (c_join O (x := x) nb (n2.ext (e1.trans e2)) (by rw [hlist]; exact wf_drop hw _) (by rw [hlist]; exact Nat.le_trans (W_drop _ _) hroom)) fun y h3 e3 hy => ?_))
        obtain ⟨(pc : Option Addr), w3⟩ := y
        obtain ⟨t2, nc, hj⟩ := hy
        refine s_ret ⟨rfl, (e1.trans e2).trans e3, (pa, pc, ()), rfl, ta, t2, na.ext e3, nc, ?_, ?_, fun hv => ⟨(hav hv.1).1, (hj.2 (hav hv.1).2 hv.2.1).1⟩⟩
        · rw [la]; simp only [Bt.list]; rw [List.take_append_of_le_length (by omega)]
        · rw [hj.1, ← hlist]; rfl
      · rw [leI_not] at hc
        rw [sub_ok (a := i) (by omega) (by omega), sub_ok (by omega) (by omega)]
        refine q_right c1 (wp_call (ih (i := i - l.list.length - 1) (by omega) (n2.ext e1) (wf_right hw) (by omega) (by omega) (by omega)) fun y h2 e2 hy => ?_)
        obtain ⟨(pa : Option Addr), (pb : Option Addr), w2⟩ := y
        obtain ⟨ta, tb, na, nb, la, lb, hav⟩ := hy
        dsimp only at na nb ⊢
        obtain ⟨d, hd⟩ : ∃ d : Nat, i = l.list.length + 1 + d := ⟨(i - l.list.length - 1).toNat, by omega⟩
        have h1' : i.toNat = (l.list ++ [x]).length + d := by simp; omega
        have h2' : (i - l.list.length - 1).toNat = d := by omega
        rw [h2'] at la lb
        have hbt : (Bt.node l x r).list = (l.list ++ [x]) ++ r.list := by simp [Bt.list]
        have hlist : (Bt.node l x ta).list = (Bt.node l x r).list.take i.toNat := by
          rw [hbt, h1', List.take_append, List.take_of_length_le (by omega), Nat.add_sub_cancel_left, ← la]; simp [Bt.list]
        refine q_left (c1.ext e2) (q_item (c1.ext e2) (wp_call (c_join O (x := x) (n1.ext (e1.trans e2)) na (by rw [hlist]; exact wf_take hw _) (by rw [hlist]; exact Nat.le_trans (W_take _ _) hroom)) fun y h3 e3 hy => ?_))
        obtain ⟨(pc : Option Addr), w3⟩ := y
        obtain ⟨t2, nc, hj⟩ := hy
        refine s_ret ⟨rfl, (e1.trans e2).trans e3, (pc, pb, ()), rfl, t2, tb, nc, nb.ext e3, ?_, ?_, fun hv => ⟨(hj.2 hv.1 (hav hv.2.1).1).1, (hav hv.2.1).2⟩⟩
        · rw [hj.1, ← hlist]; rfl
        · rw [lb, hbt, h1', List.drop_append, List.drop_of_length_le (show (l.list ++ [x]).length ≤ (l.list ++ [x]).length + d from Nat.le_add_right ..), Nat.add_sub_cancel_left, List.nil_append]
theorem c_cut (O : I.Ok P) {p : Option Addr} {t : Bt I.It} {i : Int} (nt : Nd I h p t) (hw : I.wf t.list) (hroom : I.W t.list ≤ 4398046511104) (hi : 0 ≤ i) (hi1 : i ≤ t.list.length) :
    Gives P (G_cut I p i) [.one .ptr, .one .ptr] h fun (y : Option Addr × Option Addr × Unit) h' => ∃ a b, Nd I h' y.1 a ∧ Nd I h' y.2.1 b ∧ a.list = t.list.take i.toNat ∧ b.list = t.list.drop i.toNat ∧ (t.Avl → a.Avl ∧ b.Avl) :=
  ⟨t.list.length + 1, c_cutR O _ (Nat.lt_succ_self _) nt hw hroom (by omega) (by have := W_len O t.list; omega)⟩

/-- The first thing, and the others. -/
def First (t : Bt I.It) (x : I.It) (t' : Bt I.It) : Prop := t.list = x :: t'.list ∧ (t.Avl → t'.Avl ∧ t'.ht ≤ t.ht ∧ t.ht ≤ t'.ht + 1)

theorem c_firstR (O : I.Ok P) : ∀ (fuel : Nat) {h : Heap} {p : Option Addr} {t : Bt I.It}, t.list.length < fuel → Nd I h p t → t ≠ .nil → I.wf t.list → I.W t.list ≤ 4398046511104 →
    Gives P (Gr_first fuel I p) [(.agg I.iB), .one .ptr] h fun (y : I.It × Option Addr × Unit) h' => ∃ t', Nd I h' y.2.1 t' ∧ First t y.1 t' := by
  intro fuel
  induction fuel with
  | zero => intro h p t hf; omega
  | succ fuel ih =>
    intro h p t hf nt hne hw hroom
    cases t with
    | nil => exact absurd rfl hne
    | node l x r =>
      have hl := node_len l r x; have hlw := node_W (I := I) l r x; have hll := W_len O (Bt.node l x r).list
      have hmid := wf_mid hw
      obtain ⟨a, ql, qr, rfl, c, n1, n2⟩ := nt
      have c : NdC I h a ql qr l x r := c
      unfold Gr_first Gives
      refine s_newO I.zi O.i1.2 fun h1 e1 o1 => ?_
      have i1 := O.i1
      have hni : I.iB.length = I.ni := rfl
      have c1 := c.ext e1
      refine q_left c1 ?_
      cases l with
      | nil =>
        obtain rfl := n1
        refine s_ifT (q_item c1 (q_right c1 (s_stoO x o1 (O.fi _) fun h2 o2 u2 => ?_)))
        have c2 : NdC I h2 a none qr .nil x r := cells_upd u2 c1 (small_ne o1 c1 (by rw [List.length_append, headV_len, inj_len]; omega))
        have e2 : Ext h h2 := Upd.extN e1 u2 (by intro a ha; cases ha; exact Nat.le_refl _)
        exact q_ckR c2 (s_getO o2 (s_ret ⟨rfl, e2, (x, qr, ()), rfl, r, n2.ext e2, by simp [Bt.list], fun ⟨_, b, c, d⟩ => by simp only [Bt.ht] at *; exact ⟨b, by omega, by omega⟩⟩))
      | node ll lx lr =>
        have hp : ∃ a, ql = some a := by obtain ⟨a, _, _, h1, _⟩ := n1; exact ⟨a, h1⟩
        obtain ⟨la, rfl⟩ := hp
        refine s_ifF (q_left c1 (wp_call (ih (by omega) (n1.ext e1) (by simp) (wf_left hw) (by omega)) fun y h2 e2 hy => ?_))
        obtain ⟨y1, (pq : Option Addr), w2⟩ := y
        obtain ⟨t1, nq, hfst⟩ := hy
        dsimp only at nq hfst ⊢
        refine s_putO y1 O.i1.2 (O.fi _) fun h3 e3 o3 => s_getO o3 ?_
        have e13 := e2.trans e3
        have c3 := c1.ext e13
        have hlist : (Bt.node (.node ll lx lr) x r).list = y1 :: (Bt.node t1 x r).list := by
          rw [show (Bt.node (.node ll lx lr) x r).list = (Bt.node ll lx lr).list ++ x :: r.list from rfl, hfst.1]; simp [Bt.list]
        have hlen := congrArg I.W hlist
        rw [W_cons] at hlen
        refine q_item c3 (q_right c3 (wp_call (c_even O (x := x) (nq.ext e3) (n2.ext (e1.trans e13)) (fun z hz => hw z (by rw [hlist]; exact List.mem_cons_of_mem _ hz)) (by omega)) fun y h4 e4 hy => ?_))
        obtain ⟨(pe : Option Addr), w3⟩ := y
        obtain ⟨t2, ne, hev⟩ := hy
        dsimp only at ne hev ⊢
        have e14 := e13.trans e4
        refine s_ckO (o3.ext e4) (s_stoO y1 (o1.ext e14) (O.fi _) fun h5 o5 u5 => s_getO o5 (s_ret ⟨rfl, Upd.extN (e1.trans e14) u5 (by intro a ha; cases ha; exact Nat.le_refl _), (y1, pe, ()), rfl, t2, ne.upd u5 (o1.ext e14) (by omega), ?_, ?_⟩))
        · rw [hlist, hev.1]; rfl
        · intro ⟨a1, a2, a3, a4⟩
          obtain ⟨g1, g2, g3⟩ := hfst.2 a1
          obtain ⟨k1, k2, k3, k4⟩ := hev.2 g1 a2 (by omega) (by omega)
          rw [show (Bt.node (.node ll lx lr) x r).ht = max (Bt.node ll lx lr).ht r.ht + 1 from rfl]
          refine ⟨k1, ?_, ?_⟩ <;> (by_cases hx : t1.ht ≤ r.ht + 1 <;> by_cases hy : r.ht ≤ t1.ht + 1 <;> first | (have := k4 hx hy; omega) | omega)

theorem c_both (O : I.Ok P) {pl pr : Option Addr} {l r : Bt I.It} (nl : Nd I h pl l) (nr : Nd I h pr r) (hw : I.wf (l.list ++ r.list)) (hroom : I.W (l.list ++ r.list) ≤ 4398046511104) :
    Gives P (G_both I pl pr) [.one .ptr] h fun (y : Option Addr × Unit) h' => ∃ t, Nd I h' y.1 t ∧ t.list = l.list ++ r.list ∧ (l.Avl → r.Avl → t.Avl) := by
  have hlen := W_append (I := I) l.list r.list
  unfold G_both Gives
  cases r with
  | nil =>
    obtain rfl := nr
    exact s_ifT (s_ret ⟨rfl, Ext.refl _, (pl, ()), rfl, l, nl, by simp [Bt.list], fun a _ => a⟩)
  | node rl rx rr =>
    have hp : ∃ a, pr = some a := by obtain ⟨a, _, _, h1, _⟩ := nr; exact ⟨a, h1⟩
    obtain ⟨la, rfl⟩ := hp
    refine s_ifF (wp_call (R := fun (y : I.It × Option Addr × Unit) h' => ∃ t', Nd I h' y.2.1 t' ∧ First (.node rl rx rr) y.1 t') ⟨(Bt.node rl rx rr).list.length + 1, c_firstR O _ (Nat.lt_succ_self _) nr (by simp) (fun z hz => hw z (List.mem_append_right _ hz)) (by omega)⟩ fun y h1 e1 hy => ?_)
    obtain ⟨y1, (pq : Option Addr), w2⟩ := y
    obtain ⟨t1, nq, hfst⟩ := hy
    dsimp only at nq hfst ⊢
    have hlist : (Bt.node l y1 t1).list = l.list ++ (Bt.node rl rx rr).list := by rw [hfst.1]; rfl
    refine s_putO y1 O.i1.2 (O.fi _) fun h2 e2 o2 => s_getO o2 (wp_call (c_join O (x := y1) (nl.ext (e1.trans e2)) (nq.ext e2) (by rw [hlist]; exact hw) (by rw [hlist]; exact hroom)) fun y h3 e3 hy => ?_)
    obtain ⟨(pe : Option Addr), w3⟩ := y
    obtain ⟨t2, ne, hj⟩ := hy
    exact s_ret ⟨rfl, (e1.trans e2).trans e3, (pe, ()), rfl, t2, ne, by rw [hj.1, ← hlist]; rfl, fun a b => (hj.2 a (hfst.2 b).1).1⟩

end Go.Sw.Any
