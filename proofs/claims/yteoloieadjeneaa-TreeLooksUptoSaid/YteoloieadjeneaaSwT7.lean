/-
  Tree: build, Of, Size, Sum, Find, Upto.
-/
import Derived.Test.YteoloieadjeneaaSwT6
import Derived.Test.YteoloieadjeneaaSwT4
set_option linter.unusedVariables false
set_option linter.unusedSimpArgs false
set_option maxRecDepth 100000
namespace Go.Sw.Tree
variable {P : Program} {S : Ids} {h : Heap} {Q : Nat → List Value → Heap → Prop}

theorem cR_take (l : List (Int × Int)) (n : Nat) : (cR l).take (n * 2) = cR (l.take n) := by
  induction l generalizing n with
  | nil => simp [cR]
  | cons x l ih =>
    cases n with
    | zero => simp [cR]
    | succ n => rw [show (n + 1) * 2 = n * 2 + 1 + 1 by omega]; simp only [cR, List.flatMap_cons, List.take_succ_cons] at ih ⊢; simp [ih n]
theorem cR_drop (l : List (Int × Int)) (n : Nat) : (cR l).drop (n * 2) = cR (l.drop n) := by
  induction l generalizing n with
  | nil => simp [cR]
  | cons x l ih =>
    cases n with
    | zero => simp [cR]
    | succ n => rw [show (n + 1) * 2 = n * 2 + 1 + 1 by omega]; simp only [cR, List.flatMap_cons, List.drop_succ_cons] at ih ⊢; simp [ih n]
theorem wfR.drop {l : List (Int × Int)} (a : wfR l) (n : Nat) : wfR (l.drop n) := fun r hr => a r (List.mem_of_mem_drop hr)
theorem Runs.take {s : Sl} {l : List (Int × Int)} (hr : Runs h s l) {n m : Nat} (hn : n ≤ l.length) (hm : n ≤ m) (hm' : m < 2 ^ 63) : Runs h ⟨s.base, n, m⟩ (l.take n) :=
  ⟨by have := Rd.take hr.rd (n := n) (by rw [hr.len]; exact hn) m; rw [cR_take] at this; exact this, hm, hm', hr.wf.take n⟩
theorem Runs.drop {s : Sl} {l : List (Int × Int)} (hr : Runs h s l) {i m : Nat} (hi : i ≤ l.length) (hm : s.len - i ≤ m) (hm' : m < 2 ^ 63) : Runs h ⟨cutBase s.base s.cap i 2, s.len - i, m⟩ (l.drop i) :=
  ⟨by have := Rd.drop hr.rd (i := i) (by rw [hr.len]; exact hi) hr.cap m; rw [cR_drop] at this; exact this, hm, hm', hr.wf.drop i⟩

/-- l[j]'s cells, looked at again. -/
theorem s_same2 {s : Sl} {l : List (Int × Int)} {K : Prog} {j : Nat} {r : Int × Int} (hr : Runs h s l) (hj : l[j]? = some r) (hk : wp P K h Q) : wp P (.check (shiftTo s.base (mulN j 2)) [.int .i64 r.1, .int .i64 r.2] K) h Q := by
  obtain ⟨c1, c2⟩ := cR_at l _ _ hj
  obtain ⟨a, e, d1⟩ := hr.rd.2 _ _ c1
  obtain ⟨a', e', d2⟩ := hr.rd.2 _ _ c2
  rw [e] at e'; cases e'
  refine ⟨⟨a.add (j * 2), by simp [shiftTo, e, mulN], cells_iff.2 fun i v hi => ?_⟩, hk⟩
  match i, hi with
  | 0, hi => simp at hi; subst hi; rw [add_zero']; exact d1
  | 1, hi => simp at hi; subst hi; rw [add_add]; exact d2
  | i + 2, hi => simp at hi

/-- Two sides whose heights differ by one at most, all the way down. -/
def BT.Avl : BT → Prop
  | .nil => True
  | .node l _ r => l.Avl ∧ r.Avl ∧ l.ht ≤ r.ht + 1 ∧ r.ht ≤ l.ht + 1

/-- As low as can be. -/
def BT.Full (t : BT) : Prop := t.list.length < 2 ^ t.ht ∧ (2 ^ t.ht ≤ 2 * t.list.length ∨ t.ht = 0) ∧ t.Avl
theorem full_nil : BT.nil.Full := ⟨by decide, .inr rfl, trivial⟩
theorem full_node {l r : BT} {x : Int × Int} (hl : l.Full) (hr : r.Full) (h1 : r.list.length ≤ l.list.length) (h2 : l.list.length ≤ r.list.length + 1) : (BT.node l x r).Full := by
  obtain ⟨a1, a2, a3⟩ := hl
  obtain ⟨b1, b2, b3⟩ := hr
  have hn := node_len l r x
  have c1 : r.ht ≤ l.ht := by
    rcases b2 with b2 | b2
    · have : 2 ^ r.ht < 2 ^ (l.ht + 1) := by rw [Nat.pow_succ]; omega
      have := (Nat.pow_lt_pow_iff_right (by decide : 1 < 2)).1 this
      omega
    · omega
  have c2 : l.ht ≤ r.ht + 1 := by
    rcases a2 with a2 | a2
    · have : 2 ^ l.ht ≤ 2 ^ (r.ht + 1) := by rw [Nat.pow_succ]; omega
      exact (Nat.pow_le_pow_iff_right (by decide : 1 < 2)).1 this
    · omega
  have hh : (BT.node l x r).ht = l.ht + 1 := by simp only [BT.ht]; omega
  refine ⟨?_, .inl ?_, a3, b3, c2, by omega⟩
  · rw [hh, hn, Nat.pow_succ]; omega
  · rw [hh, hn, Nat.pow_succ]
    rcases a2 with a2 | a2
    · omega
    · rw [a2]; omega

theorem c_buildR (S : Ids) : ∀ (fuel : Nat) {h : Heap} {items : Sl} {l : List (Int × Int)}, l.length < fuel → Runs h items l → l.length ≤ 4398046511104 →
    Gives P (R_tree_build_Run fuel S items) [.one .ptr] h fun (y : Option Addr × Unit) h' => ∃ t : BT, Nd h' y.1 t ∧ t.list = l ∧ t.Full := by
  intro fuel
  induction fuel with
  | zero => intro h items l hf; omega
  | succ fuel ih =>
    intro h items l hf hr hroom
    have hlen := hr.len
    have hcap := hr.cap
    have hmax := hr.max
    unfold R_tree_build_Run Gives
    refine wp_ifB (fun hc => ?_) fun hc => ?_
    · rw [eqI_iff, natI_def, hlen] at hc
      exact s_ret ⟨rfl, Ext.refl _, (none, ()), rfl, .nil, rfl, by cases l; rfl; simp at hc; omega, full_nil⟩
    · rw [eqI_not, natI_def, hlen] at hc
      have hq : quoI .i64 (natI items.len) 2 = ((l.length / 2 : Nat) : Int) := by
        rw [natI_def, hlen, quo_ok (by omega) (by omega) (by omega)]; omega
      have hk : l.length / 2 < l.length := by omega
      have hj : l[l.length / 2]? = some l[l.length / 2] := List.getElem?_eq_getElem hk
      rw [hq, add_ok (by omega) (by omega)]
      have ht : toN ((l.length / 2 : Nat) : Int) = l.length / 2 := by rw [toN_def]; omega
      have ht1 : toN (((l.length / 2 : Nat) : Int) + 1) = l.length / 2 + 1 := by rw [toN_def]; omega
      rw [ht1, show subN items.cap 0 = items.cap from rfl, cutBase_zero, show subN (toN ((l.length / 2 : Nat) : Int)) 0 = l.length / 2 by rw [ht]; rfl]
      refine s_not (s_grd (leB_ok (by omega) (by omega)) (s_at2 hr (by omega) (by omega) fun x hx => s_grd (leB_ok (by omega) (by omega)) ?_))
      rw [show ((l.length / 2 : Nat) : Int).toNat = l.length / 2 by omega] at hx
      refine wp_call (ih (l := l.take (l.length / 2)) (by rw [List.length_take]; omega) (hr.take (by omega) (by omega) hmax) (by rw [List.length_take]; omega)) fun y h1 e1 hy => ?_
      obtain ⟨(pl : Option Addr), u1⟩ := y
      obtain ⟨tl, n1, l1, fl⟩ := hy
      dsimp only at n1 ⊢
      rw [ht]
      refine s_same2 (hr.ext e1) hx ?_
      refine wp_call (ih (l := l.drop (l.length / 2 + 1)) (by rw [List.length_drop]; omega) ((hr.ext e1).drop (by omega) (by unfold subN; omega) (by unfold subN; omega)) (by rw [List.length_drop]; omega)) fun y h2 e2 hy => ?_
      obtain ⟨(pr : Option Addr), u2⟩ := y
      obtain ⟨tr, n2, l2, fr⟩ := hy
      dsimp only at n2 ⊢
      refine s_same2 (hr.ext (e1.trans e2)) hx ?_
      have hlist : (BT.node tl x tr).list = l := by
        simp only [BT.list]
        rw [l1, l2]
        have := List.getElem?_eq_some_iff.1 hx
        obtain ⟨_, rfl⟩ := this
        rw [← List.drop_eq_getElem_cons hk, List.take_append_drop]
      refine wp_call (c_of (x := (x.1, x.2, ())) (n1.ext e2) n2 (by rw [hlist]; exact hr.wf) (by rw [hlist]; exact hroom)) fun y h3 e3 hy => ?_
      obtain ⟨(p : Option Addr), u3⟩ := y
      exact s_ret ⟨rfl, (e1.trans e2).trans e3, (p, ()), rfl, _, hy, hlist, full_node fl fr (by rw [l1, l2, List.length_take, List.length_drop]; omega) (by rw [l1, l2, List.length_take, List.length_drop]; omega)⟩

/-- A tree's value: its root. -/
abbrev TR := Option Addr × Unit
theorem s_newP (p : Option Addr) {K : Addr → Prog} (hk : ∀ h', Ext h h' → Own h.size 1 h' ⟨some ⟨h.size, 0, none⟩, 1, 1⟩ [.pointer p] → wp P (K ⟨h.size, 0, none⟩) h' Q) : wp P (.alloc [.pointer p] K) h Q :=
  fun elem => hk _ (Ext.push ..) (own_alloc rfl (by decide) (by decide))
theorem s_getP {n : Nat} {a : Addr} {p : Option Addr} {K : Option Addr → Prog} (ho : Own n 1 h ⟨some a, 1, 1⟩ [.pointer p]) (hk : wp P (K p) h Q) : wp P (.load (.one .ptr) (shiftTo (some a) 0) K) h Q :=
  s_cell (b := .ptr) (x := p) rfl ho.cells rfl hk
theorem s_getT {n : Nat} {a : Addr} {p : Option Addr} {K : TR → Prog} (ho : Own n 1 h ⟨some a, 1, 1⟩ [.pointer p]) (hk : wp P (K (p, ())) h Q) : wp P (.load (.agg [.ptr]) (some a) K) h Q :=
  ⟨a, rfl, (p, ()), ho.cells, hk⟩
theorem s_putP {n : Nat} {a : Addr} {q : Option Addr} (p : Option Addr) {K : Prog} (ho : Own n 1 h ⟨some a, 1, 1⟩ [.pointer q]) (hk : ∀ h', Own n 1 h' ⟨some a, 1, 1⟩ [.pointer p] → Upd ⟨some a, 1, 1⟩ h h' → wp P K h' Q) :
    wp P (.store (some a) [.pointer p] K) h Q := by
  have := s_putEnd (P := P) (Q := Q) (K := K) (pre := []) (old := [.pointer q]) [.pointer p] ho rfl rfl (by intro v hv; rw [List.mem_singleton.1 hv]; rfl) hk
  simpa [shiftTo, add_zero'] using this

theorem small_ne {n m c : Nat} {ws : List Value} {a b : Addr} {vs : List Value} (ho : Own n 1 h ⟨some b, m, c⟩ ws) (hc : Cells h a vs) (hl : c < vs.length) : b.block ≠ a.block := by
  intro e
  obtain ⟨_, _, _, o4⟩ := ho
  obtain ⟨e0, e1, e2, cs, elem, e3, e4, e5⟩ := o4
  have c0 := cells_iff.1 hc 0 _ (List.getElem?_eq_getElem (by omega))
  have c1 := cells_iff.1 hc c _ (List.getElem?_eq_getElem hl)
  rw [add_zero'] at c0
  obtain ⟨ab, ao, sp⟩ := a
  dsimp only at e
  cases sp with
  | some s => unfold cell at c0; dsimp only at c0; split at c0 <;> simp at c0
  | none =>
    rw [add_mk] at c1
    unfold cell at c1
    dsimp only at c1
    rw [← e, e3] at c1
    simp at c1
    have := (Array.getElem?_eq_some_iff.1 c1).1
    dsimp only at e4
    omega
theorem cells_upd {a b : Addr} {m c : Nat} {h h' : Heap} {vs : List Value} (u : Upd ⟨some b, m, c⟩ h h') (hc : Cells h a vs) (hne : b.block ≠ a.block) : Cells h' a vs :=
  cells_iff.2 fun j v hj => by
    have c := cells_iff.1 hc j v hj
    have hlt := cell_lt c
    unfold Sw.cell at c ⊢
    rw [u.2.1 (a.add j).block hlt (by intro x hx; cases hx; rw [add_block]; exact hne)]
    exact c
theorem Nd.upd {n m c : Nat} {ws : List Value} {b : Addr} {h h' : Heap} (u : Upd ⟨some b, m, c⟩ h h') (ho : Own n 1 h ⟨some b, m, c⟩ ws) (hc : c < 10) : ∀ {t : BT} {p : Option Addr}, Nd h p t → Nd h' p t
  | .nil, _, n => n
  | .node l x r, p, ⟨a, pl, pr, e1, hcc, n1, n2⟩ => ⟨a, pl, pr, e1, cells_upd u hcc (small_ne ho hcc hc), Nd.upd u ho hc n1, Nd.upd u ho hc n2⟩

theorem c_Of {items : Sl} {l : List (Int × Int)} (hr : Runs h items l) (hroom : l.length ≤ 4398046511104) : Gives P (F_tree_Of_Run S items) [.agg [.ptr]] h fun (y : TR × Unit) h' => ∃ t : BT, Nd h' y.1.1 t ∧ t.list = l ∧ t.Full := by
  unfold F_tree_Of_Run Gives
  refine s_newP none fun h1 e1 o1 => ?_
  refine wp_call (R := fun (y : Option Addr × Unit) h' => ∃ t : BT, Nd h' y.1 t ∧ t.list = l ∧ t.Full) ⟨l.length + 1, c_buildR S _ (Nat.lt_succ_self _) (hr.ext e1) hroom⟩ fun y h2 e2 hy => ?_
  obtain ⟨(p : Option Addr), u⟩ := y
  obtain ⟨t, n, hl, hfull⟩ := hy
  dsimp only at n ⊢
  refine s_putP p (o1.ext e2) fun h3 o3 u3 => s_getT o3 (s_ret ?_)
  have e := Upd.extN (e1.trans e2) u3 (by intro a ha; cases ha; exact Nat.le_refl _)
  exact ⟨rfl, e, ((p, ()), ()), rfl, t, n.upd u3 (o1.ext e2) (by decide), hl, hfull⟩

theorem c_Size {p : Option Addr} {t : BT} (ht : Nd h p t) : Gives P (F_Tree_Run_Size S (p, ())) [.one (.int .i64)] h fun (x : Int × Unit) _ => x.1 = t.list.length := by
  unfold F_Tree_Run_Size Gives
  refine s_newP p fun h1 e1 o1 => s_getP o1 (wp_call (c_count (ht.ext e1)) fun x h2 e2 hx => ?_)
  exact s_ret ⟨rfl, e1.trans e2, (x.1, ()), rfl, hx⟩

theorem c_Sum {p : Option Addr} {t : BT} (ht : Nd h p t) (hw : wfR t.list) (hroom : t.list.length ≤ 4398046511104) : Gives P (F_Tree_Run_Sum S (p, ())) [A4] h fun (x : R4 × Unit) _ => x.1 = sum t.list := by
  unfold F_Tree_Run_Sum Gives
  refine s_newP p fun h1 e1 o1 => s_zero4 fun h2 e2 o2 => s_getP (o1.ext e2) ?_
  cases t with
  | nil =>
    obtain rfl := ht
    exact s_ifT (s_zero4 fun h3 e3 o3 => s_get4 rfl o3 (s_tell4 zero4 (o2.ext e3) e1.size (V.fits (V.zero 0) (by decide)) ((e1.trans e2).trans e3) fun _ _ => rfl))
  | node l x r =>
    have hp : ∃ a, p = some a := by obtain ⟨a, _, _, h1, _⟩ := ht; exact ⟨a, h1⟩
    obtain ⟨a, rfl⟩ := hp
    exact s_ifF (s_getP (o1.ext e2) (s_sum (ht.ext (e1.trans e2)) (s_tell4 (sum (BT.node l x r).list) o2 e1.size ((V.sum hw).fits hroom) (e1.trans e2) fun _ _ => rfl)))

theorem Nd.root {p : Option Addr} {t : BT} (ht : Nd h p t) : noneB p = true ↔ t = .nil := by
  cases t with
  | nil => obtain rfl := ht; exact Iff.intro (fun _ => rfl) (fun _ => rfl)
  | node l x r => obtain ⟨a, _, _, rfl, _⟩ := ht; exact Iff.intro (fun h => by cases h) (fun h => by cases h)

/-- What Find tells. -/
def Found (l : List (Int × Int)) (k n i : Int) : Prop :=
  (i = 0 ∧ n ≤ 0) ∨ (1 ≤ i ∧ i ≤ l.length ∧ n ≤ key (sum (l.take i.toNat)) k ∧ key (sum (l.take (i.toNat - 1))) k < n) ∨ (i = l.length + 1 ∧ key (sum l) k < n)

theorem key_zero (k : Int) : key zero4 k = 0 := by unfold key zero4; split; rfl; split <;> rfl

theorem least {p : Nat → Prop} : ∀ n, p n → ∃ m, p m ∧ ∀ k, p k → m ≤ k := by
  intro n
  induction n using Nat.strongRecOn with
  | ind n ih =>
    intro hn
    by_cases hx : ∃ k, k < n ∧ p k
    · obtain ⟨k, hk, hp⟩ := hx; exact ih k hk hp
    · exact ⟨n, hn, fun k hk => Nat.le_of_not_lt fun hlt => hx ⟨k, hlt, hk⟩⟩
open Classical in
/-- A loop with a thing that is only thought of: its rank falls. -/
theorem wp_whileG {G : Type} {tys : List Ty} {s : Ts.den tys} {body : Ts.den tys → Prog} {K : Nat → List Value → Prog} (J : G → Ts.den tys → Heap → Prop) (ρ : G → Nat) (R : Nat → List Value → Heap → Prop) (g0 : G) (h0 : J g0 s h)
    (hs : ∀ g s h, J g s h → wp P (body s) h fun tag vs h' => (tag = 0 → ∃ g' s', vs = Ts.inj tys s' ∧ J g' s' h' ∧ ρ g' < ρ g) ∧ (tag ≠ 0 → R tag vs h'))
    (hk : ∀ t vs h', R t vs h' → wp P (K t vs) h' Q) : wp P (.bind (.loop tys s body) K) h Q := by
  have key : ∀ s h, (∃ g, J g s h) → ∃ m, (∃ g, J g s h ∧ ρ g = m) ∧ ∀ g, J g s h → m ≤ ρ g := by
    intro s h ⟨g, hg⟩
    obtain ⟨m, hm, hl⟩ := least (p := fun m => ∃ g, J g s h ∧ ρ g = m) (ρ g) ⟨g, hg, rfl⟩
    exact ⟨m, hm, fun g hg => hl _ ⟨g, hg, rfl⟩⟩
  refine wp_while (fun s h => ∃ g, J g s h) (fun s h => if hx : ∃ g, J g s h then Classical.choose (key s h hx) else 0) R ⟨g0, h0⟩ ?_ hk
  intro s h hx
  obtain ⟨⟨g, hg, hr⟩, _⟩ := Classical.choose_spec (key s h hx)
  refine wp_mono (body s) (fun t vs h' ⟨a, b⟩ => ⟨fun ht => ?_, b⟩) (hs g s h hg)
  obtain ⟨g', s', e, hj, hlt⟩ := a ht
  refine ⟨s', e, ⟨g', hj⟩, ?_⟩
  have hx' : ∃ g, J g s' h' := ⟨g', hj⟩
  have h1 := (Classical.choose_spec (key s' h' hx')).2 g' hj
  rw [dif_pos hx, dif_pos hx', ← hr]
  omega

theorem c_Find {p : Option Addr} {t : BT} {k n : Int} (ht : Nd h p t) (hw : wfR t.list) (hroom : t.list.length < 4398046511104) :
    Gives P (F_Tree_Run_Find S (p, ()) k n) [.one (.int .i64)] h fun (x : Int × Unit) _ => Found t.list k n x.1 := by
  unfold F_Tree_Run_Find Gives
  refine s_newP p fun h1 e1 o1 => wp_ifB (fun hc => ?_) fun hc => ?_
  · rw [leI_iff] at hc
    exact s_ret ⟨rfl, e1, (0, ()), rfl, .inl ⟨rfl, hc⟩⟩
  rw [leI_not] at hc
  refine s_zero4 fun h2 e2 o2 => s_getP (o1.ext e2) ?_
  refine wp_whileG (G := BT × List (Int × Int) × List (Int × Int)) (fun g (s : Int × Option Addr × Unit) h' => Ext h1 h' ∧ Nd h' s.2.1 g.1 ∧ t.list = g.2.1 ++ g.1.list ++ g.2.2 ∧ s.1 = g.2.1.length ∧ obj h1.size h' ⟨h1.size, 0, none⟩ (sum g.2.1) ∧ key (sum g.2.1) k < n ∧
      (g.2.2 = [] ∨ n ≤ key (sum (g.2.1 ++ g.1.list)) k)) (fun g => g.1.list.length)
    (fun t' vs h' => Ext h1 h' ∧ ((t' = 2 ∧ ∃ x : Int × Unit, vs = Ts.inj [.one (.int .i64)] x ∧ x.1 = t.list.length ∧ key (sum t.list) k < n) ∨ (t' = 1 ∧ ∃ x : Int × Unit, vs = Ts.inj [.one (.int .i64)] x ∧ Found t.list k n x.1)))
    (t, [], []) ⟨e2, ht.ext (e1.trans e2), by simp, rfl, o2, by rw [show sum [] = zero4 from rfl, key_zero]; exact hc, .inl rfl⟩ ?_ ?_
  · rintro ⟨t', pre, post⟩ ⟨(at_ : Int), (q : Option Addr), u⟩ h3 ⟨e3, nq, hL, hat, oa, hkey, hpost⟩
    dsimp only at nq hL hat oa hkey hpost ⊢
    have hw0 : wfR (pre ++ t'.list ++ post) := hL ▸ hw
    have hwp : wfR pre := fun y hy => hw0 y (by simp [hy])
    have hwt : wfR t'.list := fun y hy => hw0 y (by simp [hy])
    have hlenL : t.list.length = pre.length + t'.list.length + post.length := by rw [hL]; simp [Nat.add_assoc]
    cases t' with
    | nil =>
      obtain rfl := nq
      refine s_ifF (s_ret ⟨fun h => absurd h (by decide), fun _ => ⟨e3, .inl ⟨rfl, (at_, ()), rfl, ?_, ?_⟩⟩⟩)
      · rcases hpost with rfl | hpost
        · rw [hlenL, hat]; simp [BT.list]
        · simp only [BT.list, List.append_nil] at hpost; omega
      · rcases hpost with rfl | hpost
        · rw [hL]; simpa [BT.list] using hkey
        · simp only [BT.list, List.append_nil] at hpost; omega
    | node l x r =>
      have hq : ∃ a, q = some a := by obtain ⟨a, _, _, h1, _⟩ := nq; exact ⟨a, h1⟩
      obtain ⟨qa, rfl⟩ := hq
      have hnl := node_len l r x
      obtain ⟨f1, f2⟩ := wf_mid hwt
      have vp := V.sum hwp
      have vl := V.sum (wf_left hwt)
      have vm := V.measure (r := x) f1
      have hpl : sum (pre ++ l.list) = add (sum pre) (sum l.list) := sum_append hwp (wf_left hwt)
      have vpl := vp.add vl
      refine s_ifT (s_get4 rfl oa (s_put4 (sum pre) (vp.fits (by omega)) fun h4 e4 ob => ?_))
      have oa := oa.ext e4
      have nq := nq.ext e4
      have e34 := e3.trans e4
      have hb3 := (oa.own.lt rfl).2
      -- the sum ahead of the thing
      refine wp_bind (fun t vs h' => t = 0 ∧ vs = [] ∧ Ext h3 h' ∧ obj h3.size h' ⟨h3.size, 0, none⟩ (sum (pre ++ l.list))) ?_ ?_
      · refine s_left nq fun pl nl => ?_
        cases l with
        | nil =>
          obtain rfl := nl
          exact s_ifF (s_ret ⟨rfl, rfl, e4, by simpa [BT.list] using ob⟩)
        | node ll lx lr =>
          have hp : ∃ a, pl = some a := by obtain ⟨a, _, _, h1, _⟩ := nl; exact ⟨a, h1⟩
          obtain ⟨la, rfl⟩ := hp
          refine s_ifT (s_get4 rfl oa (s_left nq fun pl nl => s_sum nl (wp_call (c_Add vp vl (by omega)) fun m h5 e5 hm => ?_)))
          obtain ⟨m, w5⟩ := m
          dsimp only at hm
          rw [← hpl] at hm
          subst hm
          refine s_store4 (sum (pre ++ (BT.node ll lx lr).list)) (ob.ext e5) ((hpl ▸ vpl).fits (by omega)) fun h6 o6 u6 => s_ret ⟨rfl, rfl, Upd.extN (e4.trans e5) u6 (by intro a ha; cases ha; exact Nat.le_refl _), o6⟩
      · rintro tg vs h5 ⟨rfl, rfl, e5, ob⟩
        have oa := (‹obj h1.size h3 ⟨h1.size, 0, none⟩ (sum pre)›).ext e5
        have nq := (‹Nd h3 (some qa) (.node l x r)›).ext e5
        have e35 := e3.trans e5
        refine s_tag (s_cast0 (s_get4 rfl ob (wp_call (c_Key (hpl ▸ vpl) (by omega)) fun y h6 e6 hy => ?_)))
        obtain ⟨(y : Int), w6⟩ := y
        dsimp only at hy ⊢
        subst hy
        have nq6 := nq.ext e6
        refine wp_ifB (fun hg => ?_) fun hg => ?_
        · rw [geI_iff] at hg
          refine s_left nq6 fun pl nl => s_ret ⟨fun _ => ⟨(l, pre, x :: r.list ++ post), (at_, pl, ()), rfl, ⟨e35.trans e6, nl, by rw [hL]; simp [BT.list], hat, oa.ext e6, hkey, .inr hg⟩, by dsimp only; omega⟩, fun h => absurd rfl h⟩
        · rw [geI_not] at hg
          refine s_left nq6 fun pl nl => wp_call (c_count nl) fun c h7 e7 hc7 => ?_
          obtain ⟨(c : Int), w7⟩ := c
          dsimp only at hc7 ⊢
          subst hc7
          have nq7 := nq6.ext e7
          have ob7 := ob.ext (e6.trans e7)
          have oa7 := oa.ext (e6.trans e7)
          refine s_get4 rfl ob7 (s_item nq7 (wp_call (c_Measure f1 f2) fun m h8 e8 hm => ?_))
          obtain ⟨m, w8⟩ := m
          dsimp only at hm
          subst hm
          refine s_same4 (ob7.ext e8) (wp_call (c_Add (hpl ▸ vpl) vm (by omega)) fun m h9 e9 hm => ?_)
          obtain ⟨m, w9⟩ := m
          dsimp only at hm
          rw [← sum_snoc] at hm
          subst hm
          have vq : V (pre.length + l.list.length + 1) (sum (pre ++ l.list ++ [x])) := by rw [sum_snoc, hpl]; exact vpl.add vm
          refine s_store4 (sum (pre ++ l.list ++ [x])) ((oa7.ext e8).ext e9) (vq.fits (by omega)) fun h10 ob10 u10 => ?_
          have e10 : Ext h1 h10 := Upd.extN ((((e35.trans e6).trans e7).trans e8).trans e9) u10 (by intro a ha; cases ha; exact Nat.le_refl _)
          have nq10 : Nd h10 (some qa) (.node l x r) := ((nq7.ext e8).ext e9).upd u10 ((oa7.ext e8).ext e9).own (by decide)
          have oa := ob10
          refine s_get4 rfl oa (wp_call (c_Key vq (by omega)) fun y h11 e11 hy => ?_)
          obtain ⟨(y : Int), w11⟩ := y
          dsimp only at hy ⊢
          subst hy
          have hsum3 : addI .i64 at_ (addI .i64 ((l.list.length : Nat) : Int) 1) = ((pre.length + l.list.length + 1 : Nat) : Int) := by
            rw [add_ok (a := ((l.list.length : Nat) : Int)) (by omega) (by omega), add_ok (by omega) (by omega)]; omega
          rw [hsum3]
          have hpre : t.list.take (pre.length + l.list.length + 1) = pre ++ l.list ++ [x] := by
            rw [show t.list = (pre ++ l.list ++ [x]) ++ (r.list ++ post) by rw [hL]; simp [BT.list]]
            exact List.take_left' (by simp [Nat.add_assoc])
          have hpre' : t.list.take (pre.length + l.list.length) = pre ++ l.list := by
            rw [show t.list = (pre ++ l.list) ++ (x :: r.list ++ post) by rw [hL]; simp [BT.list]]
            exact List.take_left' (by simp)
          refine wp_ifB (fun hg2 => ?_) fun hg2 => ?_
          · rw [geI_iff] at hg2
            refine s_ret ⟨fun h => absurd h (by decide), fun _ => ⟨e10.trans e11, .inr ⟨rfl, (((pre.length + l.list.length + 1 : Nat) : Int), ()), rfl, .inr (.inl ⟨by dsimp only; omega, by dsimp only; omega, ?_, ?_⟩)⟩⟩⟩
            · dsimp only; rw [Int.toNat_natCast, hpre]; exact hg2
            · dsimp only; rw [Int.toNat_natCast, Nat.add_sub_cancel, hpre']; exact hg
          · rw [geI_not] at hg2
            refine s_right (nq10.ext e11) fun pr nr => s_ret ⟨fun _ => ⟨(r, pre ++ l.list ++ [x], post), (((pre.length + l.list.length + 1 : Nat) : Int), pr, ()), rfl, ⟨e10.trans e11, nr, by rw [hL]; simp [BT.list], by simp; omega, oa.ext e11, hg2, ?_⟩, by dsimp only; omega⟩, fun h => absurd rfl h⟩
            rcases hpost with hp | hp
            · exact .inl hp
            · refine .inr ?_
              dsimp only
              rw [show pre ++ l.list ++ [x] ++ r.list = pre ++ (BT.node l x r).list by simp [BT.list]]; exact hp
  · rintro tg vs h3 ⟨e3, ⟨rfl, x, rfl, hx, hk⟩ | ⟨rfl, x, rfl, hx⟩⟩
    · obtain ⟨(x : Int), w⟩ := x
      dsimp only at hx
      refine s_tag ⟨(x, ()), rfl, ?_⟩
      dsimp only
      subst hx
      rw [add_ok (by omega) (by omega)]
      exact s_ret ⟨rfl, e1.trans e3, (_, ()), rfl, .inr (.inr ⟨rfl, hk⟩)⟩
    · obtain ⟨(x : Int), w⟩ := x
      exact s_skip (by decide) (s_tag ⟨(x, ()), rfl, s_ret ⟨rfl, e1.trans e3, (x, ()), rfl, hx⟩⟩)

end Go.Sw.Tree
