/-
  The tree over any kind of things: laws of the kind, lists, nodes, of.
-/
import Derived.Test.YteoloieadjeneaaSwK1
import Derived.Test.YteoloieadjeneaaSwG3
set_option linter.unusedVariables false
set_option linter.unusedSimpArgs false
set_option maxRecDepth 100000
namespace Go.Sw.Any
open Go.Sw.Tree (iv s_putAll s_newP s_getP s_getT s_putP small_ne cells_upd wp_whileG least TR)
variable {P : Program} {I : Inst} {h : Heap} {Q : Nat → List Value → Heap → Prop}

/-- The laws of a kind of things. -/
structure Inst.Ok (P : Program) (I : Inst) : Prop where
  i1 : 1 ≤ I.ni ∧ I.ni ≤ 100
  s1 : 1 ≤ I.ns ∧ I.ns ≤ 100
  fi : ∀ (x : I.It) v, v ∈ Bs.inj I.iB x → flat v = true
  fs : ∀ (x : I.Su) v, v ∈ Bs.inj I.sB x → flat v = true
  w1 : ∀ x, 1 ≤ I.wt x
  v0 : I.V 0 I.zs
  vm : ∀ x, I.okI x → I.V (I.wt x) (I.meas x)
  va : ∀ n m s o, I.V n s → I.V m o → I.V (n + m) (I.add s o)
  mono : ∀ n m s, I.V n s → n ≤ m → I.V m s
  az : ∀ n s, I.V n s → I.add s I.zs = s
  za : ∀ n s, I.V n s → I.add I.zs s = s
  assoc : ∀ n m k x y z, I.V n x → I.V m y → I.V k z → I.add (I.add x y) z = I.add x (I.add y z)
  key0 : ∀ k, I.key I.zs k = 0
  kmono : ∀ n m s o k, I.V n s → I.V m o → I.key s k ≤ I.key (I.add s o) k
  cm : ∀ (h : Heap) x, I.okI x → Gives P (I.mF x) [.agg I.sB] h fun (y : I.Su × Unit) _ => y.1 = I.meas x
  ca : ∀ (h : Heap) n m s o, I.V n s → I.V m o → n + m ≤ 4398046511104 → Gives P (I.aF s o) [.agg I.sB] h fun (y : I.Su × Unit) _ => y.1 = I.add s o
  ck : ∀ (h : Heap) n s k, I.V n s → n ≤ 4398046511104 → Gives P (I.kF s k) [.one (.int .i64)] h fun (y : Int × Unit) _ => y.1 = I.key s k

def Inst.sum (I : Inst) (l : List I.It) : I.Su := l.foldl (fun s r => I.add s (I.meas r)) I.zs
def Inst.W (I : Inst) (l : List I.It) : Nat := (l.map I.wt).sum
def Inst.wf (I : Inst) (l : List I.It) : Prop := ∀ r, r ∈ l → I.okI r

theorem W_append (l m : List I.It) : I.W (l ++ m) = I.W l + I.W m := by simp [Inst.W]
theorem W_cons (x : I.It) (l : List I.It) : I.W (x :: l) = I.wt x + I.W l := by simp [Inst.W]
theorem W_nil : I.W [] = 0 := rfl
theorem W_len (O : I.Ok P) (l : List I.It) : l.length ≤ I.W l := by
  induction l with
  | nil => exact Nat.le_refl _
  | cons x l ih => rw [W_cons]; have := O.w1 x; simp only [List.length_cons]; omega
theorem W_take (l : List I.It) (n : Nat) : I.W (l.take n) ≤ I.W l := by
  have := W_append (l.take n) (l.drop n)
  rw [List.take_append_drop] at this; omega
theorem W_drop (l : List I.It) (n : Nat) : I.W (l.drop n) ≤ I.W l := by
  have := W_append (l.take n) (l.drop n)
  rw [List.take_append_drop] at this; omega

theorem V.fold (O : I.Ok P) {l : List I.It} (hl : I.wf l) : ∀ {n : Nat} {s : I.Su}, I.V n s → I.V (n + I.W l) (l.foldl (fun s r => I.add s (I.meas r)) s) := by
  induction l with
  | nil => intro n s v; exact v
  | cons r l ih =>
    intro n s v
    have := ih (fun x hx => hl x (List.mem_cons_of_mem _ hx)) (O.va _ _ _ _ v (O.vm r (hl r (List.mem_cons_self ..))))
    exact O.mono _ _ _ this (by rw [W_cons]; omega)
theorem V.sum (O : I.Ok P) {l : List I.It} (hl : I.wf l) : I.V (I.W l) (I.sum l) := O.mono _ _ _ (V.fold O hl O.v0) (by omega)
theorem fold_add (O : I.Ok P) {l : List I.It} (hl : I.wf l) : ∀ {n m : Nat} {s o : I.Su}, I.V n s → I.V m o →
    l.foldl (fun s r => I.add s (I.meas r)) (I.add s o) = I.add s (l.foldl (fun s r => I.add s (I.meas r)) o) := by
  induction l with
  | nil => intros; rfl
  | cons r l ih =>
    intro n m s o v w
    have hr := O.vm r (hl r (List.mem_cons_self ..))
    simp only [List.foldl_cons]
    rw [O.assoc _ _ _ _ _ _ v w hr]
    exact ih (fun x hx => hl x (List.mem_cons_of_mem _ hx)) v (O.va _ _ _ _ w hr)
theorem sum_append (O : I.Ok P) {l m : List I.It} (hl : I.wf l) (hm : I.wf m) : I.sum (l ++ m) = I.add (I.sum l) (I.sum m) := by
  unfold Inst.sum
  rw [List.foldl_append]
  have := fold_add O hm (V.sum O hl) O.v0
  rw [O.az _ _ (V.sum O hl)] at this
  exact this
theorem sum_snoc (l : List I.It) (r : I.It) : I.sum (l ++ [r]) = I.add (I.sum l) (I.meas r) := by unfold Inst.sum; rw [List.foldl_append]; rfl
theorem sum_nil : I.sum [] = I.zs := rfl

theorem inj_len : ∀ (bs : List B) (x : Bs.den bs), (Bs.inj bs x).length = bs.length := by
  intro bs
  induction bs with
  | nil => intro x; rfl
  | cons b bs ih => intro x; simp [Bs.inj, ih]

/-! ### Objects of some cells -/
theorem s_newO {bs : List B} (x : Bs.den bs) (hs : bs.length ≤ 100) {K : Addr → Prog} (hk : ∀ h', Ext h h' → Own h.size 1 h' ⟨some ⟨h.size, 0, none⟩, bs.length, bs.length⟩ (Bs.inj bs x) → wp P (K ⟨h.size, 0, none⟩) h' Q) : wp P (.alloc (Bs.inj bs x) K) h Q :=
  fun elem => hk _ (Ext.push ..) (own_alloc (by rw [inj_len]; omega) (by decide) (by omega))
theorem s_getO {bs : List B} {n c d : Nat} {a : Addr} {x : Bs.den bs} {K : Bs.den bs → Prog} (ho : Own n 1 h ⟨some a, c, d⟩ (Bs.inj bs x)) (hk : wp P (K x) h Q) : wp P (.load (.agg bs) (some a) K) h Q := ⟨a, rfl, x, ho.cells, hk⟩
theorem s_ckO {bs : List B} {n c d : Nat} {a : Addr} {x : Bs.den bs} {K : Prog} (ho : Own n 1 h ⟨some a, c, d⟩ (Bs.inj bs x)) (hk : wp P K h Q) : wp P (.check (some a) (Bs.inj bs x) K) h Q := s_check0 rfl ho.cells hk
theorem s_stoO {bs : List B} {n c d : Nat} {a : Addr} {x : Bs.den bs} (y : Bs.den bs) {K : Prog} (ho : Own n 1 h ⟨some a, c, d⟩ (Bs.inj bs x)) (hf : ∀ v, v ∈ Bs.inj bs y → flat v = true)
    (hk : ∀ h', Own n 1 h' ⟨some a, c, d⟩ (Bs.inj bs y) → Upd ⟨some a, c, d⟩ h h' → wp P K h' Q) : wp P (.store (some a) (Bs.inj bs y) K) h Q := s_putAll (Bs.inj bs y) ho (by rw [inj_len, inj_len]) hf hk
theorem s_putO {bs : List B} {z : Bs.den bs} (y : Bs.den bs) (hs : bs.length ≤ 100) (hf : ∀ v, v ∈ Bs.inj bs y → flat v = true) {K : Addr → Prog}
    (hk : ∀ h', Ext h h' → Own h.size 1 h' ⟨some ⟨h.size, 0, none⟩, bs.length, bs.length⟩ (Bs.inj bs y) → wp P (K ⟨h.size, 0, none⟩) h' Q) : wp P (.alloc (Bs.inj bs z) fun a => .store (some a) (Bs.inj bs y) (K a)) h Q :=
  s_newO z hs fun h1 e1 o1 => s_stoO y o1 hf fun h2 o2 u2 => hk h2 (Upd.extN e1 u2 (by intro a ha; cases ha; exact Nat.le_refl _)) o2
theorem s_tellO {bs : List B} {n c d : Nat} {a : Addr} {x : Bs.den bs} (y : Bs.den bs) {R : Nat → List Value → Heap → Prop} {h0 : Heap} (ho : Own n 1 h ⟨some a, c, d⟩ (Bs.inj bs x)) (hn : h0.size ≤ n) (e : Ext h0 h) (hf : ∀ v, v ∈ Bs.inj bs y → flat v = true)
    (hr : ∀ h', Ext h0 h' → R 0 [.agg (Bs.inj bs y).toArray] h') : wp P (.store (some a) (Bs.inj bs y) <| .load (.agg bs) (some a) fun r => .ret 0 [.agg (Bs.inj bs r).toArray]) h R :=
  s_stoO y ho hf fun h1 o1 u1 => s_getO o1 (s_ret (hr h1 (Upd.extN e u1 (by intro b hb; cases hb; have := (ho.lt rfl).1; exact Nat.le_trans hn this))))
theorem ob_upd {n c d c' d' : Nat} {h' : Heap} {a b : Addr} {vs : List Value} (o : Own n 1 h ⟨some a, c, d⟩ vs) (u : Upd ⟨some b, c', d'⟩ h h') (hne : b.block ≠ a.block) : Own n 1 h' ⟨some a, c, d⟩ vs :=
  o.keep fun x hx => u.2.1 _ (o.lt hx).2 fun y hy => by cases hx; cases hy; exact hne

/-! ### Lists of things -/
def cI (I : Inst) (l : List I.It) : List Value := l.flatMap fun r => Bs.inj I.iB r
theorem cI_len (l : List I.It) : (cI I l).length = l.length * I.ni := by
  unfold cI
  induction l with
  | nil => simp
  | cons r l ih => rw [List.flatMap_cons, List.length_append, ih, inj_len, List.length_cons, Nat.add_mul]; unfold Inst.ni; omega
theorem cI_append (l m : List I.It) : cI I (l ++ m) = cI I l ++ cI I m := by simp [cI]
theorem cI_cons (x : I.It) (l : List I.It) : cI I (x :: l) = Bs.inj I.iB x ++ cI I l := by simp [cI]
theorem cI_at (l : List I.It) : ∀ (j : Nat) (r : I.It), l[j]? = some r → ∀ (i : Nat) (v : Value), (Bs.inj I.iB r)[i]? = some v → (cI I l)[j * I.ni + i]? = some v := by
  induction l with
  | nil => intro j r h; simp at h
  | cons x l ih =>
    intro j r h i v hv
    have hx := inj_len I.iB x
    rw [cI_cons]
    cases j with
    | zero =>
      simp at h; subst h
      have := (List.getElem?_eq_some_iff.1 hv).1
      rw [List.getElem?_append_left (by omega)]
      simpa using hv
    | succ j =>
      have := ih j r (by simpa using h) i v hv
      have h2 : (j + 1) * I.ni = j * I.ni + I.ni := Nat.succ_mul ..
      have h3 : (Bs.inj I.iB x).length = I.ni := hx
      rw [List.getElem?_append_right (by omega), h3, show (j + 1) * I.ni + i - I.ni = j * I.ni + i by omega]; exact this
theorem cI_take (l : List I.It) (n : Nat) : (cI I l).take (n * I.ni) = cI I (l.take n) := by
  induction l generalizing n with
  | nil => simp [cI]
  | cons x l ih =>
    cases n with
    | zero => simp [cI]
    | succ n =>
      have hx : (Bs.inj I.iB x).length = I.ni := inj_len _ _
      have h2 : (n + 1) * I.ni = I.ni + n * I.ni := by rw [Nat.succ_mul]; omega
      rw [cI_cons, List.take_succ_cons, cI_cons, h2, List.take_append, List.take_of_length_le (by omega), hx, Nat.add_sub_cancel_left, ih]
theorem cI_drop (l : List I.It) (n : Nat) : (cI I l).drop (n * I.ni) = cI I (l.drop n) := by
  induction l generalizing n with
  | nil => simp [cI]
  | cons x l ih =>
    cases n with
    | zero => simp
    | succ n =>
      have hx : (Bs.inj I.iB x).length = I.ni := inj_len _ _
      have h2 : (n + 1) * I.ni = I.ni + n * I.ni := by rw [Nat.succ_mul]; omega
      rw [cI_cons, List.drop_succ_cons, h2, List.drop_append, List.drop_of_length_le (by omega), hx, Nat.add_sub_cancel_left, ih, List.nil_append]
theorem wf_append {l m : List I.It} (a : I.wf l) (b : I.wf m) : I.wf (l ++ m) := fun r hr => (List.mem_append.1 hr).elim (a r) (b r)
theorem wf_take {l : List I.It} (a : I.wf l) (n : Nat) : I.wf (l.take n) := fun r hr => a r (List.mem_of_mem_take hr)
theorem wf_drop {l : List I.It} (a : I.wf l) (n : Nat) : I.wf (l.drop n) := fun r hr => a r (List.mem_of_mem_drop hr)
theorem wf_get {l : List I.It} (a : I.wf l) {j : Nat} {r : I.It} (hj : l[j]? = some r) : I.okI r := a r (List.mem_of_getElem? hj)

structure Its (I : Inst) (h : Heap) (s : Sl) (l : List I.It) : Prop where
  rd : Rd I.ni h s (cI I l)
  cap : s.len ≤ s.cap
  max : s.cap < 2 ^ 63
  wf : I.wf l
theorem Its.len (O : I.Ok P) {s : Sl} {l : List I.It} (r : Its I h s l) : s.len = l.length := by
  have := r.rd.1
  rw [cI_len] at this
  exact Nat.eq_of_mul_eq_mul_right O.i1.1 this
theorem Its.ext {h' : Heap} {s : Sl} {l : List I.It} (r : Its I h s l) (e : Ext h h') : Its I h' s l := ⟨e.rd r.rd, r.cap, r.max, r.wf⟩
theorem Its.take (O : I.Ok P) {s : Sl} {l : List I.It} (hr : Its I h s l) {n m : Nat} (hn : n ≤ l.length) (hm : n ≤ m) (hm' : m < 2 ^ 63) : Its I h ⟨s.base, n, m⟩ (l.take n) :=
  ⟨by have := Rd.take hr.rd (n := n) (by rw [hr.len O]; exact hn) m; rw [cI_take] at this; exact this, hm, hm', wf_take hr.wf n⟩
theorem Its.drop (O : I.Ok P) {s : Sl} {l : List I.It} (hr : Its I h s l) {i m : Nat} (hi : i ≤ l.length) (hm : s.len - i ≤ m) (hm' : m < 2 ^ 63) : Its I h ⟨cutBase s.base s.cap i I.ni, s.len - i, m⟩ (l.drop i) :=
  ⟨by have := Rd.drop hr.rd (i := i) (by rw [hr.len O]; exact hi) hr.cap m; rw [cI_drop] at this; exact this, hm, hm', wf_drop hr.wf i⟩

theorem its_cells {s : Sl} {l : List I.It} {j : Nat} {r : I.It} (hr : Its I h s l) (h1 : 1 ≤ I.ni) (hj : l[j]? = some r) : ∃ a, s.base = some a ∧ Cells h (a.add (j * I.ni)) (Bs.inj I.iB r) := by
  have hl : (Bs.inj I.iB r).length = I.ni := inj_len _ _
  obtain ⟨a, e, c⟩ := hr.rd.2 _ _ (cI_at l j r hj 0 _ (List.getElem?_eq_getElem (by omega)))
  refine ⟨a, e, cells_iff.2 fun i v hi => ?_⟩
  obtain ⟨a', e', c'⟩ := hr.rd.2 _ _ (cI_at l j r hj i v hi)
  rw [e] at e'; cases e'
  rw [add_add]; exact c'
/-- l[j]. -/
theorem s_atI (O : I.Ok P) {s : Sl} {l : List I.It} {K : I.It → Prog} {j : Int} (hr : Its I h s l) (h0 : 0 ≤ j) (h1 : j < l.length)
    (hk : ∀ r, l[j.toNat]? = some r → wp P (K r) h Q) : wp P (grd (andB (someB s.base) (inB j s.len)) (.load (.agg I.iB) (shiftTo s.base (mulN (toN j) I.ni)) K)) h Q := by
  have hj : l[j.toNat]? = some l[j.toNat] := List.getElem?_eq_getElem (by omega)
  obtain ⟨a, e, c⟩ := its_cells hr O.i1.1 hj
  have := hr.len O
  exact wp_grd (andB_iff.2 ⟨by simp [someB, e], inB_is.2 ⟨h0, by omega⟩⟩) ⟨a.add (j.toNat * I.ni), by simp [shiftTo, e, mulN, toN], l[j.toNat], c, hk _ hj⟩
theorem s_sameI (O : I.Ok P) {s : Sl} {l : List I.It} {K : Prog} {j : Nat} {r : I.It} (hr : Its I h s l) (hj : l[j]? = some r) (hk : wp P K h Q) : wp P (.check (shiftTo s.base (mulN j I.ni)) (Bs.inj I.iB r) K) h Q := by
  obtain ⟨a, e, c⟩ := its_cells hr O.i1.1 hj
  exact ⟨⟨a.add (j * I.ni), by simp [shiftTo, e, mulN], c⟩, hk⟩

/-! ### Nodes -/
inductive Bt (α : Type) where
  | nil
  | node (l : Bt α) (x : α) (r : Bt α)
def Bt.list {α : Type} : Bt α → List α
  | .nil => []
  | .node l x r => l.list ++ x :: r.list
def Bt.ht {α : Type} : Bt α → Nat
  | .nil => 0
  | .node l _ r => max l.ht r.ht + 1
theorem Bt.ht_le {α : Type} : ∀ t : Bt α, t.ht ≤ t.list.length
  | .nil => Nat.le_refl _
  | .node l x r => by have := l.ht_le; have := r.ht_le; simp only [Bt.ht, Bt.list, List.length_append, List.length_cons]; omega
theorem node_len {α : Type} (l r : Bt α) (x : α) : (Bt.node l x r).list.length = l.list.length + 1 + r.list.length := by simp [Bt.list]; omega

def headV (I : Inst) (pl pr : Option Addr) (t : Bt I.It) (x : I.It) : List Value := [.pointer pl, .pointer pr] ++ (Bs.inj I.iB x ++ [iv t.list.length, iv t.ht])
theorem headV_len (pl pr : Option Addr) (t : Bt I.It) (x : I.It) : (headV I pl pr t x).length = I.ni + 4 := by
  simp only [headV, List.length_append, List.length_cons, List.length_nil, inj_len]; unfold Inst.ni; omega
def NdC (I : Inst) (h : Heap) (a : Addr) (pl pr : Option Addr) (l : Bt I.It) (x : I.It) (r : Bt I.It) : Prop := Cells h a (headV I pl pr (.node l x r) x ++ Bs.inj I.sB (I.sum (Bt.node l x r).list))
def Nd (I : Inst) (h : Heap) : Option Addr → Bt I.It → Prop
  | p, .nil => p = none
  | p, .node l x r => ∃ a pl pr, p = some a ∧ NdC I h a pl pr l x r ∧ Nd I h pl l ∧ Nd I h pr r
theorem NdC.ext {h' : Heap} {a : Addr} {pl pr : Option Addr} {l r : Bt I.It} {x : I.It} (c : NdC I h a pl pr l x r) (e : Ext h h') : NdC I h' a pl pr l x r := e.cells c
theorem Nd.ext {h' : Heap} (e : Ext h h') : ∀ {t : Bt I.It} {p : Option Addr}, Nd I h p t → Nd I h' p t
  | .nil, _, n => n
  | .node l x r, p, ⟨a, pl, pr, e1, c, n1, n2⟩ => ⟨a, pl, pr, e1, c.ext e, Nd.ext e n1, Nd.ext e n2⟩
theorem wf_left {l r : Bt I.It} {x : I.It} (w : I.wf (Bt.node l x r).list) : I.wf l.list := fun y hy => w y (by simp [Bt.list, hy])
theorem wf_right {l r : Bt I.It} {x : I.It} (w : I.wf (Bt.node l x r).list) : I.wf r.list := fun y hy => w y (by simp [Bt.list, hy])
theorem wf_mid {l r : Bt I.It} {x : I.It} (w : I.wf (Bt.node l x r).list) : I.okI x := w x (by simp [Bt.list])
theorem wf_node {l r : Bt I.It} {x : I.It} (a : I.wf l.list) (b : I.okI x) (c : I.wf r.list) : I.wf (Bt.node l x r).list := by
  intro y hy
  simp only [Bt.list, List.mem_append, List.mem_cons] at hy
  rcases hy with hy | rfl | hy
  · exact a y hy
  · exact b
  · exact c y hy
theorem node_W (l r : Bt I.It) (x : I.It) : I.W (Bt.node l x r).list = I.W l.list + I.wt x + I.W r.list := by simp only [Bt.list]; rw [W_append, W_cons]; omega
theorem sum_node (O : I.Ok P) {l r : Bt I.It} {x : I.It} (w : I.wf (Bt.node l x r).list) : I.sum (Bt.node l x r).list = I.add (I.add (I.sum l.list) (I.meas x)) (I.sum r.list) := by
  have h1 : I.wf [x] := fun y hy => by rw [List.mem_singleton.1 hy]; exact wf_mid w
  rw [show (Bt.node l x r).list = (l.list ++ [x]) ++ r.list by simp [Bt.list], sum_append O (wf_append (wf_left w) h1) (wf_right w), sum_snoc]

/-- Some cells in the middle. -/
theorem cells_mid {a : Addr} {pre mid post : List Value} {j : Nat} (c : Cells h a (pre ++ (mid ++ post))) (hj : j = pre.length) : Cells h (a.add j) mid :=
  cells_iff.2 fun i v hi => by
    rw [add_add]
    refine cells_iff.1 c (j + i) v ?_
    rw [List.getElem?_append_right (by omega), show j + i - pre.length = i by omega, List.getElem?_append_left (List.getElem?_eq_some_iff.1 hi).1]; exact hi
theorem NdC.item {a : Addr} {pl pr : Option Addr} {l r : Bt I.It} {x : I.It} (c : NdC I h a pl pr l x r) : Cells h (a.add 2) (Bs.inj I.iB x) := by
  unfold NdC headV at c
  rw [List.append_assoc, List.append_assoc] at c
  exact cells_mid c rfl
theorem NdC.sum {a : Addr} {pl pr : Option Addr} {l r : Bt I.It} {x : I.It} (c : NdC I h a pl pr l x r) : Cells h (a.add (I.ni + 4)) (Bs.inj I.sB (I.sum (Bt.node l x r).list)) :=
  cells_mid (post := []) (by rw [List.append_nil]; exact c) (headV_len ..).symm
theorem NdC.nums {a : Addr} {pl pr : Option Addr} {l r : Bt I.It} {x : I.It} (c : NdC I h a pl pr l x r) : Sw.cell h (a.add (I.ni + 2)) = some (iv (Bt.node l x r).list.length) ∧ Sw.cell h (a.add (I.ni + 3)) = some (iv (Bt.node l x r).ht) := by
  unfold NdC headV at c
  rw [← List.append_assoc [Value.pointer pl, Value.pointer pr] (Bs.inj I.iB x), List.append_assoc] at c
  have := cells_mid (j := I.ni + 2) c (by simp only [List.length_append, List.length_cons, List.length_nil, inj_len]; unfold Inst.ni; omega)
  have h0 := cells_iff.1 this 0 _ rfl
  have h1 := cells_iff.1 this 1 _ rfl
  rw [add_zero'] at h0
  rw [add_add] at h1
  exact ⟨h0, h1⟩
theorem NdC.left {a : Addr} {pl pr : Option Addr} {l r : Bt I.It} {x : I.It} (c : NdC I h a pl pr l x r) : Sw.cell h (a.add 0) = some (.pointer pl) := cells_iff.1 c 0 _ rfl
theorem NdC.right {a : Addr} {pl pr : Option Addr} {l r : Bt I.It} {x : I.It} (c : NdC I h a pl pr l x r) : Sw.cell h (a.add 1) = some (.pointer pr) := cells_iff.1 c 1 _ rfl

theorem q_left {a : Addr} {pl pr : Option Addr} {l r : Bt I.It} {x : I.It} {K : Option Addr → Prog} (c : NdC I h a pl pr l x r) (hk : wp P (K pl) h Q) : wp P (grd (someB (some a)) <| grd (someB (some a)) <| .load (.one .ptr) (shiftTo (some a) 0) K) h Q :=
  wp_grd rfl (wp_grd rfl (wp_load1 (b := .ptr) (a.add 0) pl rfl c.left hk))
theorem q_right {a : Addr} {pl pr : Option Addr} {l r : Bt I.It} {x : I.It} {K : Option Addr → Prog} (c : NdC I h a pl pr l x r) (hk : wp P (K pr) h Q) : wp P (grd (someB (some a)) <| grd (someB (some a)) <| .load (.one .ptr) (shiftTo (some a) 1) K) h Q :=
  wp_grd rfl (wp_grd rfl (wp_load1 (b := .ptr) (a.add 1) pr rfl c.right hk))
theorem q_item {a : Addr} {pl pr : Option Addr} {l r : Bt I.It} {x : I.It} {K : I.It → Prog} (c : NdC I h a pl pr l x r) (hk : wp P (K x) h Q) : wp P (grd (someB (some a)) <| grd (someB (some a)) <| .load (.agg I.iB) (shiftTo (some a) 2) K) h Q :=
  wp_grd rfl (wp_grd rfl ⟨a.add 2, rfl, x, c.item, hk⟩)
theorem q_sum {a : Addr} {pl pr : Option Addr} {l r : Bt I.It} {x : I.It} {K : I.Su → Prog} (c : NdC I h a pl pr l x r) (hk : wp P (K (I.sum (Bt.node l x r).list)) h Q) : wp P (grd (someB (some a)) <| grd (someB (some a)) <| .load (.agg I.sB) (shiftTo (some a) (I.ni + 4)) K) h Q :=
  wp_grd rfl (wp_grd rfl ⟨a.add (I.ni + 4), rfl, _, c.sum, hk⟩)
theorem q_ckL {a : Addr} {pl pr : Option Addr} {l r : Bt I.It} {x : I.It} {K : Prog} (c : NdC I h a pl pr l x r) (hk : wp P K h Q) : wp P (.check (shiftTo (some a) 0) [.pointer pl] K) h Q :=
  s_check0 rfl (cells_iff.2 fun i v hi => by match i, hi with | 0, hi => simp at hi; subst hi; rw [add_zero']; exact c.left | i + 1, hi => simp at hi) hk
theorem q_ckR {a : Addr} {pl pr : Option Addr} {l r : Bt I.It} {x : I.It} {K : Prog} (c : NdC I h a pl pr l x r) (hk : wp P K h Q) : wp P (.check (shiftTo (some a) 1) [.pointer pr] K) h Q :=
  s_check0 rfl (cells_iff.2 fun i v hi => by match i, hi with | 0, hi => simp at hi; subst hi; rw [add_zero']; exact c.right | i + 1, hi => simp at hi) hk
theorem q_ckI {a : Addr} {pl pr : Option Addr} {l r : Bt I.It} {x : I.It} {K : Prog} (c : NdC I h a pl pr l x r) (hk : wp P K h Q) : wp P (.check (shiftTo (some a) 2) (Bs.inj I.iB x) K) h Q :=
  s_check0 rfl c.item hk

theorem c_count {p : Option Addr} {t : Bt I.It} (ht : Nd I h p t) : Gives P (G_count I p) [.one (.int .i64)] h fun (x : Int × Unit) _ => x.1 = t.list.length := by
  unfold G_count Gives
  cases t with
  | nil => obtain rfl := ht; exact s_ifT (s_ret ⟨rfl, Ext.refl _, (0, ()), rfl, rfl⟩)
  | node l x r =>
    obtain ⟨a, pl, pr, rfl, c, _, _⟩ := ht
    exact s_ifF (wp_grd rfl (wp_grd rfl (wp_load1 (b := .int .i64) (a.add (I.ni + 2)) _ rfl c.nums.1 (s_ret ⟨rfl, Ext.refl _, (((Bt.node l x r).list.length : Nat), ()), rfl, rfl⟩))))
theorem c_tall {p : Option Addr} {t : Bt I.It} (ht : Nd I h p t) : Gives P (G_tall I p) [.one (.int .i64)] h fun (x : Int × Unit) _ => x.1 = t.ht := by
  unfold G_tall Gives
  cases t with
  | nil => obtain rfl := ht; exact s_ifT (s_ret ⟨rfl, Ext.refl _, (0, ()), rfl, rfl⟩)
  | node l x r =>
    obtain ⟨a, pl, pr, rfl, c, _, _⟩ := ht
    exact s_ifF (wp_grd rfl (wp_grd rfl (wp_load1 (b := .int .i64) (a.add (I.ni + 3)) _ rfl c.nums.2 (s_ret ⟨rfl, Ext.refl _, (((Bt.node l x r).ht : Nat), ()), rfl, rfl⟩))))

/-- The part of an object at its end, read and written. -/
theorem s_getEnd {bs : List B} {n m c j : Nat} {a : Addr} {pre : List Value} {x : Bs.den bs} {K : Bs.den bs → Prog} (ho : Own n 1 h ⟨some a, m, c⟩ (pre ++ Bs.inj bs x)) (hj : j = pre.length) (hk : wp P (K x) h Q) : wp P (.load (.agg bs) (shiftTo (some a) j) K) h Q :=
  ⟨a.add j, rfl, x, cells_mid (post := []) (by rw [List.append_nil]; exact ho.cells) hj, hk⟩

theorem c_of (O : I.Ok P) {pl pr : Option Addr} {l r : Bt I.It} {x : I.It} (nl : Nd I h pl l) (nr : Nd I h pr r) (hw : I.wf (Bt.node l x r).list) (hroom : I.W (Bt.node l x r).list ≤ 4398046511104) :
    Gives P (G_of I pl x pr) [.one .ptr] h fun (y : Option Addr × Unit) h' => Nd I h' y.1 (.node l x r) := by
  have hx := wf_mid hw
  have hl := node_len l r x
  have hlw := W_len O (Bt.node l x r).list
  have hnw := node_W l r x
  have hsum := sum_node O hw
  have vl := V.sum O (wf_left hw)
  have vr := V.sum O (wf_right hw)
  have vm := O.vm x hx
  have g1 := l.ht_le; have g2 := r.ht_le
  unfold G_of Gives
  refine s_newO x O.i1.2 fun h1 e1 o1 => s_getO o1 ?_
  have ck : ∀ {h'} {K : Prog} {Q : Nat → List Value → Heap → Prop}, Ext h1 h' → wp P K h' Q → wp P (.check (some ⟨h.size, 0, none⟩) (Bs.inj I.iB x) K) h' Q := fun e hk => s_ckO (o1.ext e) hk
  refine wp_call (c_count (nl.ext e1)) fun y h2 e2 hy => ck e2 (wp_call (c_count (nr.ext (e1.trans e2))) fun z h3 e3 hz => ck (e2.trans e3) (wp_call (c_tall (nl.ext ((e1.trans e2).trans e3))) fun y' h4 e4 hy' =>
    ck ((e2.trans e3).trans e4) (wp_call (c_tall (nr.ext (((e1.trans e2).trans e3).trans e4))) fun z' h5 e5 hz' => ck (((e2.trans e3).trans e4).trans e5) ?_)))
  obtain ⟨(y : Int), w1⟩ := y
  obtain ⟨(z : Int), w2⟩ := z
  obtain ⟨(y' : Int), w3⟩ := y'
  obtain ⟨(z' : Int), w4⟩ := z'
  dsimp only at hy hz hy' hz' ⊢
  have e15 := ((e2.trans e3).trans e4).trans e5
  have hcnt : addI .i64 (addI .i64 y 1) z = (((Bt.node l x r).list.length : Nat) : Int) := by
    rw [add_ok (a := y) (by omega) (by omega), add_ok (by omega) (by omega)]; omega
  have htl : addI .i64 (maxI y' z') 1 = (((Bt.node l x r).ht : Nat) : Int) := by
    have : maxI y' z' = max y' z' := by unfold maxI; split <;> omega
    rw [this, add_ok (by omega) (by omega)]; simp only [Bt.ht]; omega
  have hlist : ([Value.pointer pl, Value.pointer pr] ++ (Bs.inj I.iB x ++ ([iv ((Bt.node l x r).list.length : Nat), iv ((Bt.node l x r).ht : Nat)] ++ Bs.inj I.sB I.zs))) = headV I pl pr (.node l x r) x ++ Bs.inj I.sB I.zs := by
    simp only [headV, List.append_assoc]
  rw [hcnt, htl, hlist]
  intro elem
  have hhl := headV_len pl pr (Bt.node l x r) x
  have i1 := O.i1
  have s1 := O.s1
  have nsl : (Bs.inj I.sB I.zs).length = I.ns := inj_len _ _
  have o6 : Own h5.size 1 (h5.push (.cells (headV I pl pr (.node l x r) x ++ Bs.inj I.sB I.zs).toArray elem)) ⟨some ⟨h5.size, 0, none⟩, I.ni + 4 + I.ns, I.ni + 4 + I.ns⟩ (headV I pl pr (.node l x r) x ++ Bs.inj I.sB I.zs) :=
    own_alloc (by rw [List.length_append]; omega) (by decide) (by omega)
  have e6 : Ext h5 (h5.push (.cells (headV I pl pr (.node l x r) x ++ Bs.inj I.sB I.zs).toArray elem)) := Ext.push ..
  generalize (h5.push (.cells (headV I pl pr (.node l x r) x ++ Bs.inj I.sB I.zs).toArray elem)) = h6 at o6 e6 ⊢
  have e05 : Ext h h5 := e1.trans e15
  refine s_getO (o1.ext (e15.trans e6)) (wp_call (O.cm _ x hx) fun m h7 e7 hm => ?_)
  obtain ⟨m, w5⟩ := m
  dsimp only at hm
  subst hm
  refine s_putEnd (Bs.inj I.sB (I.meas x)) (o6.ext e7) hhl.symm (by rw [inj_len, inj_len]) (O.fs _) fun h8 o8 u8 => ?_
  have e58 : Ext h5 h8 := Upd.extN (e6.trans e7) u8 (by intro a ha; cases ha; exact Nat.le_refl _)
  have nl8 := nl.ext (e05.trans e58)
  have nr8 := nr.ext (e05.trans e58)
  refine wp_bind (fun t vs h' => t = 0 ∧ vs = [] ∧ Ext h5 h' ∧ Own h5.size 1 h' ⟨some ⟨h5.size, 0, none⟩, I.ni + 4 + I.ns, I.ni + 4 + I.ns⟩ (headV I pl pr (.node l x r) x ++ Bs.inj I.sB (I.add (I.sum l.list) (I.meas x)))) ?_ ?_
  · cases l with
    | nil =>
      obtain rfl := nl8
      refine s_ifF (s_ret ⟨rfl, rfl, e58, ?_⟩)
      rw [show I.sum (Bt.nil : Bt I.It).list = I.zs from rfl, O.za _ _ vm]; exact o8
    | node ll lx lr =>
      obtain ⟨a, ql, qr, rfl, c, _, _⟩ := nl8
      refine s_ifT (q_sum c (s_getEnd o8 hhl.symm (wp_call (O.ca _ _ _ _ _ vl vm (by omega)) fun m h9 e9 hm => ?_)))
      obtain ⟨m, w6⟩ := m
      dsimp only at hm
      subst hm
      refine s_putEnd (Bs.inj I.sB (I.add (I.sum (Bt.node ll lx lr).list) (I.meas x))) (o8.ext e9) hhl.symm (by rw [inj_len, inj_len]) (O.fs _) fun h10 o10 u10 => s_ret ⟨rfl, rfl, Upd.extN (e58.trans e9) u10 (by intro a ha; cases ha; exact Nat.le_refl _), o10⟩
  · rintro t vs h9 ⟨rfl, rfl, e59, o9⟩
    have nr9 := nr.ext (e05.trans e59)
    refine s_tag (s_cast0 ?_)
    refine wp_bind (fun t vs h' => t = 0 ∧ vs = [] ∧ Ext h5 h' ∧ Own h5.size 1 h' ⟨some ⟨h5.size, 0, none⟩, I.ni + 4 + I.ns, I.ni + 4 + I.ns⟩ (headV I pl pr (.node l x r) x ++ Bs.inj I.sB (I.sum (Bt.node l x r).list))) ?_ ?_
    · cases r with
      | nil =>
        obtain rfl := nr9
        refine s_ifF (s_ret ⟨rfl, rfl, e59, ?_⟩)
        rw [hsum, show I.sum (Bt.nil : Bt I.It).list = I.zs from rfl, O.az _ _ (O.va _ _ _ _ vl vm)]; exact o9
      | node ll lx lr =>
        obtain ⟨a, ql, qr, rfl, c, _, _⟩ := nr9
        refine s_ifT (s_getEnd o9 hhl.symm (q_sum c (wp_call (O.ca _ _ _ _ _ (O.va _ _ _ _ vl vm) vr (by omega)) fun m h10 e10 hm => ?_)))
        obtain ⟨m, w6⟩ := m
        dsimp only at hm
        rw [← hsum] at hm
        subst hm
        refine s_putEnd (Bs.inj I.sB (I.sum (Bt.node l x (.node ll lx lr)).list)) (o9.ext e10) hhl.symm (by rw [inj_len, inj_len]) (O.fs _) fun h11 o11 u11 => s_ret ⟨rfl, rfl, Upd.extN (e59.trans e10) u11 (by intro a ha; cases ha; exact Nat.le_refl _), o11⟩
    · rintro t vs h10 ⟨rfl, rfl, e60, o10⟩
      exact s_tag (s_cast0 (s_ret ⟨rfl, e05.trans e60, (some ⟨h5.size, 0, none⟩, ()), rfl, ⟨h5.size, 0, none⟩, pl, pr, rfl, o10.cells, nl.ext (e05.trans e60), nr.ext (e05.trans e60)⟩))

theorem Nd.upd {n m c : Nat} {ws : List Value} {b : Addr} {h h' : Heap} (u : Upd ⟨some b, m, c⟩ h h') (ho : Own n 1 h ⟨some b, m, c⟩ ws) (hc : c < I.ni + 4 + I.ns) : ∀ {t : Bt I.It} {p : Option Addr}, Nd I h p t → Nd I h' p t
  | .nil, _, n => n
  | .node l x r, p, ⟨a, pl, pr, e1, hcc, n1, n2⟩ => ⟨a, pl, pr, e1, cells_upd u hcc (small_ne ho hcc (by rw [List.length_append, headV_len, inj_len]; exact hc)), Nd.upd u ho hc n1, Nd.upd u ho hc n2⟩

end Go.Sw.Any
