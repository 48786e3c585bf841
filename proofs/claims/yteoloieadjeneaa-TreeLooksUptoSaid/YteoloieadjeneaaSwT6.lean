/-
  Tree: nodes in memory; count, tall, of, build, Of, Size, Sum.
-/
import Derived.Test.YteoloieadjeneaaSwT3
set_option linter.unusedVariables false
set_option linter.unusedSimpArgs false
set_option maxRecDepth 100000
namespace Go.Sw
variable {P : Program} {h : Heap} {Q : Nat → List Value → Heap → Prop}

theorem Own.cells {n m c : Nat} {h : Heap} {a : Addr} {vs : List Value} (ho : Own n 1 h ⟨some a, m, c⟩ vs) : Cells h a vs :=
  cells_iff.2 fun j v hj => by obtain ⟨a', e, x⟩ := ho.rd.2 j v hj; cases e; exact x

/-- The last cells of an object, written over. -/
theorem s_putEnd {n m c j : Nat} {a : Addr} {pre old : List Value} (new : List Value) {K : Prog} (ho : Own n 1 h ⟨some a, m, c⟩ (pre ++ old)) (hj : j = pre.length) (hl : new.length = old.length) (hf : ∀ v ∈ new, flat v = true)
    (hk : ∀ h', Own n 1 h' ⟨some a, m, c⟩ (pre ++ new) → Upd ⟨some a, m, c⟩ h h' → wp P K h' Q) : wp P (.store (shiftTo (some a) j) new K) h Q := by
  subst hj
  obtain ⟨o1, o2, o3, o4⟩ := ho
  obtain ⟨b, off, spot⟩ := a
  obtain ⟨e0, e1, e2, cs, elem, e3, e4, e5⟩ := o4
  dsimp only at e0 e1 e2 e3 o1 o2 o3 e4
  subst e0; subst e1
  have hadd : ((Addr.mk b 0 none).add pre.length) = ⟨b, pre.length, none⟩ := by simp [add_mk]
  rw [List.length_append] at o1
  obtain ⟨w, cs', c1, c2, c3, c4, c5, c6⟩ := puts_block (vs := new) (i := 0) (off := pre.length) e3 hf (by omega)
  refine ⟨⟨b, pre.length, none⟩, by rw [shiftTo_some, hadd], w, hk _ ⟨by rw [List.length_append]; dsimp only; omega, by dsimp only; omega, o3, rfl, rfl, e2, cs', elem, c1, by rw [c2, e4], fun i v hi => ?_⟩
    ⟨by unfold puts; omega, fun j hj hne => c6 j fun e => (hne _ rfl) e.symm, fun a e => by unfold puts; rw [thaw_putFrom]; exact e⟩⟩
  by_cases hi' : i < pre.length
  · rw [List.getElem?_append_left hi'] at hi
    rw [c4 i (by omega)]
    exact e5 i v (by rw [List.getElem?_append_left hi']; exact hi)
  · rw [List.getElem?_append_right (by omega)] at hi
    have := c3 (i - pre.length) v hi
    rw [show pre.length + 0 + (i - pre.length) = i by omega] at this
    exact this

theorem s_cell {b : B} {p : Option Addr} {a : Addr} {vs : List Value} {j : Nat} (x : b.den) {K : b.den → Prog} (hp : p = some a) (hc : Cells h a vs) (hj : vs[j]? = some (b.inj x)) (hk : wp P (K x) h Q) :
    wp P (.load (.one b) (shiftTo p j) K) h Q := by
  subst hp
  exact wp_load1 (a.add j) x rfl (cells_iff.1 hc j _ hj) hk
theorem s_cells4 {k : IntKind} {p : Option Addr} {a : Addr} {vs : List Value} {j : Nat} {x y z w : Int} {K : (Int × Int × Int × Int × Unit) → Prog} (hp : p = some a) (hc : Cells h a vs)
    (h0 : vs[j]? = some (.int k x)) (h1 : vs[j + 1]? = some (.int k y)) (h2 : vs[j + 2]? = some (.int k z)) (h3 : vs[j + 3]? = some (.int k w)) (hk : wp P (K (x, y, z, w, ())) h Q) :
    wp P (.load (.agg [.int k, .int k, .int k, .int k]) (shiftTo p j) K) h Q := by
  subst hp
  refine ⟨a.add j, rfl, (x, y, z, w, ()), cells_iff.2 fun i v hi => ?_, hk⟩
  rw [add_add]
  match i, hi with
  | 0, hi => simp [Ty.cells, Bs.inj] at hi; subst hi; exact cells_iff.1 hc _ _ h0
  | 1, hi => simp [Ty.cells, Bs.inj] at hi; subst hi; exact cells_iff.1 hc _ _ h1
  | 2, hi => simp [Ty.cells, Bs.inj] at hi; subst hi; exact cells_iff.1 hc _ _ h2
  | 3, hi => simp [Ty.cells, Bs.inj] at hi; subst hi; exact cells_iff.1 hc _ _ h3
  | i + 4, hi => simp [Ty.cells, Bs.inj] at hi
theorem s_cells2 {k : IntKind} {p : Option Addr} {a : Addr} {vs : List Value} {j : Nat} {x y : Int} {K : (Int × Int × Unit) → Prog} (hp : p = some a) (hc : Cells h a vs)
    (h0 : vs[j]? = some (.int k x)) (h1 : vs[j + 1]? = some (.int k y)) (hk : wp P (K (x, y, ())) h Q) : wp P (.load (.agg [.int k, .int k]) (shiftTo p j) K) h Q := by
  subst hp
  refine ⟨a.add j, rfl, (x, y, ()), cells_iff.2 fun i v hi => ?_, hk⟩
  rw [add_add]
  match i, hi with
  | 0, hi => simp [Ty.cells, Bs.inj] at hi; subst hi; exact cells_iff.1 hc _ _ h0
  | 1, hi => simp [Ty.cells, Bs.inj] at hi; subst hi; exact cells_iff.1 hc _ _ h1
  | i + 2, hi => simp [Ty.cells, Bs.inj] at hi
theorem s_check0 {p : Option Addr} {a : Addr} {vs : List Value} {K : Prog} (hp : p = some a) (hc : Cells h a vs) (hk : wp P K h Q) : wp P (.check p vs K) h Q := ⟨⟨a, hp, hc⟩, hk⟩
theorem grd_some {p : Option Addr} {a : Addr} {X : Prog} (hp : p = some a) (h1 : wp P X h Q) : wp P (grd (someB p) X) h Q := by subst hp; exact wp_grd rfl h1
end Go.Sw

namespace Go.Sw.Tree
variable {P : Program} {S : Ids} {h : Heap} {Q : Nat → List Value → Heap → Prop}

inductive BT where
  | nil
  | node (l : BT) (x : Int × Int) (r : BT)
def BT.list : BT → List (Int × Int)
  | .nil => []
  | .node l x r => l.list ++ x :: r.list
def BT.ht : BT → Nat
  | .nil => 0
  | .node l _ r => max l.ht r.ht + 1
theorem BT.ht_le : ∀ t : BT, t.ht ≤ t.list.length
  | .nil => Nat.le_refl _
  | .node l x r => by have := l.ht_le; have := r.ht_le; simp only [BT.ht, BT.list, List.length_append, List.length_cons]; omega

abbrev iv (n : Int) : Value := .int .i64 n
def sumV (s : R4) : List Value := [iv s.1, iv s.2.1, iv s.2.2.1, iv s.2.2.2.1]
def headV (pl pr : Option Addr) (t l r : BT) (x : Int × Int) : List Value := [.pointer pl, .pointer pr, iv x.1, iv x.2, iv t.list.length, iv t.ht]
def Nd (h : Heap) : Option Addr → BT → Prop
  | p, .nil => p = none
  | p, .node l x r => ∃ a pl pr, p = some a ∧ Cells h a (headV pl pr (.node l x r) l r x ++ sumV (sum (BT.node l x r).list)) ∧ Nd h pl l ∧ Nd h pr r
theorem Nd.ext {h h' : Heap} (e : Ext h h') : ∀ {t : BT} {p : Option Addr}, Nd h p t → Nd h' p t
  | .nil, _, n => n
  | .node l x r, p, ⟨a, pl, pr, e1, c, n1, n2⟩ => ⟨a, pl, pr, e1, e.cells c, Nd.ext e n1, Nd.ext e n2⟩
theorem wf_left {l r : BT} {x : Int × Int} (w : wfR (BT.node l x r).list) : wfR l.list := fun y hy => w y (by simp [BT.list, hy])
theorem wf_right {l r : BT} {x : Int × Int} (w : wfR (BT.node l x r).list) : wfR r.list := fun y hy => w y (by simp [BT.list, hy])
theorem wf_mid {l r : BT} {x : Int × Int} (w : wfR (BT.node l x r).list) : fitsI .i64 x.1 ∧ fitsI .i64 x.2 := w x (by simp [BT.list])
theorem wf_node {l r : BT} {x : Int × Int} (a : wfR l.list) (b : fitsI .i64 x.1 ∧ fitsI .i64 x.2) (c : wfR r.list) : wfR (BT.node l x r).list := by
  intro y hy
  simp only [BT.list, List.mem_append, List.mem_cons] at hy
  rcases hy with hy | rfl | hy
  · exact a y hy
  · exact b
  · exact c y hy
theorem node_len (l r : BT) (x : Int × Int) : (BT.node l x r).list.length = l.list.length + 1 + r.list.length := by simp [BT.list]; omega
theorem sum_node {l r : BT} {x : Int × Int} (w : wfR (BT.node l x r).list) : sum (BT.node l x r).list = add (add (sum l.list) (measure x)) (sum r.list) := by
  have h1 : wfR [x] := fun y hy => by rw [List.mem_singleton.1 hy]; exact wf_mid w
  rw [show (BT.node l x r).list = (l.list ++ [x]) ++ r.list by simp [BT.list], sum_append ((wf_left w).append h1) (wf_right w), sum_snoc]
theorem flat_iv : ∀ (s : R4), ∀ v ∈ sumV s, flat v = true := by
  intro s v hv
  simp only [sumV, List.mem_cons, List.not_mem_nil, or_false] at hv
  rcases hv with rfl | rfl | rfl | rfl <;> rfl

theorem c_count {p : Option Addr} {t : BT} (ht : Nd h p t) : Gives P (F_node_Run_count S p) [.one (.int .i64)] h fun (x : Int × Unit) _ => x.1 = t.list.length := by
  unfold F_node_Run_count Gives
  cases t with
  | nil => obtain rfl := ht; exact s_ifT (s_ret ⟨rfl, Ext.refl _, (0, ()), rfl, rfl⟩)
  | node l x r =>
    obtain ⟨a, pl, pr, rfl, c, _, _⟩ := ht
    exact s_ifF (grd_some rfl (grd_some rfl (s_cell (b := .int .i64) (x := (((BT.node l x r).list.length : Nat) : Int)) rfl c rfl (s_ret ⟨rfl, Ext.refl _, (((BT.node l x r).list.length : Nat), ()), rfl, rfl⟩))))
theorem c_tall {p : Option Addr} {t : BT} (ht : Nd h p t) : Gives P (F_node_Run_tall S p) [.one (.int .i64)] h fun (x : Int × Unit) _ => x.1 = t.ht := by
  unfold F_node_Run_tall Gives
  cases t with
  | nil => obtain rfl := ht; exact s_ifT (s_ret ⟨rfl, Ext.refl _, (0, ()), rfl, rfl⟩)
  | node l x r =>
    obtain ⟨a, pl, pr, rfl, c, _, _⟩ := ht
    exact s_ifF (grd_some rfl (grd_some rfl (s_cell (b := .int .i64) (x := (((BT.node l x r).ht : Nat) : Int)) rfl c rfl (s_ret ⟨rfl, Ext.refl _, (((BT.node l x r).ht : Nat), ()), rfl, rfl⟩))))

/-- A node's sum. -/
theorem s_sum {p : Option Addr} {l r : BT} {x : Int × Int} {K : R4 → Prog} (ht : Nd h p (.node l x r)) (hk : wp P (K (sum (BT.node l x r).list)) h Q) :
    wp P (grd (someB p) <| grd (someB p) <| .load A4 (shiftTo p 6) K) h Q := by
  obtain ⟨a, pl, pr, rfl, c, _, _⟩ := ht
  exact grd_some rfl (grd_some rfl (s_cells4 (x := (sum (BT.node l x r).list).1) (y := (sum (BT.node l x r).list).2.1) (z := (sum (BT.node l x r).list).2.2.1) (w := (sum (BT.node l x r).list).2.2.2.1) rfl c rfl rfl rfl rfl hk))
theorem s_left {p : Option Addr} {l r : BT} {x : Int × Int} {K : Option Addr → Prog} (ht : Nd h p (.node l x r)) (hk : ∀ q, Nd h q l → wp P (K q) h Q) :
    wp P (grd (someB p) <| grd (someB p) <| .load (.one .ptr) (shiftTo p 0) K) h Q := by
  obtain ⟨a, pl, pr, rfl, c, n1, n2⟩ := ht
  exact grd_some rfl (grd_some rfl (s_cell (b := .ptr) (x := pl) rfl c rfl (hk pl n1)))
theorem s_right {p : Option Addr} {l r : BT} {x : Int × Int} {K : Option Addr → Prog} (ht : Nd h p (.node l x r)) (hk : ∀ q, Nd h q r → wp P (K q) h Q) :
    wp P (grd (someB p) <| grd (someB p) <| .load (.one .ptr) (shiftTo p 1) K) h Q := by
  obtain ⟨a, pl, pr, rfl, c, n1, n2⟩ := ht
  exact grd_some rfl (grd_some rfl (s_cell (b := .ptr) (x := pr) rfl c rfl (hk pr n2)))
theorem s_item {p : Option Addr} {l r : BT} {x : Int × Int} {K : R2 → Prog} (ht : Nd h p (.node l x r)) (hk : wp P (K (x.1, x.2, ())) h Q) :
    wp P (grd (someB p) <| grd (someB p) <| .load (.agg [.int .i64, .int .i64]) (shiftTo p 2) K) h Q := by
  obtain ⟨a, pl, pr, rfl, c, n1, n2⟩ := ht
  exact grd_some rfl (grd_some rfl (s_cells2 (x := x.1) (y := x.2) rfl c rfl rfl hk))

theorem c_of {pl pr : Option Addr} {l r : BT} {x : R2} (nl : Nd h pl l) (nr : Nd h pr r) (hw : wfR (BT.node l (x.1, x.2.1) r).list) (hroom : (BT.node l (x.1, x.2.1) r).list.length ≤ 4398046511104) :
    Gives P (F_tree_of_Run S pl x pr) [.one .ptr] h fun (y : Option Addr × Unit) h' => Nd h' y.1 (.node l (x.1, x.2.1) r) := by
  obtain ⟨(kd : Int), (n : Int), u⟩ := x
  dsimp only at hw hroom ⊢
  obtain ⟨f1, f2⟩ := wf_mid hw
  have hl := node_len l r (kd, n)
  have hsum := sum_node hw
  have vl := V.sum (wf_left hw)
  have vr := V.sum (wf_right hw)
  have vm := V.measure (r := (kd, n)) f1
  have g1 := l.ht_le; have g2 := r.ht_le
  unfold F_tree_of_Run Gives
  refine s_new2 kd n f1 f2 fun h1 e1 o1 => ?_
  have ld : ∀ {h'} {K : R2 → Prog} {Q : Nat → List Value → Heap → Prop}, Ext h1 h' → wp P (K (kd, n, ())) h' Q → wp P (.load (.agg [.int .i64, .int .i64]) (some ⟨h.size, 0, none⟩) K) h' Q := fun e hk =>
    ⟨_, rfl, (kd, n, ()), (o1.ext e).lst.cells, hk⟩
  have ck : ∀ {h'} {K : Prog} {Q : Nat → List Value → Heap → Prop}, Ext h1 h' → wp P K h' Q → wp P (.check (some ⟨h.size, 0, none⟩) [iv kd, iv n] K) h' Q := fun e hk =>
    s_check0 rfl (o1.ext e).lst.cells hk
  refine ld (Ext.refl _) (wp_call (c_count (nl.ext e1)) fun y h2 e2 hy => ck e2 (wp_call (c_count (nr.ext (e1.trans e2))) fun z h3 e3 hz => ck (e2.trans e3) (wp_call (c_tall (nl.ext ((e1.trans e2).trans e3))) fun y' h4 e4 hy' =>
    ck ((e2.trans e3).trans e4) (wp_call (c_tall (nr.ext (((e1.trans e2).trans e3).trans e4))) fun z' h5 e5 hz' => ck (((e2.trans e3).trans e4).trans e5) ?_))))
  obtain ⟨(y : Int), w1⟩ := y
  obtain ⟨(z : Int), w2⟩ := z
  obtain ⟨(y' : Int), w3⟩ := y'
  obtain ⟨(z' : Int), w4⟩ := z'
  dsimp only at hy hz hy' hz' ⊢
  have e15 := ((e2.trans e3).trans e4).trans e5
  have hcnt : addI .i64 (addI .i64 y 1) z = (((BT.node l (kd, n) r).list.length : Nat) : Int) := by
    rw [add_ok (a := y) (by omega) (by omega), add_ok (by omega) (by omega)]; omega
  have htl : addI .i64 (maxI y' z') 1 = (((BT.node l (kd, n) r).ht : Nat) : Int) := by
    have : maxI y' z' = max y' z' := by unfold maxI; split <;> omega
    rw [this, add_ok (by omega) (by omega)]; simp only [BT.ht]; omega
  rw [hcnt, htl]
  intro elem
  have hown : Own h5.size 1 (h5.push (.cells (headV pl pr (.node l (kd, n) r) l r (kd, n) ++ sumV zero4).toArray elem)) ⟨some ⟨h5.size, 0, none⟩, 10, 10⟩ (headV pl pr (.node l (kd, n) r) l r (kd, n) ++ sumV zero4) :=
    own_alloc rfl (by decide) (by decide)
  have e6 : Ext h5 (h5.push (.cells (headV pl pr (.node l (kd, n) r) l r (kd, n) ++ sumV zero4).toArray elem)) := Ext.push ..
  revert hown e6
  generalize hh6 : (h5.push (.cells (headV pl pr (.node l (kd, n) r) l r (kd, n) ++ sumV zero4).toArray elem)) = h6
  intro o6 e6
  have eq6 : (h5.push (.cells [.pointer pl, .pointer pr, iv kd, iv n, iv ((BT.node l (kd, n) r).list.length : Nat), iv ((BT.node l (kd, n) r).ht : Nat), iv 0, iv 0, iv 0, iv 0].toArray elem)) = h6 := hh6
  show wp P _ (h5.push (.cells [.pointer pl, .pointer pr, iv kd, iv n, iv ((BT.node l (kd, n) r).list.length : Nat), iv ((BT.node l (kd, n) r).ht : Nat), iv 0, iv 0, iv 0, iv 0].toArray elem)) _
  rw [eq6]
  have e05 : Ext h h5 := e1.trans e15
  refine ld (e15.trans e6) (wp_call (c_Measure f1 f2) fun m h7 e7 hm => ?_)
  obtain ⟨m, w5⟩ := m
  dsimp only at hm
  subst hm
  refine s_putEnd (sumV (measure (kd, n))) (o6.ext e7) rfl rfl (flat_iv _) fun h8 o8 u8 => ?_
  have e58 : Ext h5 h8 := Upd.extN (e6.trans e7) u8 (by intro a ha; cases ha; exact Nat.le_refl _)
  have nl8 := nl.ext (e05.trans e58)
  have nr8 := nr.ext (e05.trans e58)
  refine wp_bind (fun t vs h' => t = 0 ∧ vs = [] ∧ Ext h5 h' ∧ Own h5.size 1 h' ⟨some ⟨h5.size, 0, none⟩, 10, 10⟩ (headV pl pr (.node l (kd, n) r) l r (kd, n) ++ sumV (add (sum l.list) (measure (kd, n))))) ?_ ?_
  · cases l with
    | nil =>
      obtain rfl := nl8
      refine s_ifF (s_ret ⟨rfl, rfl, e58, ?_⟩)
      rw [show sum BT.nil.list = zero4 from rfl, zero4_add]; exact o8
    | node ll lx lr =>
      have hp : ∃ a, pl = some a := by obtain ⟨a, _, _, h1, _⟩ := nl8; exact ⟨a, h1⟩
      obtain ⟨a, rfl⟩ := hp
      refine s_ifT (s_sum nl8 (s_cells4 (x := (measure (kd, n)).1) (y := (measure (kd, n)).2.1) (z := (measure (kd, n)).2.2.1) (w := (measure (kd, n)).2.2.2.1) rfl o8.cells rfl rfl rfl rfl (wp_call (c_Add vl vm (by omega)) fun m h9 e9 hm => ?_)))
      obtain ⟨m, w6⟩ := m
      dsimp only at hm
      subst hm
      refine s_putEnd (sumV (add (sum (BT.node ll lx lr).list) (measure (kd, n)))) (o8.ext e9) rfl rfl (flat_iv _) fun h10 o10 u10 => s_ret ⟨rfl, rfl, Upd.extN (e58.trans e9) u10 (by intro a ha; cases ha; exact Nat.le_refl _), o10⟩
  · rintro t vs h9 ⟨rfl, rfl, e59, o9⟩
    have nr9 := nr.ext (e05.trans e59)
    refine s_tag (s_cast0 ?_)
    refine wp_bind (fun t vs h' => t = 0 ∧ vs = [] ∧ Ext h5 h' ∧ Own h5.size 1 h' ⟨some ⟨h5.size, 0, none⟩, 10, 10⟩ (headV pl pr (.node l (kd, n) r) l r (kd, n) ++ sumV (sum (BT.node l (kd, n) r).list))) ?_ ?_
    · cases r with
      | nil =>
        obtain rfl := nr9
        refine s_ifF (s_ret ⟨rfl, rfl, e59, ?_⟩)
        rw [hsum, show sum BT.nil.list = zero4 from rfl, add_zero4 (vl.add vm)]; exact o9
      | node ll lx lr =>
        have hp : ∃ a, pr = some a := by obtain ⟨a, _, _, h1, _⟩ := nr9; exact ⟨a, h1⟩
        obtain ⟨a, rfl⟩ := hp
        refine s_ifT (s_cells4 (x := (add (sum l.list) (measure (kd, n))).1) (y := (add (sum l.list) (measure (kd, n))).2.1) (z := (add (sum l.list) (measure (kd, n))).2.2.1) (w := (add (sum l.list) (measure (kd, n))).2.2.2.1) rfl o9.cells rfl rfl rfl rfl
          (s_sum nr9 (wp_call (c_Add (vl.add vm) vr (by omega)) fun m h10 e10 hm => ?_)))
        obtain ⟨m, w6⟩ := m
        dsimp only at hm
        rw [← hsum] at hm
        subst hm
        refine s_putEnd (sumV (sum (BT.node l (kd, n) (.node ll lx lr)).list)) (o9.ext e10) rfl rfl (flat_iv _) fun h11 o11 u11 => s_ret ⟨rfl, rfl, Upd.extN (e59.trans e10) u11 (by intro a ha; cases ha; exact Nat.le_refl _), o11⟩
    · rintro t vs h10 ⟨rfl, rfl, e60, o10⟩
      exact s_tag (s_cast0 (s_ret ⟨rfl, e05.trans e60, (some ⟨h5.size, 0, none⟩, ()), rfl, ⟨h5.size, 0, none⟩, pl, pr, rfl, o10.cells, nl.ext (e05.trans e60), nr.ext (e05.trans e60)⟩))

end Go.Sw.Tree
