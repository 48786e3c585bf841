/-
  Laws for the user of shallow programs: heaps that grow, reading of lists, memory of one's own.
-/
import Derived.Test.YtaebgdhdldfigaaGreatSwSw
import Derived.Laws.Append
import Derived.Laws.BitsAllLaws
import Derived.Laws.BitsLemmas
set_option linter.unusedSimpArgs false
set_option linter.unusedVariables false
namespace Go.Sw
def Keep (n : Nat) (h h' : Heap) : Prop := h.size ≤ h'.size ∧ (∀ i, i < n → h'[i]? = h[i]?) ∧ ∀ a, frz h a = false → frz h' a = false
def Ext (h h' : Heap) : Prop := Keep h.size h h'
theorem Keep.refl (n : Nat) (h : Heap) : Keep n h h := ⟨Nat.le_refl _, fun _ _ => rfl, fun _ e => e⟩
theorem Ext.refl (h : Heap) : Ext h h := Keep.refl _ h
theorem Keep.trans {n : Nat} {a b c : Heap} (h : Keep n a b) (k : Keep n b c) : Keep n a c :=
 ⟨Nat.le_trans h.1 k.1, fun i hi => (k.2.1 i hi).trans (h.2.1 i hi), fun a e => k.2.2 a (h.2.2 a e)⟩
theorem Keep.mono {n m : Nat} {a b : Heap} (h : Keep n a b) (hm : m ≤ n) : Keep m a b := ⟨h.1, fun i hi => h.2.1 i (Nat.lt_of_lt_of_le hi hm), h.2.2⟩
theorem Ext.trans {a b c : Heap} (h : Ext a b) (k : Ext b c) : Ext a c := Keep.trans h (Keep.mono k h.1)
theorem Ext.keep {n : Nat} {a b : Heap} (h : Ext a b) (hn : n ≤ a.size) : Keep n a b := Keep.mono h hn
theorem push_old (h : Heap) (o : Obj) {i : Nat} (hi : i < h.size) : (h.push o)[i]? = h[i]? := by
 rw [Array.getElem?_push]
 have : i ≠ h.size := by omega
 simp [this]
theorem Ext.push (h : Heap) (c : Array Value) (elem : TypeId) : Ext h (h.push (.cells c elem)) := by
 refine ⟨by simp, fun i hi => push_old h _ hi, fun a ha => ?_⟩
 unfold frz at ha ⊢
 by_cases hi : a.block < h.size
 ·rw [push_old h _ hi]; exact ha
 ·by_cases he : a.block = h.size
  ·rw [he, Array.getElem?_push_size]; simp
  ·rw [Array.getElem?_eq_none (by simp; omega)]
theorem cell_lt {h : Heap} {a : Addr} {v : Value} (hc : cell h a = some v) : a.block < h.size := by
 unfold cell at hc
 by_cases hb : a.block < h.size
 ·exact hb
 ·rw [Array.getElem?_eq_none (by omega)] at hc; simp at hc
theorem Keep.cell {n : Nat} {h h' : Heap} (k : Keep n h h') {a : Addr} (ha : a.block < n) : cell h' a = cell h a := by
 unfold Sw.cell; rw [k.2.1 _ ha]
theorem Ext.cell {h h' : Heap} (k : Ext h h') {a : Addr} {v : Value} (hc : Sw.cell h a = some v) : Sw.cell h' a = some v := by
 rw [Keep.cell k (cell_lt hc)]; exact hc
@[simp] theorem add_block (a : Addr) (n : Nat) : (a.add n).block = a.block := by unfold Addr.add; split <;> rfl
@[simp] theorem add_off (a : Addr) (n : Nat) : (a.add n).off = a.off + n := by unfold Addr.add; split <;> simp_all
theorem add_mk (b off n : Nat) : (Addr.mk b off none).add n = ⟨b, off + n, none⟩ := by unfold Addr.add; split <;> simp_all
theorem add_spot {a : Addr} (h : a.spot = none) (n : Nat) : (a.add n).spot = none := by unfold Addr.add; split <;> simp_all
theorem add_zero' (a : Addr) : a.add 0 = a := by simp [Addr.add]
theorem add_add (a : Addr) (m n : Nat) : (a.add m).add n = a.add (m + n) := by
 unfold Addr.add
 by_cases hm : m = 0 <;> by_cases hn : n = 0 <;> simp [hm, hn, Nat.add_assoc]
theorem cellsFrom_iff {h : Heap} {a : Addr} : ∀ {vs : List Value} {i : Nat}, CellsFrom h a i vs ↔ ∀ j v, vs[j]? = some v → cell h (a.add (i + j)) = some v := by
 intro vs
 induction vs with
 | nil => intro i; simp [CellsFrom]
 | cons v vs ih =>
  intro i
  simp only [CellsFrom, ih]
  constructor
  ·rintro ⟨h1, h2⟩ j u hj
   cases j with
   | zero => simp at hj; subst hj; simpa using h1
   | succ j => have := h2 j u (by simpa using hj); rwa [Nat.add_assoc, Nat.add_comm 1 j] at this
  ·intro h2
   refine ⟨by simpa using h2 0 v (by simp), fun j u hj => ?_⟩
   have := h2 (j + 1) u (by simpa using hj)
   rwa [Nat.add_assoc, Nat.add_comm 1 j]
theorem cells_iff {h : Heap} {a : Addr} {vs : List Value} : Cells h a vs ↔ ∀ j v, vs[j]? = some v → cell h (a.add j) = some v := by
 unfold Cells; rw [cellsFrom_iff]; simp
theorem Ext.cells {h h' : Heap} (k : Ext h h') {a : Addr} {vs : List Value} (hc : Cells h a vs) : Cells h' a vs := by
 rw [cells_iff] at hc ⊢; exact fun j v hj => k.cell (hc j v hj)
def Rd (size : Nat) (h : Heap) (s : Sl) (vs : List Value) : Prop :=
 s.len * size = vs.length ∧ ∀ i v, vs[i]? = some v → ∃ a, s.base = some a ∧ cell h (a.add i) = some v
theorem Ext.rd {h h' : Heap} (k : Ext h h') {size : Nat} {s : Sl} {vs : List Value} (hr : Rd size h s vs) : Rd size h' s vs :=
 ⟨hr.1, fun i v hi => let ⟨a, e, c⟩ := hr.2 i v hi; ⟨a, e, k.cell c⟩⟩
def Ints (k : IntKind) (h : Heap) (s : Sl) (l : List Int) : Prop := Rd 1 h s (l.map (.int k))
theorem Ints.len {k : IntKind} {h : Heap} {s : Sl} {l : List Int} (hr : Ints k h s l) : s.len = l.length := by have := hr.1; simpa using this
theorem Ext.ints {h h' : Heap} (k : Ext h h') {kd : IntKind} {s : Sl} {l : List Int} (hr : Ints kd h s l) : Ints kd h' s l := k.rd hr
theorem Ints.at {k : IntKind} {h : Heap} {s : Sl} {l : List Int} (hr : Ints k h s l) {i : Nat} (hi : i < l.length) :
  ∃ a, s.base = some a ∧ cell h (a.add i) = some (.int k (l.getD i 0)) := by
 have := hr.2 i (.int k (l.getD i 0)) (by simp [List.getD, hi])
 exact this
theorem Rd.firsts {size : Nat} {h : Heap} {s : Sl} {vs : List Value} (hr : Rd size h s vs) : Firsts h s.base (s.len * size) vs := by
 unfold Firsts
 cases hb : s.base with
 | none =>
  cases vs with
  | nil => rfl
  | cons v vs => obtain ⟨a, e, _⟩ := hr.2 0 v rfl; rw [hb] at e; cases e
 | some a =>
  refine ⟨hr.1.symm, cells_iff.2 fun j v hj => ?_⟩
  obtain ⟨a', e, c⟩ := hr.2 j v hj
  rw [hb] at e; cases e; exact c
theorem rd_alloc {h : Heap} {vs : List Value} {elem : TypeId} {size n c : Nat} (hn : n * size = vs.length) : Rd size (h.push (.cells vs.toArray elem)) ⟨some ⟨h.size, 0, none⟩, n, c⟩ vs := by
 refine ⟨hn, fun i v hi => ⟨_, rfl, ?_⟩⟩
 simp [cell, add_mk, hi]
variable {P : Program} {h : Heap} {Q : Nat → List Value → Heap → Prop}
theorem wp_ifB {b : Bool} {X Y : Prog} (h1 : b = true → wp P X h Q) (h2 : b = false → wp P Y h Q) : wp P (ifB b X Y) h Q := by
 cases b
 ·exact h2 rfl
 ·exact h1 rfl
theorem wp_grd {b : Bool} {X : Prog} (hb : b = true) (h1 : wp P X h Q) : wp P (grd b X) h Q := by subst hb; exact h1
def Gives (P : Program) (m : Prog) (tys : List Ty) (h : Heap) (R : Ts.den tys → Heap → Prop) : Prop :=
 wp P m h fun t vs h' => t = 0 ∧ Ext h h' ∧ ∃ x, vs = Ts.inj tys x ∧ R x h'
theorem Gives.mono {m : Prog} {tys : List Ty} {R R' : Ts.den tys → Heap → Prop} (g : Gives P m tys h R) (hr : ∀ x h', Ext h h' → R x h' → R' x h') : Gives P m tys h R' :=
 wp_mono m (fun _ _ _ ⟨a, b, x, c, d⟩ => ⟨a, b, x, c, hr _ _ b d⟩) g
theorem wp_call {m : Prog} {tys : List Ty} {K : Ts.den tys → Prog} {R : Ts.den tys → Heap → Prop} (g : Gives P m tys h R) (hk : ∀ x h', Ext h h' → R x h' → wp P (K x) h' Q) :
  wp P (.call m tys K) h Q :=
 wp_mono m (fun _ _ _ ⟨a, b, x, c, d⟩ => ⟨a, x, c, hk x _ b d⟩) g
theorem wp_bind {m : Prog} {K : Nat → List Value → Prog} (R : Nat → List Value → Heap → Prop) (g : wp P m h R) (hk : ∀ t vs h', R t vs h' → wp P (K t vs) h' Q) : wp P (.bind m K) h Q :=
 wp_mono m hk g
theorem wp_cast {tys : List Ty} {K : Ts.den tys → Prog} {vs : List Value} (x : Ts.den tys) (e : vs = Ts.inj tys x) (hk : wp P (K x) h Q) : wp P (.cast tys vs K) h Q := ⟨x, e, hk⟩
theorem wp_loop {tys : List Ty} {s : Ts.den tys} {body : Ts.den tys → Prog} (I : Ts.den tys → Heap → Prop) (μ : Ts.den tys → Heap → Nat) (h0 : I s h)
  (hs : ∀ s h, I s h → wp P (body s) h fun tag vs h' => (tag = 0 → ∃ s', vs = Ts.inj tys s' ∧ I s' h' ∧ μ s' h' < μ s h) ∧ (tag ≠ 0 → Q tag vs h')) : wp P (.loop tys s body) h Q :=
 ⟨I, μ, h0, hs⟩
theorem inB_is {j : Int} {n : Nat} : inB j n = true ↔ 0 ≤ j ∧ j < n := by simp [inB]
theorem leB_is {j : Int} {n : Nat} : leB j n = true ↔ 0 ≤ j ∧ j ≤ n := by simp [leB]
theorem andB_iff {a b : Bool} : andB a b = true ↔ a = true ∧ b = true := by simp [andB]
theorem ltI_iff {a b : Int} : ltI a b = true ↔ a < b := by simp [ltI]
theorem leI_iff {a b : Int} : leI a b = true ↔ a ≤ b := by simp [leI]
theorem gtI_iff {a b : Int} : gtI a b = true ↔ b < a := by simp [gtI]
theorem geI_iff {a b : Int} : geI a b = true ↔ b ≤ a := by simp [geI]
theorem eqI_iff {a b : Int} : eqI a b = true ↔ a = b := by simp [eqI]
theorem neI_iff {a b : Int} : neI a b = true ↔ a ≠ b := by simp [neI]
theorem ltI_not {a b : Int} : ltI a b = false ↔ b ≤ a := by simp [ltI]
theorem leI_not {a b : Int} : leI a b = false ↔ b < a := by simp [leI]
theorem gtI_not {a b : Int} : gtI a b = false ↔ a ≤ b := by simp [gtI]
theorem geI_not {a b : Int} : geI a b = false ↔ a < b := by simp [geI]
theorem eqI_not {a b : Int} : eqI a b = false ↔ a ≠ b := by simp [eqI]
theorem neI_not {a b : Int} : neI a b = false ↔ a = b := by simp [neI]
theorem notB_iff {a : Bool} : notB a = true ↔ a = false := by simp [notB]
theorem notB_not {a : Bool} : notB a = false ↔ a = true := by simp [notB]
theorem eqN_iff {a b : Nat} : eqN a b = true ↔ a = b := ⟨Nat.eq_of_beq_eq_true, fun h => h ▸ Nat.beq_refl a⟩
theorem add64 {a b : Int} (h1 : -2 ^ 63 ≤ a + b) (h2 : a + b < 2 ^ 63) : addI .i64 a b = a + b := by unfold addI; rw [IntKind.wrap_i64]; omega
theorem wp_at_cell {k : IntKind} {s : Sl} {l : List Int} {K : Int → Prog} {j : Int} (hr : Ints k h s l) (h0 : 0 ≤ j) (h1 : j < l.length)
  (hk : wp P (K (l.getD j.toNat 0)) h Q) : wp P (.load (.one (.int k)) (shiftTo s.base (mulN (toN j) 1)) K) h Q := by
 obtain ⟨a, e, c⟩ := hr.at (i := j.toNat) (by omega)
 refine ⟨a.add j.toNat, by simp [shiftTo, e, mulN, toN], l.getD j.toNat 0, ?_, hk⟩
 rw [cells_iff]
 intro i v hi
 cases i with
 | zero => simp [Ty.cells, B.inj] at hi; subst hi; rw [add_zero']; simpa using c
 | succ i => simp [Ty.cells] at hi
theorem wp_at {k : IntKind} {s : Sl} {l : List Int} {K : Int → Prog} {j : Int} (hr : Ints k h s l) (h0 : 0 ≤ j) (h1 : j < l.length)
  (hk : wp P (K (l.getD j.toNat 0)) h Q) : wp P (grd (andB (someB s.base) (inB j s.len)) (.load (.one (.int k)) (shiftTo s.base (mulN (toN j) 1)) K)) h Q := by
 obtain ⟨a, e, _⟩ := hr.at (i := j.toNat) (by omega)
 refine wp_grd ?_ (wp_at_cell hr h0 h1 hk)
 rw [andB_iff, inB_is, hr.len]
 exact ⟨by simp [someB, e], h0, h1⟩
theorem wp_load1 {b : B} {p : Option Addr} {K : b.den → Prog} (a : Addr) (x : b.den) (hp : p = some a) (hc : cell h a = some (b.inj x)) (hk : wp P (K x) h Q) : wp P (.load (.one b) p K) h Q := by
 refine ⟨a, hp, x, cells_iff.2 fun j v hj => ?_, hk⟩
 cases j with
 | zero => simp [Ty.cells] at hj; subst hj; rw [add_zero']; exact hc
 | succ j => simp [Ty.cells] at hj
theorem shiftTo_some (a : Addr) (n : Nat) : shiftTo (some a) n = some (a.add n) := rfl
theorem natI_def (n : Nat) : natI n = (n : Int) := rfl
theorem toN_def (n : Int) : toN n = n.toNat := rfl
theorem mulN_def (m n : Nat) : mulN m n = m * n := rfl
def Own (n size : Nat) (h : Heap) (s : Sl) (vs : List Value) : Prop :=
 s.len * size = vs.length ∧ s.len ≤ s.cap ∧ s.cap < 2 ^ 63 ∧
 match s.base with
 | none => s.cap = 0
 | some a => a.off = 0 ∧ a.spot = none ∧ n ≤ a.block ∧ ∃ (cs : Array Value) (elem : TypeId), h[a.block]? = some (.cells cs elem) ∧ cs.size = s.cap * size ∧ ∀ (i : Nat) (v : Value), vs[i]? = some v → cs[i]? = some v
theorem Own.nil (n size : Nat) (h : Heap) : Own n size h ⟨none, 0, 0⟩ [] := ⟨by simp, by simp, by simp, rfl⟩
theorem Own.rd {n size : Nat} {s : Sl} {vs : List Value} (ho : Own n size h s vs) : Rd size h s vs := by
 refine ⟨ho.1, fun i v hi => ?_⟩
 obtain ⟨h1, h2, h3, h4⟩ := ho
 have hpos : 0 < vs.length := by
  cases vs with
  | nil => simp at hi
  | cons => simp
 cases hb : s.base with
 | none =>
  rw [hb] at h4
  have : s.len = 0 := by simp at h4; omega
  rw [this] at h1; simp at h1; omega
 | some a =>
  rw [hb] at h4
  obtain ⟨e0, e1, e2, cs, elem, e3, e4, e5⟩ := h4
  refine ⟨a, rfl, ?_⟩
  simp [cell, e3, add_spot e1, e0, e5 i v hi]
def Upd (s : Sl) (h h' : Heap) : Prop := h.size ≤ h'.size ∧ (∀ i, i < h.size → (∀ a, s.base = some a → a.block ≠ i) → h'[i]? = h[i]?) ∧ ∀ a, frz h a = false → frz h' a = false
theorem Upd.keep {n size : Nat} {s : Sl} {vs : List Value} {h' : Heap} (ho : Own n size h s vs) (hn : n ≤ h.size) (u : Upd s h h') : Keep n h h' := by
 refine ⟨u.1, fun i hi => u.2.1 i (by omega) (fun a ha e => ?_), u.2.2⟩
 obtain ⟨_, _, _, h4⟩ := ho
 rw [ha] at h4
 have := h4.2.2.1
 omega
theorem setCell_block {h : Heap} {b off : Nat} {cs : Array Value} {elem : TypeId} {f : Nat × Nat} (hb : h[b]? = some (.cells cs elem f)) (v : Value) :
  (setCell h ⟨b, off, none⟩ v)[b]? = some (.cells (cs.setIfInBounds off v) elem f) ∧ (setCell h ⟨b, off, none⟩ v).size = h.size ∧ ∀ i, i ≠ b → (setCell h ⟨b, off, none⟩ v)[i]? = h[i]? := by
 refine ⟨?_, by simp [setCell], fun i hi => ?_⟩
 ·simp [setCell, Array.getElem?_modify, hb]
 ·simp [setCell, Array.getElem?_modify, Ne.symm hi]
theorem thaw_setCell (h : Heap) (a : Addr) (v : Value) (x : Addr) : frz (setCell h a v) x = frz h x := by
 unfold frz setCell
 rw [Array.getElem?_modify]
 by_cases hb : a.block = x.block
 ·rw [if_pos hb]
  cases h[x.block]? with
  | none => rfl
  | some o => cases o <;> rfl
 ·rw [if_neg hb]
theorem thaw_putFrom (x a : Addr) : ∀ (vs : List Value) (h : Heap) (i : Nat), frz (putFrom h a i vs) x = frz h x := by
 intro vs
 induction vs with
 | nil => intro h i; rfl
 | cons v vs ih => intro h i; simp only [putFrom]; rw [ih, thaw_setCell]
theorem puts_block : ∀ {vs : List Value} {h : Heap} {b off i : Nat} {cs : Array Value} {elem : TypeId} (_ : h[b]? = some (.cells cs elem)) (_ : ∀ v ∈ vs, flat v = true) (_ : off + i + vs.length ≤ cs.size),
  WritesFrom h ⟨b, off, none⟩ i vs ∧ ∃ cs', (putFrom h ⟨b, off, none⟩ i vs)[b]? = some (.cells cs' elem) ∧ cs'.size = cs.size ∧
   (∀ j v, vs[j]? = some v → cs'[off + i + j]? = some v) ∧ (∀ j, j < off + i ∨ off + i + vs.length ≤ j → cs'[j]? = cs[j]?) ∧
   (putFrom h ⟨b, off, none⟩ i vs).size = h.size ∧ ∀ j, j ≠ b → (putFrom h ⟨b, off, none⟩ i vs)[j]? = h[j]? := by
 intro vs
 induction vs with
 | nil => intro h b off i cs elem hb hf hl; exact ⟨trivial, cs, hb, rfl, by simp, by simp, rfl, fun _ _ => rfl⟩
 | cons v vs ih =>
  intro h b off i cs elem hb hf hl
  simp only [List.length_cons] at hl
  obtain ⟨s1, s2, s3⟩ := setCell_block (off := off + i) hb v
  have hadd : (Addr.mk b off none).add i = ⟨b, off + i, none⟩ := add_mk ..
  have hcell : cell h ⟨b, off + i, none⟩ = some cs[off + i] := by simp [cell, hb]
  have hfz : frz h ⟨b, off + i, none⟩ = false := by simp [frz, hb]
  simp only [WritesFrom, putFrom, hadd]
  obtain ⟨w, cs', c1, c2, c3, c4, c5, c6⟩ := ih (h := setCell h ⟨b, off + i, none⟩ v) (b := b) (off := off) (i := i + 1) s1 (fun u hu => hf u (List.mem_cons_of_mem _ hu)) (by simp; omega)
  refine ⟨⟨⟨⟨_, hcell⟩, hfz, hf v (List.mem_cons_self ..)⟩, ?_⟩, cs', c1, by simpa using c2, ?_, ?_, by rw [c5, s2], fun j hj => by rw [c6 j hj, s3 j hj]⟩
  · -- what may be written stays so
   have : ∀ {us : List Value} {k : Nat}, WritesFrom (setCell h ⟨b, off + i, none⟩ v) ⟨b, off, none⟩ k us → WritesFrom h ⟨b, off, none⟩ k us := by
    intro us
    induction us with
    | nil => intro k _; trivial
    | cons u us ihu =>
     intro k hk
     simp only [WritesFrom] at hk ⊢
     refine ⟨⟨?_, ?_, hk.1.2.2⟩, ihu hk.2⟩
     ·obtain ⟨x, hx⟩ := hk.1.1
      have : off + k < cs.size := by
       simp only [cell, add_mk, s1] at hx
       have := Array.getElem?_eq_some_iff.1 (by simpa using hx)
       simpa using this.1
      exact ⟨cs[off + k], by simp [cell, add_mk, hb, this]⟩
     ·simp [frz, add_mk, hb]
   exact this w
  ·intro j u hj
   cases j with
   | zero =>
    simp at hj; subst hj
    have := c4 (off + i) (Or.inl (by omega))
    rw [Nat.add_zero, this, Array.getElem?_setIfInBounds]
    simp [show off + i < cs.size by omega]
   | succ j =>
    have := c3 j u (by simpa using hj)
    rw [show off + i + (j + 1) = off + (i + 1) + j by omega]; exact this
  ·intro j hj
   simp only [List.length_cons] at hj
   rw [c4 j (by omega)]
   rw [Array.getElem?_setIfInBounds]
   have : off + i ≠ j := by omega
   simp [this]
theorem zeros_len {zero : List Value} {size : Nat} (hz : zero.length = size) : ∀ n, (zeros zero n).length = n * size := by
 intro n; induction n with
 | zero => simp [zeros]
 | succ n ih => simp [zeros, ih, hz, Nat.succ_mul, Nat.add_comm]
theorem wp_append {n size bytes : Nat} {zero : List Value} {s x : Sl} {old new : List Value} {K : Sl → Prog} (ho : Own n size h s old) (hn : n ≤ h.size) (hx : Rd size h x new)
  (hf : ∀ v ∈ new, flat v = true) (hz : zero.length = size) (hroom : (s.len + x.len) * bytes ≤ 140737488355328) (hlen : s.len + x.len < 2 ^ 63)
  (hk : ∀ r h', Own n size h' r (old ++ new) → r.len = s.len + x.len → Upd s h h' → (∀ a, r.base = some a → s.base = some a ∨ (h.size ≤ a.block)) → wp P (K r) h' Q) :
  wp P (.append size bytes zero s x K) h Q := by
 refine ⟨new, hx.firsts, ?_⟩
 obtain ⟨o1, o2, o3, o4⟩ := ho
 have hlen' : (old ++ new).length = (s.len + x.len) * size := by rw [List.length_append, ← o1, ← hx.1, Nat.add_mul]
 by_cases hc : s.len + x.len ≤ s.cap
 ·simp only [hc, if_true]
  cases hb : s.base with
  | none =>
   rw [hb] at o4
   simp only at o4 ⊢
   have e1 : s.len = 0 := by omega
   have e2 : x.len = 0 := by omega
   refine hk _ _ ⟨hlen'.symm, hc, o3, o4⟩ rfl ⟨Nat.le_refl _, fun _ _ _ => rfl, fun _ e => e⟩ (fun a ha => by cases ha)
  | some a =>
   rw [hb] at o4
   obtain ⟨b, off, spot⟩ := a
   obtain ⟨e0, e1, e2, cs, elem, e3, e4, e5⟩ := o4
   simp only at e0 e1 e2 e3
   subst e0; subst e1
   have hfit : s.len * size + new.length ≤ cs.size := by
    rw [e4, ← hx.1, ← Nat.add_mul]; exact Nat.mul_le_mul_right _ hc
   have hadd : (Addr.mk b 0 none).add (s.len * size) = ⟨b, s.len * size, none⟩ := by simp [add_mk]
   obtain ⟨w, cs', c1, c2, c3, c4, c5, c6⟩ := puts_block (i := 0) (off := s.len * size) e3 hf (by simpa using hfit)
   simp only [hadd]
   refine ⟨w, hk _ _ ⟨hlen'.symm, hc, o3, rfl, rfl, e2, cs', elem, c1, by rw [c2, e4], fun i v hi => ?_⟩ rfl ⟨by unfold puts; omega, fun i hi hne => c6 i fun e => (hne _ hb) e.symm, fun a e => by unfold puts; rw [thaw_putFrom]; exact e⟩ (fun a ha => Or.inl (hb.trans ha))⟩
   rw [List.getElem?_append] at hi
   split at hi
   ·rename_i hlt
    rw [c4 i (Or.inl (by omega))]
    exact e5 i v hi
   ·rename_i hge
    have := c3 _ _ hi
    rw [o1] at this
    rw [show old.length + 0 + (i - old.length) = i by omega] at this
    exact this
 ·simp only [hc, if_false]
  refine ⟨old, Rd.firsts (Own.rd ⟨o1, o2, o3, o4⟩), growslice_fits (by omega) hroom, hlen, fun cap elem hcap hcap' => ?_⟩
  refine hk _ _ ⟨hlen'.symm, hcap, hcap', rfl, rfl, hn, _, elem, Array.getElem?_push_size, ?_, fun i v hi => ?_⟩ rfl ⟨by simp, fun i hi _ => push_old h _ hi, (Ext.push h _ _).2.2⟩ (fun a ha => Or.inr (by cases ha; exact Nat.le_refl _))
  ·simp only [List.size_toArray, List.length_append, zeros_len hz]
   rw [← o1, ← hx.1, ← Nat.add_mul, ← Nat.add_mul, Nat.add_sub_cancel' hcap]
  ·simp only [List.getElem?_toArray]
   rw [List.getElem?_append_left (by
    have := (List.getElem?_eq_some_iff.1 hi).1; exact this)]
   exact hi
theorem wp_push {n size bytes : Nat} {zero : List Value} {s : Sl} {old new : List Value} {K : Sl → Prog} (ho : Own n size h s old) (hn : n ≤ h.size) (hnew : new.length = size)
  (hf : ∀ v ∈ new, flat v = true) (hz : zero.length = size) (hroom : (s.len + 1) * bytes ≤ 140737488355328) (hlen : s.len + 1 < 2 ^ 63)
  (hk : ∀ r h', Own n size h' r (old ++ new) → r.len = s.len + 1 → Upd s h h' → (∀ a, r.base = some a → s.base = some a ∨ (h.size ≤ a.block)) → wp P (K r) h' Q) :
  wp P (.alloc new fun a => .append size bytes zero s ⟨some a, 1, 1⟩ K) h Q := by
 intro elem
 have e := Ext.push h new.toArray elem
 have ho' : Own n size (h.push (.cells new.toArray elem)) s old := by
  obtain ⟨o1, o2, o3, o4⟩ := ho
  refine ⟨o1, o2, o3, ?_⟩
  cases hb : s.base with
  | none => rw [hb] at o4; exact o4
  | some a =>
   rw [hb] at o4
   obtain ⟨e0, e1, e2, cs, el, e3, e4, e5⟩ := o4
   refine ⟨e0, e1, e2, cs, el, ?_, e4, e5⟩
   rw [e.2.1 _ (by by_cases hlt : a.block < h.size; exact hlt; rw [Array.getElem?_eq_none (by omega)] at e3; cases e3)]; exact e3
 refine wp_append ho' (Nat.le_trans hn e.1) (rd_alloc (by simp [hnew])) hf hz hroom hlen fun r h' a b c d => hk r h' a b ⟨Nat.le_trans e.1 c.1, fun i hi hne => (c.2.1 i (Nat.lt_of_lt_of_le hi e.1) hne).trans (e.2.1 i hi), fun a x => c.2.2 a (e.2.2 a x)⟩ fun x hx => ?_
 rcases d x hx with d | d
 ·exact Or.inl d
 ·refine Or.inr (Nat.le_trans e.1 d)
end Go.Sw
