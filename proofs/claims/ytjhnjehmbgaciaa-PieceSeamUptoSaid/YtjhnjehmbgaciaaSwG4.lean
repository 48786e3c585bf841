/-
  The laws of chapter 5: blocks that are written in place; the pen.
-/
import Derived.Test.YtjhnjehmbgaciaaSwG3
set_option linter.unusedVariables false
set_option linter.unusedSimpArgs false
set_option maxRecDepth 100000
namespace Go.Sw.Piece
open Go.Sw.Any Go.Sw.Codec
open Go.Sw.Tree (iv s_putAll s_newP s_getP s_getT s_putP eqI_self Placed cell_own cell_upd1 wp_whileG minI_eq)
variable {P : Program} {S : Ids} {h : Heap} {Q : Nat → List Value → Heap → Prop}

/-! ### Blocks -/
abbrev at0 (b : Nat) : Addr := ⟨b, 0, none⟩
abbrev slb (b k : Nat) : Sl := ⟨some (at0 b), k, k⟩
/-- The block b begins with these values; it lies at or behind n. -/
def Reg (n : Nat) (h : Heap) (b : Nat) (vs : List Value) : Prop :=
  n ≤ b ∧ ∃ (cs : Array Value) (elem : TypeId), h[b]? = some (.cells cs elem) ∧ vs.length ≤ cs.size ∧ ∀ (i : Nat) (v : Value), vs[i]? = some v → cs[i]? = some v
def Blk (n : Nat) (h : Heap) (b k : Nat) : Prop := n ≤ b ∧ ∃ (cs : Array Value) (elem : TypeId), h[b]? = some (.cells cs elem) ∧ k ≤ cs.size
/-- Only blocks that F names may have changed, and all have kept their size. -/
def SChg (F : Nat → Prop) (h h' : Heap) : Prop := Chg F h h' ∧ ∀ (i : Nat) (cs : Array Value) (elem : TypeId), h[i]? = some (.cells cs elem) → ∃ cs', h'[i]? = some (.cells cs' elem) ∧ cs'.size = cs.size

theorem blk_lt {i : Nat} {o : Obj} (e : h[i]? = some o) : i < h.size := by
  by_cases hlt : i < h.size
  · exact hlt
  · rw [Array.getElem?_eq_none (by omega)] at e; cases e
theorem SChg.refl (F : Nat → Prop) (h : Heap) : SChg F h h := ⟨Chg.refl F h, fun i cs elem e => ⟨cs, e, rfl⟩⟩
theorem SChg.of_ext {F : Nat → Prop} {a b : Heap} (e : Ext a b) : SChg F a b := ⟨Chg.of_ext e, fun i cs elem k => ⟨cs, by rw [e.2.1 i (blk_lt k)]; exact k, rfl⟩⟩
theorem SChg.trans {F G : Nat → Prop} {a b c : Heap} (u : SChg F a b) (v : SChg G b c) (hg : ∀ i, i < a.size → G i → F i) : SChg F a c :=
  ⟨u.1.trans v.1 hg, fun i cs elem k => let ⟨cs1, k1, s1⟩ := u.2 i cs elem k; let ⟨cs2, k2, s2⟩ := v.2 i cs1 elem k1; ⟨cs2, k2, s2.trans s1⟩⟩
theorem SChg.ext {F : Nat → Prop} {a b c : Heap} (u : SChg F a b) (e : Ext b c) : SChg F a c := u.trans (SChg.of_ext (F := F) e) fun _ _ g => g
theorem SChg.mono {F G : Nat → Prop} {a b : Heap} (u : SChg F a b) (hg : ∀ i, i < a.size → F i → G i) : SChg G a b := ⟨u.1.mono hg, u.2⟩

theorem Reg.lt {n b : Nat} {vs : List Value} (r : Reg n h b vs) : b < h.size := let ⟨_, _, _, e, _⟩ := r; blk_lt e
theorem Reg.keep {n b : Nat} {vs : List Value} {h' : Heap} (r : Reg n h b vs) (e : h'[b]? = h[b]?) : Reg n h' b vs := ⟨r.1, by rw [e]; exact r.2⟩
theorem Reg.chg {n b : Nat} {vs : List Value} {h' : Heap} {F : Nat → Prop} (r : Reg n h b vs) (c : Chg F h h') (hF : ¬ F b) : Reg n h' b vs := r.keep (c.2.1 b r.lt hF)
theorem Reg.ext {n b : Nat} {vs : List Value} {h' : Heap} (r : Reg n h b vs) (e : Ext h h') : Reg n h' b vs := r.keep (e.2.1 b r.lt)
theorem Reg.mono {n m b : Nat} {vs : List Value} (r : Reg n h b vs) (hm : m ≤ n) : Reg m h b vs := ⟨Nat.le_trans hm r.1, r.2⟩
theorem Reg.pre {n b : Nat} {vs ws : List Value} (r : Reg n h b (vs ++ ws)) : Reg n h b vs := by
  obtain ⟨h1, cs, elem, e, hl, hv⟩ := r
  rw [List.length_append] at hl
  exact ⟨h1, cs, elem, e, by omega, fun i v hi => hv i v (by rw [List.getElem?_append_left (List.getElem?_eq_some_iff.1 hi).1]; exact hi)⟩
theorem Reg.cell {n b i : Nat} {v : Value} {vs : List Value} (r : Reg n h b vs) (hi : vs[i]? = some v) : Sw.cell h ⟨b, i, none⟩ = some v := by
  obtain ⟨h1, cs, elem, e, hl, hv⟩ := r
  simp [Sw.cell, e, hv i v hi]
theorem Reg.cells {n b i : Nat} {vs ws : List Value} (r : Reg n h b vs) (hi : ∀ j v, ws[j]? = some v → vs[i + j]? = some v) : Cells h ⟨b, i, none⟩ ws :=
  cells_iff.2 fun j v hj => by rw [add_mk]; exact r.cell (hi j v hj)
theorem Reg.lst {n b c : Nat} {k : IntKind} {l : List Int} {vs : List Value} (r : Reg n h b (l.map (.int k) ++ vs)) (hw : ∀ x, x ∈ l → fitsI k x) (hc : l.length ≤ c) (hm : c < 2 ^ 63) : Lst k h ⟨some (at0 b), l.length, c⟩ l :=
  ⟨⟨by simp, fun i v hi => ⟨at0 b, rfl, by rw [add_mk, Nat.zero_add]; exact r.pre.cell hi⟩⟩, hc, hm, hw⟩
theorem Reg.blk {n b : Nat} {vs : List Value} (r : Reg n h b vs) : Blk n h b vs.length := let ⟨h1, cs, elem, e, hl, _⟩ := r; ⟨h1, cs, elem, e, hl⟩
theorem Blk.reg {n b k : Nat} (r : Blk n h b k) : ∃ vs, vs.length = k ∧ Reg n h b vs := by
  obtain ⟨h1, cs, elem, e, hl⟩ := r
  refine ⟨cs.toList.take k, by rw [List.length_take]; simp; omega, h1, cs, elem, e, by rw [List.length_take]; simp; omega, fun i v hi => ?_⟩
  rw [List.getElem?_take] at hi
  split at hi
  · simpa using hi
  · cases hi
theorem Blk.lt {n b k : Nat} (r : Blk n h b k) : b < h.size := let ⟨_, _, _, e, _⟩ := r; blk_lt e
theorem Blk.le {n b k m : Nat} (r : Blk n h b k) (hm : m ≤ k) : Blk n h b m := let ⟨h1, cs, elem, e, hl⟩ := r; ⟨h1, cs, elem, e, Nat.le_trans hm hl⟩
theorem Blk.schg {n b k : Nat} {h' : Heap} {F : Nat → Prop} (r : Blk n h b k) (c : SChg F h h') : Blk n h' b k := by
  obtain ⟨h1, cs, elem, e, hl⟩ := r
  obtain ⟨cs', e', s⟩ := c.2 b cs elem e
  exact ⟨h1, cs', elem, e', by omega⟩
theorem Blk.keep {n b k : Nat} {h' : Heap} (r : Blk n h b k) (e : h'[b]? = h[b]?) : Blk n h' b k := ⟨r.1, by rw [e]; exact r.2⟩
theorem Blk.chg {n b k : Nat} {h' : Heap} {F : Nat → Prop} (r : Blk n h b k) (c : Chg F h h') (hF : ¬ F b) : Blk n h' b k := r.keep (c.2.1 b r.lt hF)
theorem Own.reg {n size : Nat} {s : Sl} {a : Addr} {vs : List Value} (o : Own n size h s vs) (ha : s.base = some a) : a = at0 a.block ∧ Reg n h a.block vs := by
  obtain ⟨o1, o2, o3, o4⟩ := o
  rw [ha] at o4
  obtain ⟨b, off, spot⟩ := a
  obtain ⟨e0, e1, e2, cs, elem, e3, e4, e5⟩ := o4
  dsimp only at e0 e1 e2 e3
  subst e0; subst e1
  exact ⟨rfl, e2, cs, elem, e3, by rw [e4, ← o1]; exact Nat.mul_le_mul_right _ o2, e5⟩

/-- Values written into a block. -/
theorem s_putR {n b off : Nat} {pre mid post : List Value} (new : List Value) {K : Prog} (r : Reg n h b (pre ++ mid ++ post)) (ho : off = pre.length) (hl : new.length = mid.length) (hf : ∀ v ∈ new, flat v = true)
    (hk : ∀ h', Reg n h' b (pre ++ new ++ post) → SChg (fun i => i = b) h h' → h'.size = h.size → wp P K h' Q) : wp P (.store (some ⟨b, off, none⟩) new K) h Q := by
  subst ho
  obtain ⟨h1, cs, elem, e, hl2, hv⟩ := r
  simp only [List.length_append] at hl2
  obtain ⟨w, cs', c1, c2, c3, c4, c5, c6⟩ := puts_block (vs := new) (i := 0) (off := pre.length) e hf (by omega)
  refine ⟨⟨b, pre.length, none⟩, rfl, w, hk _ ⟨h1, cs', elem, c1, by simp only [List.length_append]; omega, fun j v hj => ?_⟩ ⟨⟨by unfold puts; omega, fun i hi hne => c6 i hne, fun a e => by unfold puts; rw [thaw_putFrom]; exact e⟩, fun i cs0 el0 k => ?_⟩ (by unfold puts; omega)⟩
  · by_cases hj1 : j < pre.length
    · rw [c4 j (.inl (by omega))]
      refine hv j v ?_
      rw [List.append_assoc, List.getElem?_append_left hj1] at hj ⊢; exact hj
    · rw [List.append_assoc, List.getElem?_append_right (by omega)] at hj
      by_cases hj2 : j - pre.length < new.length
      · rw [List.getElem?_append_left hj2] at hj
        have := c3 _ _ hj
        rwa [show pre.length + 0 + (j - pre.length) = j by omega] at this
      · rw [List.getElem?_append_right (by omega)] at hj
        rw [c4 j (.inr (by omega))]
        refine hv j v ?_
        rw [List.append_assoc, List.getElem?_append_right (by omega), List.getElem?_append_right (by omega), ← hl]; exact hj
  · by_cases hi : i = b
    · subst hi
      rw [e] at k; cases k
      exact ⟨cs', c1, c2⟩
    · exact ⟨cs0, by show (puts h _ new)[i]? = _; unfold puts; rw [c6 i hi]; exact k, rfl⟩
/-- A list copied to a block's beginning. -/
theorem s_copyR {n b c m : Nat} {k : IntKind} {x : Sl} {l : List Int} {mid post : List Value} {K : Nat → Prog} (r : Reg n h b (mid ++ post)) (hx : Lst k h x l) (hl : l.length = mid.length) (hm : l.length ≤ m)
    (hk : ∀ h', Reg n h' b (l.map (.int k) ++ post) → SChg (fun i => i = b) h h' → h'.size = h.size → wp P (K l.length) h' Q) : wp P (.copy 1 ⟨some (at0 b), m, c⟩ x K) h Q := by
  have hxl := hx.len
  obtain ⟨h1, cs, elem, e, hl2, hv⟩ := r
  simp only [List.length_append] at hl2
  have hmin : min x.len m = l.length := by omega
  obtain ⟨w, cs', c1, c2, c3, c4, c5, c6⟩ := puts_block (vs := l.map (.int k)) (i := 0) (off := 0) e (by intro y hy; obtain ⟨z, _, rfl⟩ := List.mem_map.1 hy; rfl) (by rw [List.length_map]; omega)
  rw [List.length_map] at c4
  refine ⟨l.map (.int k), ?_, ?_⟩
  · dsimp only
    rw [hmin]
    have := hx.rd.firsts
    rw [hxl] at this; exact this
  · dsimp only
    rw [hmin]
    refine ⟨w, hk _ ⟨h1, cs', elem, c1, by simp only [List.length_append, List.length_map]; omega, fun j v hj => ?_⟩ ⟨⟨Nat.le_of_eq c5.symm, fun i hi hne => c6 i hne, fun a e => by unfold puts; rw [thaw_putFrom]; exact e⟩, fun i cs0 el0 k => ?_⟩ c5⟩
    · by_cases hj1 : j < l.length
      · rw [List.getElem?_append_left (by rw [List.length_map]; exact hj1)] at hj
        have := c3 _ _ hj
        rwa [show 0 + 0 + j = j by omega] at this
      · rw [List.getElem?_append_right (by rw [List.length_map]; omega), List.length_map] at hj
        rw [c4 j (.inr (by omega))]
        refine hv j v ?_
        rw [List.getElem?_append_right (by omega), ← hl]; exact hj
    · by_cases hi : i = b
      · subst hi
        rw [e] at k; cases k
        exact ⟨cs', c1, c2⟩
      · exact ⟨cs0, by show (puts h _ _)[i]? = _; unfold puts; rw [c6 i hi]; exact k, rfl⟩

/-- make of any cells. -/
theorem s_mkB {bytes n size : Nat} {zero : List Value} {K : Sl → Prog} (hz : zero.length = size) (h1 : n < 2 ^ 63) (h2 : bytes * n ≤ 2 ^ 48) (hk : ∀ h', Ext h h' → Blk h.size h' h.size (n * size) → h'.size = h.size + 1 → wp P (K (slb h.size n)) h' Q) : wp P (.mk bytes zero (n : Int) (n : Int) K) h Q := by
  refine ⟨⟨by omega, Int.le_refl _, by omega, by exact_mod_cast h2⟩, fun elem => hk _ (Ext.push ..) ⟨Nat.le_refl _, _, elem, Array.getElem?_push_size, ?_⟩ (by simp)⟩
  simp only [List.size_toArray, zeros_len hz, Int.toNat_natCast]
  exact Nat.le_refl _

/-! ### The pen -/
structure PenS where
  ob : Nat
  all : Option Nat
  pu : Sl
  ws : List Nat
def allSl : Option Nat → Sl
  | none => ⟨none, 0, 0⟩
  | some b => slb b 200
def penM (s : PenS) (i : Nat) : Prop := i = s.ob ∨ ∃ a, s.pu.base = some a ∧ a.block = i
def penW (s : PenS) (i : Nat) : Prop := s.all = some i ∨ i ∈ s.ws
structure PenR (n : Nat) (h : Heap) (s : PenS) : Prop where
  ob : Own n 1 h ⟨some (at0 s.ob), 2, 2⟩ [slv (allSl s.all), slv s.pu]
  all : ∀ b, s.all = some b → Blk n h b 600
  pu : Own n 1 h s.pu (s.ws.map fun b => slv (slb b 400))
  ws : ∀ b, b ∈ s.ws → Blk n h b 400
  nd : s.ws.Nodup
  na : ∀ b, s.all = some b → b ∉ s.ws
  mw : ∀ i, penM s i → ¬ penW s i
  mm : ∀ a, s.pu.base = some a → a.block ≠ s.ob
  few : s.ws.length ≤ 8
def PenO (n : Nat) (h : Heap) (p : Option Addr) : Option PenS → Prop
  | none => p = none
  | some s => p = some (at0 s.ob) ∧ PenR n h s
def oM : Option PenS → Nat → Prop
  | none, _ => False
  | some s, i => penM s i
def oZ : Option PenS → Nat → Prop
  | none, _ => False
  | some s, i => penM s i ∨ penW s i
theorem oM_Z {s : Option PenS} {i : Nat} (h : oM s i) : oZ s i := by cases s with | none => exact h | some s => exact .inl h
def RoleA (s : Option PenS) (b : Nat) : Prop := (∃ t, s = some t ∧ t.all = some b) ∨ ¬ oZ s b
def RoleW (s : Option PenS) (j b : Nat) : Prop := (∃ t, s = some t ∧ t.ws[j]? = some b) ∨ ¬ oZ s b

theorem PenR.in {n : Nat} {s : PenS} (r : PenR n h s) {i : Nat} (hi : penM s i ∨ penW s i) : n ≤ i ∧ i < h.size := by
  rcases hi with (rfl | ⟨a, ha, rfl⟩) | hi | hi
  · exact r.ob.lt rfl
  · exact r.pu.lt ha
  · have := r.all i hi; exact ⟨this.1, this.lt⟩
  · have := r.ws i hi; exact ⟨this.1, this.lt⟩
theorem PenO.in {n : Nat} {p : Option Addr} {s : Option PenS} (r : PenO n h p s) {i : Nat} (hi : oZ s i) : n ≤ i ∧ i < h.size := by
  cases s with
  | none => exact hi.elim
  | some s => exact r.2.in hi
theorem PenR.schg {n : Nat} {s : PenS} {h' : Heap} {F : Nat → Prop} (r : PenR n h s) (c : SChg F h h') (hF : ∀ i, penM s i → ¬ F i) : PenR n h' s where
  ob := c.1.own r.ob fun x hx => by cases hx; exact hF _ (.inl rfl)
  all := fun b hb => (r.all b hb).schg c
  pu := c.1.own r.pu fun x hx => hF _ (.inr ⟨x, hx, rfl⟩)
  ws := fun b hb => (r.ws b hb).schg c
  nd := r.nd
  na := r.na
  mw := r.mw
  mm := r.mm
  few := r.few
theorem PenO.schg {n : Nat} {p : Option Addr} {s : Option PenS} {h' : Heap} {F : Nat → Prop} (r : PenO n h p s) (c : SChg F h h') (hF : ∀ i, oM s i → ¬ F i) : PenO n h' p s := by
  cases s with
  | none => exact r
  | some s => exact ⟨r.1, r.2.schg c hF⟩
theorem PenO.ext {n : Nat} {p : Option Addr} {s : Option PenS} {h' : Heap} (r : PenO n h p s) (e : Ext h h') : PenO n h' p s := r.schg (SChg.of_ext (F := fun _ => False) e) fun _ _ x => x
theorem PenR.chg {n : Nat} {s : PenS} {h' : Heap} {F : Nat → Prop} (r : PenR n h s) (c : Chg F h h') (hF : ∀ i, penM s i ∨ penW s i → ¬ F i) : PenR n h' s where
  ob := c.own r.ob fun x hx => by cases hx; exact hF _ (.inl (.inl rfl))
  all := fun b hb => (r.all b hb).chg c (hF _ (.inr (.inl hb)))
  pu := c.own r.pu fun x hx => hF _ (.inl (.inr ⟨x, hx, rfl⟩))
  ws := fun b hb => (r.ws b hb).chg c (hF _ (.inr (.inr hb)))
  nd := r.nd
  na := r.na
  mw := r.mw
  mm := r.mm
  few := r.few
theorem PenO.chg {n : Nat} {p : Option Addr} {s : Option PenS} {h' : Heap} {F : Nat → Prop} (r : PenO n h p s) (c : Chg F h h') (hF : ∀ i, oZ s i → ¬ F i) : PenO n h' p s := by
  cases s with
  | none => exact r
  | some s => exact ⟨r.1, r.2.chg c hF⟩
theorem RoleA.notM {n : Nat} {p : Option Addr} {s : Option PenS} {b : Nat} (r : PenO n h p s) (ra : RoleA s b) : ¬ oM s b := by
  rcases ra with ⟨t, rfl, hb⟩ | hz
  · exact fun hm => r.2.mw b hm (.inl hb)
  · exact fun hm => hz (oM_Z hm)
theorem RoleW.notM {n j : Nat} {p : Option Addr} {s : Option PenS} {b : Nat} (r : PenO n h p s) (ra : RoleW s j b) : ¬ oM s b := by
  rcases ra with ⟨t, rfl, hb⟩ | hz
  · exact fun hm => r.2.mw b hm (.inr (List.mem_of_getElem? hb))
  · exact fun hm => hz (oM_Z hm)
end Go.Sw.Piece

set_option linter.unusedVariables false
set_option linter.unusedSimpArgs false
set_option maxRecDepth 100000
namespace Go.Sw.Piece
open Go.Sw.Any Go.Sw.Codec
open Go.Sw.Tree (iv s_putAll s_newP s_getP s_getT s_putP eqI_self Placed cell_own cell_upd1 wp_whileG minI_eq)
variable {P : Program} {S : Ids} {h : Heap} {Q : Nat → List Value → Heap → Prop}

/-- What p.edits gives: a block of k edits. -/
structure PenEd (n : Nat) (h h' : Heap) (p : Option Addr) (s s' : Option PenS) (b k : Nat) : Prop where
  pen : PenO n h' p s'
  chg : Chg (oM s) h h'
  blk : Blk n h' b (k * 3)
  zone : ∀ i, oZ s' i → oZ s i ∨ h.size ≤ i
  old : oZ s b ∨ h.size ≤ b
  role : RoleA s' b

theorem Blk.mono {n m b k : Nat} (r : Blk n h b k) (hm : m ≤ n) : Blk m h b k := ⟨Nat.le_trans hm r.1, r.2⟩
theorem PenEd.fresh {n : Nat} {h1 h' : Heap} {p : Option Addr} {s : Option PenS} {k : Nat} (hp : PenO n h p s) (hn : n ≤ h.size) (e1 : Ext h h1) (e2 : Ext h1 h') (bl : Blk h1.size h' h1.size (k * 3)) : PenEd n h h' p s s h1.size k :=
  ⟨hp.ext (e1.trans e2), Chg.of_ext (e1.trans e2), bl.mono (Nat.le_trans hn e1.size), fun i hi => .inl hi, .inr e1.size, .inr fun hz => by have := (hp.in hz).2; have := e1.size; omega⟩

theorem c_pen_edits {n : Nat} {p : Option Addr} {s : Option PenS} {k : Nat} (hp : PenO n h p s) (hn : n ≤ h.size) (hk : k ≤ 1099511627776) :
    wp P (F_pen_edits S p (k : Int)) h fun tg vs h' => tg = 0 ∧ ∃ b s', vs = [slv (slb b k)] ∧ PenEd n h h' p s s' b k := by
  unfold F_pen_edits
  refine bind_bool (p = none ∨ 200 < k) ?_ fun bb h1 e1 hb => wp_ifB (fun hx => ?_) fun hx => ?_
  · cases p with
    | none => exact s_ifT (s_ret ⟨rfl, Ext.refl _, true, rfl, Iff.intro (fun _ => .inl rfl) fun _ => rfl⟩)
    | some a => exact s_ifF (s_ret ⟨rfl, Ext.refl _, _, rfl, by rw [gtI_iff]; exact Iff.intro (fun h => .inr (by omega)) fun h => h.elim (fun h => by cases h) fun h => by omega⟩)
  · exact s_mkB (size := 3) rfl (by omega) (by omega) fun h2 e2 bl _ => s_ret ⟨rfl, h1.size, s, rfl, PenEd.fresh hp hn e1 e2 bl⟩
  · have hno : ¬ (p = none ∨ 200 < k) := fun h => by rw [hb.2 h] at hx; cases hx
    cases s with
    | none => exact absurd (.inl hp) hno
    | some t =>
      obtain ⟨rfl, r⟩ := hp
      have r1 : PenR n h1 t := (PenO.ext (s := some t) ⟨rfl, r⟩ e1).2
      have hk2 : k ≤ 200 := by omega
      refine wp_bind (fun tg vs h' => tg = 0 ∧ vs = [] ∧ ∃ t' b, t'.all = some b ∧ t'.ob = t.ob ∧ PenR n h' t' ∧ Chg (penM t) h h' ∧ (∀ i, penM t' i ∨ penW t' i → oZ (some t) i ∨ h.size ≤ i) ∧ (oZ (some t) b ∨ h.size ≤ b)) ?_ ?_
      · refine wp_grd rfl (wp_grd rfl (s_cell (b := .sl) (allSl t.all) rfl r1.ob.cells (by rfl) ?_))
        cases ha : t.all with
        | some b =>
          exact s_ifF (s_ret ⟨rfl, rfl, t, b, ha, rfl, r1, Chg.of_ext e1, fun i hi => .inl hi, .inl (.inr (.inl ha))⟩)
        | none =>
          refine s_ifT (s_mkB (n := 200) (size := 3) rfl (by decide) (by decide) fun h2 e2 bl _ => ?_)
          have e02 := e1.trans e2
          have r2 : PenR n h2 t := (PenO.ext (s := some t) ⟨rfl, r1⟩ e2).2
          refine wp_grd rfl (wp_grd rfl (s_setC' (.slice (some (at0 h1.size)) 200 200) r2.ob (by simp) rfl fun h3 o3 u3 => ?_))
          have c3 : Chg (fun i => i = t.ob) h2 h3 := upd_chg u3
          have inr := fun i (hi : penM t i ∨ penW t i) => r1.in hi
          refine s_ret ⟨rfl, rfl, { t with all := some h1.size }, h1.size, rfl, rfl, ?_, ?_, ?_, .inr e1.size⟩
          · refine ⟨o3, ?_, ?_, ?_, r.nd, ?_, ?_, r.mm, r.few⟩
            · intro b hb
              cases hb
              exact (bl.mono (Nat.le_trans hn e1.size)).chg c3 (by have := (inr t.ob (.inl (.inl rfl))).2; omega)
            · exact c3.own r2.pu fun x hx => r.mm x hx
            · exact fun b hb => (r2.ws b hb).chg c3 fun e => r.mw t.ob (.inl rfl) (.inr (e ▸ hb))
            · intro b hb hw
              cases hb
              have := (inr h1.size (.inr (.inr hw))).2; omega
            · intro i hi hw
              rcases hw with hw | hw
              · cases hw
                have := (inr h1.size (.inl hi)).2; omega
              · exact r.mw i hi (.inr hw)
          · exact (Chg.of_ext e02).trans (c3.mono fun i _ e => .inl e) fun i _ x => x
          · rintro i (hi | hi | hi)
            · exact .inl (.inl hi)
            · cases hi; exact .inr e1.size
            · exact .inl (.inr (.inr hi))
      · rintro tg vs h2 ⟨rfl, rfl, t', b, ha, hob, r2, c2, hz, hbo⟩
        refine s_tag (s_cast0 (wp_grd rfl (wp_grd rfl (s_cell (b := .sl) (slb b 200) (by rw [← hob]) r2.ob.cells (by rw [ha]; rfl) (wp_grd ?_ ?_)))))
        · exact andB_iff.2 ⟨leB_ok (by omega) (by show (k : Int) ≤ ((200 : Nat) : Int); omega), leB_ok (by omega) (by rw [toN_def]; omega)⟩
        · have ht : toN (k : Int) = k := by rw [toN_def]; omega
          rw [cutBase_zero, ht, show subN k 0 = k from rfl]
          exact s_ret ⟨rfl, b, some t', rfl, ⟨by rw [← hob], r2⟩, c2, (r2.all b ha).le (by omega), hz, hbo, .inl ⟨t', rfl, ha⟩⟩

/-- What p.put gives: a block of k numbers. -/
structure PenPu (n : Nat) (h h' : Heap) (p : Option Addr) (s s' : Option PenS) (i b k : Nat) : Prop where
  pen : PenO n h' p s'
  chg : Chg (oM s) h h'
  blk : Blk n h' b k
  zone : ∀ i, oZ s' i → oZ s i ∨ h.size ≤ i
  old : oZ s b ∨ h.size ≤ b
  role : RoleW s' i b
  new : (∃ t, s' = some t ∧ t.ws[i]? = some b) ∨ h.size ≤ b
  ra : ∀ c, c < h.size → RoleA s c → RoleA s' c
  rw : ∀ j c, c < h.size → RoleW s j c → RoleW s' j c

theorem PenPu.fresh {n i : Nat} {h1 h' : Heap} {p : Option Addr} {s : Option PenS} {k : Nat} (hp : PenO n h p s) (hn : n ≤ h.size) (e1 : Ext h h1) (e2 : Ext h1 h') (bl : Blk h1.size h' h1.size k) : PenPu n h h' p s s i h1.size k :=
  ⟨hp.ext (e1.trans e2), Chg.of_ext (e1.trans e2), bl.mono (Nat.le_trans hn e1.size), fun i hi => .inl hi, .inr e1.size, .inr fun hz => by have := (hp.in hz).2; have := e1.size; omega, .inr e1.size, fun _ _ x => x, fun _ _ _ x => x⟩

theorem c_pen_put {n : Nat} {p : Option Addr} {s : Option PenS} {i k : Nat} (hp : PenO n h p s) (hn : n ≤ h.size) (hk : k ≤ 1099511627776) (hi : i < 2 ^ 62) :
    wp P (F_pen_put S p (i : Int) (k : Int)) h fun tg vs h' => tg = 0 ∧ ∃ b s', vs = [slv (slb b k)] ∧ PenPu n h h' p s s' i b k := by
  unfold F_pen_put
  refine bind_bool (p = none ∨ 8 ≤ i ∨ 400 < k) ?_ fun bb h1 e1 hb => wp_ifB (fun hx => ?_) fun hx => ?_
  · cases p with
    | none => exact s_ifT (s_ret ⟨rfl, Ext.refl _, true, rfl, Iff.intro (fun _ => .inl rfl) fun _ => rfl⟩)
    | some a =>
      refine s_ifF (wp_ifB (fun hc => ?_) fun hc => ?_)
      · rw [geI_iff] at hc
        exact s_ret ⟨rfl, Ext.refl _, true, rfl, Iff.intro (fun _ => .inr (.inl (by omega))) fun _ => rfl⟩
      · rw [geI_not] at hc
        exact s_ret ⟨rfl, Ext.refl _, _, rfl, by rw [gtI_iff]; exact Iff.intro (fun h => .inr (.inr (by omega))) fun h => h.elim (fun h => by cases h) fun h => by omega⟩
  · exact s_mkB (size := 1) rfl (by omega) (by omega) fun h2 e2 bl _ => s_ret ⟨rfl, h1.size, s, rfl, PenPu.fresh hp hn e1 e2 (by rw [Nat.mul_one] at bl; exact bl)⟩
  · have hno : ¬ (p = none ∨ 8 ≤ i ∨ 400 < k) := fun h => by rw [hb.2 h] at hx; cases hx
    cases s with
    | none => exact absurd (.inl hp) hno
    | some t =>
      obtain ⟨rfl, r⟩ := hp
      have r1 : PenR n h1 t := (PenO.ext (s := some t) ⟨rfl, r⟩ e1).2
      have hk2 : k ≤ 400 := by omega
      have hi2 : i < 8 := by omega
      have slots := fun (t' : PenS) (h' : Heap) (r' : PenR n h' t') => (cells_iff.1 r'.ob.cells 1 _ rfl : Sw.cell h' ((at0 t'.ob).add 1) = some (slv t'.pu))
      refine wp_whileG (G := PenS) (fun g _ h' => PenR n h' g ∧ g.ob = t.ob ∧ g.all = t.all ∧ (∃ l, g.ws = t.ws ++ l ∧ ∀ x, x ∈ l → h.size ≤ x) ∧ Chg (penM t) h h' ∧ (∀ i, penM g i → penM t i ∨ h.size ≤ i)) (fun g => 8 - g.ws.length)
        (fun tg vs h' => tg = 2 ∧ vs = [] ∧ ∃ g : PenS, PenR n h' g ∧ g.ob = t.ob ∧ g.all = t.all ∧ (∃ l, g.ws = t.ws ++ l ∧ ∀ x, x ∈ l → h.size ≤ x) ∧ Chg (penM t) h h' ∧ (∀ i, penM g i → penM t i ∨ h.size ≤ i) ∧ i < g.ws.length)
        t ⟨r1, rfl, rfl, ⟨[], by simp, by simp⟩, Chg.of_ext e1, fun i hi => .inl hi⟩ ?_ ?_
      · rintro g ⟨⟩ h2 ⟨rg, gob, gall, ⟨gl, gws, gfr⟩, cg, gm⟩
        have hlen : g.pu.len = g.ws.length := by have := rg.pu.1; simpa using this
        have hpc : at0 t.ob = at0 g.ob := by rw [gob]
        rw [hpc]
        refine wp_grd rfl (wp_grd rfl (s_cell (b := .sl) g.pu rfl rg.ob.cells rfl (wp_ifB (fun hc => ?_) fun hc => ?_)))
        · rw [leI_iff, natI_def, hlen] at hc
          refine wp_grd rfl (wp_grd rfl (s_cell (b := .sl) g.pu rfl rg.ob.cells rfl (s_mkB (n := 400) (size := 1) rfl (by decide) (by decide) fun h3 e3 bl sz => ?_)))
          have r3 : PenR n h3 g := (PenO.ext (s := some g) ⟨rfl, rg⟩ e3).2
          refine s_ckC (slots g h3 r3) (fun el => ?_)
          have e4 : Ext h3 (h3.push (.cells [slv (slb h2.size 400)].toArray el)) := Ext.push ..
          have rd4 : Rd 1 (h3.push (.cells [slv (slb h2.size 400)].toArray el)) ⟨some ⟨h3.size, 0, none⟩, 1, 1⟩ [slv (slb h2.size 400)] := rd_alloc rfl
          generalize h3.push (.cells [slv (slb h2.size 400)].toArray el) = h4 at e4 rd4 ⊢
          have r4 : PenR n h4 g := (PenO.ext (s := some g) ⟨rfl, r3⟩ e4).2
          refine s_ckC (slots g h4 r4) ?_
          have s4 := e3.size; have s5 := e4.size; have s6 := cg.1
          refine wp_appendE r4.pu (by omega) rd4 (by intro v hv; rw [List.mem_singleton.1 hv]; rfl) rfl (by dsimp only; omega) (by dsimp only; omega) fun q h5 o5 l5 u5 b5 _ => ?_
          have c5 : Chg (fun i => ∃ a, g.pu.base = some a ∧ a.block = i) h4 h5 := Chg.of_upd u5 fun x hx _ => ⟨x, hx, rfl⟩
          have ob5 := c5.own r4.ob fun x hx ⟨y, hy, e⟩ => by cases hx; exact rg.mm y hy e
          refine wp_grd rfl (wp_grd rfl (s_setC' (slv q) ob5 (by simp) rfl fun h6 o6 u6 => ?_))
          have c6 : Chg (fun i => i = g.ob) h5 h6 := upd_chg u6
          have c46 : Chg (penM g) h4 h6 := (c5.mono fun i _ x => .inr x).trans (c6.mono fun i _ x => .inl x) fun i _ x => x
          have c26 : Chg (penM g) h2 h6 := (Chg.of_ext (e3.trans e4)).trans c46 fun i _ x => x
          have inr := fun i (hi : penM g i ∨ penW g i) => rg.in hi
          have qb : ∀ a, q.base = some a → (g.pu.base = some a ∨ h4.size ≤ a.block) := b5
          have qne : ∀ a, q.base = some a → a.block ≠ g.ob := fun a ha => by
            rcases qb a ha with h | h
            · exact rg.mm a h
            · have := (inr g.ob (.inl (.inl rfl))).2; omega
          refine s_ret ⟨fun _ => ⟨{ g with pu := q, ws := g.ws ++ [h2.size] }, (), rfl, ⟨?_, gob, gall, ⟨gl ++ [h2.size], by rw [gws, List.append_assoc], fun x hx => ?_⟩, ?_, ?_⟩, ?_⟩, fun hh => absurd rfl hh⟩
          · refine ⟨o6, ?_, ?_, ?_, ?_, ?_, ?_, qne, ?_⟩
            · exact fun b hb => (r4.all b hb).chg c46 fun hm => rg.mw b hm (.inl hb)
            · have : Own n 1 h5 q ((g.ws ++ [h2.size]).map fun b => slv (slb b 400)) := by rw [List.map_append]; exact o5
              exact c6.own this fun x hx e => qne x hx e
            · intro b hb
              rcases List.mem_append.1 hb with hb | hb
              · exact (r4.ws b hb).chg c46 fun hm => rg.mw b hm (.inr hb)
              · rw [List.mem_singleton.1 hb]
                refine ((bl.mono (by omega)).keep (e4.2.1 _ (by omega))).chg c46 fun hm => ?_
                have := (inr _ (.inl hm)).2; omega
            · refine List.nodup_append.2 ⟨rg.nd, by simp, fun a ha b hb e => ?_⟩
              rw [List.mem_singleton.1 hb] at e
              have := (inr a (.inr (.inr ha))).2; omega
            · intro b hb hm
              rcases List.mem_append.1 hm with hm | hm
              · exact rg.na b hb hm
              · rw [List.mem_singleton.1 hm] at hb
                have := (inr _ (.inr (.inl hb))).2; omega
            · intro j hj hw
              have hj2 : penM g j ∨ h4.size ≤ j := by
                rcases hj with hj | ⟨a, ha, e⟩
                · exact .inl (.inl hj)
                · rcases qb a ha with h | h
                  · exact .inl (.inr ⟨a, h, e⟩)
                  · exact .inr (by omega)
              rcases hw with hw | hw
              · rcases hj2 with hj2 | hj2
                · exact rg.mw j hj2 (.inl hw)
                · have := (inr j (.inr (.inl hw))).2; omega
              · rcases List.mem_append.1 hw with hw | hw
                · rcases hj2 with hj2 | hj2
                  · exact rg.mw j hj2 (.inr hw)
                  · have := (inr j (.inr (.inr hw))).2; omega
                · rw [List.mem_singleton.1 hw] at hj2
                  rcases hj2 with hj2 | hj2
                  · have := (inr _ (.inl hj2)).2; omega
                  · omega
            · simp only [List.length_append, List.length_singleton]; omega
          · rcases List.mem_append.1 hx with hx | hx
            · exact gfr x hx
            · rw [List.mem_singleton.1 hx]; omega
          · exact cg.trans c26 fun i hi hm => (gm i hm).elim id fun h => by omega
          · rintro j (hj | ⟨a, ha, e⟩)
            · exact gm j (.inl hj)
            · rcases qb a ha with h | h
              · exact gm j (.inr ⟨a, h, e⟩)
              · exact .inr (by omega)
          · simp only [List.length_append, List.length_singleton]; omega
        · rw [leI_not, natI_def, hlen] at hc
          exact s_ret ⟨fun hh => absurd hh (by decide), fun _ => ⟨rfl, rfl, g, rg, gob, gall, ⟨gl, gws, gfr⟩, cg, gm, by omega⟩⟩
      · rintro tg vs h2 ⟨rfl, rfl, g, rg, gob, gall, ⟨gl, gws, gfr⟩, cg, gm, hig⟩
        have hpc : at0 t.ob = at0 g.ob := by rw [gob]
        have hlen : g.pu.len = g.ws.length := by have := rg.pu.1; simpa using this
        obtain ⟨b, hbi⟩ : ∃ b, g.ws[i]? = some b := ⟨g.ws[i]'hig, List.getElem?_eq_getElem hig⟩
        have hbm := List.mem_of_getElem? hbi
        have hcell := (rg.pu.rd.2 i (slv (slb b 400)) (by rw [List.getElem?_map, hbi]; rfl))
        obtain ⟨pa, hpa, hpc2⟩ := hcell
        rw [hpc]
        refine s_tag (s_cast0 (wp_grd rfl (wp_grd rfl (s_cell (b := .sl) g.pu rfl rg.ob.cells rfl (wp_grd ?_ (wp_load1 (b := .sl) (pa.add i) (slb b 400) ?_ hpc2 (wp_grd ?_ ?_)))))))
        · exact andB_iff.2 ⟨by simp [someB, hpa], inB_is.2 ⟨by omega, by omega⟩⟩
        · rw [hpa, shiftTo_some, mulN_def, toN_def, Nat.mul_one]; rfl
        · exact andB_iff.2 ⟨leB_ok (by omega) (by show (k : Int) ≤ ((400 : Nat) : Int); omega), leB_ok (by omega) (by rw [toN_def]; omega)⟩
        · have ht : toN (k : Int) = k := by rw [toN_def]; omega
          rw [cutBase_zero, ht, show subN k 0 = k from rfl]
          have hzz : ∀ j, oZ (some g) j → oZ (some t) j ∨ h.size ≤ j := by
            rintro j (hj | hj | hj)
            · exact (gm j hj).imp .inl id
            · exact .inl (.inr (.inl (by rw [← gall]; exact hj)))
            · rw [gws] at hj
              rcases List.mem_append.1 hj with hj | hj
              · exact .inl (.inr (.inr hj))
              · exact .inr (gfr j hj)
          refine s_ret ⟨rfl, b, some g, rfl, ⟨hpc ▸ rfl, rg⟩, cg, (rg.ws b hbm).le hk2, hzz, hzz b (.inr (.inr hbm)), .inl ⟨g, rfl, hbi⟩, .inl ⟨g, rfl, hbi⟩, ?_, ?_⟩
          · rintro c hc (⟨t', ht', ha⟩ | hz)
            · cases ht'; exact .inl ⟨g, rfl, by rw [gall]; exact ha⟩
            · exact .inr fun hzg => (hzz c hzg).elim hz fun h => by omega
          · rintro j c hc (⟨t', ht', ha⟩ | hz)
            · cases ht'
              refine .inl ⟨g, rfl, ?_⟩
              rw [gws, List.getElem?_append_left (List.getElem?_eq_some_iff.1 ha).1]; exact ha
            · exact .inr fun hzg => (hzz c hzg).elim hz fun h => by omega
end Go.Sw.Piece

set_option linter.unusedVariables false
set_option linter.unusedSimpArgs false
set_option maxRecDepth 100000
namespace Go.Sw.Piece
open Go.Sw.Any Go.Sw.Codec
open Go.Sw.Tree (iv s_putAll s_newP s_getP s_getT s_putP eqI_self Placed cell_own cell_upd1 wp_whileG minI_eq)
variable {P : Program} {S : Ids} {h : Heap} {Q : Nat → List Value → Heap → Prop}

abbrev putLen (e : EdD) : Nat := e.2.2.1.2.length
/-- An edit's list, as it is handed in. -/
def putSl (room : Nat) (e : EdD) (b : Nat) : Sl := if e.2.2.1.1.base = none then ⟨none, 0, 0⟩ else ⟨some (at0 b), putLen e, putLen e + room⟩
abbrev edC (room : Nat) (e : EdD) (b : Nat) : List Value := [i64v e.1, i64v e.2.1, slv (putSl room e b)]
abbrev markC (i : Nat) : List Value := [i64v (-771 - (i : Int)), i64v (-772), .slice none 0 0]
def markE (m k : Nat) : List Int := (List.range k).map fun (j : Nat) => 771 + ((m : Int) + (j : Int))
def putC (room : Nat) (e : EdD) : List Value := (e.2.2.1.2 ++ markE (putLen e) room).map (.int .i64)
theorem markE_len (m k : Nat) : (markE m k).length = k := by simp [markE]
theorem markE_succ (m k : Nat) : markE m (k + 1) = markE m k ++ [771 + ((m : Int) + k)] := by simp [markE, List.range_succ]
theorem putC_len (room : Nat) (e : EdD) : (putC room e).length = putLen e + room := by simp [putC, markE_len]

end Go.Sw.Piece
namespace Go.Sw
open Go.Sw.Piece
open Go.Sw.Any Go.Sw.Codec
open Go.Sw.Tree (iv s_putAll s_newP s_getP s_getT s_putP eqI_self Placed cell_own cell_upd1 wp_whileG minI_eq)
variable {P : Program} {S : Ids} {h : Heap} {Q : Nat → List Value → Heap → Prop}
theorem Chg.cells {F : Nat → Prop} {h' : Heap} {a : Addr} {vs : List Value} (c : Chg F h h') (hc : Cells h a vs) (hF : ¬ F a.block) : Cells h' a vs := cells_iff.2 fun j v hj => by
  have h1 := cells_iff.1 hc j v hj
  have hb : (a.add j).block = a.block := add_block a j
  exact (cell_of_block (h := h) (h' := h') (a := a.add j) (by rw [hb]; exact c.2.1 _ (by have := cell_lt h1; rw [hb] at this; exact this) hF)).trans h1

end Go.Sw
namespace Go.Sw.Piece
open Go.Sw.Any Go.Sw.Codec
open Go.Sw.Tree (iv s_putAll s_newP s_getP s_getT s_putP eqI_self Placed cell_own cell_upd1 wp_whileG minI_eq)
variable {P : Program} {S : Ids} {h : Heap} {Q : Nat → List Value → Heap → Prop}
/-- Values written into a block; all else there stays. -/
theorem s_putB {n b off k : Nat} (new : List Value) {K : Prog} (r : Blk n h b k) (ho : off + new.length ≤ k) (hf : ∀ v ∈ new, flat v = true)
    (hk : ∀ h', Blk n h' b k → Cells h' ⟨b, off, none⟩ new → (∀ j v, (j < off ∨ off + new.length ≤ j) → Sw.cell h ⟨b, j, none⟩ = some v → Sw.cell h' ⟨b, j, none⟩ = some v) → SChg (fun i => i = b) h h' → h'.size = h.size → wp P K h' Q) : wp P (.store (some ⟨b, off, none⟩) new K) h Q := by
  have r0 := r
  obtain ⟨h1, cs, elem, e, hl2⟩ := r
  obtain ⟨w, cs', c1, c2, c3, c4, c5, c6⟩ := puts_block (vs := new) (i := 0) (off := off) e hf (by omega)
  have sc : SChg (fun i => i = b) h (puts h ⟨b, off, none⟩ new) := by
    refine ⟨⟨by unfold puts; omega, fun i hi hne => c6 i hne, fun a e => by unfold puts; rw [thaw_putFrom]; exact e⟩, fun i cs0 el0 k => ?_⟩
    by_cases hi : i = b
    · subst hi
      rw [e] at k; cases k
      exact ⟨cs', c1, c2⟩
    · exact ⟨cs0, by show (puts h _ new)[i]? = _; unfold puts; rw [c6 i hi]; exact k, rfl⟩
  refine ⟨⟨b, off, none⟩, rfl, w, hk _ (r0.schg sc) (cells_iff.2 fun j v hj => ?_) (fun j v hj hc => ?_) sc (by unfold puts; omega)⟩
  · rw [add_mk]
    have := c3 _ _ hj
    show Sw.cell (putFrom h _ _ new) _ = _
    simp [Sw.cell, c1]
    simpa using this
  · have hc' : cs[j]? = some v := by
      unfold Sw.cell at hc
      rw [e] at hc
      simpa using hc
    show Sw.cell (putFrom h _ _ new) _ = _
    simp [Sw.cell, c1]
    rw [c4 j (by omega)]; exact hc'

/-- A list copied into a block, marks behind it. -/
theorem s_fillW {n b room : Nat} {s : Sl} {l : List Int} {K : Nat → List Value → Prog} (hb : Blk n h b (l.length + room)) (hs : Lst .i64 h s l) (hl : l.length + room ≤ 1099511627776)
    (hk : ∀ h', Reg n h' b ((l ++ markE l.length room).map (.int .i64)) → SChg (fun i => i = b) h h' → h'.size = h.size → wp P (K 4 []) h' Q) :
    wp P (.copy 1 (slb b (l.length + room)) s fun _ => .bind (.loop [.one (.int .i64)] (natI s.len, ()) fun (r : Int × Unit) =>
      ifB (ltI r.1 (natI (l.length + room))) (grd (andB (someB (some (at0 b))) (inB r.1 (l.length + room))) <| .store (shiftTo (some (at0 b)) (mulN (toN r.1) 1)) [.int .i64 (addI .i64 771 r.1)] <| .ret 0 [.int .i64 (addI .i64 r.1 1)]) <| .ret 4 []) K) h Q := by
  have hsl := hs.len
  obtain ⟨vs, hvl, rv⟩ := hb.reg
  have hv2 : vs = vs.take l.length ++ vs.drop l.length := (List.take_append_drop ..).symm
  rw [hv2] at rv
  refine s_copyR rv hs (by rw [List.length_take]; omega) (by omega) fun h1 r1 c1 z1 => ?_
  refine wp_while (fun (r : Int × Unit) h' => ∃ c, c ≤ room ∧ r.1 = ((l.length + c : Nat) : Int) ∧ ∃ rest : List Value, rest.length = room - c ∧ Reg n h' b ((l ++ markE l.length c).map (.int .i64) ++ rest) ∧ SChg (fun i => i = b) h h' ∧ h'.size = h.size) (fun r _ => (l.length + room - r.1).toNat)
    (fun tg vs h' => tg = 4 ∧ vs = [] ∧ Reg n h' b ((l ++ markE l.length room).map (.int .i64)) ∧ SChg (fun i => i = b) h h' ∧ h'.size = h.size) ⟨0, Nat.zero_le _, by rw [natI_def, hsl]; rfl, vs.drop l.length, by rw [List.length_drop]; omega, by simpa [markE] using r1, c1, z1⟩ ?_ ?_
  · rintro ⟨(r : Int), u⟩ h2 ⟨c, hc, hr, rest, hrl, rg, cg, zg⟩
    dsimp only at hr ⊢
    subst hr
    refine wp_ifB (fun hx => ?_) fun hx => ?_
    · rw [ltI_iff, natI_def] at hx
      obtain ⟨v0, rest', rfl⟩ : ∃ v0 rest', rest = v0 :: rest' := by
        cases rest with
        | nil => simp at hrl; omega
        | cons v r => exact ⟨v, r, rfl⟩
      refine wp_grd (andB_iff.2 ⟨rfl, inB_is.2 ⟨by omega, by omega⟩⟩) ?_
      rw [shiftTo_some, mulN_def, toN_def, Nat.mul_one, add_mk, Nat.zero_add, Int.toNat_natCast]
      have rg' : Reg n h2 b ((l ++ markE l.length c).map (.int .i64) ++ [v0] ++ rest') := by simpa using rg
      rw [add_ok (by omega) (by omega)]
      refine s_putR [.int .i64 (771 + ((l.length + c : Nat) : Int))] rg' (by simp [markE_len]) rfl (by intro v hv; rw [List.mem_singleton.1 hv]; rfl) fun h3 r3 c3 z3 => ?_
      rw [add_ok (by omega) (by omega)]
      refine s_ret ⟨fun _ => ⟨(_, ()), rfl, ⟨c + 1, by omega, by dsimp only; omega, rest', by simp at hrl; omega, ?_, cg.trans c3 fun _ _ x => x, by omega⟩, by dsimp only; omega⟩, fun hh => absurd rfl hh⟩
      rw [markE_succ, ← List.append_assoc, List.map_append]
      have e : (771 + (((l.length + c : Nat) : Int)) : Int) = 771 + ((l.length : Int) + c) := by omega
      rw [e] at r3
      exact r3
    · rw [ltI_not, natI_def] at hx
      have : c = room := by omega
      subst this
      exact s_ret ⟨fun hh => absurd hh (by decide), fun _ => ⟨rfl, rfl, rg.pre, cg, zg⟩⟩
  · rintro tg vs h2 ⟨rfl, rfl, r2, c2, z2⟩
    exact hk h2 r2 c2 z2

/-- While edits are written down: so many of them (i; k have their lists). -/
structure HI (n : Nat) (h0 : Heap) (p : Option Addr) (s0 : Option PenS) (x : Eds) (room hb a2 i k : Nat) (h : Heap) (s : Option PenS) (ws : List Nat) (pu : Sl) : Prop where
  chg : Chg (oZ s0) h0 h
  pen : PenO n h p s
  zone : ∀ i, oZ s i → oZ s0 i ∨ h0.size ≤ i
  ob : Own h0.size 1 h ⟨some (at0 a2), 3, 3⟩ [i64v room, slv (slb hb (x.2.length + room)), slv pu]
  obz : ¬ oZ s a2
  obb : a2 ≠ hb ∧ a2 ∉ ws
  blk : Blk n h hb ((x.2.length + room) * 3)
  ra : RoleA s hb
  old : ∀ b, b = hb ∨ b ∈ ws → oZ s0 b ∨ h0.size ≤ b
  len : ws.length = k
  le : k ≤ x.2.length
  el : ∀ (j : Nat) (e : EdD) (b : Nat), j < i → x.2[j]? = some e → ws[j]? = some b → Cells h ⟨hb, j * 3, none⟩ (edC room e b)
  w : ∀ (j : Nat) (e : EdD) (b : Nat), x.2[j]? = some e → ws[j]? = some b → Reg n h b (putC room e)
  rw : ∀ (j b : Nat), ws[j]? = some b → RoleW s j b
  nd : (hb :: ws).Nodup
  put : ∃ vs : List Value, Own h0.size 1 h pu vs ∧ vs.length = k ∧ ∀ (j : Nat) (e : EdD) (b : Nat), x.2[j]? = some e → ws[j]? = some b → vs[j]? = some (slv (slb b (putLen e + room)))
  pub : ∀ a, pu.base = some a → a.block ≠ hb ∧ a.block ∉ ws ∧ ¬ oZ s a.block ∧ a.block ≠ a2

variable {n : Nat} {h0 : Heap} {p : Option Addr} {s0 : Option PenS} {x : Eds} {room hb a2 i k : Nat} {s : Option PenS} {ws : List Nat} {pu : Sl}
theorem HI.has (hi : HI n h0 p s0 x room hb a2 i k h s ws pu) {j b : Nat} (hj : ws[j]? = some b) : ∃ e, x.2[j]? = some e ∧ Reg n h b (putC room e) := by
  have h1 := (List.getElem?_eq_some_iff.1 hj).1
  have h2 := hi.len; have h3 := hi.le
  obtain ⟨e, he⟩ : ∃ e, x.2[j]? = some e := ⟨x.2[j]'(by omega), List.getElem?_eq_getElem (by omega)⟩
  exact ⟨e, he, hi.w j e b he hj⟩
theorem HI.wlt (hi : HI n h0 p s0 x room hb a2 i k h s ws pu) {b : Nat} (hb : b ∈ ws) : b < h.size := by
  obtain ⟨j, hj⟩ := List.getElem?_of_mem hb
  obtain ⟨e, he, r⟩ := hi.has hj
  exact r.lt
/-- What does not touch it leaves it as it is. -/
theorem HI.keep {F : Nat → Prop} {h' : Heap} (hi : HI n h0 p s0 x room hb a2 i k h s ws pu) (c : Chg F h h') (pen' : PenO n h' p s) (hF : ∀ i, F i → i ≠ a2 ∧ i ≠ hb ∧ i ∉ ws ∧ (∀ a, pu.base = some a → a.block ≠ i) ∧ (oZ s0 i ∨ h0.size ≤ i)) :
    HI n h0 p s0 x room hb a2 i k h' s ws pu where
  chg := hi.chg.trans c fun i hl f => (hF i f).2.2.2.2.elim id fun h => by omega
  pen := pen'
  zone := hi.zone
  ob := c.own hi.ob fun y hy f => by cases hy; exact (hF _ f).1 rfl
  obz := hi.obz
  obb := hi.obb
  blk := hi.blk.chg c fun f => (hF _ f).2.1 rfl
  ra := hi.ra
  old := hi.old
  len := hi.len
  le := hi.le
  el := fun j e b hj he hb' => c.cells (hi.el j e b hj he hb') fun f => (hF _ f).2.1 rfl
  w := fun j e b he hb' => (hi.w j e b he hb').chg c fun f => (hF _ f).2.2.1 (List.mem_of_getElem? hb')
  rw := hi.rw
  nd := hi.nd
  put := let ⟨vs, o, l, g⟩ := hi.put; ⟨vs, c.own o fun y hy f => (hF _ f).2.2.2.1 y hy rfl, l, g⟩
  pub := hi.pub
theorem HI.ext {h' : Heap} (hi : HI n h0 p s0 x room hb a2 i k h s ws pu) (e : Ext h h') : HI n h0 p s0 x room hb a2 i k h' s ws pu :=
  hi.keep (Chg.of_ext (F := fun _ => False) e) (hi.pen.ext e) fun _ f => f.elim
/-- The pen gave a block for one more list. -/
structure NewW (n : Nat) (h0 : Heap) (s0 : Option PenS) (hb a2 : Nat) (s : Option PenS) (ws : List Nat) (pu : Sl) (k b : Nat) : Prop where
  role : RoleW s k b
  na : b ≠ a2 ∧ b ≠ hb ∧ b ∉ ws ∧ (∀ a, pu.base = some a → a.block ≠ b)
  old : oZ s0 b ∨ h0.size ≤ b
theorem HI.penput {h1 : Heap} {s' : Option PenS} {b m : Nat} (hi : HI n h0 p s0 x room hb a2 i k h s ws pu) (pp : PenPu n h h1 p s s' k b m) :
    HI n h0 p s0 x room hb a2 i k h1 s' ws pu ∧ NewW n h0 s0 hb a2 s' ws pu k b := by
  have zz : ∀ j, j < h.size → oZ s' j → oZ s j := fun j hj hz => (pp.zone j hz).elim id fun h => by omega
  have al : a2 < h.size := (hi.ob.lt rfl).2
  have pl : ∀ a, pu.base = some a → a.block < h.size := fun a ha => by obtain ⟨vs, o, _⟩ := hi.put; exact (o.lt ha).2
  have sz := hi.chg.1
  have obz' : ¬ oZ s' a2 := fun hz => hi.obz (zz _ al hz)
  have ra' := pp.ra hb hi.blk.lt hi.ra
  have rw' : ∀ j b, ws[j]? = some b → RoleW s' j b := fun j b hj => pp.rw j b (hi.wlt (List.mem_of_getElem? hj)) (hi.rw j b hj)
  have pz : ∀ a, pu.base = some a → ¬ oZ s' a.block := fun a ha hz => (hi.pub a ha).2.2.1 (zz _ (pl a ha) hz)
  refine ⟨⟨hi.chg.trans pp.chg fun j hj hm => (hi.zone j (oM_Z hm)).elim id fun h => by omega, pp.pen, fun j hz => (pp.zone j hz).elim (hi.zone j) fun h => .inr (by omega), pp.chg.own hi.ob fun y hy hm => by cases hy; exact hi.obz (oM_Z hm), obz', hi.obb, hi.blk.chg pp.chg (hi.ra.notM hi.pen), ra', hi.old, hi.len, hi.le, fun j e b hj he hb' => pp.chg.cells (hi.el j e b hj he hb') (hi.ra.notM hi.pen), fun j e b he hb' => (hi.w j e b he hb').chg pp.chg ((hi.rw j b hb').notM hi.pen), rw', hi.nd, ?_, fun a ha => ?_⟩, pp.role, ?_, ?_⟩
  · obtain ⟨vs, o, l, g⟩ := hi.put
    exact ⟨vs, pp.chg.own o fun y hy hm => (hi.pub y hy).2.2.1 (oM_Z hm), l, g⟩
  · have := hi.pub a ha; exact ⟨this.1, this.2.1, pz a ha, this.2.2.2⟩
  · rcases pp.new with ⟨t, rfl, ht⟩ | hn
    · have hzb : oZ (some t) b := .inr (.inr (List.mem_of_getElem? ht))
      have pn := pp.pen.2
      refine ⟨fun e => obz' (e ▸ hzb), fun e => ?_, fun hm => ?_, fun a ha e => pz a ha (e ▸ hzb)⟩
      · rcases ra' with ⟨t', ht', ha⟩ | hz
        · cases ht'; exact pn.na hb ha (e ▸ List.mem_of_getElem? ht)
        · exact hz (e ▸ hzb)
      · obtain ⟨j, hj⟩ := List.getElem?_of_mem hm
        have hjk := (List.getElem?_eq_some_iff.1 hj).1
        have hlen := hi.len
        rcases rw' j b hj with ⟨t', ht', hw⟩ | hz
        · cases ht'
          have h1 := List.getElem?_eq_some_iff.1 hw
          have h2 := List.getElem?_eq_some_iff.1 ht
          have := (List.getElem?_inj h1.1 pn.nd).1 (hw.trans ht.symm)
          omega
        · exact hz hzb
    · exact ⟨by omega, by have := hi.blk.lt; omega, fun hm => by have := hi.wlt hm; omega, fun a ha e => by have := pl a ha; omega⟩
  · exact pp.old.elim (hi.zone b) fun h => .inr (by omega)
/-- The block was filled. -/
theorem HI.fill {h' : Heap} {b : Nat} (hi : HI n h0 p s0 x room hb a2 i k h s ws pu) (nw : NewW n h0 s0 hb a2 s ws pu k b) (c : SChg (fun i => i = b) h h') : HI n h0 p s0 x room hb a2 i k h' s ws pu :=
  hi.keep c.1 (hi.pen.schg c fun j hm e => nw.role.notM hi.pen (e ▸ hm)) fun j e => by subst e; exact ⟨nw.na.1, nw.na.2.1, nw.na.2.2.1, nw.na.2.2.2, nw.old⟩

/-- Its list is written down among the lists. -/
theorem s_pushW {e : EdD} {b : Nat} {K : Prog} (hi : HI n h0 p s0 x room hb a2 i k h s ws pu) (nw : NewW n h0 s0 hb a2 s ws pu k b) (he : x.2[k]? = some e) (hr : Reg n h b (putC room e)) (hn : n ≤ h0.size) (hx : x.2.length ≤ 1073741824) (hik : i ≤ k)
    (hk : ∀ h' pu', HI n h0 p s0 x room hb a2 i (k + 1) h' s (ws ++ [b]) pu' → wp P K h' Q) :
    wp P (.load (.one .sl) (shiftTo (some (at0 a2)) 2) fun (l : Sl) => .alloc [slv (slb b (putLen e + room))] fun (c : Addr) => .append 1 24 [.slice none 0 0] l ⟨some c, 1, 1⟩ fun (r : Sl) => .store (shiftTo (some (at0 a2)) 2) [slv r] K) h Q := by
  obtain ⟨vs, o, lv, gv⟩ := hi.put
  have hlt := (List.getElem?_eq_some_iff.1 he).1
  have hpl : pu.len = k := by have := o.1; rw [Nat.mul_one] at this; omega
  refine s_cell (b := .sl) pu rfl hi.ob.cells rfl (fun el => ?_)
  have e1 : Ext h (h.push (.cells [slv (slb b (putLen e + room))].toArray el)) := Ext.push ..
  have rd1 : Rd 1 (h.push (.cells [slv (slb b (putLen e + room))].toArray el)) ⟨some ⟨h.size, 0, none⟩, 1, 1⟩ [slv (slb b (putLen e + room))] := rd_alloc rfl
  generalize h.push (.cells [slv (slb b (putLen e + room))].toArray el) = h1 at e1 rd1 ⊢
  have hi1 := hi.ext e1
  have s1 := e1.size; have s0' := hi.chg.1
  refine wp_appendE (o.ext e1) (by omega) rd1 (by intro v hv; rw [List.mem_singleton.1 hv]; rfl) rfl (by dsimp only; omega) (by dsimp only; omega) fun q h2 o2 l2 u2 b2 _ => ?_
  have c2 : Chg (fun i => ∃ a, pu.base = some a ∧ a.block = i) h1 h2 := Chg.of_upd u2 fun y hy _ => ⟨y, hy, rfl⟩
  have qb : ∀ a, q.base = some a → (pu.base = some a ∨ h1.size ≤ a.block) := b2
  have al : a2 < h.size := (hi.ob.lt rfl).2
  have bl := hr.lt
  have pne : ∀ y, pu.base = some y → y.block ≠ a2 ∧ y.block ≠ hb ∧ y.block ∉ ws ∧ y.block ≠ b ∧ ¬ oZ s y.block := fun y hy => ⟨(hi.pub y hy).2.2.2, (hi.pub y hy).1, (hi.pub y hy).2.1, nw.na.2.2.2 y hy, (hi.pub y hy).2.2.1⟩
  have qne : ∀ y, q.base = some y → y.block ≠ a2 ∧ y.block ≠ hb ∧ y.block ∉ ws ∧ y.block ≠ b ∧ ¬ oZ s y.block := fun y hy => by
    rcases qb y hy with h | h
    · exact pne y h
    · exact ⟨by omega, by have := hi.blk.lt; omega, fun hm => by have := hi.wlt hm; omega, by omega, fun hz => by have := (hi.pen.in hz).2; omega⟩
  have ob2 := c2.own hi1.ob fun y hy ⟨z, hz, e⟩ => by cases hy; exact (pne z hz).1 e
  refine s_setC' (slv q) ob2 (by simp) rfl fun h3 o3 u3 => ?_
  have c3 : Chg (fun i => i = a2) h2 h3 := upd_chg u3
  have c13 : Chg (fun i => i = a2 ∨ ∃ a, pu.base = some a ∧ a.block = i) h1 h3 := (c2.mono fun i _ x => .inr x).trans (c3.mono fun i _ x => .inl x) fun i _ x => x
  have hF : ∀ i, (i = a2 ∨ ∃ a, pu.base = some a ∧ a.block = i) → i ≠ hb ∧ i ∉ ws ∧ i ≠ b ∧ ¬ oZ s i ∧ h0.size ≤ i := by
    rintro i (rfl | ⟨a, ha, rfl⟩)
    · exact ⟨hi.obb.1, hi.obb.2, nw.na.1.symm, hi.obz, (hi.ob.lt rfl).1⟩
    · exact ⟨(pne a ha).2.1, (pne a ha).2.2.1, (pne a ha).2.2.2.1, (pne a ha).2.2.2.2, (o.lt ha).1⟩
  refine hk h3 q ⟨hi1.chg.trans c13 fun i hl f => ?_, hi1.pen.chg c13 fun i hz f => (hF i f).2.2.2.1 hz, hi.zone, o3, hi.obz, ⟨hi.obb.1, fun hm => ?_⟩, hi1.blk.chg c13 fun f => (hF _ f).1 rfl, hi.ra, fun c hc => ?_, by simp [hi.len], by omega, fun j e' b' hj he' hb' => ?_, fun j e' b' he' hb' => ?_, fun j b' hb' => ?_, ?_, ⟨vs ++ [slv (slb b (putLen e + room))], c3.own o2 fun y hy f => (qne y hy).1 f, by simp [lv], fun j e' b' he' hb' => ?_⟩, fun a ha => ?_⟩
  · have := (hF i f).2.2.2.2; omega
  · rcases List.mem_append.1 hm with hm | hm
    · exact hi.obb.2 hm
    · exact nw.na.1 (List.mem_singleton.1 hm).symm
  · rcases hc with hc | hc
    · exact hi.old c (.inl hc)
    · rcases List.mem_append.1 hc with hc | hc
      · exact hi.old c (.inr hc)
      · rw [List.mem_singleton.1 hc]; exact nw.old
  · have hj2 : j < ws.length := by have := hi.len; omega
    rw [List.getElem?_append_left hj2] at hb'
    exact c13.cells (hi1.el j e' b' hj he' hb') fun f => (hF _ f).1 rfl
  · by_cases hj2 : j < ws.length
    · rw [List.getElem?_append_left hj2] at hb'
      exact (hi1.w j e' b' he' hb').chg c13 fun f => (hF _ f).2.1 (List.mem_of_getElem? hb')
    · rw [List.getElem?_append_right (by omega)] at hb'
      have hj3 : j - ws.length = 0 := by have := (List.getElem?_eq_some_iff.1 hb').1; simp at this; omega
      rw [hj3] at hb'
      have hjk : j = k := by have := hi.len; omega
      subst hjk
      rw [he] at he'; cases he'
      have : b = b' := by simpa using hb'
      subst this
      exact (hr.ext e1).chg c13 fun f => (hF _ f).2.2.1 rfl
  · by_cases hj2 : j < ws.length
    · rw [List.getElem?_append_left hj2] at hb'
      exact hi.rw j b' hb'
    · rw [List.getElem?_append_right (by omega)] at hb'
      have hj3 : j - ws.length = 0 := by have := (List.getElem?_eq_some_iff.1 hb').1; simp at this; omega
      rw [hj3] at hb'
      have hjk : j = k := by have := hi.len; omega
      subst hjk
      have : b = b' := by simpa using hb'
      subst this
      exact nw.role
  · have := hi.nd
    rw [List.nodup_cons] at this ⊢
    refine ⟨fun hm => ?_, List.nodup_append.2 ⟨this.2, by simp, fun a ha c hc e => ?_⟩⟩
    · rcases List.mem_append.1 hm with hm | hm
      · exact this.1 hm
      · exact nw.na.2.1 (List.mem_singleton.1 hm).symm
    · rw [List.mem_singleton.1 hc] at e; exact nw.na.2.2.1 (e ▸ ha)
  · by_cases hj2 : j < ws.length
    · rw [List.getElem?_append_left hj2] at hb'
      rw [List.getElem?_append_left (by have := hi.len; omega)]
      exact gv j e' b' he' hb'
    · rw [List.getElem?_append_right (by omega)] at hb'
      have hj3 : j - ws.length = 0 := by have := (List.getElem?_eq_some_iff.1 hb').1; simp at this; omega
      rw [hj3] at hb'
      have hjk : j = k := by have := hi.len; omega
      subst hjk
      rw [he] at he'; cases he'
      have : b = b' := by simpa using hb'
      subst this
      rw [List.getElem?_append_right (by omega), lv]; simp
  · have := qne a ha
    refine ⟨this.2.1, fun hm => ?_, this.2.2.2.2, this.1⟩
    rcases List.mem_append.1 hm with hm | hm
    · exact this.2.2.1 hm
    · exact this.2.2.2.1 (List.mem_singleton.1 hm)

/-- The edit itself is written down. -/
theorem HI.wrote {h' : Heap} {e : EdD} {b : Nat} (hi : HI n h0 p s0 x room hb a2 i (i + 1) h s ws pu) (he : x.2[i]? = some e) (hb' : ws[i]? = some b) (bl : Blk n h' hb ((x.2.length + room) * 3)) (hc : Cells h' ⟨hb, i * 3, none⟩ (edC room e b))
    (hold : ∀ j v, (j < i * 3 ∨ i * 3 + 3 ≤ j) → Sw.cell h ⟨hb, j, none⟩ = some v → Sw.cell h' ⟨hb, j, none⟩ = some v) (c : SChg (fun i => i = hb) h h') : HI n h0 p s0 x room hb a2 (i + 1) (i + 1) h' s ws pu where
  chg := hi.chg.trans c.1 fun j hl f => by subst f; exact (hi.old j (.inl rfl)).elim id fun h => by omega
  pen := hi.pen.schg c fun j hm f => hi.ra.notM hi.pen (f ▸ hm)
  zone := hi.zone
  ob := c.1.own hi.ob fun y hy f => by cases hy; exact hi.obb.1 f
  obz := hi.obz
  obb := hi.obb
  blk := bl
  ra := hi.ra
  old := hi.old
  len := hi.len
  le := hi.le
  el := fun j e' b' hj he' hb'' => by
    by_cases hji : j = i
    · subst hji
      rw [he] at he'; cases he'
      rw [hb'] at hb''; cases hb''
      exact hc
    · have := hi.el j e' b' (by omega) he' hb''
      refine cells_iff.2 fun q v hq => ?_
      have h1 := cells_iff.1 this q v hq
      have hq3 : q < 3 := (List.getElem?_eq_some_iff.1 hq).1
      rw [add_mk] at h1 ⊢
      exact hold _ v (by omega) h1
  w := fun j e' b' he' hb'' => (hi.w j e' b' he' hb'').chg c.1 fun f => by have := hi.nd; rw [List.nodup_cons] at this; exact this.1 (f ▸ List.mem_of_getElem? hb'')
  rw := hi.rw
  nd := hi.nd
  put := let ⟨vs, o, l, g⟩ := hi.put; ⟨vs, c.1.own o fun y hy f => (hi.pub y hy).1 f, l, g⟩
  pub := hi.pub
end Go.Sw.Piece

set_option linter.unusedVariables false
set_option linter.unusedSimpArgs false
set_option maxRecDepth 100000
namespace Go.Sw.Piece
open Go.Sw.Any Go.Sw.Codec
open Go.Sw.Tree (iv s_putAll s_newP s_getP s_getT s_putP eqI_self Placed cell_own cell_upd1 wp_whileG minI_eq)
variable {P : Program} {S : Ids} {h : Heap} {Q : Nat → List Value → Heap → Prop}
variable {n : Nat} {h0 : Heap} {p : Option Addr} {s0 : Option PenS} {x : Eds} {room hb a2 i k : Nat} {s : Option PenS} {ws : List Nat} {pu : Sl}

/-- Edits in the hand. -/
structure HandR (n : Nat) (h : Heap) (x : Eds) (room hb : Nat) (ws : List Nat) (pu : Sl) : Prop where
  len : ws.length = x.2.length
  blk : Blk n h hb ((x.2.length + room) * 3)
  el : ∀ (j : Nat) (e : EdD) (b : Nat), x.2[j]? = some e → ws[j]? = some b → Cells h ⟨hb, j * 3, none⟩ (edC room e b)
  mks : ∀ j : Nat, j < room → Cells h ⟨hb, (x.2.length + j) * 3, none⟩ (markC (x.2.length + j))
  w : ∀ (j : Nat) (e : EdD) (b : Nat), x.2[j]? = some e → ws[j]? = some b → Reg n h b (putC room e)
  nd : (hb :: ws).Nodup
  put : ∃ vs : List Value, Own n 1 h pu vs ∧ vs.length = x.2.length ∧ ∀ (j : Nat) (e : EdD) (b : Nat), x.2[j]? = some e → ws[j]? = some b → vs[j]? = some (slv (slb b (putLen e + room)))
  pub : ∀ a, pu.base = some a → a.block ≠ hb ∧ a.block ∉ ws
theorem HandR.keep {F : Nat → Prop} {h' : Heap} (r : HandR n h x room hb ws pu) (c : Chg F h h') (hF : ∀ i, F i → i ≠ hb ∧ i ∉ ws ∧ ∀ a, pu.base = some a → a.block ≠ i) : HandR n h' x room hb ws pu where
  len := r.len
  blk := r.blk.chg c fun f => (hF _ f).1 rfl
  el := fun j e b he hb' => c.cells (r.el j e b he hb') fun f => (hF _ f).1 rfl
  mks := fun j hj => c.cells (r.mks j hj) fun f => (hF _ f).1 rfl
  w := fun j e b he hb' => (r.w j e b he hb').chg c fun f => (hF _ f).2.1 (List.mem_of_getElem? hb')
  nd := r.nd
  put := let ⟨vs, o, l, g⟩ := r.put; ⟨vs, c.own o fun y hy f => (hF _ f).2.2 y hy rfl, l, g⟩
  pub := r.pub
theorem HandR.ext {h' : Heap} (r : HandR n h x room hb ws pu) (e : Ext h h') : HandR n h' x room hb ws pu := r.keep (Chg.of_ext (F := fun _ => False) e) fun _ f => f.elim

theorem s_ckF {x : Eds} {e : EdD} {i f : Nat} {v : Value} {K : Prog} (ok : (Sh.list EdSh).ok h x) (he : x.2[i]? = some e) (hv : (EdSh.cells e)[f]? = some v) (hk : wp P K h Q) :
    wp P (.check (shiftTo (shiftTo x.1.base (mulN (toN (i : Int)) 3)) f) [v] K) h Q := by
  obtain ⟨a, ea, c, _⟩ := ok.2.2.2 i e he
  rw [ea, shiftTo_some, mulN_def, toN_def, Int.toNat_natCast]
  exact s_ckC (cells_iff.1 c f v hv) hk

/-- A mark behind the edits. -/
theorem HI.marked {h' : Heap} {off : Nat} (hi : HI n h0 p s0 x room hb a2 x.2.length x.2.length h s ws pu) (ho : x.2.length * 3 ≤ off) (bl : Blk n h' hb ((x.2.length + room) * 3))
    (hold : ∀ j v, (j < off ∨ off + 3 ≤ j) → Sw.cell h ⟨hb, j, none⟩ = some v → Sw.cell h' ⟨hb, j, none⟩ = some v) (c : SChg (fun i => i = hb) h h') : HI n h0 p s0 x room hb a2 x.2.length x.2.length h' s ws pu where
  chg := hi.chg.trans c.1 fun j hl f => by subst f; exact (hi.old j (.inl rfl)).elim id fun h => by omega
  pen := hi.pen.schg c fun j hm f => hi.ra.notM hi.pen (f ▸ hm)
  zone := hi.zone
  ob := c.1.own hi.ob fun y hy f => by cases hy; exact hi.obb.1 f
  obz := hi.obz
  obb := hi.obb
  blk := bl
  ra := hi.ra
  old := hi.old
  len := hi.len
  le := hi.le
  el := fun j e' b' hj he' hb'' => by
    have := hi.el j e' b' hj he' hb''
    refine cells_iff.2 fun q v hq => ?_
    have h1 := cells_iff.1 this q v hq
    have hq3 : q < 3 := (List.getElem?_eq_some_iff.1 hq).1
    rw [add_mk] at h1 ⊢
    exact hold _ v (by omega) h1
  w := fun j e' b' he' hb'' => (hi.w j e' b' he' hb'').chg c.1 fun f => by have := hi.nd; rw [List.nodup_cons] at this; exact this.1 (f ▸ List.mem_of_getElem? hb'')
  rw := hi.rw
  nd := hi.nd
  put := let ⟨vs, o, l, g⟩ := hi.put; ⟨vs, c.1.own o fun y hy f => (hi.pub y hy).1 f, l, g⟩
  pub := hi.pub

def roomOf (m : Nat) : Nat := if 64 < m then 2 else 100
theorem room_le (m : Nat) : 2 ≤ roomOf m ∧ roomOf m ≤ 100 := by unfold roomOf; split <;> omega

theorem c_hand {x : Eds} (hp : PenO n h p s) (hn : n ≤ h.size) (hok : ∀ h', Keep n h h' → (Sh.list EdSh).ok h' x) (hL : x.2.length ≤ 1073741824) (hPL : ∀ e, e ∈ x.2 → putLen e ≤ 1073741824) :
    wp P (F_law5_hand S p x.1) h fun tg vs h' => tg = 0 ∧ ∃ hb ws pu s', vs = [.agg #[i64v (roomOf x.2.length), slv (slb hb (x.2.length + roomOf x.2.length)), slv pu]] ∧ HandR n h' x (roomOf x.2.length) hb ws pu ∧ Chg (oZ s) h h' ∧ PenO n h' p s' ∧
      (∀ i, oZ s' i → oZ s i ∨ h.size ≤ i) ∧ (∀ b, b = hb ∨ b ∈ ws → (oZ s b ∨ h.size ≤ b) ∧ ¬ oM s' b) ∧ ∀ a, pu.base = some a → h.size ≤ a.block ∧ ¬ oZ s' a.block := by
  unfold F_law5_hand
  have xlen := (hok h (Keep.refl _ _)).len
  have hroom := room_le x.2.length
  generalize hrm : roomOf x.2.length = room at *
  refine s_newO (bs := [.int .i64, .sl, .sl]) (0, ⟨none, 0, 0⟩, ⟨none, 0, 0⟩, ()) (by decide) fun h1 e1 o1 => ?_
  refine s_putO (bs := [.int .i64, .sl, .sl]) (z := (0, ⟨none, 0, 0⟩, ⟨none, 0, 0⟩, ())) (100, ⟨none, 0, 0⟩, ⟨none, 0, 0⟩, ()) (by decide) (by intro v hv; simp only [Bs.inj, List.mem_cons, List.not_mem_nil, or_false] at hv; rcases hv with rfl | rfl | rfl <;> rfl) fun h2 e2 o2 => ?_
  have o2 : Own h1.size 1 h2 ⟨some (at0 h1.size), 3, 3⟩ [i64v 100, .slice none 0 0, .slice none 0 0] := o2
  have q1 : h.size < h1.size := (o1.lt rfl).2
  have q2 : h1.size < h2.size := (o2.lt rfl).2
  have hp1 := hp.ext e1
  have zin : ∀ j, oZ s j → n ≤ j ∧ j < h.size := fun j hz => hp.in hz
  have kp : ∀ {h'}, Chg (oZ s) h1 h' → Keep n h h' := fun c => Keep.trans (e1.keep hn) (c.keep (by omega) fun j hj hz => by have := (zin j hz).1; omega)
  refine wp_bind (fun tg vs h' => tg = 0 ∧ vs = [] ∧ Ext h1 h' ∧ Own h1.size 1 h' ⟨some (at0 h1.size), 3, 3⟩ [i64v room, .slice none 0 0, .slice none 0 0]) ?_ ?_
  · refine wp_ifB (fun hc => ?_) fun hc => ?_
    · rw [gtI_iff, natI_def, xlen] at hc
      have : room = 2 := by rw [← hrm]; unfold roomOf; rw [if_pos (by omega)]
      subst this
      exact s_setC' (.int .i64 2) o2 (by simp) rfl fun h3 o3 u3 => s_ret ⟨rfl, rfl, Upd.extN e2 u3 (by intro y hy; cases hy; exact Nat.le_refl _), o3⟩
    · rw [gtI_not, natI_def, xlen] at hc
      have : room = 100 := by rw [← hrm]; unfold roomOf; rw [if_neg (by omega)]
      subst this
      exact s_ret ⟨rfl, rfl, e2, o2⟩
  rintro tg vs h3 ⟨rfl, rfl, e3, o3⟩
  have q3 : h1.size < h3.size := (o3.lt rfl).2
  refine s_tag (s_cast0 (s_cell (b := .int .i64) (a := at0 h1.size) (room : Int) rfl o3.cells rfl ?_))
  have hadd : addI .i64 (natI x.1.len) (room : Int) = ((x.2.length + room : Nat) : Int) := by rw [natI_def, xlen, add_ok (by omega) (by omega)]; omega
  rw [hadd]
  have hp3 := hp1.ext e3
  refine wp_callW (c_pen_edits hp3 (by omega) (by omega)) fun tg vs h4 ⟨ht, hb, s1, hv, pe⟩ => ⟨ht, (slb hb (x.2.length + room), ()), hv, ?_⟩
  have o4 := pe.chg.own o3 fun y hy hm => by cases hy; have := (zin _ (oM_Z hm)).2; dsimp only at this; omega
  have q4 := pe.chg.1
  refine s_setC' (slv (slb hb (x.2.length + room))) o4 (by simp) rfl fun h5 o5 u5 => ?_
  have c5 : Chg (fun i => i = h1.size) h4 h5 := upd_chg u5
  have a2b : h1.size ≠ hb := by
    rcases pe.old with h | h
    · have := (zin _ h).2; omega
    · omega
  have a2z : ¬ oZ s1 h1.size := fun hz => by
    rcases pe.zone _ hz with h | h
    · have := (zin _ h).2; omega
    · omega
  have HI0 : HI n h1 p s x room hb h1.size 0 0 h5 s1 [] ⟨none, 0, 0⟩ := by
    refine ⟨?_, pe.pen.chg c5 fun j hz f => a2z (f ▸ hz), fun j hz => (pe.zone j hz).imp id fun h => by omega, o5, a2z, ⟨a2b, by simp⟩, pe.blk.chg c5 fun f => a2b f.symm, pe.role, fun b hb' => ?_, rfl, Nat.zero_le _, fun j e b hj => by omega, fun j e b _ hb' => by simp at hb', fun j b hb' => by simp at hb', by simp, ⟨[], Own.nil _ _ _, rfl, fun j e b _ hb' => by simp at hb'⟩, fun a ha => by cases ha⟩
    · exact ((Chg.of_ext e3).trans (pe.chg.mono fun j _ hm => oM_Z hm) fun j _ x => x).trans c5 fun j hj f => by omega
    · rcases hb' with rfl | hb'
      · exact pe.old.imp id fun h => by omega
      · simp at hb'
  refine wp_whileG (G := Nat × Option PenS × List Nat × Sl) (fun g (r : Int × Unit) h' => r.1 = g.1 ∧ HI n h1 p s x room hb h1.size g.1 g.1 h' g.2.1 g.2.2.1 g.2.2.2) (fun g => x.2.length - g.1)
    (fun tg vs h' => tg = 2 ∧ vs = [] ∧ ∃ s' ws pu, HI n h1 p s x room hb h1.size x.2.length x.2.length h' s' ws pu) (0, s1, [], ⟨none, 0, 0⟩) ⟨rfl, HI0⟩ ?_ ?_
  · rintro ⟨i, s2, ws, pu⟩ ⟨(r : Int), u⟩ h6 ⟨hr, hi⟩
    dsimp only at hr hi ⊢
    subst hr
    have hle := hi.le
    refine wp_ifB (fun hc => ?_) fun hc => ?_
    · rw [ltI_iff, natI_def, xlen] at hc
      have hil : i < x.2.length := by omega
      obtain ⟨e, he⟩ : ∃ e, x.2[i]? = some e := ⟨x.2[i]'hil, List.getElem?_eq_getElem hil⟩
      have hem := List.mem_of_getElem? he
      have hel := hPL e hem
      have hpe : putLen e = e.2.2.1.2.length := rfl
      have heN : x.2[((i : Int)).toNat]? = some e := he
      have fld : ∀ {h' : Heap} {b : B} {z : b.den} {f : Nat} {K : b.den → Prog} {Q : Nat → List Value → Heap → Prop}, Chg (oZ s) h1 h' → (EdSh.cells e)[f]? = some (b.inj z) → wp P (K z) h' Q →
          wp P (grd (andB (someB x.1.base) (inB (i : Int) x.1.len)) (grd (someB (shiftTo x.1.base (mulN (toN (i : Int)) 3))) (.load (.one b) (shiftTo (shiftTo x.1.base (mulN (toN (i : Int)) 3)) f) K))) h' Q := fun c hz hk =>
        s_fieldSh (e := EdSh) (x := x) (hok _ (kp c)) (by omega) heN rfl hz hk
      have hls : ∀ {h'}, Chg (oZ s) h1 h' → Lst .i64 h' e.2.2.1.1 e.2.2.1.2 := fun c => Sh.lst ((hok _ (kp c)).el he).2.2.1
      have hll := (hls hi.chg).len
      refine fld (b := .sl) (z := e.2.2.1.1) hi.chg rfl (s_cell (b := .int .i64) (a := at0 h1.size) (room : Int) rfl hi.ob.cells rfl ?_)
      have hadd2 : addI .i64 (natI e.2.2.1.1.len) (room : Int) = ((putLen e + room : Nat) : Int) := by rw [natI_def, hll, add_ok (by omega) (by omega)]; omega
      rw [hadd2]
      have q6 := hi.chg.1
      refine wp_callW (c_pen_put (i := i) hi.pen (by omega) (by omega) (by omega)) fun tg vs h7 ⟨ht, b, s3, hv, pp⟩ => ⟨ht, (slb b (putLen e + room), ()), hv, ?_⟩
      obtain ⟨hi7, nw⟩ := hi.penput pp
      refine fld (b := .sl) (z := e.2.2.1.1) hi7.chg rfl ?_
      refine s_fillW (room := room) pp.blk (hls hi7.chg) (by omega) fun h8 r8 c8 z8 => ?_
      have hi8 := hi7.fill nw c8
      refine s_tag (s_cast0 (s_pushW hi8 nw he r8 (by omega) hL (Nat.le_refl _) fun h9 pu9 hi9 => ?_))
      refine fld (b := .int .i64) (z := e.1) hi9.chg rfl (fld (b := .int .i64) (z := e.2.1) hi9.chg rfl ?_)
      refine s_newO (bs := [.int .i64, .int .i64, .sl]) (0, 0, ⟨none, 0, 0⟩, ()) (by decide) fun h10 e10 o10 => ?_
      have hi10 := hi9.ext e10
      have ok10 := hok _ (kp hi10.chg)
      refine s_ckF ok10 he rfl (s_ckF ok10 he rfl ?_)
      refine s_stoO (bs := [.int .i64, .int .i64, .sl]) (e.1, e.2.1, ⟨none, 0, 0⟩, ()) o10 (by intro v hv; simp only [Bs.inj, List.mem_cons, List.not_mem_nil, or_false] at hv; rcases hv with rfl | rfl | rfl <;> rfl) fun h11 o11 u11 => ?_
      have e11 : Ext h9 h11 := Upd.extN e10 u11 (by intro y hy; cases hy; exact Nat.le_refl _)
      have hi11 := hi9.ext e11
      have o11 : Own h9.size 1 h11 ⟨some (at0 h9.size), 3, 3⟩ [i64v e.1, i64v e.2.1, .slice none 0 0] := o11
      refine wp_bind (fun tg vs h' => tg = 0 ∧ vs = [] ∧ Ext h9 h' ∧ Own h9.size 1 h' ⟨some (at0 h9.size), 3, 3⟩ (edC room e b)) ?_ ?_
      · refine fld (b := .sl) (z := e.2.2.1.1) hi11.chg rfl ?_
        cases hbs : e.2.2.1.1.base with
        | none =>
          have hps : putSl room e b = ⟨none, 0, 0⟩ := by unfold putSl; rw [if_pos hbs]
          refine s_ifF (s_ret ⟨rfl, rfl, e11, ?_⟩)
          unfold edC; rw [hps]; exact o11
        | some a =>
          have hps : putSl room e b = ⟨some (at0 b), putLen e, putLen e + room⟩ := by unfold putSl; rw [if_neg (by rw [hbs]; simp)]
          refine s_ifT (wp_grd (leB_ok (by rw [natI_def]; omega) (by rw [natI_def, hll]; show ((putLen e : Nat) : Int) ≤ ((putLen e + room : Nat) : Int); omega)) ?_)
          rw [cutBase_zero, natI_def, toN_def, Int.toNat_natCast, hll]
          refine s_setC' (slv ⟨some (at0 b), putLen e, putLen e + room⟩) o11 (by simp) rfl fun h12 o12 u12 => s_ret ⟨rfl, rfl, Upd.extN e11 u12 (by intro y hy; cases hy; exact Nat.le_refl _), ?_⟩
          unfold edC; rw [hps]; exact o12
      · rintro tg vs h12 ⟨rfl, rfl, e12, o12⟩
        have hi12 := hi9.ext e12
        refine s_tag (s_cast0 (s_cell (b := .sl) (a := at0 h1.size) (slb hb (x.2.length + room)) rfl hi12.ob.cells rfl ?_))
        refine s_getO (bs := [.int .i64, .int .i64, .sl]) (x := (e.1, e.2.1, putSl room e b, ())) o12 (wp_grd (andB_iff.2 ⟨rfl, inB_is.2 ⟨by omega, by show (i : Int) < ((x.2.length + room : Nat) : Int); omega⟩⟩) ?_)
        rw [shiftTo_some, mulN_def, toN_def, Int.toNat_natCast, add_mk, Nat.zero_add]
        refine s_putB (edC room e b) hi12.blk (by simp; omega) (by intro v hv; simp only [List.mem_cons, List.not_mem_nil, or_false] at hv; rcases hv with rfl | rfl | rfl <;> rfl) fun h13 bl13 c13 old13 sc13 z13 => ?_
        have hlen : ws.length = i := hi.len
        have hi13 := hi12.wrote he (by rw [List.getElem?_append_right (by omega), hlen]; simp) bl13 c13 old13 sc13
        rw [add_ok (by omega) (by omega)]
        exact s_ret ⟨fun _ => ⟨(i + 1, s3, ws ++ [b], pu9), ((i : Int) + 1, ()), rfl, ⟨by dsimp only; omega, hi13⟩, by dsimp only; omega⟩, fun hh => absurd rfl hh⟩
    · rw [ltI_not, natI_def, xlen] at hc
      have : i = x.2.length := by omega
      subst this
      exact s_ret ⟨fun hh => absurd hh (by decide), fun _ => ⟨rfl, rfl, s2, ws, pu, hi⟩⟩
  · rintro tg vs h6 ⟨rfl, rfl, s2, ws, pu, hi⟩
    refine s_tag (s_cast0 ?_)
    refine wp_while (fun (r : Int × Unit) h' => ∃ c, c ≤ room ∧ r.1 = ((x.2.length + c : Nat) : Int) ∧ HI n h1 p s x room hb h1.size x.2.length x.2.length h' s2 ws pu ∧ ∀ j : Nat, j < c → Cells h' ⟨hb, (x.2.length + j) * 3, none⟩ (markC (x.2.length + j))) (fun r _ => (x.2.length + room - r.1).toNat)
      (fun tg vs h' => tg = 6 ∧ vs = [] ∧ HI n h1 p s x room hb h1.size x.2.length x.2.length h' s2 ws pu ∧ ∀ j : Nat, j < room → Cells h' ⟨hb, (x.2.length + j) * 3, none⟩ (markC (x.2.length + j))) ⟨0, Nat.zero_le _, by rw [natI_def, xlen]; rfl, hi, fun j hj => by omega⟩ ?_ ?_
    · rintro ⟨(r : Int), u⟩ h7 ⟨c, hc, hr, hi7, hm7⟩
      dsimp only at hr ⊢
      subst hr
      refine s_cell (b := .sl) (a := at0 h1.size) (slb hb (x.2.length + room)) rfl hi7.ob.cells rfl (wp_ifB (fun hx => ?_) fun hx => ?_)
      · rw [ltI_iff, natI_def] at hx
        dsimp only at hx
        refine s_cell (b := .sl) (a := at0 h1.size) (slb hb (x.2.length + room)) rfl hi7.ob.cells rfl (wp_grd (andB_iff.2 ⟨rfl, inB_is.2 ⟨by omega, by show ((x.2.length + c : Nat) : Int) < ((x.2.length + room : Nat) : Int); omega⟩⟩) ?_)
        rw [shiftTo_some, mulN_def, toN_def, Int.toNat_natCast, add_mk, Nat.zero_add, sub_ok (by omega) (by omega)]
        refine s_putB (markC (x.2.length + c)) hi7.blk (by simp; omega) (by intro v hv; simp only [List.mem_cons, List.not_mem_nil, or_false] at hv; rcases hv with rfl | rfl | rfl <;> rfl) fun h8 bl8 c8 old8 sc8 z8 => ?_
        rw [add_ok (by omega) (by omega)]
        refine s_ret ⟨fun _ => ⟨(((x.2.length + c : Nat) : Int) + 1, ()), rfl, ⟨c + 1, by omega, by dsimp only; omega, hi7.marked (off := (x.2.length + c) * 3) (by omega) bl8 old8 sc8, fun j hj => ?_⟩, by dsimp only; omega⟩, fun hh => absurd rfl hh⟩
        by_cases hjc : j = c
        · subst hjc; exact c8
        · refine cells_iff.2 fun q v hq => ?_
          have h1' := cells_iff.1 (hm7 j (by omega)) q v hq
          have hq3 : q < 3 := (List.getElem?_eq_some_iff.1 hq).1
          rw [add_mk] at h1' ⊢
          exact old8 _ v (by omega) h1'
      · rw [ltI_not, natI_def] at hx
        dsimp only at hx
        have : c = room := by omega
        subst this
        exact s_ret ⟨fun hh => absurd hh (by decide), fun _ => ⟨rfl, rfl, hi7, hm7⟩⟩
    · rintro tg vs h7 ⟨rfl, rfl, hi7, hm7⟩
      refine s_tag (s_cast0 ?_)
      refine s_getO (bs := [.int .i64, .sl, .sl]) (x := ((room : Int), slb hb (x.2.length + room), pu, ())) hi7.ob ?_
      have c17 := hi7.chg
      have hoz : ∀ b, b = hb ∨ b ∈ ws → (oZ s b ∨ h1.size ≤ b) := hi7.old
      have o17 := c17.own o1 fun y hy f => by cases hy; have := (zin _ f).2; dsimp only at this; omega
      have hpl : ∀ a, pu.base = some a → h1.size ≤ a.block := fun a ha => by obtain ⟨vs, o, _⟩ := hi7.put; exact (o.lt ha).1
      refine s_stoO (bs := [.int .i64, .sl, .sl]) ((room : Int), slb hb (x.2.length + room), pu, ()) o17 (by intro v hv; simp only [Bs.inj, List.mem_cons, List.not_mem_nil, or_false] at hv; rcases hv with rfl | rfl | rfl <;> rfl) fun h8 o8 u8 => s_getO (bs := [.int .i64, .sl, .sl]) o8 ?_
      have c8 : Chg (fun i => i = h.size) h7 h8 := upd_chg u8
      have nb : ∀ b, b = hb ∨ b ∈ ws → b ≠ h.size := fun b hb' e => by
        rcases hoz b hb' with h | h
        · have := (zin _ h).2; omega
        · omega
      have hr7 : HandR n h7 x room hb ws pu := ⟨hi7.len, hi7.blk, fun j e b he hb' => hi7.el j e b (List.getElem?_eq_some_iff.1 he).1 he hb', hm7, hi7.w, hi7.nd, let ⟨vs, o, l, g⟩ := hi7.put; ⟨vs, o.mono (by omega), l, g⟩, fun a ha => ⟨(hi7.pub a ha).1, (hi7.pub a ha).2.1⟩⟩
      refine s_ret ⟨rfl, hb, ws, pu, s2, rfl, hr7.keep c8 fun j f => ?_, ?_, hi7.pen.chg c8 fun j hz f => ?_, fun j hz => (hi7.zone j hz).imp id fun h => by omega, fun b hb' => ⟨(hoz b hb').imp id fun h => by omega, ?_⟩, fun a ha => ⟨by have := hpl a ha; omega, (hi7.pub a ha).2.2.1⟩⟩
      · subst f
        exact ⟨(nb hb (.inl rfl)).symm, fun hm => nb _ (.inr hm) rfl, fun a ha e => by have := hpl a ha; omega⟩
      · exact ((Chg.of_ext e1).trans c17 fun j _ x => x).trans c8 fun j hj f => by omega
      · subst f
        rcases hi7.zone _ hz with h | h
        · have := (zin _ h).2; omega
        · omega
      · rcases hb' with rfl | hm
        · exact hi7.ra.notM hi7.pen
        · obtain ⟨j, hj⟩ := List.getElem?_of_mem hm
          exact (hi7.rw j b hj).notM hi7.pen
end Go.Sw.Piece

set_option linter.unusedVariables false
set_option linter.unusedSimpArgs false
set_option maxRecDepth 100000
namespace Go.Sw.Piece
open Go.Sw.Any Go.Sw.Codec
open Go.Sw.Tree (iv s_putAll s_newP s_getP s_getT s_putP eqI_self Placed cell_own cell_upd1 wp_whileG minI_eq)
variable {P : Program} {S : Ids} {h : Heap} {Q : Nat → List Value → Heap → Prop}
variable {n : Nat} {p : Option Addr} {x : Eds} {room hb : Nat} {s : Option PenS} {ws : List Nat} {pu : Sl}

/-- The edits that are handed in; the marks behind them. -/
def handE (room : Nat) (es : List EdD) (ws : List Nat) : List EdD := List.zipWith (fun e b => ((e.1, e.2.1, (putSl room e b, e.2.2.1.2), ()) : EdD)) es ws
def markD (i : Nat) : EdD := (-771 - (i : Int), -772, (⟨none, 0, 0⟩, []), ())
def handM (m room : Nat) : List EdD := (List.range room).map fun j => markD (m + j)
abbrev handX (room : Nat) (x : Eds) (hb : Nat) (ws : List Nat) : Eds := (⟨some (at0 hb), x.2.length, x.2.length + room⟩, handE room x.2 ws)
abbrev handA (room : Nat) (x : Eds) (hb : Nat) (ws : List Nat) : Eds := (slb hb (x.2.length + room), handE room x.2 ws ++ handM x.2.length room)
theorem handE_at {room : Nat} {es : List EdD} {ws : List Nat} {i : Nat} {y : EdD} (hi : (handE room es ws)[i]? = some y) : ∃ e b, es[i]? = some e ∧ ws[i]? = some b ∧ y = (e.1, e.2.1, (putSl room e b, e.2.2.1.2), ()) := by
  unfold handE at hi
  rw [List.getElem?_zipWith] at hi
  split at hi
  · rename_i e b he hb; exact ⟨e, b, he, hb, (Option.some.inj hi).symm⟩
  · cases hi
theorem handE_len {room : Nat} {es : List EdD} {ws : List Nat} (hl : ws.length = es.length) : (handE room es ws).length = es.length := by unfold handE; rw [List.length_zipWith]; omega

theorem ok_one {e : EdD} {b : Nat} (ok : EdSh.ok h e) (hr : Reg n h b (putC room e)) (hl : putLen e + room < 2 ^ 63) : EdSh.ok h ((e.1, e.2.1, (putSl room e b, e.2.2.1.2), ()) : EdD) := by
  have h3 : (Sh.list (.int .i64)).ok h e.2.2.1 := ok.2.2.1
  refine ⟨ok.1, ok.2.1, ?_, trivial⟩
  unfold putSl
  by_cases hbs : e.2.2.1.1.base = none
  · have hnil : e.2.2.1.2 = [] := by
      cases hh : e.2.2.1.2 with
      | nil => rfl
      | cons y l =>
        obtain ⟨a, ea, _⟩ := h3.2.2.2 0 y (by rw [hh]; rfl)
        rw [hbs] at ea; cases ea
    rw [if_pos hbs, hnil]
    exact ⟨rfl, Nat.le_refl _, (by decide : 0 < 2 ^ 63), fun i y hi => by simp at hi⟩
  · rw [if_neg hbs]
    refine ⟨rfl, Nat.le_add_right _ _, hl, fun i y hi => ⟨at0 b, rfl, cells_iff.2 fun j v hj => ?_, ?_⟩⟩
    · have hj0 : j = 0 := by have := (List.getElem?_eq_some_iff.1 hj).1; simp [Sh.cells] at this; exact this
      subst hj0
      simp [Sh.cells] at hj
      subst hj
      rw [add_zero', add_mk, Nat.zero_add, show i * Sh.size (.int .i64) = i from Nat.mul_one i]
      have hi' : e.2.2.1.2[i]? = some y := hi
      exact hr.cell (by unfold putC; rw [List.getElem?_map, List.getElem?_append_left (List.getElem?_eq_some_iff.1 hi').1, hi']; rfl)
    · have hi' : e.2.2.1.2[i]? = some y := hi
      obtain ⟨_, _, _, o⟩ := h3.2.2.2 i y hi'; exact o
theorem HandR.okA (r : HandR n h x room hb ws pu) (ok : (Sh.list EdSh).ok h x) (hL : x.2.length ≤ 1073741824) (hPL : ∀ e, e ∈ x.2 → putLen e ≤ 1073741824) (hrm : room ≤ 100) : (Sh.list EdSh).ok h (handA room x hb ws) := by
  have hEl := handE_len (room := room) r.len
  have hM : (handM x.2.length room).length = room := by simp [handM]
  refine ⟨by simp [hEl, hM], Nat.le_refl _, (by show x.2.length + room < 2 ^ 63; omega), fun i y hi => ⟨at0 hb, rfl, ?_⟩⟩
  have hi : (handE room x.2 ws ++ handM x.2.length room)[i]? = some y := hi
  have ea : (at0 hb).add (i * EdSh.size) = ⟨hb, i * 3, none⟩ := by rw [add_mk, Nat.zero_add]; rfl
  rw [ea]
  by_cases hlt : i < x.2.length
  · rw [List.getElem?_append_left (by omega)] at hi
    obtain ⟨e, b, he, hb', rfl⟩ := handE_at hi
    exact ⟨r.el i e b he hb', ok_one (ok.el he) (r.w i e b he hb') (by have := hPL e (List.mem_of_getElem? he); omega)⟩
  · rw [List.getElem?_append_right (by omega), hEl] at hi
    unfold handM at hi
    rw [List.getElem?_map] at hi
    have hj : i - x.2.length < room := by
      by_cases hh : i - x.2.length < room
      · exact hh
      · rw [List.getElem?_eq_none (by simp; omega)] at hi; cases hi
    rw [List.getElem?_range hj] at hi
    simp at hi
    subst hi
    have hm := r.mks (i - x.2.length) hj
    rw [show x.2.length + (i - x.2.length) = i by omega] at hm ⊢
    refine ⟨hm, ?_, ?_, ?_, trivial⟩
    · show fitsI .i64 (-771 - (i : Int)); rw [fits_i64]; omega
    · show fitsI .i64 (-772); rw [fits_i64]; omega
    · exact ⟨rfl, Nat.le_refl _, (by decide : 0 < 2 ^ 63), fun i y hi => by simp [markD] at hi⟩
theorem HandR.ok (r : HandR n h x room hb ws pu) (ok : (Sh.list EdSh).ok h x) (hL : x.2.length ≤ 1073741824) (hPL : ∀ e, e ∈ x.2 → putLen e ≤ 1073741824) (hrm : room ≤ 100) : (Sh.list EdSh).ok h (handX room x hb ws) := by
  have hEl := handE_len (room := room) r.len
  have o := r.okA ok hL hPL hrm
  refine ⟨hEl.symm, Nat.le_add_right _ _, (by show x.2.length + room < 2 ^ 63; omega), fun i y hi => ?_⟩
  have hi' : (handE room x.2 ws)[i]? = some y := hi
  exact o.2.2.2 i y (by show (handE room x.2 ws ++ handM x.2.length room)[i]? = _; rw [List.getElem?_append_left (List.getElem?_eq_some_iff.1 hi').1]; exact hi')

theorem flat3 {a : Int} {u v : Sl} : ∀ w, w ∈ Bs.inj [.int .i64, .sl, .sl] ((a, u, v, ()) : Int × Sl × Sl × Unit) → flat w = true := by
  intro w hw; simp only [Bs.inj, List.mem_cons, List.not_mem_nil, or_false] at hw; rcases hw with rfl | rfl | rfl <;> rfl

theorem c_handed_edits {m : Nat} (hm : m + room ≤ 4611686018427387904) : Gives P (F_handed_edits S ((room : Int), slb hb (m + room), pu, ())) [.one .sl] h fun (y : Sl × Unit) _ => y.1 = ⟨some (at0 hb), m, m + room⟩ := by
  unfold F_handed_edits Gives
  refine s_newO (bs := [.int .i64, .sl, .sl]) ((room : Int), slb hb (m + room), pu, ()) (by decide) fun h1 e1 o1 => ?_
  refine s_cell (b := .sl) (slb hb (m + room)) rfl o1.cells rfl (s_cell (b := .sl) (slb hb (m + room)) rfl o1.cells rfl (s_cell (b := .int .i64) (room : Int) rfl o1.cells rfl ?_))
  have e : subI .i64 (natI (slb hb (m + room)).len) (room : Int) = (m : Int) := by rw [natI_def]; show subI .i64 ((m + room : Nat) : Int) _ = _; rw [sub_ok (by omega) (by omega)]; omega
  rw [e]
  refine wp_grd (leB_ok (by omega) (by show (m : Int) ≤ ((m + room : Nat) : Int); omega)) ?_
  rw [cutBase_zero, toN_def, Int.toNat_natCast]
  exact s_ret ⟨rfl, e1, (⟨some (at0 hb), m, m + room⟩, ()), rfl, rfl⟩

theorem s_fldE {x : Eds} {e : EdD} {i f : Nat} {b : B} {z : b.den} {K : b.den → Prog} (ok : (Sh.list EdSh).ok h x) (he : x.2[i]? = some e) (hz : (EdSh.cells e)[f]? = some (b.inj z)) (hk : wp P (K z) h Q) :
    wp P (grd (andB (someB x.1.base) (inB (i : Int) x.1.len)) (grd (someB (shiftTo x.1.base (mulN (toN (i : Int)) 3))) (.load (.one b) (shiftTo (shiftTo x.1.base (mulN (toN (i : Int)) 3)) f) K))) h Q :=
  s_fieldSh (e := EdSh) (x := x) ok (by omega) (by rw [Int.toNat_natCast]; exact he) rfl hz hk
theorem ok_lst {x : Eds} {e : EdD} {i : Nat} (ok : (Sh.list EdSh).ok h x) (he : x.2[i]? = some e) : Lst .i64 h e.2.2.1.1 e.2.2.1.2 := Sh.lst (ok.el he).2.2.1

theorem c_sameEdits {a b : Eds} (ha : (Sh.list EdSh).ok h a) (hb : (Sh.list EdSh).ok h b) (hl : a.2.length = b.2.length) (hs : ∀ (i : Nat) (e e' : EdD), a.2[i]? = some e → b.2[i]? = some e' → e.1 = e'.1 ∧ e.2.1 = e'.2.1 ∧ e.2.2.1.2 = e'.2.2.1.2) :
    Gives P (F_law5_sameEdits S a.1 b.1) [.one .bool] h fun (y : Bool × Unit) _ => y.1 = true := by
  unfold F_law5_sameEdits Gives
  have la := ha.len
  have lb := hb.len
  have bd : a.2.length < 2 ^ 63 := by have := ha.2.1; have := ha.2.2.1; omega
  refine s_neF (by rw [natI_def, natI_def, la, lb, hl]) ?_
  refine wp_while (fun (r : Int × Unit) h' => ∃ i : Nat, r.1 = i ∧ i ≤ a.2.length ∧ Ext h h') (fun r _ => (a.2.length - r.1).toNat) (fun tg vs h' => tg = 2 ∧ vs = [] ∧ Ext h h') ⟨0, rfl, Nat.zero_le _, Ext.refl _⟩ ?_ ?_
  · rintro ⟨(r : Int), u⟩ h1 ⟨i, hr, hi, e1⟩
    dsimp only at hr ⊢
    subst hr
    refine wp_ifB (fun hc => ?_) fun hc => ?_
    · rw [ltI_iff, natI_def, la] at hc
      obtain ⟨e, he⟩ : ∃ e, a.2[i]? = some e := ⟨a.2[i]'(by omega), List.getElem?_eq_getElem (by omega)⟩
      obtain ⟨e', he'⟩ : ∃ e, b.2[i]? = some e := ⟨b.2[i]'(by omega), List.getElem?_eq_getElem (by omega)⟩
      obtain ⟨q1, q2, q3⟩ := hs i e e' he he'
      have oa := ha.ext e1
      have ob := hb.ext e1
      refine bind_bool False ?_ fun bb h2 e2 hb2 => wp_ifB (fun hx => (hb2.1 hx).elim) fun _ => ?_
      · refine s_fldE (b := .int .i64) (z := e.1) oa he rfl (s_fldE (b := .int .i64) (z := e'.1) ob he' rfl (s_neF q1 (s_fldE (b := .int .i64) (z := e.2.1) oa he rfl (s_fldE (b := .int .i64) (z := e'.2.1) ob he' rfl (s_neF q2 (s_fldE (b := .sl) (z := e.2.2.1.1) oa he rfl (s_fldE (b := .sl) (z := e'.2.2.1.1) ob he' rfl (wp_call (c_same5I (ok_lst oa he) (ok_lst ob he')) fun ⟨(bb : Bool), _⟩ h2 e2 hb2 => s_ret ⟨rfl, e2, _, rfl, ?_⟩))))))))
        have hb2 : bb = decide (e.2.2.1.2 = e'.2.2.1.2) := hb2
        rw [hb2, q3, decide_eq_true rfl]
        exact Iff.intro (fun h => by cases h) False.elim
      · rw [add_ok (by omega) (by omega)]
        exact s_ret ⟨fun _ => ⟨((i : Int) + 1, ()), rfl, ⟨i + 1, by dsimp only; omega, by omega, e1.trans e2⟩, by dsimp only; omega⟩, fun hh => absurd rfl hh⟩
    · exact s_ret ⟨fun hh => absurd hh (by decide), fun _ => ⟨rfl, rfl, e1⟩⟩
  · rintro tg vs h1 ⟨rfl, rfl, e1⟩
    exact s_tag (s_cast0 (s_ret ⟨rfl, e1, (true, ()), rfl, rfl⟩))

theorem HandR.slot (r : HandR n h x room hb ws pu) {i : Nat} {e : EdD} (he : x.2[i]? = some e) : ∃ b a, ws[i]? = some b ∧ pu.base = some a ∧ pu.len = x.2.length ∧ Sw.cell h (a.add i) = some (slv (slb b (putLen e + room))) ∧ Reg n h b (putC room e) := by
  have hlt := (List.getElem?_eq_some_iff.1 he).1
  have hl := r.len
  obtain ⟨b, hb'⟩ : ∃ b, ws[i]? = some b := ⟨ws[i]'(by omega), List.getElem?_eq_getElem (by omega)⟩
  obtain ⟨vs, o, lv, g⟩ := r.put
  obtain ⟨a, ha, hc⟩ := o.rd.2 i _ (g i e b he hb')
  have : pu.len = x.2.length := by have := o.1; omega
  exact ⟨b, a, hb', ha, this, hc, r.w i e b he hb'⟩
/-- Where the i-th list lies. -/
theorem s_slot {i : Nat} {e : EdD} {K : Sl → Prog} (r : HandR n h x room hb ws pu) (he : x.2[i]? = some e) (hk : ∀ b, ws[i]? = some b → Reg n h b (putC room e) → wp P (K (slb b (putLen e + room))) h Q) :
    wp P (grd (andB (someB pu.base) (inB (i : Int) pu.len)) <| .load (.one .sl) (shiftTo pu.base (mulN (toN (i : Int)) 1)) K) h Q := by
  obtain ⟨b, a, hb', ha, hl, hc, hr⟩ := r.slot he
  have hlt := (List.getElem?_eq_some_iff.1 he).1
  refine wp_grd (andB_iff.2 ⟨by simp [someB, ha], inB_is.2 ⟨by omega, by omega⟩⟩) ?_
  rw [ha, shiftTo_some, mulN_def, toN_def, Int.toNat_natCast, Nat.mul_one]
  exact wp_load1 (b := .sl) (a.add i) (slb b (putLen e + room)) rfl hc (hk b hb' hr)

theorem c_whole (r : HandR n h x room hb ws pu) (ok : (Sh.list EdSh).ok h x) (hL : x.2.length ≤ 1073741824) (hPL : ∀ e, e ∈ x.2 → putLen e ≤ 1073741824) (hrm : room ≤ 100) :
    Gives P (F_handed_whole S ((room : Int), slb hb (x.2.length + room), pu, ()) x.1) [.one .bool] h fun (y : Bool × Unit) _ => y.1 = true := by
  unfold F_handed_whole Gives
  have xlen := ok.len
  have hEl := handE_len (room := room) r.len
  refine s_newO (bs := [.int .i64, .sl, .sl]) ((room : Int), slb hb (x.2.length + room), pu, ()) (by decide) fun h1 e1 o1 => ?_
  have l1 : ∀ {h'} {K : Sl → Prog} {Q : Nat → List Value → Heap → Prop}, Ext h1 h' → wp P (K (slb hb (x.2.length + room))) h' Q → wp P (.load (.one .sl) (shiftTo (some ⟨h.size, 0, none⟩) 1) K) h' Q := fun e hk => s_cell (b := .sl) (slb hb (x.2.length + room)) rfl (o1.ext e).cells rfl hk
  have l2 : ∀ {h'} {K : Sl → Prog} {Q : Nat → List Value → Heap → Prop}, Ext h1 h' → wp P (K pu) h' Q → wp P (.load (.one .sl) (shiftTo (some ⟨h.size, 0, none⟩) 2) K) h' Q := fun e hk => s_cell (b := .sl) pu rfl (o1.ext e).cells rfl hk
  have l0 : ∀ {h'} {K : Int → Prog} {Q : Nat → List Value → Heap → Prop}, Ext h1 h' → wp P (K (room : Int)) h' Q → wp P (.load (.one (.int .i64)) (shiftTo (some ⟨h.size, 0, none⟩) 0) K) h' Q := fun e hk => s_cell (b := .int .i64) (room : Int) rfl (o1.ext e).cells rfl hk
  have E1 := Ext.refl h1
  have hsz : natI (slb hb (x.2.length + room)).len = addI .i64 (natI x.1.len) (room : Int) := by rw [natI_def, natI_def, xlen, add_ok (by omega) (by omega)]; show ((x.2.length + room : Nat) : Int) = _; omega
  refine l1 E1 (l0 E1 (s_neF hsz ?_))
  refine wp_while (fun (q : Int × Unit) h' => ∃ c, c ≤ room ∧ q.1 = ((x.2.length + c : Nat) : Int) ∧ Ext h1 h') (fun q _ => (x.2.length + room - q.1).toNat) (fun tg vs h' => tg = 2 ∧ vs = [] ∧ Ext h1 h') ⟨0, Nat.zero_le _, by rw [natI_def, xlen]; rfl, E1⟩ ?_ ?_
  · rintro ⟨(q : Int), u⟩ h2 ⟨c, hc, hq, e2⟩
    dsimp only at hq ⊢
    subst hq
    refine l1 e2 (wp_ifB (fun hx => ?_) fun hx => ?_)
    · rw [ltI_iff, natI_def] at hx
      dsimp only at hx
      have oA := (r.okA ok hL hPL hrm).ext (e1.trans e2)
      have hat : (handA room x hb ws).2[x.2.length + c]? = some (markD (x.2.length + c)) := by
        show (handE room x.2 ws ++ handM x.2.length room)[_]? = _
        rw [List.getElem?_append_right (by omega), hEl, Nat.add_sub_cancel_left]
        unfold handM
        rw [List.getElem?_map, List.getElem?_range (by omega)]; rfl
      refine bind_bool False ?_ fun bb h3 e3 hb3 => wp_ifB (fun hx => (hb3.1 hx).elim) fun _ => ?_
      · refine l1 e2 (s_fldE (x := handA room x hb ws) (b := .int .i64) (z := -771 - ((x.2.length + c : Nat) : Int)) oA hat rfl (s_neF (by rw [sub_ok (by omega) (by omega)]) (l1 e2 (s_fldE (x := handA room x hb ws) (b := .int .i64) (z := -772) oA hat rfl (s_neF rfl (l1 e2 (s_fldE (x := handA room x hb ws) (b := .sl) (z := ⟨none, 0, 0⟩) oA hat rfl (s_ret ⟨rfl, Ext.refl _, _, rfl, ?_⟩))))))))
        rw [neI_iff]; exact Iff.intro (fun h => absurd rfl h) False.elim
      · rw [add_ok (by omega) (by omega)]
        exact s_ret ⟨fun _ => ⟨(((x.2.length + c : Nat) : Int) + 1, ()), rfl, ⟨c + 1, by omega, by dsimp only; omega, e2.trans e3⟩, by dsimp only; omega⟩, fun hh => absurd rfl hh⟩
    · exact s_ret ⟨fun hh => absurd hh (by decide), fun _ => ⟨rfl, rfl, e2⟩⟩
  rintro tg vs h2 ⟨rfl, rfl, e2⟩
  refine s_tag (s_cast0 ?_)
  refine wp_while (fun (q : Int × Unit) h' => ∃ i : Nat, i ≤ x.2.length ∧ q.1 = i ∧ Ext h1 h') (fun q _ => (x.2.length - q.1).toNat) (fun tg vs h' => tg = 4 ∧ vs = [] ∧ Ext h1 h') ⟨0, Nat.zero_le _, rfl, e2⟩ ?_ ?_
  · rintro ⟨(q : Int), u⟩ h3 ⟨i, hi, hq, e3⟩
    dsimp only at hq ⊢
    subst hq
    refine wp_ifB (fun hx => ?_) fun hx => ?_
    · rw [ltI_iff, natI_def, xlen] at hx
      obtain ⟨e, he⟩ : ∃ e, x.2[i]? = some e := ⟨x.2[i]'(by omega), List.getElem?_eq_getElem (by omega)⟩
      have hel : e.2.2.1.2.length ≤ 1073741824 := hPL e (List.mem_of_getElem? he)
      have hpe : putLen e = e.2.2.1.2.length := rfl
      have r3 := r.ext (e1.trans e3)
      have ok3 := ok.ext (e1.trans e3)
      have hll := (ok_lst ok3 he).len
      refine l2 e3 (s_slot r3 he fun b hb' rg => s_fldE (b := .sl) (z := e.2.2.1.1) ok3 he rfl ?_)
      have lw : ∀ {h' : Heap}, Ext h3 h' → Lst .i64 h' (slb b (putLen e + room)) (e.2.2.1.2 ++ markE (putLen e) room) := fun {h'} e4 => by
        have rg4 := rg.ext e4
        have hlen : (e.2.2.1.2 ++ markE (putLen e) room).length = putLen e + room := by rw [List.length_append, markE_len]
        have hr : Reg n h' b ((e.2.2.1.2 ++ markE (putLen e) room).map (.int .i64) ++ []) := by rw [List.append_nil]; exact rg4
        have := hr.lst (c := putLen e + room) (by
          intro y hy
          rcases List.mem_append.1 hy with hy | hy
          · exact (ok_lst ok3 he).wf y hy
          · unfold markE at hy
            obtain ⟨j, hj, rfl⟩ := List.mem_map.1 hy
            rw [List.mem_range] at hj
            rw [fits_i64]; omega) (by omega) (by omega)
        rw [hlen] at this; exact this
      have hadd : natI (slb b (putLen e + room)).len = addI .i64 (natI e.2.2.1.1.len) (room : Int) := by rw [natI_def, natI_def, hll, add_ok (by omega) (by omega)]; show ((putLen e + room : Nat) : Int) = _; omega
      refine bind_bool False ?_ fun bb h4 e4 hb4 => wp_ifB (fun hx => (hb4.1 hx).elim) fun _ => ?_
      · refine l0 e3 (s_neF hadd (wp_grd (leB_ok (by rw [natI_def]; omega) (by rw [natI_def, hll]; show ((putLen e : Nat) : Int) ≤ ((putLen e + room : Nat) : Int); omega)) (s_fldE (b := .sl) (z := e.2.2.1.1) ok3 he rfl ?_)))
        rw [cutBase_zero, natI_def, toN_def, Int.toNat_natCast, hll]
        have l4 : Lst .i64 h3 ⟨some (at0 b), subN e.2.2.1.2.length 0, subN (putLen e + room) 0⟩ e.2.2.1.2 := by
          have := (lw (Ext.refl _)).take (n := e.2.2.1.2.length) (m := putLen e + room) (by simp) (by omega) (by omega)
          rw [List.take_left' rfl] at this; exact this
        refine wp_call (c_same5I l4 (ok_lst ok3 he)) fun ⟨(bb : Bool), _⟩ h4 e4 hb4 => s_ret ⟨rfl, e4, _, rfl, ?_⟩
        have hb4 : bb = decide (e.2.2.1.2 = e.2.2.1.2) := hb4
        rw [hb4, decide_eq_true rfl]
        exact Iff.intro (fun h => by cases h) False.elim
      · have e14 := e3.trans e4
        refine wp_while (fun (q : Int × Unit) h' => ∃ c, c ≤ room ∧ q.1 = ((putLen e + c : Nat) : Int) ∧ h' = h4) (fun q _ => (putLen e + room - q.1).toNat) (fun tg vs h' => tg = 6 ∧ vs = [] ∧ h' = h4) ⟨0, Nat.zero_le _, by rw [natI_def, hll]; rfl, rfl⟩ ?_ ?_
        · rintro ⟨(q : Int), u⟩ h5 ⟨c, hc, hq, rfl⟩
          dsimp only at hq ⊢
          subst hq
          refine wp_ifB (fun hx => ?_) fun hx => ?_
          · rw [ltI_iff, natI_def] at hx
            refine s_at (s := slb b (putLen e + room)) (lw e4) (by omega) (by rw [List.length_append, markE_len]; omega) fun _ => ?_
            have hv : (e.2.2.1.2 ++ markE (putLen e) room).getD ((putLen e + c : Nat) : Int).toNat 0 = addI .i64 771 ((putLen e + c : Nat) : Int) := by
              rw [Int.toNat_natCast, List.getD_eq_getElem?_getD, List.getElem?_append_right (by omega), show putLen e + c - e.2.2.1.2.length = c by omega]
              unfold markE
              rw [List.getElem?_map, List.getElem?_range (by omega), add_ok (by omega) (by omega)]
              show 771 + ((putLen e : Int) + c) = _; omega
            refine s_neF hv ?_
            rw [add_ok (by omega) (by omega)]
            exact s_ret ⟨fun _ => ⟨(((putLen e + c : Nat) : Int) + 1, ()), rfl, ⟨c + 1, by omega, by dsimp only; omega, rfl⟩, by dsimp only; omega⟩, fun hh => absurd rfl hh⟩
          · exact s_ret ⟨fun hh => absurd hh (by decide), fun _ => ⟨rfl, rfl, rfl⟩⟩
        · rintro tg vs h5 ⟨rfl, rfl, rfl⟩
          refine s_tag (s_cast0 ?_)
          rw [add_ok (by omega) (by omega)]
          exact s_ret ⟨fun _ => ⟨((i : Int) + 1, ()), rfl, ⟨i + 1, by omega, by dsimp only; omega, e14⟩, by dsimp only; omega⟩, fun hh => absurd rfl hh⟩
    · exact s_ret ⟨fun hh => absurd hh (by decide), fun _ => ⟨rfl, rfl, e3⟩⟩
  · rintro tg vs h3 ⟨rfl, rfl, e3⟩
    refine s_tag (s_cast0 (s_getO (bs := [.int .i64, .sl, .sl]) (x := ((room : Int), slb hb (x.2.length + room), pu, ())) (o1.ext e3) ?_))
    refine wp_call (c_handed_edits (m := x.2.length) (by omega)) fun ⟨(y : Sl), _⟩ h4 e4 hy => ?_
    have hy : y = ⟨some (at0 hb), x.2.length, x.2.length + room⟩ := hy
    subst hy
    have r4 := r.ext ((e1.trans e3).trans e4)
    have ok4 := ok.ext ((e1.trans e3).trans e4)
    refine wp_call (c_sameEdits (a := handX room x hb ws) (b := x) (r4.ok ok4 hL hPL hrm) ok4 hEl fun i a b ha hb => ?_) fun ⟨(bb : Bool), _⟩ h5 e5 hb5 => s_ret ⟨rfl, ((e1.trans e3).trans e4).trans e5, (bb, ()), rfl, hb5⟩
    obtain ⟨e, b', he, _, rfl⟩ := handE_at ha
    rw [he] at hb; cases hb
    exact ⟨rfl, rfl, rfl⟩

/-- The lists are written over: they keep their sizes. -/
theorem c_spoil (r : HandR n h x room hb ws pu) (hL : x.2.length ≤ 1073741824) (hPL : ∀ e, e ∈ x.2 → putLen e ≤ 1073741824) (hrm : room ≤ 100) :
    wp P (F_handed_spoil S ((room : Int), slb hb (x.2.length + room), pu, ())) h fun tg vs h' => tg = 0 ∧ vs = [] ∧ SChg (fun i => i = hb ∨ i ∈ ws) h h' := by
  unfold F_handed_spoil
  refine s_newO (bs := [.int .i64, .sl, .sl]) ((room : Int), slb hb (x.2.length + room), pu, ()) (by decide) fun h1 e1 o1 => ?_
  have q1 : h.size < h1.size := (o1.lt rfl).2
  have pul : pu.len = x.2.length := by obtain ⟨vs, o, lv, g⟩ := r.put; have := o.1; omega
  let F : Nat → Prop := fun i => i = hb ∨ i ∈ ws
  have Flt : ∀ i, F i → i < h.size := fun i hi => by
    rcases hi with rfl | hi
    · exact r.blk.lt
    · obtain ⟨j, hj⟩ := List.getElem?_of_mem hi
      have hlt := (List.getElem?_eq_some_iff.1 hj).1
      have hl := r.len
      exact (r.w j (x.2[j]'(by omega)) i (List.getElem?_eq_getElem (by omega)) hj).lt
  have sO : ∀ {h'}, SChg F h1 h' → Own h.size 1 h' ⟨some ⟨h.size, 0, none⟩, 3, 3⟩ (Bs.inj [.int .i64, .sl, .sl] (((room : Int), slb hb (x.2.length + room), pu, ()) : Int × Sl × Sl × Unit)) := fun c => c.1.own o1 fun y hy f => by cases hy; have := Flt _ f; dsimp only at this; omega
  have l1 : ∀ {h'} {K : Sl → Prog} {Q : Nat → List Value → Heap → Prop}, SChg F h1 h' → wp P (K (slb hb (x.2.length + room))) h' Q → wp P (.load (.one .sl) (shiftTo (some ⟨h.size, 0, none⟩) 1) K) h' Q := fun e hk => s_cell (b := .sl) (slb hb (x.2.length + room)) rfl (sO e).cells rfl hk
  have l2 : ∀ {h'} {K : Sl → Prog} {Q : Nat → List Value → Heap → Prop}, SChg F h1 h' → wp P (K pu) h' Q → wp P (.load (.one .sl) (shiftTo (some ⟨h.size, 0, none⟩) 2) K) h' Q := fun e hk => s_cell (b := .sl) pu rfl (sO e).cells rfl hk
  have r1 := r.ext e1
  have slot : ∀ {h'} {i : Nat} {e : EdD} {b : Nat} {K : Sl → Prog} {Q : Nat → List Value → Heap → Prop}, SChg F h1 h' → x.2[i]? = some e → ws[i]? = some b → wp P (K (slb b (putLen e + room))) h' Q →
      wp P (grd (andB (someB pu.base) (inB (i : Int) pu.len)) <| .load (.one .sl) (shiftTo pu.base (mulN (toN (i : Int)) 1)) K) h' Q := fun {h'} {i} {e} {b} {K} {Q} c he hb' hk => by
    obtain ⟨b2, a, hb2, ha, hl, hc, hr⟩ := r1.slot he
    rw [hb'] at hb2; cases hb2
    have hlt := (List.getElem?_eq_some_iff.1 he).1
    refine wp_grd (andB_iff.2 ⟨by simp [someB, ha], inB_is.2 ⟨by omega, by omega⟩⟩) ?_
    rw [ha, shiftTo_some, mulN_def, toN_def, Int.toNat_natCast, Nat.mul_one]
    have hpb := r.pub a ha
    have hbk : (a.add i).block = a.block := add_block a i
    have hc' : Sw.cell h' (a.add i) = some (slv (slb b (putLen e + room))) := (cell_of_block (h := h1) (h' := h') (a := a.add i) (by rw [hbk]; exact c.1.2.1 _ (by have := cell_lt hc; rw [hbk] at this; exact this) fun f => f.elim hpb.1 hpb.2)).trans hc
    exact wp_load1 (b := .sl) (a.add i) (slb b (putLen e + room)) rfl hc' hk
  refine wp_while (fun (q : Int × Unit) h' => ∃ i : Nat, i ≤ x.2.length ∧ q.1 = i ∧ SChg F h1 h') (fun q _ => (x.2.length - q.1).toNat) (fun tg vs h' => tg = 2 ∧ vs = [] ∧ SChg F h1 h') ⟨0, Nat.zero_le _, rfl, SChg.refl _ _⟩ ?_ ?_
  · rintro ⟨(q : Int), u⟩ h2 ⟨i, hi, hq, c2⟩
    dsimp only at hq ⊢
    subst hq
    refine l2 c2 (wp_ifB (fun hx => ?_) fun hx => ?_)
    · rw [ltI_iff, natI_def, pul] at hx
      obtain ⟨e, he⟩ : ∃ e, x.2[i]? = some e := ⟨x.2[i]'(by omega), List.getElem?_eq_getElem (by omega)⟩
      have hel : e.2.2.1.2.length ≤ 1073741824 := hPL e (List.mem_of_getElem? he)
      have hpe : putLen e = e.2.2.1.2.length := rfl
      obtain ⟨b, hb'⟩ : ∃ b, ws[i]? = some b := ⟨ws[i]'(by have := r.len; omega), List.getElem?_eq_getElem (by have := r.len; omega)⟩
      have bl1 : Blk n h1 b (putLen e + room) := by have := (r1.w i e b he hb').blk; rw [putC_len] at this; exact this
      refine wp_while (fun (q : Int × Unit) h' => ∃ j : Nat, j ≤ putLen e + room ∧ q.1 = j ∧ SChg F h1 h') (fun q _ => (putLen e + room - q.1).toNat) (fun tg vs h' => tg = 4 ∧ vs = [] ∧ SChg F h1 h') ⟨0, Nat.zero_le _, rfl, c2⟩ ?_ ?_
      · rintro ⟨(q : Int), u⟩ h3 ⟨j, hj, hq, c3⟩
        dsimp only at hq ⊢
        subst hq
        refine l2 c3 (slot c3 he hb' (wp_ifB (fun hy => ?_) fun hy => ?_))
        · rw [ltI_iff, natI_def] at hy
          dsimp only at hy
          refine l2 c3 (slot c3 he hb' (s_not (wp_grd (andB_iff.2 ⟨rfl, inB_is.2 ⟨by omega, by show (j : Int) < ((putLen e + room : Nat) : Int); omega⟩⟩) ?_)))
          rw [shiftTo_some, mulN_def, toN_def, Int.toNat_natCast, Nat.mul_one, add_mk, Nat.zero_add, rem_ok (by omega), add_ok (by omega) (by omega), add_ok (by omega) (by omega)]
          refine s_putB [_] (bl1.schg c3) (by simp; omega) (by intro v hv; rw [List.mem_singleton.1 hv]; rfl) fun h4 _ _ _ c4 _ => ?_
          exact s_ret ⟨fun _ => ⟨((j : Int) + 1, ()), rfl, ⟨j + 1, by omega, by dsimp only; omega, c3.trans c4 fun i _ f => by subst f; exact .inr (List.mem_of_getElem? hb')⟩, by dsimp only; omega⟩, fun hh => absurd rfl hh⟩
        · exact s_ret ⟨fun hh => absurd hh (by decide), fun _ => ⟨rfl, rfl, c3⟩⟩
      · rintro tg vs h3 ⟨rfl, rfl, c3⟩
        refine s_tag (s_cast0 ?_)
        rw [add_ok (by omega) (by omega)]
        exact s_ret ⟨fun _ => ⟨((i : Int) + 1, ()), rfl, ⟨i + 1, by omega, by dsimp only; omega, c3⟩, by dsimp only; omega⟩, fun hh => absurd rfl hh⟩
    · exact s_ret ⟨fun hh => absurd hh (by decide), fun _ => ⟨rfl, rfl, c2⟩⟩
  rintro tg vs h2 ⟨rfl, rfl, c2⟩
  refine s_tag (s_cast0 ?_)
  have blh : Blk n h1 hb ((x.2.length + room) * 3) := r1.blk
  refine wp_while (fun (q : Int × Unit) h' => ∃ i : Nat, i ≤ x.2.length + room ∧ q.1 = i ∧ SChg F h1 h') (fun q _ => (x.2.length + room - q.1).toNat) (fun tg vs h' => tg = 6 ∧ vs = [] ∧ SChg F h1 h') ⟨0, Nat.zero_le _, rfl, c2⟩ ?_ ?_
  · rintro ⟨(q : Int), u⟩ h3 ⟨i, hi, hq, c3⟩
    dsimp only at hq ⊢
    subst hq
    refine l1 c3 (wp_ifB (fun hx => ?_) fun hx => ?_)
    · rw [ltI_iff, natI_def] at hx
      dsimp only at hx
      refine l1 c3 (wp_grd (andB_iff.2 ⟨rfl, inB_is.2 ⟨by omega, by show (i : Int) < ((x.2.length + room : Nat) : Int); omega⟩⟩) (wp_grd rfl ?_))
      rw [shiftTo_some, shiftTo_some, mulN_def, toN_def, Int.toNat_natCast, add_mk, add_mk, Nat.zero_add, Nat.add_zero]
      refine s_putB [_] (blh.schg c3) (by simp; omega) (by intro v hv; rw [List.mem_singleton.1 hv]; rfl) fun h4 _ _ _ c4 _ => ?_
      rw [add_ok (by omega) (by omega)]
      exact s_ret ⟨fun _ => ⟨((i : Int) + 1, ()), rfl, ⟨i + 1, by omega, by dsimp only; omega, c3.trans c4 fun i _ f => by subst f; exact .inl rfl⟩, by dsimp only; omega⟩, fun hh => absurd rfl hh⟩
    · exact s_ret ⟨fun hh => absurd hh (by decide), fun _ => ⟨rfl, rfl, c3⟩⟩
  · rintro tg vs h3 ⟨rfl, rfl, c3⟩
    exact s_tag (s_cast0 (s_ret ⟨rfl, rfl, (SChg.of_ext e1).trans c3 fun i _ f => f⟩))
end Go.Sw.Piece

set_option linter.unusedVariables false
set_option linter.unusedSimpArgs false
set_option maxRecDepth 100000
namespace Go.Sw.Piece
open Go.Sw.Any Go.Sw.Codec
open Go.Sw.Tree (iv s_putAll s_newP s_getP s_getT s_putP eqI_self Placed cell_own cell_upd1 wp_whileG minI_eq)
variable {P : Program} {S : Ids} {h : Heap} {Q : Nat → List Value → Heap → Prop}
variable {n : Nat} {p : Option Addr} {x : Eds} {room hb : Nat} {s : Option PenS} {ws : List Nat} {pu : Sl}

/-- An edit without the place of its list. -/
def strip (e : EdD) : EdD := (e.1, e.2.1, (⟨none, 0, 0⟩, e.2.2.1.2), ())
theorem strip_put (es : List EdD) : putsOf (es.map strip) = putsOf es := by simp [putsOf, List.flatMap_map, strip]
theorem strip_plc {len : Int} : ∀ {es : List EdD} {a : Int}, Plc len a (es.map strip) ↔ Plc len a es
  | [], _ => Iff.rfl
  | e :: es, a => by simp only [List.map_cons, Plc, strip_plc (es := es)]; exact Iff.rfl
theorem strip_gone (ts : List (Int × Int)) (es : List EdD) : goneE ts (es.map strip) = goneE ts es := by unfold goneE; rw [List.map_map]; rfl
theorem strip_all (E : List El) : ∀ es : List EdD, allE E (es.map strip) = allE E es
  | [] => rfl
  | e :: es => by rw [List.map_cons, allE_cons, allE_cons, strip_all E es]; rfl
theorem strip_ref {enc limit r : Int} {ts : List (Int × Int)} {es : List EdD} : RefR enc limit ts (es.map strip) r ↔ RefR enc limit ts es r := by
  constructor
  · intro h
    cases h with
    | many h => exact .many (by rw [List.length_map] at h; exact h)
    | place a b => exact .place (by rw [List.length_map] at a; exact a) fun k => b (strip_plc.2 k)
    | fit a b c => exact .fit (by rw [List.length_map] at a; exact a) (strip_plc.1 b) (by rw [strip_put] at c; exact c)
    | full a b c d => exact .full (by rw [List.length_map] at a; exact a) (strip_plc.1 b) (by rw [strip_put] at c; exact c) (by rw [strip_put, strip_gone] at d; exact d)
    | ok a b c d => exact .ok (by rw [List.length_map] at a; exact a) (strip_plc.1 b) (by rw [strip_put] at c; exact c) (by rw [strip_put, strip_gone] at d; exact d)
  · intro h
    cases h with
    | many h => exact .many (by rw [List.length_map]; exact h)
    | place a b => exact .place (by rw [List.length_map]; exact a) fun k => b (strip_plc.1 k)
    | fit a b c => exact .fit (by rw [List.length_map]; exact a) (strip_plc.2 b) (by rw [strip_put]; exact c)
    | full a b c d => exact .full (by rw [List.length_map]; exact a) (strip_plc.2 b) (by rw [strip_put]; exact c) (by rw [strip_put, strip_gone]; exact d)
    | ok a b c d => exact .ok (by rw [List.length_map]; exact a) (strip_plc.2 b) (by rw [strip_put]; exact c) (by rw [strip_put, strip_gone]; exact d)
theorem strip_hand (room : Nat) : ∀ {es : List EdD} {ws : List Nat}, ws.length = es.length → (handE room es ws).map strip = es.map strip
  | [], ws, _ => by simp [handE]
  | e :: es, [], h => by simp at h
  | e :: es, w :: ws, h => by
    have := strip_hand room (es := es) (ws := ws) (by simpa using h)
    unfold handE at this ⊢
    rw [List.zipWith_cons_cons, List.map_cons, List.map_cons, this]; rfl
theorem hand_put {room : Nat} {es : List EdD} {ws : List Nat} (hl : ws.length = es.length) : putsOf (handE room es ws) = putsOf es := by rw [← strip_put, strip_hand room hl, strip_put]
theorem hand_all {room : Nat} {es : List EdD} {ws : List Nat} (hl : ws.length = es.length) (E : List El) : allE E (handE room es ws) = allE E es := by rw [← strip_all, strip_hand room hl, strip_all]
theorem hand_ref {room : Nat} {es : List EdD} {ws : List Nat} (hl : ws.length = es.length) {enc limit r : Int} {ts : List (Int × Int)} : RefR enc limit ts (handE room es ws) r ↔ RefR enc limit ts es r := by rw [← strip_ref, strip_hand room hl, strip_ref]

theorem Nxt.low {T T' : TX} {m m' : Nat} (nx : Nxt T T' m) (hm : m' ≤ m) : Nxt T T' m' := ⟨nx.p, nx.enc, nx.limit, nx.kept, nx.zm, fun i hi => (nx.zn i hi).imp id fun h => Nat.le_trans hm h, fun b hb => (nx.adc b hb).imp id fun h => Nat.le_trans hm h⟩

/-- A Change was done (or refused), with edits of one's own. -/
structure WrR (S : Ids) (n : Nat) (T : TX) (p : Option Addr) (s : Option PenS) (h0 h : Heap) (es : List EdD) (r : Int) (T' : TX) (s' : Option PenS) : Prop where
  ref : RefR T.enc T.limit (toksL T.enc T.cur.ps) es r
  t : TextR S n h T'
  nx : Nxt T T' h0.size
  els : els T.enc T'.cur.ps = if r = 0 then allE (els T.enc T.cur.ps) es else els T.enc T.cur.ps
  len : T'.A.length ≤ T.A.length + 4 * (putsOf es).length
  chg : Chg (fun i => wfoot T i ∨ oZ s i) h0 h
  pen : PenO n h p s'
  zone : ∀ i, oZ s' i → oZ s i ∨ h0.size ≤ i
  far : ∀ i, T'.Z i → ¬ oZ s' i

theorem c_written (M : Meth0 P S) {T : TX} (t : TextR S n h T) (hp : PenO n h p s) (far : ∀ i, T.Z i → ¬ oZ s i) (hn : n ≤ h.size) (hok : ∀ h', Keep n h h' → (Sh.list EdSh).ok h' x) (hL : x.2.length ≤ 1073741824) (hPL : ∀ e, e ∈ x.2 → putLen e ≤ 1073741824)
    (hA : T.A.length + 4 * (putsOf x.2).length ≤ 400000000000) (hsm : (bytesL T.cur.ps).length ≤ T.limit) :
    wp P (F_law5_written S (some T.p) p x.1) h fun tg vs h' => tg = 0 ∧ ∃ r T' s', vs = [i64v r, .bool true] ∧ WrR S n T p s h h' x.2 r T' s' := by
  unfold F_law5_written
  have lo := t.lo
  have zin : ∀ j, oZ s j → n ≤ j ∧ j < h.size := fun j hz => hp.in hz
  refine wp_callW (c_hand hp hn hok hL hPL) fun tg vs h1 ⟨ht, hb, ws, pu, s1, hv, r1, c1, p1, z1, old1, pu1⟩ => ⟨ht, ((((roomOf x.2.length : Nat) : Int), slb hb (x.2.length + roomOf x.2.length), pu, ()), ()), hv, ?_⟩
  have hroom := (room_le x.2.length).2
  generalize roomOf x.2.length = room at *
  have q1 := c1.1
  have t1 : TextR S n h1 T := t.chg c1 far
  have hl := r1.len
  refine s_putO (bs := [.int .i64, .sl, .sl]) (z := (0, ⟨none, 0, 0⟩, ⟨none, 0, 0⟩, ())) ((room : Int), slb hb (x.2.length + room), pu, ()) (by decide) flat3 fun h2 e2 o2 => s_getO (bs := [.int .i64, .sl, .sl]) o2 ?_
  refine wp_call (c_handed_edits (m := x.2.length) (by omega)) fun ⟨(y : Sl), _⟩ h3 e3 hy => ?_
  have hy : y = ⟨some (at0 hb), x.2.length, x.2.length + room⟩ := hy
  subst hy
  have e13 := e2.trans e3
  have q2 : h1.size < h2.size := (o2.lt rfl).2
  have q3 := e3.size
  have t3 := t1.ext e13
  have p3 := p1.ext e13
  have r3 := r1.ext e13
  have k01 : Keep n h h1 := c1.keep hn fun j hj hz => by have := (zin j hz).1; omega
  have k03 : Keep n h h3 := Keep.trans k01 (e13.keep (by omega))
  have bz : ∀ b, b = hb ∨ b ∈ ws → ¬ T.Z b := fun b hb' hz => by
    rcases (old1 b hb').1 with h | h
    · exact far b hz h
    · have := (lo b hz).2; omega
  have pz : ∀ a, pu.base = some a → ¬ T.Z a.block := fun a ha hz => by have := (pu1 a ha).1; have := (lo _ hz).2; omega
  have wz : ∀ i, wfoot T i → T.Z i := fun i hw => wfoot_Z t hw
  have rk : ∀ {h'}, Chg (wfoot T) h3 h' → HandR n h' x room hb ws pu := fun c => r3.keep c fun i f => ⟨fun e => bz i (.inl e) (wz i f), fun e => bz i (.inr e) (wz i f), fun a ha e => pz a ha (e ▸ wz i f)⟩
  have kk : ∀ {h'}, Chg (wfoot T) h3 h' → Keep n h h' := fun c => Keep.trans k03 (c.keep (by omega) fun j hj hw => by have := (lo j (wz j hw)).1; omega)
  refine wp_callW (c_Change M (x := handX room x hb ws) t3 (by omega) (fun h' c => (rk c).ok (hok _ (kk c)) hL hPL hroom) (fun e he hne a ha hz => ?_) (by show T.A.length + 4 * (putsOf (handE room x.2 ws)).length ≤ _; rw [hand_put hl]; exact hA) hsm) fun tg vs h4 ⟨ht, c4, r, T', hv, R⟩ => ⟨ht, (r, ()), hv, ?_⟩
  · obtain ⟨i, hi⟩ := List.getElem?_of_mem he
    have hi : (handE room x.2 ws)[i]? = some e := hi
    obtain ⟨e', b, he', hb', rfl⟩ := handE_at hi
    have ha : (putSl room e' b).base = some a := ha
    unfold putSl at ha
    split at ha
    · cases ha
    · cases ha
      exact bz b (.inr (List.mem_of_getElem? hb')) hz
  have o4 := c4.own (o2.ext e3) fun y hy f => by cases hy; have := (lo _ (wz _ f)).2; dsimp only at this; omega
  have far3 : ∀ i, T.Z i → ¬ oZ s1 i := fun i hz ho => (z1 i ho).elim (far i hz) fun h => by have := (lo i hz).2; omega
  have p4 : PenO n h4 p s1 := p3.chg c4 fun i ho hw => far3 i (wz i hw) ho
  have r4 := rk c4
  refine s_getO (bs := [.int .i64, .sl, .sl]) o4 (wp_call (c_whole r4 (hok _ (kk c4)) hL hPL hroom) fun ⟨(bb : Bool), _⟩ h5 e5 hb5 => ?_)
  have hb5 : bb = true := hb5
  subst hb5
  refine s_getO (bs := [.int .i64, .sl, .sl]) (o4.ext e5) (wp_callW (c_spoil (r4.ext e5) hL hPL hroom) fun tg vs h6 ⟨ht, hv, c6⟩ => ⟨ht, (), hv, s_ret ⟨rfl, r, T', s1, rfl, ?_⟩⟩)
  have q4 := c4.1; have q5 := e5.size
  have far4 : ∀ i, T'.Z i → ¬ oZ s1 i := fun i hz ho => (R.nx.zn i hz).elim (fun h => far3 i h ho) fun h => by have := (p3.in ho).2; omega
  have bz' : ∀ b, b = hb ∨ b ∈ ws → ¬ T'.Z b := fun b hb' hz => (R.nx.zn b hz).elim (bz b hb') fun h => by
    have : b < h1.size := by
      rcases hb' with rfl | hb'
      · exact r1.blk.lt
      · obtain ⟨j, hj⟩ := List.getElem?_of_mem hb'
        have hlt := (List.getElem?_eq_some_iff.1 hj).1
        exact (r1.w j (x.2[j]'(by omega)) b (List.getElem?_eq_getElem (by omega)) hj).lt
    omega
  refine ⟨(hand_ref hl).1 R.ref, (R.t.ext e5).chg c6.1 fun i hz f => bz' i f hz, R.nx.low (by omega), ?_, ?_, ?_, (p4.ext e5).schg c6 fun i hm f => (old1 i f).2 hm, z1, far4⟩
  · rw [R.els]
    have : allE (els T.enc T.cur.ps) (handX room x hb ws).2 = allE (els T.enc T.cur.ps) x.2 := hand_all hl _
    rw [this]
  · have := R.len
    have e : putsOf (handX room x hb ws).2 = putsOf x.2 := hand_put hl
    rw [e] at this; exact this
  · have c02 : Chg (fun i => wfoot T i ∨ oZ s i) h h3 := (c1.mono fun i _ f => .inr f).ext e13
    have c04 := c02.trans (c4.mono (G := fun i => wfoot T i ∨ oZ s i) fun i _ f => .inl f) fun i _ f => f
    exact (c04.ext e5).trans c6.1 fun i hlt f => (old1 i f).1.elim (fun h => .inr h) fun h => by omega

theorem c_changed (M : Meth0 P S) {T : TX} (t : TextR S n h T) (hn : n ≤ h.size) (hok : ∀ h', Keep n h h' → (Sh.list EdSh).ok h' x) (hL : x.2.length ≤ 1073741824) (hPL : ∀ e, e ∈ x.2 → putLen e ≤ 1073741824)
    (hA : T.A.length + 4 * (putsOf x.2).length ≤ 400000000000) (hsm : (bytesL T.cur.ps).length ≤ T.limit) :
    wp P (F_law5_changed S (some T.p) x.1) h fun tg vs h' => tg = 0 ∧ ∃ r T', vs = [i64v r, .bool true] ∧ Chg (wfoot T) h h' ∧ ChangeR S n T h h' x.2 r T' := by
  unfold F_law5_changed
  refine wp_callW (c_written M (p := none) (s := none) t rfl (fun _ _ f => f) hn hok hL hPL hA hsm) fun tg vs h1 ⟨ht, r, T', s', hv, w⟩ => ⟨ht, (r, true, ()), hv, s_ret ⟨rfl, r, T', rfl, w.chg.mono fun i _ f => f.elim id fun f => f.elim, w.ref, w.t, w.nx, w.els, w.len⟩⟩
end Go.Sw.Piece

set_option linter.unusedVariables false
set_option linter.unusedSimpArgs false
set_option maxRecDepth 100000
namespace Go.Sw.Piece
open Go.Sw.Any Go.Sw.Codec
variable {P : Program} {S : Ids} {h : Heap} {Q : Nat → List Value → Heap → Prop}

/-! ### How much a list of edits weighs -/
theorem ints_wt {k : IntKind} (x : Sl × List Int) : (Sh.list (.int k)).wt x = x.2.length + 1 := by
  have : ∀ l : List Int, (l.map (Sh.int k).wt).sum = l.length := by
    intro l
    induction l with
    | nil => rfl
    | cons y l ih => rw [List.map_cons, List.sum_cons, ih, List.length_cons, Nat.add_comm]; rfl
  simp only [Sh.wt]
  have h2 := this x.2
  exact congrArg (· + 1) h2
theorem ed_wt (e : EdD) : putLen e + 1 ≤ EdSh.wt e := by
  have h1 := ints_wt (k := .i64) e.2.2.1
  have h2 : putLen e = e.2.2.1.2.length := rfl
  simp only [Sh.wt] at h1 ⊢
  omega
theorem eds_wt (x : Eds) : x.2.length ≤ (Sh.list EdSh).wt x ∧ (putsOf x.2).length ≤ (Sh.list EdSh).wt x ∧ ∀ e, e ∈ x.2 → putLen e ≤ (Sh.list EdSh).wt x := by
  have : ∀ l : List EdD, l.length ≤ (l.map EdSh.wt).sum ∧ (putsOf l).length ≤ (l.map EdSh.wt).sum ∧ ∀ e, e ∈ l → putLen e ≤ (l.map EdSh.wt).sum := by
    intro l
    induction l with
    | nil => exact ⟨Nat.le_refl _, Nat.le_refl _, fun e he => by cases he⟩
    | cons y l ih =>
      have h1 := ed_wt y
      have h2 : (putsOf (y :: l)).length = putLen y + (putsOf l).length := by simp [putsOf]
      rw [List.map_cons, List.sum_cons, List.length_cons, h2]
      refine ⟨by omega, by omega, fun e he => ?_⟩
      rcases List.mem_cons.1 he with rfl | he
      · omega
      · have := ih.2.2 e he; omega
  have h1 := this x.2
  have e : (Sh.list EdSh).wt x = (x.2.map EdSh.wt).sum + 1 := rfl
  rw [e]
  exact ⟨by omega, by omega, fun e he => by have := h1.2.2 e he; omega⟩
theorem sum_mem_le {α : Type} (f : α → Nat) {l : List α} {y : α} (hy : y ∈ l) : f y ≤ (l.map f).sum := by
  induction l with
  | nil => cases hy
  | cons z l ih =>
    rw [List.map_cons, List.sum_cons]
    rcases List.mem_cons.1 hy with rfl | hy
    · omega
    · have := ih hy; omega
theorem sum_le_sum {α : Type} (f g : α → Nat) : ∀ l : List α, (∀ y, y ∈ l → f y ≤ g y) → (l.map f).sum ≤ (l.map g).sum
  | [], _ => Nat.le_refl _
  | y :: l, h => by
    rw [List.map_cons, List.sum_cons, List.map_cons, List.sum_cons]
    have := h y (List.mem_cons_self ..); have := sum_le_sum f g l fun z hz => h z (List.mem_cons_of_mem _ hz); omega
/-- Lists of edits. -/
theorem edss_wt {x : Sl × List Eds} {w : Nat} (h : (Sh.list (Sh.list EdSh)).wt x ≤ w) : x.2.length ≤ w ∧ (x.2.map fun y : Eds => (putsOf y.2).length).sum ≤ w ∧ ∀ y, y ∈ x.2 → y.2.length ≤ w ∧ ∀ e, e ∈ y.2 → putLen e ≤ w := by
  have e : (Sh.list (Sh.list EdSh)).wt x = (x.2.map (Sh.list EdSh).wt).sum + 1 := rfl
  have h1 := Sh.wt_len (e := Sh.list EdSh) x fun y => by show 1 ≤ (y.2.map EdSh.wt).sum + 1; omega
  have h2 := sum_le_sum (fun y : Eds => (putsOf y.2).length) (Sh.list EdSh).wt x.2 fun y _ => (eds_wt y).2.1
  refine ⟨by omega, by omega, fun y hy => ?_⟩
  have h3 := sum_mem_le (Sh.list EdSh).wt hy
  exact ⟨by have := (eds_wt y).1; omega, fun e he => by have := (eds_wt y).2.2 e he; omega⟩

/-! ### All edits, from the first on -/
theorem all_take {E : List El} : ∀ {es : List EdD} {a : Int} {k : Nat}, Plc E.length a es → (k : Int) ≤ a → (allE E es).take k = E.take k
  | [], _, _, _, _ => rfl
  | e :: es, a, k, ⟨h1, h2, h3, h4⟩, hk => by
    have h5 := all_take (E := E) (es := es) (k := e.1.toNat) h4 (by omega)
    rw [allE_cons]
    unfold one1
    rw [h5, List.append_assoc, List.take_append_of_le_length (by rw [List.length_take]; omega), List.take_take, show min k e.1.toNat = k by omega]
/-! ### Sizes -/
theorem size_put {enc : Int} {l : List Int} (hf : fitsE enc l) : (sizeL enc l : Int) = (l.flatMap (putF enc)).length := by
  induction l with
  | nil => rfl
  | cons a l ih =>
    have h1 := putF_len (hf a (List.mem_cons_self ..))
    have h2 := ih fun b hb => hf b (List.mem_cons_of_mem _ hb)
    have h3 : sizeL enc (a :: l) = sizeF enc a + sizeL enc l := by simp [sizeL]
    rw [h3, List.flatMap_cons, List.length_append, h2]; omega
theorem map_new (l : List Int) : (l.map fun a => ((a, -1) : El)).map (fun x : El => x.1) = l := by
  rw [List.map_map]
  conv => rhs; rw [← List.map_id l]
  rfl
theorem blen_new {enc : Int} {l : List Int} : blen enc (l.map fun a => ((a, -1) : El)) = (l.flatMap (putF enc)).length := by
  unfold blen; rw [map_new]
theorem blen_take_drop (enc : Int) (E : List El) (k : Nat) : blen enc E = blen enc (E.take k) + blen enc (E.drop k) := by rw [← blen_append, List.take_append_drop]
def goneB (enc : Int) (E : List El) (es : List EdD) : Int := (es.map fun e => (blen enc (E.take e.2.1.toNat) : Int) - blen enc (E.take e.1.toNat)).sum
theorem blen_all {enc : Int} {E : List El} : ∀ {es : List EdD} {a : Int}, 0 ≤ a → Plc E.length a es → fitsE enc (putsOf es) → (blen enc (allE E es) : Int) = blen enc E + sizeL enc (putsOf es) - goneB enc E es
  | [], _, _, _, _ => by simp [allE, putsOf, goneB, sizeL]
  | e :: es, a, h0, ⟨h1, h2, h3, h4⟩, hf => by
    have hp : putsOf (e :: es) = e.2.2.1.2 ++ putsOf es := by simp [putsOf]
    rw [hp] at hf ⊢
    have hf1 : fitsE enc e.2.2.1.2 := fun x hx => hf x (List.mem_append_left _ hx)
    have hf2 : fitsE enc (putsOf es) := fun x hx => hf x (List.mem_append_right _ hx)
    have ih := blen_all (E := E) (es := es) (by omega) h4 hf2
    have s1 : sizeL enc (e.2.2.1.2 ++ putsOf es) = sizeL enc e.2.2.1.2 + sizeL enc (putsOf es) := by simp [sizeL]
    have g1 : goneB enc E (e :: es) = ((blen enc (E.take e.2.1.toNat) : Int) - blen enc (E.take e.1.toNat)) + goneB enc E es := by simp [goneB]
    have s2 := size_put hf1
    rw [allE_cons, s1, g1]
    unfold one1
    rw [all_take h4 (by omega), blen_append, blen_append, blen_new]
    have h5 := blen_take_drop enc (allE E es) e.2.1.toNat
    rw [all_take h4 (by omega)] at h5
    omega
theorem offs_tk {enc : Int} : ∀ {l : List Int}, fitsE enc l → offs (l.map (tk enc)) = (l.flatMap (putF enc)).length
  | [], _ => rfl
  | a :: l, hf => by
    have h1 := putF_len (hf a (List.mem_cons_self ..))
    rw [List.map_cons, offs_cons, offs_tk fun b hb => hf b (List.mem_cons_of_mem _ hb), List.flatMap_cons, List.length_append]
    show (sizeF enc a).toNat + _ = _; omega
/-- A text's sizes. -/
theorem offs_els {enc : Int} (he : known enc) {ps : List Pc} (hb : ∀ q, q ∈ ps → isBytes q.2) (k : Nat) : offs ((toksL enc ps).take k) = blen enc ((els enc ps).take k) := by
  obtain ⟨h1, _, h3⟩ := toksL_els he hb
  rw [h1, ← List.map_take, ← List.map_take, offs_tk fun a ha => h3 a (by obtain ⟨x, hx, rfl⟩ := List.mem_map.1 ha; exact List.mem_map.2 ⟨x, List.mem_of_mem_take hx, rfl⟩)]
  rfl
theorem gone_els {enc : Int} (he : known enc) {ps : List Pc} (hb : ∀ q, q ∈ ps → isBytes q.2) (es : List EdD) : goneE (toksL enc ps) es = goneB enc (els enc ps) es := by
  unfold goneE goneB
  congr 1
  refine List.map_congr_left fun e _ => ?_
  rw [offs_els he hb, offs_els he hb]
/-- May these edits be done? -/
def Okay (enc limit : Int) (E : List El) (es : List EdD) : Prop := Plc E.length 0 es ∧ fitsE enc (putsOf es) ∧ (blen enc (allE E es) : Int) ≤ limit
theorem ref_okay {enc limit r : Int} (he : known enc) {ps : List Pc} (hb : ∀ q, q ∈ ps → isBytes q.2) {es : List EdD} (h : RefR enc limit (toksL enc ps) es r) : (r = 0 ↔ es.length ≤ 70000 ∧ Okay enc limit (els enc ps) es) := by
  have hl : (toksL enc ps).length = (els enc ps).length := (els_len ..).symm
  have h0 : (offs (toksL enc ps) : Int) = blen enc (els enc ps) := by
    have := offs_els he hb (toksL enc ps).length
    rw [List.take_length, hl, List.take_length] at this; exact congrArg _ this
  have key : Plc (els enc ps).length 0 es → fitsE enc (putsOf es) → (blen enc (allE (els enc ps) es) : Int) = offs (toksL enc ps) + sizeL enc (putsOf es) - goneE (toksL enc ps) es := fun a b => by
    rw [blen_all (Int.le_refl 0) a b, gone_els he hb, h0]
  cases h with
  | many h => exact ⟨fun h => (by cases h), fun h2 => by omega⟩
  | place a b => exact ⟨fun h => (by cases h), fun h2 => absurd (hl ▸ h2.2.1) b⟩
  | fit a b c => exact ⟨fun h => (by cases h), fun h2 => absurd h2.2.2.1 c⟩
  | full a b c d => rw [hl] at b; exact ⟨fun h => (by cases h), fun h2 => by have := key b c; have := h2.2.2.2; omega⟩
  | ok a b c d => rw [hl] at b; exact ⟨fun _ => ⟨a, b, c, by rw [key b c]; exact d⟩, fun _ => rfl⟩
theorem ChangeR.small {n : Nat} {T T' : TX} {h0 : Heap} {es : List EdD} {r : Int} (R : ChangeR S n T h0 h es r T') (he : known T.enc) (hb : ∀ q, q ∈ T.cur.ps → isBytes q.2) (hsm : (bytesL T.cur.ps).length ≤ T.limit) (hs : blen T.enc (Piece.els T.enc T.cur.ps) = (bytesL T.cur.ps).length) : (bytesL T'.cur.ps).length ≤ T'.limit := by
  have h1 := blen_state R.t.cur R.t.enc
  rw [R.nx.enc, R.els] at h1
  rw [R.nx.limit]
  by_cases hr : r = 0
  · rw [if_pos hr] at h1
    have := ((ref_okay he hb R.ref).1 hr).2.2.2
    omega
  · rw [if_neg hr] at h1; omega

/-! ### The tags of the loaded atoms -/
def tg (x : El) : Bool := decide (x.2 ≠ -1)
theorem one_sub {E : List El} {e : EdD} (h : e.1 ≤ e.2.1) : ((one1 E e).filter tg).Sublist (E.filter tg) := by
  unfold one1
  rw [List.filter_append, List.filter_append]
  have h1 : (e.2.2.1.2.map fun a => ((a, -1) : El)).filter tg = [] := by
    rw [List.filter_eq_nil_iff]
    intro x hx
    obtain ⟨a, _, rfl⟩ := List.mem_map.1 hx
    simp [tg]
  rw [h1, List.append_nil, ← List.filter_append]
  have h2 : (E.take e.1.toNat ++ E.drop e.2.1.toNat).Sublist E := by
    conv => rhs; rw [← List.take_append_drop e.1.toNat E]
    refine List.Sublist.append (List.Sublist.refl _) ?_
    have : E.drop e.2.1.toNat = (E.drop e.1.toNat).drop (e.2.1.toNat - e.1.toNat) := by rw [List.drop_drop]; congr 1; omega
    rw [this]; exact List.drop_sublist ..
  exact h2.filter _
theorem all_sub {E : List El} : ∀ {es : List EdD}, (∀ e, e ∈ es → e.1 ≤ e.2.1) → ((allE E es).filter tg).Sublist (E.filter tg)
  | [], _ => List.Sublist.refl _
  | e :: es, h => by rw [allE_cons]; exact (one_sub (h e (List.mem_cons_self ..))).trans (all_sub fun x hx => h x (List.mem_cons_of_mem _ hx))
theorem Plc.le {L : Int} : ∀ {es : List EdD} {a : Int}, Plc L a es → ∀ e, e ∈ es → e.1 ≤ e.2.1
  | e :: es, a, ⟨h1, h2, h3, h4⟩, x, hx => by
    rcases List.mem_cons.1 hx with rfl | hx
    · exact h2
    · exact Plc.le h4 x hx
theorem ChangeR.sub {n : Nat} {T T' : TX} {h0 : Heap} {es : List EdD} {r : Int} (R : ChangeR S n T h0 h es r T') (he : known T.enc) (hb : ∀ q, q ∈ T.cur.ps → isBytes q.2) : ((Piece.els T'.enc T'.cur.ps).filter tg).Sublist ((Piece.els T.enc T.cur.ps).filter tg) := by
  rw [R.nx.enc, R.els]
  by_cases hr : r = 0
  · rw [if_pos hr]
    exact all_sub (((ref_okay he hb R.ref).1 hr).2.1.le)
  · rw [if_neg hr]; exact List.Sublist.refl _
end Go.Sw.Piece

set_option linter.unusedVariables false
set_option linter.unusedSimpArgs false
set_option maxRecDepth 100000
namespace Go.Sw.Piece
open Go.Sw.Any Go.Sw.Codec
open Go.Sw.Tree (iv s_putAll s_newP s_getP s_getT s_putP eqI_self Placed cell_own cell_upd1 wp_whileG minI_eq)
variable {P : Program} {S : Ids} {h : Heap} {Q : Nat → List Value → Heap → Prop}

theorem c_known5 {enc : Int} {b : Sl} {l : List Int} (hb : Lst .u8 h b l) : Gives P (F_law5_known S enc b) [.one .bool] h fun (y : Bool × Unit) _ => (y.1 = true ↔ known enc ∧ l.length ≤ 65536) := by
  unfold F_law5_known
  have hl := hb.len
  refine bind_bool (known enc ∧ l.length ≤ 65536) ?_ fun bb h1 e1 hb1 => s_ret ⟨rfl, e1, (bb, ()), rfl, hb1⟩
  unfold known
  refine wp_ifB (fun hc => wp_ifB (fun hd => s_ret ⟨rfl, Ext.refl _, _, rfl, ?_⟩) fun hd => s_ret ⟨rfl, Ext.refl _, false, rfl, ?_⟩) fun hc => s_ret ⟨rfl, Ext.refl _, false, rfl, ?_⟩
  · rw [geI_iff] at hc; rw [leI_iff] at hd; rw [leI_iff, natI_def, hl]; omega
  · rw [geI_iff] at hc; rw [leI_not] at hd; exact Iff.intro (fun h => by cases h) fun h => by omega
  · rw [geI_not] at hc; exact Iff.intro (fun h => by cases h) fun h => by omega

end Go.Sw.Piece
namespace Go.Sw
open Go.Sw.Piece
open Go.Sw.Any Go.Sw.Codec
open Go.Sw.Tree (iv s_putAll s_newP s_getP s_getT s_putP eqI_self Placed cell_own cell_upd1 wp_whileG minI_eq)
variable {P : Program} {S : Ids} {h : Heap} {Q : Nat → List Value → Heap → Prop}
theorem Lst.sub {k : IntKind} {s : Sl} {l : List Int} (hr : Lst k h s l) {i j : Nat} (hi : i ≤ j) (hj : j ≤ l.length) : Lst k h ⟨cutBase s.base s.cap i 1, subN j i, subN s.cap i⟩ ((l.drop i).take (j - i)) := by
  have h1 := hr.tail (i := i) (by omega)
  have hl := hr.len
  have hc := hr.cap
  have hm := hr.max
  exact h1.take (n := j - i) (m := s.cap - i) (by rw [List.length_drop]; omega) (by omega) (by omega)

end Go.Sw
namespace Go.Sw.Piece
open Go.Sw.Any Go.Sw.Codec
open Go.Sw.Tree (iv s_putAll s_newP s_getP s_getT s_putP eqI_self Placed cell_own cell_upd1 wp_whileG minI_eq)
variable {P : Program} {S : Ids} {h : Heap} {Q : Nat → List Value → Heap → Prop}
end Go.Sw.Piece

set_option linter.unusedVariables false
set_option linter.unusedSimpArgs false
set_option maxRecDepth 100000
namespace Go.Sw.Piece
open Go.Sw.Any Go.Sw.Codec
open Go.Sw.Tree (iv s_putAll s_newP s_getP s_getT s_putP eqI_self Placed cell_own cell_upd1 wp_whileG minI_eq)
variable {P : Program} {S : Ids} {h : Heap} {Q : Nat → List Value → Heap → Prop}

abbrev Edss := Sl × List Eds
abbrev EdssSh : Sh := .list (.list EdSh)
/-- While a text that was opened is changed: what came of it since hm. -/
structure On (S : Ids) (n : Nat) (T0 : TX) (hm : Heap) (am : Nat) (h : Heap) (T : TX) : Prop where
  t : TextR S n h T
  nx : Nxt T0 T hm.size
  chg : Chg T0.Z hm h
  A : T.A.length ≤ am
  sm : (bytesL T.cur.ps).length ≤ T.limit
variable {n am : Nat} {T0 T : TX} {hm : Heap}
theorem On.ext {h' : Heap} (o : On S n T0 hm am h T) (e : Ext h h') : On S n T0 hm am h' T := ⟨o.t.ext e, o.nx, o.chg.ext e, o.A, o.sm⟩
theorem On.more {am' : Nat} (o : On S n T0 hm am h T) (hl : am ≤ am') : On S n T0 hm am' h T := ⟨o.t, o.nx, o.chg, Nat.le_trans o.A hl, o.sm⟩
theorem On.keep (o : On S n T0 hm am h T) (t0 : ∀ i, T0.Z i → n ≤ i) (hn : n ≤ hm.size) : Keep n hm h := o.chg.keep hn fun i hi hz => by have := t0 i hz; omega
/-- A Change of the text. -/
theorem On.change {h' : Heap} {T' : TX} {es : List EdD} {r : Int} (o : On S n T0 hm am h T) (c : Chg (wfoot T) h h') (R : ChangeR S n T h h' es r T') : On S n T0 hm (am + 4 * (putsOf es).length) h' T' where
  t := R.t
  nx := o.nx.trans R.nx o.chg.1
  chg := o.chg.trans c fun i hi hw => (o.nx.zn i (wfoot_Z o.t hw)).elim id fun h => by omega
  A := Nat.le_trans R.len (Nat.add_le_add_right o.A _)
  sm := R.small o.t.enc o.t.cur.bytes o.sm (blen_state o.t.cur o.t.enc)
theorem c_change (M : Meth0 P S) {x : Eds} (o : On S n T0 hm am h T) (hn : n ≤ h.size) (hok : ∀ h', Keep n h h' → (Sh.list EdSh).ok h' x) (hL : x.2.length ≤ 1073741824) (hPL : ∀ e, e ∈ x.2 → putLen e ≤ 1073741824) (hA : am + 4 * (putsOf x.2).length ≤ 400000000000) :
    wp P (F_law5_changed S (some T.p) x.1) h fun tag vs h' => tag = 0 ∧ ∃ r T', vs = [i64v r, .bool true] ∧ On S n T0 hm (am + 4 * (putsOf x.2).length) h' T' ∧ Nxt T T' h.size ∧ RefR T.enc T.limit (toksL T.enc T.cur.ps) x.2 r ∧ els T.enc T'.cur.ps = (if r = 0 then allE (els T.enc T.cur.ps) x.2 else els T.enc T.cur.ps) ∧
      ((els T'.enc T'.cur.ps).filter tg).Sublist ((els T.enc T.cur.ps).filter tg) := by
  refine wp_mono _ ?_ (c_changed M o.t hn hok hL hPL (Nat.le_trans (Nat.add_le_add_right o.A _) hA) o.sm)
  rintro tag vs h' ⟨ht, r, T', hv, c, R⟩
  exact ⟨ht, r, T', hv, o.change c R, R.nx, R.ref, R.els, R.sub o.t.enc o.t.cur.bytes⟩
theorem Opened.low {h0 h h' : Heap} {enc limit : Int} {l : List Int} {T : TX} (O : Opened S h h' enc limit l T) (hl : h0.size ≤ h.size) : TextR S h0.size h' T :=
  ⟨O.t.enc, O.t.lim, O.t.ob.mono hl, O.t.ad.mono hl, O.t.adp, O.t.adk, O.t.cur, O.t.kept, O.t.zp, O.t.za, fun i hi => ⟨Nat.le_trans hl (O.t.lo i hi).1, (O.t.lo i hi).2⟩⟩
end Go.Sw.Piece
