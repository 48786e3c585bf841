/-
  The laws of chapter 5: blocks that are written in place; the pen.
-/
import Derived.Test.YtjhnjehmbgaciaaSwG3
set_option linter.unusedVariables false
set_option linter.unusedSimpArgs false
set_option maxRecDepth 100000
namespace Go.Sw.Piece
open Go.Sw.Any Go.Sw.Codec
open Go.Sw.Tree (iv s_putAll s_newP s_getP s_getT s_putP eqI_self Placed cell_own cell_upd1 wp_whileG minI_eq)
variable {P : Program} {S : Ids} {h : Heap} {Q : Nat → List Value → Heap → Prop}

/-! ### Blocks -/
abbrev at0 (b : Nat) : Addr := ⟨b, 0, none⟩
abbrev slb (b k : Nat) : Sl := ⟨some (at0 b), k, k⟩
/-- The block b begins with these values; it lies at or behind n. -/
def Reg (n : Nat) (h : Heap) (b : Nat) (vs : List Value) : Prop :=
  n ≤ b ∧ ∃ (cs : Array Value) (elem : TypeId), h[b]? = some (.cells cs elem) ∧ vs.length ≤ cs.size ∧ ∀ (i : Nat) (v : Value), vs[i]? = some v → cs[i]? = some v
def Blk (n : Nat) (h : Heap) (b k : Nat) : Prop := n ≤ b ∧ ∃ (cs : Array Value) (elem : TypeId), h[b]? = some (.cells cs elem) ∧ k ≤ cs.size
/-- Only blocks that F names may have changed, and all have kept their size. -/
def SChg (F : Nat → Prop) (h h' : Heap) : Prop := Chg F h h' ∧ ∀ (i : Nat) (cs : Array Value) (elem : TypeId), h[i]? = some (.cells cs elem) → ∃ cs', h'[i]? = some (.cells cs' elem) ∧ cs'.size = cs.size

theorem blk_lt {i : Nat} {o : Obj} (e : h[i]? = some o) : i < h.size := by
  by_cases hlt : i < h.size
  · exact hlt
  · rw [Array.getElem?_eq_none (by omega)] at e; cases e
theorem SChg.refl (F : Nat → Prop) (h : Heap) : SChg F h h := ⟨Chg.refl F h, fun i cs elem e => ⟨cs, e, rfl⟩⟩
theorem SChg.of_ext {F : Nat → Prop} {a b : Heap} (e : Ext a b) : SChg F a b := ⟨Chg.of_ext e, fun i cs elem k => ⟨cs, by rw [e.2.1 i (blk_lt k)]; exact k, rfl⟩⟩
theorem SChg.trans {F G : Nat → Prop} {a b c : Heap} (u : SChg F a b) (v : SChg G b c) (hg : ∀ i, i < a.size → G i → F i) : SChg F a c :=
  ⟨u.1.trans v.1 hg, fun i cs elem k => let ⟨cs1, k1, s1⟩ := u.2 i cs elem k; let ⟨cs2, k2, s2⟩ := v.2 i cs1 elem k1; ⟨cs2, k2, s2.trans s1⟩⟩
theorem SChg.ext {F : Nat → Prop} {a b c : Heap} (u : SChg F a b) (e : Ext b c) : SChg F a c := u.trans (SChg.of_ext (F := F) e) fun _ _ g => g
theorem SChg.mono {F G : Nat → Prop} {a b : Heap} (u : SChg F a b) (hg : ∀ i, i < a.size → F i → G i) : SChg G a b := ⟨u.1.mono hg, u.2⟩

theorem Reg.lt {n b : Nat} {vs : List Value} (r : Reg n h b vs) : b < h.size := let ⟨_, _, _, e, _⟩ := r; blk_lt e
theorem Reg.keep {n b : Nat} {vs : List Value} {h' : Heap} (r : Reg n h b vs) (e : h'[b]? = h[b]?) : Reg n h' b vs := ⟨r.1, by rw [e]; exact r.2⟩
theorem Reg.chg {n b : Nat} {vs : List Value} {h' : Heap} {F : Nat → Prop} (r : Reg n h b vs) (c : Chg F h h') (hF : ¬ F b) : Reg n h' b vs := r.keep (c.2.1 b r.lt hF)
theorem Reg.ext {n b : Nat} {vs : List Value} {h' : Heap} (r : Reg n h b vs) (e : Ext h h') : Reg n h' b vs := r.keep (e.2.1 b r.lt)
theorem Reg.mono {n m b : Nat} {vs : List Value} (r : Reg n h b vs) (hm : m ≤ n) : Reg m h b vs := ⟨Nat.le_trans hm r.1, r.2⟩
theorem Reg.pre {n b : Nat} {vs ws : List Value} (r : Reg n h b (vs ++ ws)) : Reg n h b vs := by
  obtain ⟨h1, cs, elem, e, hl, hv⟩ := r
  rw [List.length_append] at hl
  exact ⟨h1, cs, elem, e, by omega, fun i v hi => hv i v (by rw [List.getElem?_append_left (List.getElem?_eq_some_iff.1 hi).1]; exact hi)⟩
theorem Reg.cell {n b i : Nat} {v : Value} {vs : List Value} (r : Reg n h b vs) (hi : vs[i]? = some v) : Sw.cell h ⟨b, i, none⟩ = some v := by
  obtain ⟨h1, cs, elem, e, hl, hv⟩ := r
  simp [Sw.cell, e, hv i v hi]
theorem Reg.cells {n b i : Nat} {vs ws : List Value} (r : Reg n h b vs) (hi : ∀ j v, ws[j]? = some v → vs[i + j]? = some v) : Cells h ⟨b, i, none⟩ ws :=
  cells_iff.2 fun j v hj => by rw [add_mk]; exact r.cell (hi j v hj)
theorem Reg.lst {n b c : Nat} {k : IntKind} {l : List Int} {vs : List Value} (r : Reg n h b (l.map (.int k) ++ vs)) (hw : ∀ x, x ∈ l → fitsI k x) (hc : l.length ≤ c) (hm : c < 2 ^ 63) : Lst k h ⟨some (at0 b), l.length, c⟩ l :=
  ⟨⟨by simp, fun i v hi => ⟨at0 b, rfl, by rw [add_mk, Nat.zero_add]; exact r.pre.cell hi⟩⟩, hc, hm, hw⟩
theorem Reg.blk {n b : Nat} {vs : List Value} (r : Reg n h b vs) : Blk n h b vs.length := let ⟨h1, cs, elem, e, hl, _⟩ := r; ⟨h1, cs, elem, e, hl⟩
theorem Blk.reg {n b k : Nat} (r : Blk n h b k) : ∃ vs, vs.length = k ∧ Reg n h b vs := by
  obtain ⟨h1, cs, elem, e, hl⟩ := r
  refine ⟨cs.toList.take k, by rw [List.length_take]; simp; omega, h1, cs, elem, e, by rw [List.length_take]; simp; omega, fun i v hi => ?_⟩
  rw [List.getElem?_take] at hi
  split at hi
  · simpa using hi
  · cases hi
theorem Blk.lt {n b k : Nat} (r : Blk n h b k) : b < h.size := let ⟨_, _, _, e, _⟩ := r; blk_lt e
theorem Blk.le {n b k m : Nat} (r : Blk n h b k) (hm : m ≤ k) : Blk n h b m := let ⟨h1, cs, elem, e, hl⟩ := r; ⟨h1, cs, elem, e, Nat.le_trans hm hl⟩
theorem Blk.schg {n b k : Nat} {h' : Heap} {F : Nat → Prop} (r : Blk n h b k) (c : SChg F h h') : Blk n h' b k := by
  obtain ⟨h1, cs, elem, e, hl⟩ := r
  obtain ⟨cs', e', s⟩ := c.2 b cs elem e
  exact ⟨h1, cs', elem, e', by omega⟩
theorem Blk.keep {n b k : Nat} {h' : Heap} (r : Blk n h b k) (e : h'[b]? = h[b]?) : Blk n h' b k := ⟨r.1, by rw [e]; exact r.2⟩
theorem Blk.chg {n b k : Nat} {h' : Heap} {F : Nat → Prop} (r : Blk n h b k) (c : Chg F h h') (hF : ¬ F b) : Blk n h' b k := r.keep (c.2.1 b r.lt hF)
theorem Own.reg {n size : Nat} {s : Sl} {a : Addr} {vs : List Value} (o : Own n size h s vs) (ha : s.base = some a) : a = at0 a.block ∧ Reg n h a.block vs := by
  obtain ⟨o1, o2, o3, o4⟩ := o
  rw [ha] at o4
  obtain ⟨b, off, spot⟩ := a
  obtain ⟨e0, e1, e2, cs, elem, e3, e4, e5⟩ := o4
  dsimp only at e0 e1 e2 e3
  subst e0; subst e1
  exact ⟨rfl, e2, cs, elem, e3, by rw [e4, ← o1]; exact Nat.mul_le_mul_right _ o2, e5⟩

/-- Values written into a block. -/
theorem s_putR {n b off : Nat} {pre mid post : List Value} (new : List Value) {K : Prog} (r : Reg n h b (pre ++ mid ++ post)) (ho : off = pre.length) (hl : new.length = mid.length) (hf : ∀ v ∈ new, flat v = true)
    (hk : ∀ h', Reg n h' b (pre ++ new ++ post) → SChg (fun i => i = b) h h' → h'.size = h.size → wp P K h' Q) : wp P (.store (some ⟨b, off, none⟩) new K) h Q := by
  subst ho
  obtain ⟨h1, cs, elem, e, hl2, hv⟩ := r
  simp only [List.length_append] at hl2
  obtain ⟨w, cs', c1, c2, c3, c4, c5, c6⟩ := puts_block (vs := new) (i := 0) (off := pre.length) e hf (by omega)
  refine ⟨⟨b, pre.length, none⟩, rfl, w, hk _ ⟨h1, cs', elem, c1, by simp only [List.length_append]; omega, fun j v hj => ?_⟩ ⟨⟨by unfold puts; omega, fun i hi hne => c6 i hne, fun a e => by unfold puts; rw [thaw_putFrom]; exact e⟩, fun i cs0 el0 k => ?_⟩ (by unfold puts; omega)⟩
  · by_cases hj1 : j < pre.length
    · rw [c4 j (.inl (by omega))]
      refine hv j v ?_
      rw [List.append_assoc, List.getElem?_append_left hj1] at hj ⊢; exact hj
    · rw [List.append_assoc, List.getElem?_append_right (by omega)] at hj
      by_cases hj2 : j - pre.length < new.length
      · rw [List.getElem?_append_left hj2] at hj
        have := c3 _ _ hj
        rwa [show pre.length + 0 + (j - pre.length) = j by omega] at this
      · rw [List.getElem?_append_right (by omega)] at hj
        rw [c4 j (.inr (by omega))]
        refine hv j v ?_
        rw [List.append_assoc, List.getElem?_append_right (by omega), List.getElem?_append_right (by omega), ← hl]; exact hj
  · by_cases hi : i = b
    · subst hi
      rw [e] at k; cases k
      exact ⟨cs', c1, c2⟩
    · exact ⟨cs0, by show (puts h _ new)[i]? = _; unfold puts; rw [c6 i hi]; exact k, rfl⟩
/-- A list copied to a block's beginning. -/
theorem s_copyR {n b c m : Nat} {k : IntKind} {x : Sl} {l : List Int} {mid post : List Value} {K : Nat → Prog} (r : Reg n h b (mid ++ post)) (hx : Lst k h x l) (hl : l.length = mid.length) (hm : l.length ≤ m)
    (hk : ∀ h', Reg n h' b (l.map (.int k) ++ post) → SChg (fun i => i = b) h h' → h'.size = h.size → wp P (K l.length) h' Q) : wp P (.copy 1 ⟨some (at0 b), m, c⟩ x K) h Q := by
  have hxl := hx.len
  obtain ⟨h1, cs, elem, e, hl2, hv⟩ := r
  simp only [List.length_append] at hl2
  have hmin : min x.len m = l.length := by omega
  obtain ⟨w, cs', c1, c2, c3, c4, c5, c6⟩ := puts_block (vs := l.map (.int k)) (i := 0) (off := 0) e (by intro y hy; obtain ⟨z, _, rfl⟩ := List.mem_map.1 hy; rfl) (by rw [List.length_map]; omega)
  rw [List.length_map] at c4
  refine ⟨l.map (.int k), ?_, ?_⟩
  · dsimp only
    rw [hmin]
    have := hx.rd.firsts
    rw [hxl] at this; exact this
  · dsimp only
    rw [hmin]
    refine ⟨w, hk _ ⟨h1, cs', elem, c1, by simp only [List.length_append, List.length_map]; omega, fun j v hj => ?_⟩ ⟨⟨Nat.le_of_eq c5.symm, fun i hi hne => c6 i hne, fun a e => by unfold puts; rw [thaw_putFrom]; exact e⟩, fun i cs0 el0 k => ?_⟩ c5⟩
    · by_cases hj1 : j < l.length
      · rw [List.getElem?_append_left (by rw [List.length_map]; exact hj1)] at hj
        have := c3 _ _ hj
        rwa [show 0 + 0 + j = j by omega] at this
      · rw [List.getElem?_append_right (by rw [List.length_map]; omega), List.length_map] at hj
        rw [c4 j (.inr (by omega))]
        refine hv j v ?_
        rw [List.getElem?_append_right (by omega), ← hl]; exact hj
    · by_cases hi : i = b
      · subst hi
        rw [e] at k; cases k
        exact ⟨cs', c1, c2⟩
      · exact ⟨cs0, by show (puts h _ _)[i]? = _; unfold puts; rw [c6 i hi]; exact k, rfl⟩

/-- make of any cells. -/
theorem s_mkB {bytes n size : Nat} {zero : List Value} {K : Sl → Prog} (hz : zero.length = size) (h1 : n < 2 ^ 63) (h2 : bytes * n ≤ 2 ^ 48) (hk : ∀ h', Ext h h' → Blk h.size h' h.size (n * size) → h'.size = h.size + 1 → wp P (K (slb h.size n)) h' Q) : wp P (.mk bytes zero (n : Int) (n : Int) K) h Q := by
  refine ⟨⟨by omega, Int.le_refl _, by omega, by exact_mod_cast h2⟩, fun elem => hk _ (Ext.push ..) ⟨Nat.le_refl _, _, elem, Array.getElem?_push_size, ?_⟩ (by simp)⟩
  simp only [List.size_toArray, zeros_len hz, Int.toNat_natCast]
  exact Nat.le_refl _

/-! ### The pen -/
structure PenS where
  ob : Nat
  all : Option Nat
  pu : Sl
  ws : List Nat
def allSl : Option Nat → Sl
  | none => ⟨none, 0, 0⟩
  | some b => slb b 200
def penM (s : PenS) (i : Nat) : Prop := i = s.ob ∨ ∃ a, s.pu.base = some a ∧ a.block = i
def penW (s : PenS) (i : Nat) : Prop := s.all = some i ∨ i ∈ s.ws
structure PenR (n : Nat) (h : Heap) (s : PenS) : Prop where
  ob : Own n 1 h ⟨some (at0 s.ob), 2, 2⟩ [slv (allSl s.all), slv s.pu]
  all : ∀ b, s.all = some b → Blk n h b 600
  pu : Own n 1 h s.pu (s.ws.map fun b => slv (slb b 400))
  ws : ∀ b, b ∈ s.ws → Blk n h b 400
  nd : s.ws.Nodup
  na : ∀ b, s.all = some b → b ∉ s.ws
  mw : ∀ i, penM s i → ¬ penW s i
  mm : ∀ a, s.pu.base = some a → a.block ≠ s.ob
  few : s.ws.length ≤ 8
def PenO (n : Nat) (h : Heap) (p : Option Addr) : Option PenS → Prop
  | none => p = none
  | some s => p = some (at0 s.ob) ∧ PenR n h s
def oM : Option PenS → Nat → Prop
  | none, _ => False
  | some s, i => penM s i
def oZ : Option PenS → Nat → Prop
  | none, _ => False
  | some s, i => penM s i ∨ penW s i
def RoleA (s : Option PenS) (b : Nat) : Prop := (∃ t, s = some t ∧ t.all = some b) ∨ ¬ oZ s b
def RoleW (s : Option PenS) (j b : Nat) : Prop := (∃ t, s = some t ∧ t.ws[j]? = some b) ∨ ¬ oZ s b

theorem PenR.in {n : Nat} {s : PenS} (r : PenR n h s) {i : Nat} (hi : penM s i ∨ penW s i) : n ≤ i ∧ i < h.size := by
  rcases hi with (rfl | ⟨a, ha, rfl⟩) | hi | hi
  · exact r.ob.lt rfl
  · exact r.pu.lt ha
  · have := r.all i hi; exact ⟨this.1, this.lt⟩
  · have := r.ws i hi; exact ⟨this.1, this.lt⟩
theorem PenO.in {n : Nat} {p : Option Addr} {s : Option PenS} (r : PenO n h p s) {i : Nat} (hi : oZ s i) : n ≤ i ∧ i < h.size := by
  cases s with
  | none => exact hi.elim
  | some s => exact r.2.in hi
theorem PenR.schg {n : Nat} {s : PenS} {h' : Heap} {F : Nat → Prop} (r : PenR n h s) (c : SChg F h h') (hF : ∀ i, penM s i → ¬ F i) : PenR n h' s where
  ob := c.1.own r.ob fun x hx => by cases hx; exact hF _ (.inl rfl)
  all := fun b hb => (r.all b hb).schg c
  pu := c.1.own r.pu fun x hx => hF _ (.inr ⟨x, hx, rfl⟩)
  ws := fun b hb => (r.ws b hb).schg c
  nd := r.nd
  na := r.na
  mw := r.mw
  mm := r.mm
  few := r.few
theorem PenO.schg {n : Nat} {p : Option Addr} {s : Option PenS} {h' : Heap} {F : Nat → Prop} (r : PenO n h p s) (c : SChg F h h') (hF : ∀ i, oM s i → ¬ F i) : PenO n h' p s := by
  cases s with
  | none => exact r
  | some s => exact ⟨r.1, r.2.schg c hF⟩
theorem PenO.ext {n : Nat} {p : Option Addr} {s : Option PenS} {h' : Heap} (r : PenO n h p s) (e : Ext h h') : PenO n h' p s := r.schg (SChg.of_ext (F := fun _ => False) e) fun _ _ x => x
theorem PenR.chg {n : Nat} {s : PenS} {h' : Heap} {F : Nat → Prop} (r : PenR n h s) (c : Chg F h h') (hF : ∀ i, penM s i ∨ penW s i → ¬ F i) : PenR n h' s where
  ob := c.own r.ob fun x hx => by cases hx; exact hF _ (.inl (.inl rfl))
  all := fun b hb => (r.all b hb).chg c (hF _ (.inr (.inl hb)))
  pu := c.own r.pu fun x hx => hF _ (.inl (.inr ⟨x, hx, rfl⟩))
  ws := fun b hb => (r.ws b hb).chg c (hF _ (.inr (.inr hb)))
  nd := r.nd
  na := r.na
  mw := r.mw
  mm := r.mm
  few := r.few
theorem PenO.chg {n : Nat} {p : Option Addr} {s : Option PenS} {h' : Heap} {F : Nat → Prop} (r : PenO n h p s) (c : Chg F h h') (hF : ∀ i, oZ s i → ¬ F i) : PenO n h' p s := by
  cases s with
  | none => exact r
  | some s => exact ⟨r.1, r.2.chg c hF⟩
end Go.Sw.Piece

set_option linter.unusedVariables false
set_option linter.unusedSimpArgs false
set_option maxRecDepth 100000
namespace Go.Sw.Piece
open Go.Sw.Any Go.Sw.Codec
open Go.Sw.Tree (iv s_putAll s_newP s_getP s_getT s_putP eqI_self Placed cell_own cell_upd1 wp_whileG minI_eq)
variable {P : Program} {S : Ids} {h : Heap} {Q : Nat → List Value → Heap → Prop}

/-- What p.edits gives: a block of k edits. -/
structure PenEd (n : Nat) (h h' : Heap) (p : Option Addr) (s s' : Option PenS) (b k : Nat) : Prop where
  pen : PenO n h' p s'
  chg : Chg (oM s) h h'
  blk : Blk n h' b (k * 3)
  zone : ∀ i, oZ s' i → oZ s i ∨ h.size ≤ i
  old : oZ s b ∨ h.size ≤ b
  role : RoleA s' b

theorem Blk.mono {n m b k : Nat} (r : Blk n h b k) (hm : m ≤ n) : Blk m h b k := ⟨Nat.le_trans hm r.1, r.2⟩
/-- What p.put gives: a block of k numbers. -/
structure PenPu (n : Nat) (h h' : Heap) (p : Option Addr) (s s' : Option PenS) (i b k : Nat) : Prop where
  pen : PenO n h' p s'
  chg : Chg (oM s) h h'
  blk : Blk n h' b k
  zone : ∀ i, oZ s' i → oZ s i ∨ h.size ≤ i
  old : oZ s b ∨ h.size ≤ b
  role : RoleW s' i b
  new : (∃ t, s' = some t ∧ t.ws[i]? = some b) ∨ h.size ≤ b
  ra : ∀ c, c < h.size → RoleA s c → RoleA s' c
  rw : ∀ j c, c < h.size → RoleW s j c → RoleW s' j c

end Go.Sw.Piece

set_option linter.unusedVariables false
set_option linter.unusedSimpArgs false
set_option maxRecDepth 100000
namespace Go.Sw.Piece
open Go.Sw.Any Go.Sw.Codec
open Go.Sw.Tree (iv s_putAll s_newP s_getP s_getT s_putP eqI_self Placed cell_own cell_upd1 wp_whileG minI_eq)
variable {P : Program} {S : Ids} {h : Heap} {Q : Nat → List Value → Heap → Prop}

abbrev putLen (e : EdD) : Nat := e.2.2.1.2.length
/-- An edit's list, as it is handed in. -/
def putSl (room : Nat) (e : EdD) (b : Nat) : Sl := if e.2.2.1.1.base = none then ⟨none, 0, 0⟩ else ⟨some (at0 b), putLen e, putLen e + room⟩
abbrev edC (room : Nat) (e : EdD) (b : Nat) : List Value := [i64v e.1, i64v e.2.1, slv (putSl room e b)]
abbrev markC (i : Nat) : List Value := [i64v (-771 - (i : Int)), i64v (-772), .slice none 0 0]
def markE (m k : Nat) : List Int := (List.range k).map fun (j : Nat) => 771 + ((m : Int) + (j : Int))
def putC (room : Nat) (e : EdD) : List Value := (e.2.2.1.2 ++ markE (putLen e) room).map (.int .i64)
end Go.Sw.Piece
namespace Go.Sw
open Go.Sw.Piece
open Go.Sw.Any Go.Sw.Codec
open Go.Sw.Tree (iv s_putAll s_newP s_getP s_getT s_putP eqI_self Placed cell_own cell_upd1 wp_whileG minI_eq)
variable {P : Program} {S : Ids} {h : Heap} {Q : Nat → List Value → Heap → Prop}
theorem Chg.cells {F : Nat → Prop} {h' : Heap} {a : Addr} {vs : List Value} (c : Chg F h h') (hc : Cells h a vs) (hF : ¬ F a.block) : Cells h' a vs := cells_iff.2 fun j v hj => by
  have h1 := cells_iff.1 hc j v hj
  have hb : (a.add j).block = a.block := add_block a j
  exact (cell_of_block (h := h) (h' := h') (a := a.add j) (by rw [hb]; exact c.2.1 _ (by have := cell_lt h1; rw [hb] at this; exact this) hF)).trans h1

end Go.Sw
namespace Go.Sw.Piece
open Go.Sw.Any Go.Sw.Codec
open Go.Sw.Tree (iv s_putAll s_newP s_getP s_getT s_putP eqI_self Placed cell_own cell_upd1 wp_whileG minI_eq)
variable {P : Program} {S : Ids} {h : Heap} {Q : Nat → List Value → Heap → Prop}
/-- Values written into a block; all else there stays. -/
theorem s_putB {n b off k : Nat} (new : List Value) {K : Prog} (r : Blk n h b k) (ho : off + new.length ≤ k) (hf : ∀ v ∈ new, flat v = true)
    (hk : ∀ h', Blk n h' b k → Cells h' ⟨b, off, none⟩ new → (∀ j v, (j < off ∨ off + new.length ≤ j) → Sw.cell h ⟨b, j, none⟩ = some v → Sw.cell h' ⟨b, j, none⟩ = some v) → SChg (fun i => i = b) h h' → h'.size = h.size → wp P K h' Q) : wp P (.store (some ⟨b, off, none⟩) new K) h Q := by
  have r0 := r
  obtain ⟨h1, cs, elem, e, hl2⟩ := r
  obtain ⟨w, cs', c1, c2, c3, c4, c5, c6⟩ := puts_block (vs := new) (i := 0) (off := off) e hf (by omega)
  have sc : SChg (fun i => i = b) h (puts h ⟨b, off, none⟩ new) := by
    refine ⟨⟨by unfold puts; omega, fun i hi hne => c6 i hne, fun a e => by unfold puts; rw [thaw_putFrom]; exact e⟩, fun i cs0 el0 k => ?_⟩
    by_cases hi : i = b
    · subst hi
      rw [e] at k; cases k
      exact ⟨cs', c1, c2⟩
    · exact ⟨cs0, by show (puts h _ new)[i]? = _; unfold puts; rw [c6 i hi]; exact k, rfl⟩
  refine ⟨⟨b, off, none⟩, rfl, w, hk _ (r0.schg sc) (cells_iff.2 fun j v hj => ?_) (fun j v hj hc => ?_) sc (by unfold puts; omega)⟩
  · rw [add_mk]
    have := c3 _ _ hj
    show Sw.cell (putFrom h _ _ new) _ = _
    simp [Sw.cell, c1]
    simpa using this
  · have hc' : cs[j]? = some v := by
      unfold Sw.cell at hc
      rw [e] at hc
      simpa using hc
    show Sw.cell (putFrom h _ _ new) _ = _
    simp [Sw.cell, c1]
    rw [c4 j (by omega)]; exact hc'

/-- While edits are written down: so many of them (i; k have their lists). -/
structure HI (n : Nat) (h0 : Heap) (p : Option Addr) (s0 : Option PenS) (x : Eds) (room hb a2 i k : Nat) (h : Heap) (s : Option PenS) (ws : List Nat) (pu : Sl) : Prop where
  chg : Chg (oZ s0) h0 h
  pen : PenO n h p s
  zone : ∀ i, oZ s i → oZ s0 i ∨ h0.size ≤ i
  ob : Own h0.size 1 h ⟨some (at0 a2), 3, 3⟩ [i64v room, slv (slb hb (x.2.length + room)), slv pu]
  obz : ¬ oZ s a2
  obb : a2 ≠ hb ∧ a2 ∉ ws
  blk : Blk n h hb ((x.2.length + room) * 3)
  ra : RoleA s hb
  old : ∀ b, b = hb ∨ b ∈ ws → oZ s0 b ∨ h0.size ≤ b
  len : ws.length = k
  le : k ≤ x.2.length
  el : ∀ (j : Nat) (e : EdD) (b : Nat), j < i → x.2[j]? = some e → ws[j]? = some b → Cells h ⟨hb, j * 3, none⟩ (edC room e b)
  w : ∀ (j : Nat) (e : EdD) (b : Nat), x.2[j]? = some e → ws[j]? = some b → Reg n h b (putC room e)
  rw : ∀ (j b : Nat), ws[j]? = some b → RoleW s j b
  nd : (hb :: ws).Nodup
  put : ∃ vs : List Value, Own h0.size 1 h pu vs ∧ vs.length = k ∧ ∀ (j : Nat) (e : EdD) (b : Nat), x.2[j]? = some e → ws[j]? = some b → vs[j]? = some (slv (slb b (putLen e + room)))
  pub : ∀ a, pu.base = some a → a.block ≠ hb ∧ a.block ∉ ws ∧ ¬ oZ s a.block ∧ a.block ≠ a2

variable {n : Nat} {h0 : Heap} {p : Option Addr} {s0 : Option PenS} {x : Eds} {room hb a2 i k : Nat} {s : Option PenS} {ws : List Nat} {pu : Sl}
theorem HI.has (hi : HI n h0 p s0 x room hb a2 i k h s ws pu) {j b : Nat} (hj : ws[j]? = some b) : ∃ e, x.2[j]? = some e ∧ Reg n h b (putC room e) := by
  have h1 := (List.getElem?_eq_some_iff.1 hj).1
  have h2 := hi.len; have h3 := hi.le
  obtain ⟨e, he⟩ : ∃ e, x.2[j]? = some e := ⟨x.2[j]'(by omega), List.getElem?_eq_getElem (by omega)⟩
  exact ⟨e, he, hi.w j e b he hj⟩
theorem HI.wlt (hi : HI n h0 p s0 x room hb a2 i k h s ws pu) {b : Nat} (hb : b ∈ ws) : b < h.size := by
  obtain ⟨j, hj⟩ := List.getElem?_of_mem hb
  obtain ⟨e, he, r⟩ := hi.has hj
  exact r.lt
/-- What does not touch it leaves it as it is. -/
theorem HI.keep {F : Nat → Prop} {h' : Heap} (hi : HI n h0 p s0 x room hb a2 i k h s ws pu) (c : Chg F h h') (pen' : PenO n h' p s) (hF : ∀ i, F i → i ≠ a2 ∧ i ≠ hb ∧ i ∉ ws ∧ (∀ a, pu.base = some a → a.block ≠ i) ∧ (oZ s0 i ∨ h0.size ≤ i)) :
    HI n h0 p s0 x room hb a2 i k h' s ws pu where
  chg := hi.chg.trans c fun i hl f => (hF i f).2.2.2.2.elim id fun h => by omega
  pen := pen'
  zone := hi.zone
  ob := c.own hi.ob fun y hy f => by cases hy; exact (hF _ f).1 rfl
  obz := hi.obz
  obb := hi.obb
  blk := hi.blk.chg c fun f => (hF _ f).2.1 rfl
  ra := hi.ra
  old := hi.old
  len := hi.len
  le := hi.le
  el := fun j e b hj he hb' => c.cells (hi.el j e b hj he hb') fun f => (hF _ f).2.1 rfl
  w := fun j e b he hb' => (hi.w j e b he hb').chg c fun f => (hF _ f).2.2.1 (List.mem_of_getElem? hb')
  rw := hi.rw
  nd := hi.nd
  put := let ⟨vs, o, l, g⟩ := hi.put; ⟨vs, c.own o fun y hy f => (hF _ f).2.2.2.1 y hy rfl, l, g⟩
  pub := hi.pub
theorem HI.ext {h' : Heap} (hi : HI n h0 p s0 x room hb a2 i k h s ws pu) (e : Ext h h') : HI n h0 p s0 x room hb a2 i k h' s ws pu :=
  hi.keep (Chg.of_ext (F := fun _ => False) e) (hi.pen.ext e) fun _ f => f.elim
/-- The pen gave a block for one more list. -/
structure NewW (n : Nat) (h0 : Heap) (s0 : Option PenS) (hb a2 : Nat) (s : Option PenS) (ws : List Nat) (pu : Sl) (k b : Nat) : Prop where
  role : RoleW s k b
  na : b ≠ a2 ∧ b ≠ hb ∧ b ∉ ws ∧ (∀ a, pu.base = some a → a.block ≠ b)
  old : oZ s0 b ∨ h0.size ≤ b
end Go.Sw.Piece

set_option linter.unusedVariables false
set_option linter.unusedSimpArgs false
set_option maxRecDepth 100000
namespace Go.Sw.Piece
open Go.Sw.Any Go.Sw.Codec
open Go.Sw.Tree (iv s_putAll s_newP s_getP s_getT s_putP eqI_self Placed cell_own cell_upd1 wp_whileG minI_eq)
variable {P : Program} {S : Ids} {h : Heap} {Q : Nat → List Value → Heap → Prop}
variable {n : Nat} {h0 : Heap} {p : Option Addr} {s0 : Option PenS} {x : Eds} {room hb a2 i k : Nat} {s : Option PenS} {ws : List Nat} {pu : Sl}

/-- Edits in the hand. -/
structure HandR (n : Nat) (h : Heap) (x : Eds) (room hb : Nat) (ws : List Nat) (pu : Sl) : Prop where
  len : ws.length = x.2.length
  blk : Blk n h hb ((x.2.length + room) * 3)
  el : ∀ (j : Nat) (e : EdD) (b : Nat), x.2[j]? = some e → ws[j]? = some b → Cells h ⟨hb, j * 3, none⟩ (edC room e b)
  mks : ∀ j : Nat, j < room → Cells h ⟨hb, (x.2.length + j) * 3, none⟩ (markC (x.2.length + j))
  w : ∀ (j : Nat) (e : EdD) (b : Nat), x.2[j]? = some e → ws[j]? = some b → Reg n h b (putC room e)
  nd : (hb :: ws).Nodup
  put : ∃ vs : List Value, Own n 1 h pu vs ∧ vs.length = x.2.length ∧ ∀ (j : Nat) (e : EdD) (b : Nat), x.2[j]? = some e → ws[j]? = some b → vs[j]? = some (slv (slb b (putLen e + room)))
  pub : ∀ a, pu.base = some a → a.block ≠ hb ∧ a.block ∉ ws
theorem HandR.keep {F : Nat → Prop} {h' : Heap} (r : HandR n h x room hb ws pu) (c : Chg F h h') (hF : ∀ i, F i → i ≠ hb ∧ i ∉ ws ∧ ∀ a, pu.base = some a → a.block ≠ i) : HandR n h' x room hb ws pu where
  len := r.len
  blk := r.blk.chg c fun f => (hF _ f).1 rfl
  el := fun j e b he hb' => c.cells (r.el j e b he hb') fun f => (hF _ f).1 rfl
  mks := fun j hj => c.cells (r.mks j hj) fun f => (hF _ f).1 rfl
  w := fun j e b he hb' => (r.w j e b he hb').chg c fun f => (hF _ f).2.1 (List.mem_of_getElem? hb')
  nd := r.nd
  put := let ⟨vs, o, l, g⟩ := r.put; ⟨vs, c.own o fun y hy f => (hF _ f).2.2 y hy rfl, l, g⟩
  pub := r.pub
theorem HandR.ext {h' : Heap} (r : HandR n h x room hb ws pu) (e : Ext h h') : HandR n h' x room hb ws pu := r.keep (Chg.of_ext (F := fun _ => False) e) fun _ f => f.elim

end Go.Sw.Piece

set_option linter.unusedVariables false
set_option linter.unusedSimpArgs false
set_option maxRecDepth 100000
namespace Go.Sw.Piece
open Go.Sw.Any Go.Sw.Codec
open Go.Sw.Tree (iv s_putAll s_newP s_getP s_getT s_putP eqI_self Placed cell_own cell_upd1 wp_whileG minI_eq)
variable {P : Program} {S : Ids} {h : Heap} {Q : Nat → List Value → Heap → Prop}
variable {n : Nat} {p : Option Addr} {x : Eds} {room hb : Nat} {s : Option PenS} {ws : List Nat} {pu : Sl}

/-- The edits that are handed in; the marks behind them. -/
def handE (room : Nat) (es : List EdD) (ws : List Nat) : List EdD := List.zipWith (fun e b => ((e.1, e.2.1, (putSl room e b, e.2.2.1.2), ()) : EdD)) es ws
def markD (i : Nat) : EdD := (-771 - (i : Int), -772, (⟨none, 0, 0⟩, []), ())
def handM (m room : Nat) : List EdD := (List.range room).map fun j => markD (m + j)
abbrev handX (room : Nat) (x : Eds) (hb : Nat) (ws : List Nat) : Eds := (⟨some (at0 hb), x.2.length, x.2.length + room⟩, handE room x.2 ws)
abbrev handA (room : Nat) (x : Eds) (hb : Nat) (ws : List Nat) : Eds := (slb hb (x.2.length + room), handE room x.2 ws ++ handM x.2.length room)
theorem handE_at {room : Nat} {es : List EdD} {ws : List Nat} {i : Nat} {y : EdD} (hi : (handE room es ws)[i]? = some y) : ∃ e b, es[i]? = some e ∧ ws[i]? = some b ∧ y = (e.1, e.2.1, (putSl room e b, e.2.2.1.2), ()) := by
  unfold handE at hi
  rw [List.getElem?_zipWith] at hi
  split at hi
  · rename_i e b he hb; exact ⟨e, b, he, hb, (Option.some.inj hi).symm⟩
  · cases hi
theorem handE_len {room : Nat} {es : List EdD} {ws : List Nat} (hl : ws.length = es.length) : (handE room es ws).length = es.length := by unfold handE; rw [List.length_zipWith]; omega

theorem ok_one {e : EdD} {b : Nat} (ok : EdSh.ok h e) (hr : Reg n h b (putC room e)) (hl : putLen e + room < 2 ^ 63) : EdSh.ok h ((e.1, e.2.1, (putSl room e b, e.2.2.1.2), ()) : EdD) := by
  have h3 : (Sh.list (.int .i64)).ok h e.2.2.1 := ok.2.2.1
  refine ⟨ok.1, ok.2.1, ?_, trivial⟩
  unfold putSl
  by_cases hbs : e.2.2.1.1.base = none
  · have hnil : e.2.2.1.2 = [] := by
      cases hh : e.2.2.1.2 with
      | nil => rfl
      | cons y l =>
        obtain ⟨a, ea, _⟩ := h3.2.2.2 0 y (by rw [hh]; rfl)
        rw [hbs] at ea; cases ea
    rw [if_pos hbs, hnil]
    exact ⟨rfl, Nat.le_refl _, (by decide : 0 < 2 ^ 63), fun i y hi => by simp at hi⟩
  · rw [if_neg hbs]
    refine ⟨rfl, Nat.le_add_right _ _, hl, fun i y hi => ⟨at0 b, rfl, cells_iff.2 fun j v hj => ?_, ?_⟩⟩
    · have hj0 : j = 0 := by have := (List.getElem?_eq_some_iff.1 hj).1; simp [Sh.cells] at this; exact this
      subst hj0
      simp [Sh.cells] at hj
      subst hj
      rw [add_zero', add_mk, Nat.zero_add, show i * Sh.size (.int .i64) = i from Nat.mul_one i]
      have hi' : e.2.2.1.2[i]? = some y := hi
      exact hr.cell (by unfold putC; rw [List.getElem?_map, List.getElem?_append_left (List.getElem?_eq_some_iff.1 hi').1, hi']; rfl)
    · have hi' : e.2.2.1.2[i]? = some y := hi
      obtain ⟨_, _, _, o⟩ := h3.2.2.2 i y hi'; exact o
theorem HandR.okA (r : HandR n h x room hb ws pu) (ok : (Sh.list EdSh).ok h x) (hL : x.2.length ≤ 1073741824) (hPL : ∀ e, e ∈ x.2 → putLen e ≤ 1073741824) (hrm : room ≤ 100) : (Sh.list EdSh).ok h (handA room x hb ws) := by
  have hEl := handE_len (room := room) r.len
  have hM : (handM x.2.length room).length = room := by simp [handM]
  refine ⟨by simp [hEl, hM], Nat.le_refl _, (by show x.2.length + room < 2 ^ 63; omega), fun i y hi => ⟨at0 hb, rfl, ?_⟩⟩
  have hi : (handE room x.2 ws ++ handM x.2.length room)[i]? = some y := hi
  have ea : (at0 hb).add (i * EdSh.size) = ⟨hb, i * 3, none⟩ := by rw [add_mk, Nat.zero_add]; rfl
  rw [ea]
  by_cases hlt : i < x.2.length
  · rw [List.getElem?_append_left (by omega)] at hi
    obtain ⟨e, b, he, hb', rfl⟩ := handE_at hi
    exact ⟨r.el i e b he hb', ok_one (ok.el he) (r.w i e b he hb') (by have := hPL e (List.mem_of_getElem? he); omega)⟩
  · rw [List.getElem?_append_right (by omega), hEl] at hi
    unfold handM at hi
    rw [List.getElem?_map] at hi
    have hj : i - x.2.length < room := by
      by_cases hh : i - x.2.length < room
      · exact hh
      · rw [List.getElem?_eq_none (by simp; omega)] at hi; cases hi
    rw [List.getElem?_range hj] at hi
    simp at hi
    subst hi
    have hm := r.mks (i - x.2.length) hj
    rw [show x.2.length + (i - x.2.length) = i by omega] at hm ⊢
    refine ⟨hm, ?_, ?_, ?_, trivial⟩
    · show fitsI .i64 (-771 - (i : Int)); rw [fits_i64]; omega
    · show fitsI .i64 (-772); rw [fits_i64]; omega
    · exact ⟨rfl, Nat.le_refl _, (by decide : 0 < 2 ^ 63), fun i y hi => by simp [markD] at hi⟩
theorem HandR.ok (r : HandR n h x room hb ws pu) (ok : (Sh.list EdSh).ok h x) (hL : x.2.length ≤ 1073741824) (hPL : ∀ e, e ∈ x.2 → putLen e ≤ 1073741824) (hrm : room ≤ 100) : (Sh.list EdSh).ok h (handX room x hb ws) := by
  have hEl := handE_len (room := room) r.len
  have o := r.okA ok hL hPL hrm
  refine ⟨hEl.symm, Nat.le_add_right _ _, (by show x.2.length + room < 2 ^ 63; omega), fun i y hi => ?_⟩
  have hi' : (handE room x.2 ws)[i]? = some y := hi
  exact o.2.2.2 i y (by show (handE room x.2 ws ++ handM x.2.length room)[i]? = _; rw [List.getElem?_append_left (List.getElem?_eq_some_iff.1 hi').1]; exact hi')

end Go.Sw.Piece

set_option linter.unusedVariables false
set_option linter.unusedSimpArgs false
set_option maxRecDepth 100000
namespace Go.Sw.Piece
open Go.Sw.Any Go.Sw.Codec
open Go.Sw.Tree (iv s_putAll s_newP s_getP s_getT s_putP eqI_self Placed cell_own cell_upd1 wp_whileG minI_eq)
variable {P : Program} {S : Ids} {h : Heap} {Q : Nat → List Value → Heap → Prop}
variable {n : Nat} {p : Option Addr} {x : Eds} {room hb : Nat} {s : Option PenS} {ws : List Nat} {pu : Sl}

/-- A Change was done (or refused), with edits of one's own. -/
structure WrR (S : Ids) (n : Nat) (T : TX) (p : Option Addr) (s : Option PenS) (h0 h : Heap) (es : List EdD) (r : Int) (T' : TX) (s' : Option PenS) : Prop where
  ref : RefR T.enc T.limit (toksL T.enc T.cur.ps) es r
  t : TextR S n h T'
  nx : Nxt T T' h0.size
  els : els T.enc T'.cur.ps = if r = 0 then allE (els T.enc T.cur.ps) es else els T.enc T.cur.ps
  len : T'.A.length ≤ T.A.length + 4 * (putsOf es).length
  chg : Chg (fun i => wfoot T i ∨ oZ s i) h0 h
  pen : PenO n h p s'
  zone : ∀ i, oZ s' i → oZ s i ∨ h0.size ≤ i
  far : ∀ i, T'.Z i → ¬ oZ s' i

end Go.Sw.Piece

set_option linter.unusedVariables false
set_option linter.unusedSimpArgs false
set_option maxRecDepth 100000
namespace Go.Sw.Piece
open Go.Sw.Any Go.Sw.Codec
variable {P : Program} {S : Ids} {h : Heap} {Q : Nat → List Value → Heap → Prop}

/-! ### How much a list of edits weighs -/
/-! ### All edits, from the first on -/
theorem all_take {E : List El} : ∀ {es : List EdD} {a : Int} {k : Nat}, Plc E.length a es → (k : Int) ≤ a → (allE E es).take k = E.take k
  | [], _, _, _, _ => rfl
  | e :: es, a, k, ⟨h1, h2, h3, h4⟩, hk => by
    have h5 := all_take (E := E) (es := es) (k := e.1.toNat) h4 (by omega)
    rw [allE_cons]
    unfold one1
    rw [h5, List.append_assoc, List.take_append_of_le_length (by rw [List.length_take]; omega), List.take_take, show min k e.1.toNat = k by omega]
/-! ### Sizes -/
theorem size_put {enc : Int} {l : List Int} (hf : fitsE enc l) : (sizeL enc l : Int) = (l.flatMap (putF enc)).length := by
  induction l with
  | nil => rfl
  | cons a l ih =>
    have h1 := putF_len (hf a (List.mem_cons_self ..))
    have h2 := ih fun b hb => hf b (List.mem_cons_of_mem _ hb)
    have h3 : sizeL enc (a :: l) = sizeF enc a + sizeL enc l := by simp [sizeL]
    rw [h3, List.flatMap_cons, List.length_append, h2]; omega
theorem map_new (l : List Int) : (l.map fun a => ((a, -1) : El)).map (fun x : El => x.1) = l := by
  rw [List.map_map]
  conv => rhs; rw [← List.map_id l]
  rfl
theorem blen_new {enc : Int} {l : List Int} : blen enc (l.map fun a => ((a, -1) : El)) = (l.flatMap (putF enc)).length := by
  unfold blen; rw [map_new]
theorem blen_take_drop (enc : Int) (E : List El) (k : Nat) : blen enc E = blen enc (E.take k) + blen enc (E.drop k) := by rw [← blen_append, List.take_append_drop]
def goneB (enc : Int) (E : List El) (es : List EdD) : Int := (es.map fun e => (blen enc (E.take e.2.1.toNat) : Int) - blen enc (E.take e.1.toNat)).sum
theorem blen_all {enc : Int} {E : List El} : ∀ {es : List EdD} {a : Int}, 0 ≤ a → Plc E.length a es → fitsE enc (putsOf es) → (blen enc (allE E es) : Int) = blen enc E + sizeL enc (putsOf es) - goneB enc E es
  | [], _, _, _, _ => by simp [allE, putsOf, goneB, sizeL]
  | e :: es, a, h0, ⟨h1, h2, h3, h4⟩, hf => by
    have hp : putsOf (e :: es) = e.2.2.1.2 ++ putsOf es := by simp [putsOf]
    rw [hp] at hf ⊢
    have hf1 : fitsE enc e.2.2.1.2 := fun x hx => hf x (List.mem_append_left _ hx)
    have hf2 : fitsE enc (putsOf es) := fun x hx => hf x (List.mem_append_right _ hx)
    have ih := blen_all (E := E) (es := es) (by omega) h4 hf2
    have s1 : sizeL enc (e.2.2.1.2 ++ putsOf es) = sizeL enc e.2.2.1.2 + sizeL enc (putsOf es) := by simp [sizeL]
    have g1 : goneB enc E (e :: es) = ((blen enc (E.take e.2.1.toNat) : Int) - blen enc (E.take e.1.toNat)) + goneB enc E es := by simp [goneB]
    have s2 := size_put hf1
    rw [allE_cons, s1, g1]
    unfold one1
    rw [all_take h4 (by omega), blen_append, blen_append, blen_new]
    have h5 := blen_take_drop enc (allE E es) e.2.1.toNat
    rw [all_take h4 (by omega)] at h5
    omega
theorem offs_tk {enc : Int} : ∀ {l : List Int}, fitsE enc l → offs (l.map (tk enc)) = (l.flatMap (putF enc)).length
  | [], _ => rfl
  | a :: l, hf => by
    have h1 := putF_len (hf a (List.mem_cons_self ..))
    rw [List.map_cons, offs_cons, offs_tk fun b hb => hf b (List.mem_cons_of_mem _ hb), List.flatMap_cons, List.length_append]
    show (sizeF enc a).toNat + _ = _; omega
/-- A text's sizes. -/
theorem offs_els {enc : Int} (he : known enc) {ps : List Pc} (hb : ∀ q, q ∈ ps → isBytes q.2) (k : Nat) : offs ((toksL enc ps).take k) = blen enc ((els enc ps).take k) := by
  obtain ⟨h1, _, h3⟩ := toksL_els he hb
  rw [h1, ← List.map_take, ← List.map_take, offs_tk fun a ha => h3 a (by obtain ⟨x, hx, rfl⟩ := List.mem_map.1 ha; exact List.mem_map.2 ⟨x, List.mem_of_mem_take hx, rfl⟩)]
  rfl
theorem gone_els {enc : Int} (he : known enc) {ps : List Pc} (hb : ∀ q, q ∈ ps → isBytes q.2) (es : List EdD) : goneE (toksL enc ps) es = goneB enc (els enc ps) es := by
  unfold goneE goneB
  congr 1
  refine List.map_congr_left fun e _ => ?_
  rw [offs_els he hb, offs_els he hb]
/-- May these edits be done? -/
def Okay (enc limit : Int) (E : List El) (es : List EdD) : Prop := Plc E.length 0 es ∧ fitsE enc (putsOf es) ∧ (blen enc (allE E es) : Int) ≤ limit
theorem ref_okay {enc limit r : Int} (he : known enc) {ps : List Pc} (hb : ∀ q, q ∈ ps → isBytes q.2) {es : List EdD} (h : RefR enc limit (toksL enc ps) es r) : (r = 0 ↔ es.length ≤ 70000 ∧ Okay enc limit (els enc ps) es) := by
  have hl : (toksL enc ps).length = (els enc ps).length := (els_len ..).symm
  have h0 : (offs (toksL enc ps) : Int) = blen enc (els enc ps) := by
    have := offs_els he hb (toksL enc ps).length
    rw [List.take_length, hl, List.take_length] at this; exact congrArg _ this
  have key : Plc (els enc ps).length 0 es → fitsE enc (putsOf es) → (blen enc (allE (els enc ps) es) : Int) = offs (toksL enc ps) + sizeL enc (putsOf es) - goneE (toksL enc ps) es := fun a b => by
    rw [blen_all (Int.le_refl 0) a b, gone_els he hb, h0]
  cases h with
  | many h => exact ⟨fun h => (by cases h), fun h2 => by omega⟩
  | place a b => exact ⟨fun h => (by cases h), fun h2 => absurd (hl ▸ h2.2.1) b⟩
  | fit a b c => exact ⟨fun h => (by cases h), fun h2 => absurd h2.2.2.1 c⟩
  | full a b c d => rw [hl] at b; exact ⟨fun h => (by cases h), fun h2 => by have := key b c; have := h2.2.2.2; omega⟩
  | ok a b c d => rw [hl] at b; exact ⟨fun _ => ⟨a, b, c, by rw [key b c]; exact d⟩, fun _ => rfl⟩
theorem ChangeR.small {n : Nat} {T T' : TX} {h0 : Heap} {es : List EdD} {r : Int} (R : ChangeR S n T h0 h es r T') (he : known T.enc) (hb : ∀ q, q ∈ T.cur.ps → isBytes q.2) (hsm : (bytesL T.cur.ps).length ≤ T.limit) (hs : blen T.enc (Piece.els T.enc T.cur.ps) = (bytesL T.cur.ps).length) : (bytesL T'.cur.ps).length ≤ T'.limit := by
  have h1 := blen_state R.t.cur R.t.enc
  rw [R.nx.enc, R.els] at h1
  rw [R.nx.limit]
  by_cases hr : r = 0
  · rw [if_pos hr] at h1
    have := ((ref_okay he hb R.ref).1 hr).2.2.2
    omega
  · rw [if_neg hr] at h1; omega

/-! ### The tags of the loaded atoms -/
def tg (x : El) : Bool := decide (x.2 ≠ -1)
theorem Plc.le {L : Int} : ∀ {es : List EdD} {a : Int}, Plc L a es → ∀ e, e ∈ es → e.1 ≤ e.2.1
  | e :: es, a, ⟨h1, h2, h3, h4⟩, x, hx => by
    rcases List.mem_cons.1 hx with rfl | hx
    · exact h2
    · exact Plc.le h4 x hx
end Go.Sw.Piece

set_option linter.unusedVariables false
set_option linter.unusedSimpArgs false
set_option maxRecDepth 100000
namespace Go.Sw.Piece
open Go.Sw.Any Go.Sw.Codec
open Go.Sw.Tree (iv s_putAll s_newP s_getP s_getT s_putP eqI_self Placed cell_own cell_upd1 wp_whileG minI_eq)
variable {P : Program} {S : Ids} {h : Heap} {Q : Nat → List Value → Heap → Prop}

end Go.Sw.Piece

set_option linter.unusedVariables false
set_option linter.unusedSimpArgs false
set_option maxRecDepth 100000
namespace Go.Sw.Piece
open Go.Sw.Any Go.Sw.Codec
open Go.Sw.Tree (iv s_putAll s_newP s_getP s_getT s_putP eqI_self Placed cell_own cell_upd1 wp_whileG minI_eq)
variable {P : Program} {S : Ids} {h : Heap} {Q : Nat → List Value → Heap → Prop}

/-- While a text that was opened is changed: what came of it since hm. -/
structure On (S : Ids) (n : Nat) (T0 : TX) (hm : Heap) (am : Nat) (h : Heap) (T : TX) : Prop where
  t : TextR S n h T
  nx : Nxt T0 T hm.size
  chg : Chg T0.Z hm h
  A : T.A.length ≤ am
  sm : (bytesL T.cur.ps).length ≤ T.limit
variable {n am : Nat} {T0 T : TX} {hm : Heap}
theorem On.ext {h' : Heap} (o : On S n T0 hm am h T) (e : Ext h h') : On S n T0 hm am h' T := ⟨o.t.ext e, o.nx, o.chg.ext e, o.A, o.sm⟩
theorem On.more {am' : Nat} (o : On S n T0 hm am h T) (hl : am ≤ am') : On S n T0 hm am' h T := ⟨o.t, o.nx, o.chg, Nat.le_trans o.A hl, o.sm⟩
theorem On.keep (o : On S n T0 hm am h T) (t0 : ∀ i, T0.Z i → n ≤ i) (hn : n ≤ hm.size) : Keep n hm h := o.chg.keep hn fun i hi hz => by have := t0 i hz; omega
theorem els_facts {T : TX} {s : St} (r : StR S h T s) (he : known T.enc) : bytesL s.ps = ((els T.enc s.ps).map (·.1)).flatMap (putF T.enc) ∧ ∀ a, a ∈ (els T.enc s.ps).map (·.1) → 0 < sizeF T.enc a := (toksL_els he r.bytes).2
end Go.Sw.Piece
