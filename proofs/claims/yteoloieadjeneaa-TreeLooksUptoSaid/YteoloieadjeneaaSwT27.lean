/-
  Tree: the steps by which the wood grows; its beginning.
-/
import Derived.Test.YteoloieadjeneaaSwT26
set_option linter.unusedVariables false
set_option linter.unusedSimpArgs false
set_option maxRecDepth 100000
namespace Go.Sw
variable {P : Program} {h : Heap} {Q : Nat → List Value → Heap → Prop}

/-- One cell of an object of one's own, written over. -/
theorem s_setC {n m c j : Nat} {a : Addr} {vs : List Value} (v : Value) {K : Prog} (ho : Own n 1 h ⟨some a, m, c⟩ vs) (hj : j < vs.length) (hf : flat v = true)
    (hk : ∀ h', Own n 1 h' ⟨some a, m, c⟩ (vs.set j v) → Upd ⟨some a, m, c⟩ h h' → wp P K h' Q) : wp P (.store (shiftTo (some a) j) [v] K) h Q := by
  obtain ⟨o1, o2, o3, o4⟩ := ho
  obtain ⟨b, off, spot⟩ := a
  obtain ⟨e0, e1, e2, cs, elem, e3, e4, e5⟩ := o4
  dsimp only at e0 e1 e2 e3 o1 o2 e4
  subst e0; subst e1
  have hadd : (Addr.mk b 0 none).add j = ⟨b, j, none⟩ := by simp [add_mk]
  obtain ⟨w, cs', c1, c2, c3, c4, c5, c6⟩ := puts_block (vs := [v]) (i := 0) (off := j) e3 (by intro x hx; rw [List.mem_singleton.1 hx]; exact hf) (by simp; omega)
  refine ⟨⟨b, j, none⟩, by rw [shiftTo_some, hadd], w, hk _ ⟨by rw [List.length_set]; exact o1, o2, o3, rfl, rfl, e2, cs', elem, c1, by rw [c2, e4], fun i u hi => ?_⟩
    ⟨by unfold puts; omega, fun i hi hne => c6 i fun e => (hne _ rfl) e.symm, fun a e => by unfold puts; rw [thaw_putFrom]; exact e⟩⟩
  have hlt := (List.getElem?_eq_some_iff.1 hi).1
  rw [List.length_set] at hlt
  by_cases hij : i = j
  · subst hij
    rw [List.getElem?_set_self hj] at hi
    cases hi
    have := c3 0 v rfl
    simpa using this
  · rw [List.getElem?_set_ne (by omega)] at hi
    rw [c4 i (by simp; omega)]
    exact e5 i u hi
end Go.Sw

namespace Go.Sw.Tree
variable {P : Program} {S : Ids} {h : Heap} {Q : Nat → List Value → Heap → Prop}
variable {n : Nat} {Z : Nat → Prop} {w : Addr} {ts ss : Sl} {ps : List (Option Addr)} {sl : List Sl} {bs : List BT} {ls : List (List (Int × Int))} {M : Nat}

/-- Appended, but not yet stored: a tree. -/
structure MidT (n : Nat) (Z : Nat → Prop) (h h1 : Heap) (w : Addr) (ts ss : Sl) (ps : List (Option Addr)) (sl : List Sl) (bs : List BT) (ls : List (List (Int × Int))) (M : Nat) (r : Sl) (p : Option Addr) : Prop where
  o : Wood n Z h w ts ss ps sl bs ls M
  r1 : Own n 1 h1 r (ps.map .pointer ++ [.pointer p])
  rk : AllK isPtr h1 r
  u1 : Upd ts h h1
  rb : ∀ a, r.base = some a → ts.base = some a ∨ h.size ≤ a.block
/-- A list. -/
structure MidL (n : Nat) (Z : Nat → Prop) (h h1 : Heap) (w : Addr) (ts ss : Sl) (ps : List (Option Addr)) (sl : List Sl) (bs : List BT) (ls : List (List (Int × Int))) (M : Nat) (r x : Sl) : Prop where
  o : Wood n Z h w ts ss ps sl bs ls M
  r1 : Own n 1 h1 r (sl.map slV ++ [slV x])
  rk : AllK isSl h1 r
  u1 : Upd ss h h1
  rb : ∀ a, r.base = some a → ss.base = some a ∨ h.size ≤ a.block

theorem rd_one {a : Addr} {m : Nat} {v : Value} (ho : Own m 1 h ⟨some a, 1, 1⟩ [v]) : Rd 1 h ⟨some a, 1, 1⟩ [v] := ho.rd

theorem s_appT {a : Addr} {m : Nat} {p : Option Addr} {K : Sl → Prog} (o : Wood n Z h w ts ss ps sl bs ls M) (hn : n ≤ h.size) (hx : Own m 1 h ⟨some a, 1, 1⟩ [.pointer p]) (room : bs.length + 1 ≤ 4194304)
    (hk : ∀ r h1, MidT n Z h h1 w ts ss ps sl bs ls M r p → wp P (K r) h1 Q) : wp P (.append 1 8 [.pointer none] ts ⟨some a, 1, 1⟩ K) h Q := by
  have hl := o.ot.1
  rw [List.length_map, o.tl] at hl
  refine wp_appendK (cls := isPtr) o.ot hn hx.rd o.kt (fun v hv => by rw [List.mem_singleton.1 hv]; trivial) trivial (fun v hv => by rw [List.mem_singleton.1 hv]; rfl) (by dsimp only; omega) (by dsimp only; omega)
    fun r h1 r1 rk _ u1 rb => hk r h1 ⟨o, r1, rk, u1, rb⟩

theorem s_stoT {h1 : Heap} {r : Sl} {p : Option Addr} {b : BT} {K : Prog} (m : MidT n Z h h1 w ts ss ps sl bs ls M r p) (hn : n ≤ h.size) (hp : Nd h p b) (ha : b.Avl) (hM : b.list.length ≤ M) (hz : ∀ i, Z i → i < h.size)
    (hk : ∀ h', Wood n Z h' w r ss (ps ++ [p]) sl (bs ++ [b]) ls M → (∀ i, Z i → h'[i]? = h[i]?) → Keep n h h' → wp P K h' Q) : wp P (.store (shiftTo (some w) 0) [slV r] K) h1 Q := by
  have ow1 : Own n 1 h1 ⟨some w, 2, 2⟩ [slV ts, slV ss] := m.o.ow.keep fun a ha => m.u1.2.1 _ (m.o.ow.lt ha).2 fun b hb => by cases ha; exact m.o.tw b hb
  refine s_setC (slV r) ow1 (by simp) rfl fun h2 o2 u2 => ?_
  obtain ⟨W, hz'⟩ := m.o.moreT hp ha hM hz m.r1 m.rk m.u1 m.rb o2 u2
  exact hk h2 W hz' (Keep.trans (Upd.keep m.o.ot hn m.u1) (Upd.keep ow1 (Nat.le_trans hn m.u1.1) u2))

theorem s_appL {a : Addr} {m : Nat} {x : Sl} {K : Sl → Prog} (o : Wood n Z h w ts ss ps sl bs ls M) (hn : n ≤ h.size) (hx : Own m 1 h ⟨some a, 1, 1⟩ [slV x]) (room : ls.length + 1 ≤ 4194304)
    (hk : ∀ r h1, MidL n Z h h1 w ts ss ps sl bs ls M r x → wp P (K r) h1 Q) : wp P (.append 1 24 [.slice none 0 0] ss ⟨some a, 1, 1⟩ K) h Q := by
  have hl := o.os.1
  rw [List.length_map, o.sln] at hl
  refine wp_appendK (cls := isSl) o.os hn hx.rd o.ks (fun v hv => by rw [List.mem_singleton.1 hv]; trivial) trivial (fun v hv => by rw [List.mem_singleton.1 hv]; rfl) (by dsimp only; omega) (by dsimp only; omega)
    fun r h1 r1 rk _ u1 rb => hk r h1 ⟨o, r1, rk, u1, rb⟩

theorem s_stoL {h1 : Heap} {r x : Sl} {l : List (Int × Int)} {K : Prog} (m : MidL n Z h h1 w ts ss ps sl bs ls M r x) (hn : n ≤ h.size) (hx : Runs h x l) (hxz : l ≠ [] → ∀ a, x.base = some a → ¬ Z a.block) (hz : ∀ i, Z i → i < h.size)
    (hk : ∀ h', Wood n Z h' w ts r ps (sl ++ [x]) bs (ls ++ [l]) M → (∀ i, Z i → h'[i]? = h[i]?) → Keep n h h' → wp P K h' Q) : wp P (.store (shiftTo (some w) 1) [slV r] K) h1 Q := by
  have ow1 : Own n 1 h1 ⟨some w, 2, 2⟩ [slV ts, slV ss] := m.o.ow.keep fun a ha => m.u1.2.1 _ (m.o.ow.lt ha).2 fun b hb => by cases ha; exact m.o.sw b hb
  refine s_setC (slV r) ow1 (by simp) rfl fun h2 o2 u2 => ?_
  obtain ⟨W, hz'⟩ := m.o.moreL hx hxz hz m.r1 m.rk m.u1 m.rb o2 u2
  exact hk h2 W hz' (Keep.trans (Upd.keep m.o.os hn m.u1) (Upd.keep ow1 (Nat.le_trans hn m.u1.1) u2))

/-- A new object of one list. -/
theorem s_newS (x : Sl) {K : Addr → Prog} (hk : ∀ h', Ext h h' → Own h.size 1 h' ⟨some ⟨h.size, 0, none⟩, 1, 1⟩ [slV x] → wp P (K ⟨h.size, 0, none⟩) h' Q) : wp P (.alloc [slV x] K) h Q :=
  fun elem => hk _ (Ext.push ..) (own_alloc rfl (by decide) (by decide))

theorem c_begin : Gives P (F_law4_begin S) [.one .ptr] h fun (y : Option Addr × Unit) h' => ∃ w ts ss ps sl, y.1 = some w ∧ Wood h.size (fun _ => False) h' w ts ss ps sl [.nil] [[]] 0 := by
  unfold F_law4_begin Gives
  intro elem
  have e1 : Ext h (h.push (.cells [.slice none 0 0, .slice none 0 0].toArray elem)) := Ext.push ..
  have ow : Own h.size 1 (h.push (.cells [.slice none 0 0, .slice none 0 0].toArray elem)) ⟨some ⟨h.size, 0, none⟩, 2, 2⟩ [slV ⟨none, 0, 0⟩, slV ⟨none, 0, 0⟩] := own_alloc rfl (by decide) (by decide)
  generalize (h.push (.cells [.slice none 0 0, .slice none 0 0].toArray elem)) = h1 at e1 ow ⊢
  have b1 := (ow.lt rfl).2
  dsimp only at b1
  have W0 : Wood h.size (fun _ => False) h1 ⟨h.size, 0, none⟩ ⟨none, 0, 0⟩ ⟨none, 0, 0⟩ [] [] [] [] 0 :=
    ⟨ow, Own.nil .., Own.nil .., AllK.nil _ _, AllK.nil _ _, fun a ha => (by cases ha), fun a ha => (by cases ha), fun a b ha hb => (by cases ha), fun a ha => (by cases ha), fun a ha => (by cases ha), fun x => x, rfl, rfl, fun i b hi => (by simp at hi), fun i b hi => (by simp at hi)⟩
  refine s_newP none fun h2 e2 o2 => s_cell (b := .sl) (x := ⟨none, 0, 0⟩) rfl (W0.ext e2).ow.cells rfl (s_getT o2 (s_newP none fun h3 e3 o3 => q_same (W0.ext (e2.trans e3)).ow.cells (fun i v hi => by match i, hi with | 0, hi => exact hi) ?_))
  have z2 := (o2.lt rfl).2
  dsimp only at z2
  have s3 := e3.size
  have W3 := W0.ext (e2.trans e3)
  refine s_appT W3 (by omega) o3 (by simp) fun r h4 m4 => s_stoT (b := .nil) m4 (by omega) rfl trivial (Nat.le_refl _) (fun i hi => hi.elim) fun h5 W5 z5 k5 => ?_
  have s5 := k5.size
  refine s_cell (b := .sl) (x := ⟨none, 0, 0⟩) rfl W5.ow.cells rfl (s_newS ⟨none, 0, 0⟩ fun h6 e6 o6 => ?_)
  have s6 := e6.size
  refine s_appL (W5.ext e6) (by omega) o6 (by simp) fun r2 h7 m7 => s_stoL (l := []) m7 (by omega) (OwnR.nil h.size _).runs (fun x => absurd rfl x) (fun i hi => hi.elim) fun h8 W8 z8 k8 => ?_
  exact s_ret ⟨rfl, Keep.trans (Keep.trans (e1.trans (e2.trans e3)) k5) (Keep.trans (e6.mono (by omega)) k8), (some ⟨h.size, 0, none⟩, ()), rfl, _, _, _, _, _, rfl, W8⟩

end Go.Sw.Tree
