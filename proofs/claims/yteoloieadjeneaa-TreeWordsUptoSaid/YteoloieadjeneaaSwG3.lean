/-
  Tree: the wood, trees and lists apart; what stays when it grows.
-/
import Derived.Test.YteoloieadjeneaaSwG2
import Derived.Test.YteoloieadjeneaaSwZ4
set_option linter.unusedVariables false
set_option linter.unusedSimpArgs false
set_option maxRecDepth 100000
namespace Go.Sw.Tree
variable {P : Program} {S : Ids} {h : Heap} {Q : Nat → List Value → Heap → Prop}

/-- A whole block's cells are known. -/
theorem Own.allK {n m : Nat} {a : Addr} {vs : List Value} {cls : Value → Prop} (ho : Own n 1 h ⟨some a, m, m⟩ vs) (hc : ∀ v ∈ vs, cls v) : AllK cls h ⟨some a, m, m⟩ := by
  intro b hb i v hv
  cases hb
  obtain ⟨o1, o2, o3, e0, e1, e2, cs, el, e3, e4, e5⟩ := ho
  unfold Sw.cell at hv
  dsimp only at hv e3 e4 o1
  rw [e3] at hv
  simp only [Option.isSome_none, Bool.false_eq_true, if_false] at hv
  have hlt : i < vs.length := by have := (Array.getElem?_eq_some_iff.1 hv).1; omega
  have := e5 i _ (List.getElem?_eq_getElem hlt)
  rw [hv] at this
  cases this
  exact hc _ (List.getElem_mem hlt)
theorem OwnR.allK {n : Nat} {s : Sl} {l : List (Int × Int)} (ho : OwnR n h s l) (hm : s.len = s.cap) : AllK isInt h s := by
  intro b hb i v hv
  obtain ⟨o1, o2, o3, o4⟩ := ho.own
  rw [hb] at o4
  obtain ⟨e0, e1, e2, cs, el, e3, e4, e5⟩ := o4
  unfold Sw.cell at hv
  dsimp only at hv e3 e4 o1
  rw [e3] at hv
  simp only [Option.isSome_none, Bool.false_eq_true, if_false] at hv
  have hlt : i < (cR l).length := by have := (Array.getElem?_eq_some_iff.1 hv).1; rw [← o1, hm]; omega
  have := e5 i _ (List.getElem?_eq_getElem hlt)
  rw [hv] at this
  cases this
  obtain ⟨k, hk⟩ := cR_mem (List.getElem_mem hlt)
  rw [hk]; trivial

theorem runs_updB {s t : Sl} {h h' : Heap} {l : List (Int × Int)} (u : Upd s h h') (r : Runs h t l) (hne : l ≠ [] → ∀ a b, t.base = some a → s.base = some b → b.block ≠ a.block) : Runs h' t l :=
  ⟨⟨r.rd.1, fun i v hi => let ⟨a, e, c⟩ := r.rd.2 i v hi; ⟨a, e, cell_upd u c fun b hb => by
    rw [add_block]
    exact hne (by rintro rfl; simp [cR] at hi) a b e hb⟩⟩, r.cap, r.max, r.wf⟩

/-- The wood, to be changed: its trees and its lists; the blocks Z are none of theirs. -/
structure Wood (n : Nat) (Z : Nat → Prop) (h : Heap) (w : Addr) (ts ss : Sl) (ps : List (Option Addr)) (sl : List Sl) (bs : List BT) (ls : List (List (Int × Int))) (M : Nat) : Prop where
  ow : Own n 1 h ⟨some w, 2, 2⟩ [slV ts, slV ss]
  ot : Own n 1 h ts (ps.map .pointer)
  os : Own n 1 h ss (sl.map slV)
  kt : AllK isPtr h ts
  ks : AllK isSl h ss
  tw : ∀ a, ts.base = some a → a.block ≠ w.block
  sw : ∀ a, ss.base = some a → a.block ≠ w.block
  st : ∀ a b, ts.base = some a → ss.base = some b → a.block ≠ b.block
  zt : ∀ a, ts.base = some a → ¬ Z a.block
  zs : ∀ a, ss.base = some a → ¬ Z a.block
  zw : ¬ Z w.block
  tl : ps.length = bs.length
  sln : sl.length = ls.length
  nt : ∀ (i : Nat) (b : BT), bs[i]? = some b → ∃ p, ps[i]? = some p ∧ Nd h p b ∧ b.Avl ∧ b.list.length ≤ M
  nl : ∀ (i : Nat) (l : List (Int × Int)), ls[i]? = some l → ∃ x, sl[i]? = some x ∧ Runs h x l ∧ (l ≠ [] → ∀ a, x.base = some a → ¬ Z a.block)

variable {n : Nat} {Z : Nat → Prop} {w : Addr} {ts ss : Sl} {ps : List (Option Addr)} {sl : List Sl} {bs : List BT} {ls : List (List (Int × Int))} {M : Nat}

theorem Wood.ext {h' : Heap} (o : Wood n Z h w ts ss ps sl bs ls M) (e : Ext h h') : Wood n Z h' w ts ss ps sl bs ls M where
  ow := o.ow.ext e
  ot := o.ot.ext e
  os := o.os.ext e
  kt := o.kt.keep fun a ha => e.2.1 _ (o.ot.lt ha).2
  ks := o.ks.keep fun a ha => e.2.1 _ (o.os.lt ha).2
  tw := o.tw
  sw := o.sw
  st := o.st
  zt := o.zt
  zs := o.zs
  zw := o.zw
  tl := o.tl
  sln := o.sln
  nt := fun i b hi => let ⟨p, h1, h2, h3, h4⟩ := o.nt i b hi; ⟨p, h1, h2.ext e, h3, h4⟩
  nl := fun i l hi => let ⟨x, h1, h2, h3⟩ := o.nl i l hi; ⟨x, h1, h2.ext e, h3⟩

theorem Runs.low {s : Sl} {l : List (Int × Int)} (r : Runs h s l) (hl : l ≠ []) {a : Addr} (ha : s.base = some a) : a.block < h.size := by
  obtain ⟨x, l, rfl⟩ : ∃ x m, l = x :: m := by cases l with | nil => exact absurd rfl hl | cons x m => exact ⟨x, m, rfl⟩
  obtain ⟨b, e, c⟩ := r.rd.2 0 (iv x.1) rfl
  rw [ha] at e; cases e
  have := cell_lt c
  rw [add_block] at this; exact this

/-- New blocks are none of the wood's. -/
theorem Wood.anew {Z' : Nat → Prop} (o : Wood n Z h w ts ss ps sl bs ls M) (hz : ∀ i, Z' i → h.size ≤ i) : Wood n Z' h w ts ss ps sl bs ls M where
  ow := o.ow
  ot := o.ot
  os := o.os
  kt := o.kt
  ks := o.ks
  tw := o.tw
  sw := o.sw
  st := o.st
  zt := fun a ha x => by have := (o.ot.lt ha).2; have := hz _ x; omega
  zs := fun a ha x => by have := (o.os.lt ha).2; have := hz _ x; omega
  zw := fun x => by have := (o.ow.lt rfl).2; have := hz _ x; omega
  tl := o.tl
  sln := o.sln
  nt := o.nt
  nl := fun i l hi => let ⟨x, h1, h2, h3⟩ := o.nl i l hi; ⟨x, h1, h2, fun hl a ha x => by have := h2.low hl ha; have := hz _ x; omega⟩

theorem Wood.mono {M' : Nat} (o : Wood n Z h w ts ss ps sl bs ls M) (hM : M ≤ M') : Wood n Z h w ts ss ps sl bs ls M' where
  ow := o.ow
  ot := o.ot
  os := o.os
  kt := o.kt
  ks := o.ks
  tw := o.tw
  sw := o.sw
  st := o.st
  zt := o.zt
  zs := o.zs
  zw := o.zw
  tl := o.tl
  sln := o.sln
  nt := fun i b hi => let ⟨p, h1, h2, h3, h4⟩ := o.nt i b hi; ⟨p, h1, h2, h3, Nat.le_trans h4 hM⟩
  nl := o.nl

theorem Wood.less {Z' : Nat → Prop} (o : Wood n Z h w ts ss ps sl bs ls M) (hz : ∀ i, Z' i → Z i) : Wood n Z' h w ts ss ps sl bs ls M where
  ow := o.ow
  ot := o.ot
  os := o.os
  kt := o.kt
  ks := o.ks
  tw := o.tw
  sw := o.sw
  st := o.st
  zt := fun a ha x => o.zt a ha (hz _ x)
  zs := fun a ha x => o.zs a ha (hz _ x)
  zw := fun x => o.zw (hz _ x)
  tl := o.tl
  sln := o.sln
  nt := o.nt
  nl := fun i l hi => let ⟨x, h1, h2, h3⟩ := o.nl i l hi; ⟨x, h1, h2, fun hl a ha x => h3 hl a ha (hz _ x)⟩

/-- To be read. -/
theorem Wood.toR (o : Wood n Z h w ts ss ps sl bs (bs.map BT.list) M) (hpos : 0 < bs.length) (hroom : bs.length ≤ 4194304) (hM : M ≤ 4194304) : WoodR h w ts ss ps sl bs where
  obj := o.ow.cells
  t := o.ot.rd
  s := o.os.rd
  tl := o.tl
  sln := by rw [o.sln, List.length_map]
  pos := hpos
  room := hroom
  nd := fun i b hi => by
    obtain ⟨p, h1, h2, h3, h4⟩ := o.nt i b hi
    obtain ⟨x, h5, h6, _⟩ := o.nl i b.list (by rw [List.getElem?_map, hi]; rfl)
    exact ⟨p, x, h1, h5, h2, h6, h3, Nat.le_trans h4 hM⟩

/-- A block of ints that is none of the wood's changes. -/
theorem Wood.spoiled {h' : Heap} {s : Sl} (o : Wood n Z h w ts ss ps sl bs ls M) (u : Upd s h h') (hz : ∀ a, s.base = some a → Z a.block) (k : AllK isInt h s) : Wood n Z h' w ts ss ps sl bs ls M where
  ow := o.ow.keep fun a ha => u.2.1 _ (o.ow.lt ha).2 fun b hb e => o.zw (by cases ha; exact e ▸ hz b hb)
  ot := o.ot.keep fun a ha => u.2.1 _ (o.ot.lt ha).2 fun b hb e => o.zt a ha (e ▸ hz b hb)
  os := o.os.keep fun a ha => u.2.1 _ (o.os.lt ha).2 fun b hb e => o.zs a ha (e ▸ hz b hb)
  kt := o.kt.keep fun a ha => u.2.1 _ (o.ot.lt ha).2 fun b hb e => o.zt a ha (e ▸ hz b hb)
  ks := o.ks.keep fun a ha => u.2.1 _ (o.os.lt ha).2 fun b hb e => o.zs a ha (e ▸ hz b hb)
  tw := o.tw
  sw := o.sw
  st := o.st
  zt := o.zt
  zs := o.zs
  zw := o.zw
  tl := o.tl
  sln := o.sln
  nt := fun i b hi => let ⟨p, h1, h2, h3, h4⟩ := o.nt i b hi; ⟨p, h1, nd_updK u k (.inl fun p hp => hp) h2, h3, h4⟩
  nl := fun i l hi => by
    obtain ⟨x, h1, h2, h3⟩ := o.nl i l hi
    exact ⟨x, h1, runs_updB u h2 fun hl a b ha hb e => h3 hl a ha (e ▸ hz b hb), h3⟩

theorem map_snoc {α β : Type} (f : α → β) (l : List α) (x : α) : (l ++ [x]).map f = l.map f ++ [f x] := by simp
theorem get_snoc {α : Type} {l : List α} {x y : α} {i : Nat} (hi : (l ++ [x])[i]? = some y) : (i < l.length ∧ l[i]? = some y) ∨ (i = l.length ∧ y = x) := by
  by_cases h : i < l.length
  · rw [List.getElem?_append_left h] at hi; exact .inl ⟨h, hi⟩
  · rw [List.getElem?_append_right (by omega)] at hi
    have := (List.getElem?_eq_some_iff.1 hi).1
    simp at this
    rw [show i - l.length = 0 by omega] at hi
    exact .inr ⟨by omega, by simpa using hi.symm⟩
theorem get_old {α : Type} {l : List α} {x y : α} {i : Nat} (hi : l[i]? = some y) : (l ++ [x])[i]? = some y := by
  rw [List.getElem?_append_left (List.getElem?_eq_some_iff.1 hi).1]; exact hi
theorem get_new {α : Type} {l : List α} {x : α} {i : Nat} (hi : i = l.length) : (l ++ [x])[i]? = some x := by subst hi; simp

theorem isSl2 {ts ss : Sl} : ∀ v ∈ [slV ts, slV ss], isSl v := by
  intro v hv
  simp only [List.mem_cons, List.not_mem_nil, or_false] at hv
  rcases hv with rfl | rfl <;> trivial

/-- One tree more. -/
theorem Wood.moreT {h1 h2 : Heap} {r : Sl} {p : Option Addr} {b : BT} (o : Wood n Z h w ts ss ps sl bs ls M) (hp : Nd h p b) (ha : b.Avl) (hM : b.list.length ≤ M) (hz : ∀ i, Z i → i < h.size)
    (r1 : Own n 1 h1 r (ps.map .pointer ++ [.pointer p])) (rk : AllK isPtr h1 r) (u1 : Upd ts h h1) (rb : ∀ a, r.base = some a → ts.base = some a ∨ h.size ≤ a.block)
    (w2 : Own n 1 h2 ⟨some w, 2, 2⟩ [slV r, slV ss]) (u2 : Upd ⟨some w, 2, 2⟩ h1 h2) : Wood n Z h2 w r ss (ps ++ [p]) sl (bs ++ [b]) ls M ∧ ∀ i, Z i → h2[i]? = h[i]? := by
  have wl := (o.ow.lt rfl).2
  have os1 : Own n 1 h1 ss (sl.map slV) := o.os.keep fun a ha => u1.2.1 _ (o.os.lt ha).2 fun b hb => o.st b a hb ha
  have ow1 : Own n 1 h1 ⟨some w, 2, 2⟩ [slV ts, slV ss] := o.ow.keep fun a ha => u1.2.1 _ (o.ow.lt ha).2 fun b hb => by cases ha; exact o.tw b hb
  have ks1 : AllK isSl h1 ss := o.ks.keep fun a ha => u1.2.1 _ (o.os.lt ha).2 fun b hb => o.st b a hb ha
  have kw1 := Own.allK (cls := isSl) ow1 isSl2
  have rw' : ∀ a, r.base = some a → a.block ≠ w.block := fun a ha => (rb a ha).elim (o.tw a) fun hl => by omega
  have nd2 : ∀ {p : Option Addr} {b : BT}, Nd h p b → Nd h2 p b := fun x => nd_updK u2 kw1 (.inl fun p hp => hp) (nd_updK u1 o.kt (.inr fun n hn => hn) x)
  refine ⟨⟨w2, ?_, ?_, ?_, ?_, rw', o.sw, ?_, ?_, o.zs, o.zw, ?_, o.sln, ?_, ?_⟩, ?_⟩
  · rw [map_snoc]
    exact r1.keep fun a ha => u2.2.1 _ (r1.lt ha).2 fun b hb => by cases hb; exact fun e => rw' a ha e.symm
  · exact os1.keep fun a ha => u2.2.1 _ (os1.lt ha).2 fun b hb => by cases hb; exact fun e => o.sw a ha e.symm
  · exact rk.keep fun a ha => u2.2.1 _ (r1.lt ha).2 fun b hb => by cases hb; exact fun e => rw' a ha e.symm
  · exact ks1.keep fun a ha => u2.2.1 _ (os1.lt ha).2 fun b hb => by cases hb; exact fun e => o.sw a ha e.symm
  · exact fun a b ha hb => (rb a ha).elim (fun h => o.st a b h hb) fun hl => by have := (o.os.lt hb).2; omega
  · exact fun a ha => (rb a ha).elim (o.zt a) fun hl x => by have := hz _ x; omega
  · rw [List.length_append, List.length_append, o.tl]; rfl
  · intro i b' hi
    rcases get_snoc hi with ⟨_, hi⟩ | ⟨rfl, rfl⟩
    · obtain ⟨q, h1, h2, h3, h4⟩ := o.nt i b' hi
      exact ⟨q, get_old h1, nd2 h2, h3, h4⟩
    · exact ⟨p, get_new o.tl.symm, nd2 hp, ha, hM⟩
  · intro i l hi
    obtain ⟨x, h1, h2, h3⟩ := o.nl i l hi
    exact ⟨x, h1, runs_updK u2 kw1 (fun n hn => hn) (runs_updK u1 o.kt (fun n hn => hn) h2), h3⟩
  · intro i hi
    rw [u2.2.1 i (Nat.lt_of_lt_of_le (hz i hi) u1.1) fun a ha e => o.zw (by cases ha; exact e ▸ hi), u1.2.1 i (hz i hi) fun a ha e => o.zt a ha (e ▸ hi)]

/-- One list more. -/
theorem Wood.moreL {h1 h2 : Heap} {r x : Sl} {l : List (Int × Int)} (o : Wood n Z h w ts ss ps sl bs ls M) (hx : Runs h x l) (hxz : l ≠ [] → ∀ a, x.base = some a → ¬ Z a.block) (hz : ∀ i, Z i → i < h.size)
    (r1 : Own n 1 h1 r (sl.map slV ++ [slV x])) (rk : AllK isSl h1 r) (u1 : Upd ss h h1) (rb : ∀ a, r.base = some a → ss.base = some a ∨ h.size ≤ a.block)
    (w2 : Own n 1 h2 ⟨some w, 2, 2⟩ [slV ts, slV r]) (u2 : Upd ⟨some w, 2, 2⟩ h1 h2) : Wood n Z h2 w ts r ps (sl ++ [x]) bs (ls ++ [l]) M ∧ ∀ i, Z i → h2[i]? = h[i]? := by
  have wl := (o.ow.lt rfl).2
  have ot1 : Own n 1 h1 ts (ps.map .pointer) := o.ot.keep fun a ha => u1.2.1 _ (o.ot.lt ha).2 fun b hb => fun e => o.st a b ha hb e.symm
  have ow1 : Own n 1 h1 ⟨some w, 2, 2⟩ [slV ts, slV ss] := o.ow.keep fun a ha => u1.2.1 _ (o.ow.lt ha).2 fun b hb => by cases ha; exact o.sw b hb
  have kt1 : AllK isPtr h1 ts := o.kt.keep fun a ha => u1.2.1 _ (o.ot.lt ha).2 fun b hb => fun e => o.st a b ha hb e.symm
  have kw1 := Own.allK (cls := isSl) ow1 isSl2
  have rw' : ∀ a, r.base = some a → a.block ≠ w.block := fun a ha => (rb a ha).elim (o.sw a) fun hl => by omega
  have nd2 : ∀ {p : Option Addr} {b : BT}, Nd h p b → Nd h2 p b := fun x => nd_updK u2 kw1 (.inl fun p hp => hp) (nd_updK u1 o.ks (.inl fun n hn => hn) x)
  have rn2 : ∀ {x : Sl} {l : List (Int × Int)}, Runs h x l → Runs h2 x l := fun h2 => runs_updK u2 kw1 (fun n hn => hn) (runs_updK u1 o.ks (fun n hn => hn) h2)
  refine ⟨⟨w2, ?_, ?_, ?_, ?_, o.tw, rw', ?_, o.zt, ?_, o.zw, o.tl, ?_, ?_, ?_⟩, ?_⟩
  · exact ot1.keep fun a ha => u2.2.1 _ (ot1.lt ha).2 fun b hb => by cases hb; exact fun e => o.tw a ha e.symm
  · rw [map_snoc]
    exact r1.keep fun a ha => u2.2.1 _ (r1.lt ha).2 fun b hb => by cases hb; exact fun e => rw' a ha e.symm
  · exact kt1.keep fun a ha => u2.2.1 _ (ot1.lt ha).2 fun b hb => by cases hb; exact fun e => o.tw a ha e.symm
  · exact rk.keep fun a ha => u2.2.1 _ (r1.lt ha).2 fun b hb => by cases hb; exact fun e => rw' a ha e.symm
  · exact fun a b ha hb => (rb b hb).elim (fun h => o.st a b ha h) fun hl => by have := (o.ot.lt ha).2; omega
  · exact fun a ha => (rb a ha).elim (o.zs a) fun hl x => by have := hz _ x; omega
  · rw [List.length_append, List.length_append, o.sln]; rfl
  · intro i b' hi
    obtain ⟨q, h1, h2, h3, h4⟩ := o.nt i b' hi
    exact ⟨q, h1, nd2 h2, h3, h4⟩
  · intro i l' hi
    rcases get_snoc hi with ⟨_, hi⟩ | ⟨rfl, rfl⟩
    · obtain ⟨x', h1, h2, h3⟩ := o.nl i l' hi
      exact ⟨x', get_old h1, rn2 h2, h3⟩
    · exact ⟨x, get_new o.sln.symm, rn2 hx, hxz⟩
  · intro i hi
    rw [u2.2.1 i (Nat.lt_of_lt_of_le (hz i hi) u1.1) fun a ha e => o.zw (by cases ha; exact e ▸ hi), u1.2.1 i (hz i hi) fun a ha e => o.zs a ha (e ▸ hi)]

end Go.Sw.Tree

set_option linter.unusedVariables false
set_option linter.unusedSimpArgs false
set_option maxRecDepth 100000
namespace Go.Sw
variable {P : Program} {h : Heap} {Q : Nat → List Value → Heap → Prop}

/-- One cell of an object of one's own, written over. -/
theorem s_setC {n m c j : Nat} {a : Addr} {vs : List Value} (v : Value) {K : Prog} (ho : Own n 1 h ⟨some a, m, c⟩ vs) (hj : j < vs.length) (hf : flat v = true)
    (hk : ∀ h', Own n 1 h' ⟨some a, m, c⟩ (vs.set j v) → Upd ⟨some a, m, c⟩ h h' → wp P K h' Q) : wp P (.store (shiftTo (some a) j) [v] K) h Q := by
  obtain ⟨o1, o2, o3, o4⟩ := ho
  obtain ⟨b, off, spot⟩ := a
  obtain ⟨e0, e1, e2, cs, elem, e3, e4, e5⟩ := o4
  dsimp only at e0 e1 e2 e3 o1 o2 e4
  subst e0; subst e1
  have hadd : (Addr.mk b 0 none).add j = ⟨b, j, none⟩ := by simp [add_mk]
  obtain ⟨w, cs', c1, c2, c3, c4, c5, c6⟩ := puts_block (vs := [v]) (i := 0) (off := j) e3 (by intro x hx; rw [List.mem_singleton.1 hx]; exact hf) (by simp; omega)
  refine ⟨⟨b, j, none⟩, by rw [shiftTo_some, hadd], w, hk _ ⟨by rw [List.length_set]; exact o1, o2, o3, rfl, rfl, e2, cs', elem, c1, by rw [c2, e4], fun i u hi => ?_⟩
    ⟨by unfold puts; omega, fun i hi hne => c6 i fun e => (hne _ rfl) e.symm, fun a e => by unfold puts; rw [thaw_putFrom]; exact e⟩⟩
  have hlt := (List.getElem?_eq_some_iff.1 hi).1
  rw [List.length_set] at hlt
  by_cases hij : i = j
  · subst hij
    rw [List.getElem?_set_self hj] at hi
    cases hi
    have := c3 0 v rfl
    simpa using this
  · rw [List.getElem?_set_ne (by omega)] at hi
    rw [c4 i (by simp; omega)]
    exact e5 i u hi
end Go.Sw

namespace Go.Sw.Tree
variable {P : Program} {S : Ids} {h : Heap} {Q : Nat → List Value → Heap → Prop}
variable {n : Nat} {Z : Nat → Prop} {w : Addr} {ts ss : Sl} {ps : List (Option Addr)} {sl : List Sl} {bs : List BT} {ls : List (List (Int × Int))} {M : Nat}

/-- Appended, but not yet stored: a tree. -/
structure MidT (n : Nat) (Z : Nat → Prop) (h h1 : Heap) (w : Addr) (ts ss : Sl) (ps : List (Option Addr)) (sl : List Sl) (bs : List BT) (ls : List (List (Int × Int))) (M : Nat) (r : Sl) (p : Option Addr) : Prop where
  o : Wood n Z h w ts ss ps sl bs ls M
  r1 : Own n 1 h1 r (ps.map .pointer ++ [.pointer p])
  rk : AllK isPtr h1 r
  u1 : Upd ts h h1
  rb : ∀ a, r.base = some a → ts.base = some a ∨ h.size ≤ a.block
/-- A list. -/
structure MidL (n : Nat) (Z : Nat → Prop) (h h1 : Heap) (w : Addr) (ts ss : Sl) (ps : List (Option Addr)) (sl : List Sl) (bs : List BT) (ls : List (List (Int × Int))) (M : Nat) (r x : Sl) : Prop where
  o : Wood n Z h w ts ss ps sl bs ls M
  r1 : Own n 1 h1 r (sl.map slV ++ [slV x])
  rk : AllK isSl h1 r
  u1 : Upd ss h h1
  rb : ∀ a, r.base = some a → ss.base = some a ∨ h.size ≤ a.block

theorem rd_one {a : Addr} {m : Nat} {v : Value} (ho : Own m 1 h ⟨some a, 1, 1⟩ [v]) : Rd 1 h ⟨some a, 1, 1⟩ [v] := ho.rd

theorem s_appT {a : Addr} {m : Nat} {p : Option Addr} {K : Sl → Prog} (o : Wood n Z h w ts ss ps sl bs ls M) (hn : n ≤ h.size) (hx : Own m 1 h ⟨some a, 1, 1⟩ [.pointer p]) (room : bs.length + 1 ≤ 4194304)
    (hk : ∀ r h1, MidT n Z h h1 w ts ss ps sl bs ls M r p → wp P (K r) h1 Q) : wp P (.append 1 8 [.pointer none] ts ⟨some a, 1, 1⟩ K) h Q := by
  have hl := o.ot.1
  rw [List.length_map, o.tl] at hl
  refine wp_appendK (cls := isPtr) o.ot hn hx.rd o.kt (fun v hv => by rw [List.mem_singleton.1 hv]; trivial) trivial (fun v hv => by rw [List.mem_singleton.1 hv]; rfl) (by dsimp only; omega) (by dsimp only; omega)
    fun r h1 r1 rk _ u1 rb => hk r h1 ⟨o, r1, rk, u1, rb⟩

theorem s_stoT {h1 : Heap} {r : Sl} {p : Option Addr} {b : BT} {K : Prog} (m : MidT n Z h h1 w ts ss ps sl bs ls M r p) (hn : n ≤ h.size) (hp : Nd h p b) (ha : b.Avl) (hM : b.list.length ≤ M) (hz : ∀ i, Z i → i < h.size)
    (hk : ∀ h', Wood n Z h' w r ss (ps ++ [p]) sl (bs ++ [b]) ls M → (∀ i, Z i → h'[i]? = h[i]?) → Keep n h h' → wp P K h' Q) : wp P (.store (shiftTo (some w) 0) [slV r] K) h1 Q := by
  have ow1 : Own n 1 h1 ⟨some w, 2, 2⟩ [slV ts, slV ss] := m.o.ow.keep fun a ha => m.u1.2.1 _ (m.o.ow.lt ha).2 fun b hb => by cases ha; exact m.o.tw b hb
  refine s_setC (slV r) ow1 (by simp) rfl fun h2 o2 u2 => ?_
  obtain ⟨W, hz'⟩ := m.o.moreT hp ha hM hz m.r1 m.rk m.u1 m.rb o2 u2
  exact hk h2 W hz' (Keep.trans (Upd.keep m.o.ot hn m.u1) (Upd.keep ow1 (Nat.le_trans hn m.u1.1) u2))

theorem s_appL {a : Addr} {m : Nat} {x : Sl} {K : Sl → Prog} (o : Wood n Z h w ts ss ps sl bs ls M) (hn : n ≤ h.size) (hx : Own m 1 h ⟨some a, 1, 1⟩ [slV x]) (room : ls.length + 1 ≤ 4194304)
    (hk : ∀ r h1, MidL n Z h h1 w ts ss ps sl bs ls M r x → wp P (K r) h1 Q) : wp P (.append 1 24 [.slice none 0 0] ss ⟨some a, 1, 1⟩ K) h Q := by
  have hl := o.os.1
  rw [List.length_map, o.sln] at hl
  refine wp_appendK (cls := isSl) o.os hn hx.rd o.ks (fun v hv => by rw [List.mem_singleton.1 hv]; trivial) trivial (fun v hv => by rw [List.mem_singleton.1 hv]; rfl) (by dsimp only; omega) (by dsimp only; omega)
    fun r h1 r1 rk _ u1 rb => hk r h1 ⟨o, r1, rk, u1, rb⟩

theorem s_stoL {h1 : Heap} {r x : Sl} {l : List (Int × Int)} {K : Prog} (m : MidL n Z h h1 w ts ss ps sl bs ls M r x) (hn : n ≤ h.size) (hx : Runs h x l) (hxz : l ≠ [] → ∀ a, x.base = some a → ¬ Z a.block) (hz : ∀ i, Z i → i < h.size)
    (hk : ∀ h', Wood n Z h' w ts r ps (sl ++ [x]) bs (ls ++ [l]) M → (∀ i, Z i → h'[i]? = h[i]?) → Keep n h h' → wp P K h' Q) : wp P (.store (shiftTo (some w) 1) [slV r] K) h1 Q := by
  have ow1 : Own n 1 h1 ⟨some w, 2, 2⟩ [slV ts, slV ss] := m.o.ow.keep fun a ha => m.u1.2.1 _ (m.o.ow.lt ha).2 fun b hb => by cases ha; exact m.o.sw b hb
  refine s_setC (slV r) ow1 (by simp) rfl fun h2 o2 u2 => ?_
  obtain ⟨W, hz'⟩ := m.o.moreL hx hxz hz m.r1 m.rk m.u1 m.rb o2 u2
  exact hk h2 W hz' (Keep.trans (Upd.keep m.o.os hn m.u1) (Upd.keep ow1 (Nat.le_trans hn m.u1.1) u2))

/-- A new object of one list. -/
theorem s_newS (x : Sl) {K : Addr → Prog} (hk : ∀ h', Ext h h' → Own h.size 1 h' ⟨some ⟨h.size, 0, none⟩, 1, 1⟩ [slV x] → wp P (K ⟨h.size, 0, none⟩) h' Q) : wp P (.alloc [slV x] K) h Q :=
  fun elem => hk _ (Ext.push ..) (own_alloc rfl (by decide) (by decide))

theorem c_begin : Gives P (F_law4_begin S) [.one .ptr] h fun (y : Option Addr × Unit) h' => ∃ w ts ss ps sl, y.1 = some w ∧ Wood h.size (fun _ => False) h' w ts ss ps sl [.nil] [[]] 0 := by
  unfold F_law4_begin Gives
  intro elem
  have e1 : Ext h (h.push (.cells [.slice none 0 0, .slice none 0 0].toArray elem)) := Ext.push ..
  have ow : Own h.size 1 (h.push (.cells [.slice none 0 0, .slice none 0 0].toArray elem)) ⟨some ⟨h.size, 0, none⟩, 2, 2⟩ [slV ⟨none, 0, 0⟩, slV ⟨none, 0, 0⟩] := own_alloc rfl (by decide) (by decide)
  generalize (h.push (.cells [.slice none 0 0, .slice none 0 0].toArray elem)) = h1 at e1 ow ⊢
  have b1 := (ow.lt rfl).2
  dsimp only at b1
  have W0 : Wood h.size (fun _ => False) h1 ⟨h.size, 0, none⟩ ⟨none, 0, 0⟩ ⟨none, 0, 0⟩ [] [] [] [] 0 :=
    ⟨ow, Own.nil .., Own.nil .., AllK.nil _ _, AllK.nil _ _, fun a ha => (by cases ha), fun a ha => (by cases ha), fun a b ha hb => (by cases ha), fun a ha => (by cases ha), fun a ha => (by cases ha), fun x => x, rfl, rfl, fun i b hi => (by simp at hi), fun i b hi => (by simp at hi)⟩
  refine s_newP none fun h2 e2 o2 => s_cell (b := .sl) (x := ⟨none, 0, 0⟩) rfl (W0.ext e2).ow.cells rfl (s_getT o2 (s_newP none fun h3 e3 o3 => q_same (W0.ext (e2.trans e3)).ow.cells (fun i v hi => by match i, hi with | 0, hi => exact hi) ?_))
  have z2 := (o2.lt rfl).2
  dsimp only at z2
  have s3 := e3.size
  have W3 := W0.ext (e2.trans e3)
  refine s_appT W3 (by omega) o3 (by simp) fun r h4 m4 => s_stoT (b := .nil) m4 (by omega) rfl trivial (Nat.le_refl _) (fun i hi => hi.elim) fun h5 W5 z5 k5 => ?_
  have s5 := k5.size
  refine s_cell (b := .sl) (x := ⟨none, 0, 0⟩) rfl W5.ow.cells rfl (s_newS ⟨none, 0, 0⟩ fun h6 e6 o6 => ?_)
  have s6 := e6.size
  refine s_appL (W5.ext e6) (by omega) o6 (by simp) fun r2 h7 m7 => s_stoL (l := []) m7 (by omega) (OwnR.nil h.size _).runs (fun x => absurd rfl x) (fun i hi => hi.elim) fun h8 W8 z8 k8 => ?_
  exact s_ret ⟨rfl, Keep.trans (Keep.trans (e1.trans (e2.trans e3)) k5) (Keep.trans (e6.mono (by omega)) k8), (some ⟨h.size, 0, none⟩, ()), rfl, _, _, _, _, _, rfl, W8⟩

end Go.Sw.Tree

set_option linter.unusedVariables false
set_option linter.unusedSimpArgs false
set_option maxRecDepth 100000
namespace Go.Sw.Tree
variable {P : Program} {S : Ids} {h : Heap} {Q : Nat → List Value → Heap → Prop}
variable {n : Nat} {Z : Nat → Prop} {w : Addr} {ts ss : Sl} {ps : List (Option Addr)} {sl : List Sl} {bs : List BT} {ls : List (List (Int × Int))} {M : Nat}

theorem Runs.keepN {m : Nat} {h' : Heap} {s : Sl} {l : List (Int × Int)} (r : Runs h s l) (k : Keep m h h') (hb : l ≠ [] → ∀ a, s.base = some a → a.block < m) : Runs h' s l :=
  ⟨⟨r.rd.1, fun i v hi => let ⟨a, e, c⟩ := r.rd.2 i v hi; ⟨a, e, by
    rw [k.cell (by rw [add_block]; exact hb (by rintro rfl; simp [cR] at hi) a e)]; exact c⟩⟩, r.cap, r.max, r.wf⟩

def Replaced (t : BT) (its : List (Int × Int)) (i j : Int) (h' : Heap) (p : Option Addr) (e : Int) : Prop :=
  (Placed i j t.list.length ∧ e = 0 ∧ ∃ t', Nd h' p t' ∧ t'.list = t.list.take i.toNat ++ its ++ t.list.drop j.toNat ∧ t'.Avl) ∨ (¬ Placed i j t.list.length ∧ e = 1 ∧ p = none)
theorem Replaced.ext {t : BT} {its : List (Int × Int)} {i j : Int} {h h' : Heap} {p : Option Addr} {e : Int} (r : Replaced t its i j h p e) (x : Ext h h') : Replaced t its i j h' p e :=
  r.elim (fun ⟨h1, h2, t', h3, h4, h5⟩ => .inl ⟨h1, h2, t', h3.ext x, h4, h5⟩) .inr
theorem c_ReplaceAny {p : Option Addr} {t : BT} {items : Sl} {its : List (Int × Int)} {i j : Int} (nt : Nd h p t) (hr : Runs h items its) (hw : wfR t.list) (ha : t.Avl) (hroom : t.list.length + its.length ≤ 4398046511104) :
    Gives P (F_Tree_Run_Replace S (p, ()) i j items) [.agg [.ptr], .one (.int .i64)] h fun (y : TR × Int × Unit) h' => Replaced t its i j h' y.1.1 y.2.1 := by
  by_cases hp : Placed i j t.list.length
  · exact (c_Replace nt hr hw hp.1 hp.2.1 hp.2.2 hroom).mono fun y h' e ⟨h1, t', h2, h3, h4⟩ => .inl ⟨hp, h1, t', h2, h3, h4 ha⟩
  · exact (c_ReplaceNo nt hp).mono fun y h' e ⟨h1, h2⟩ => .inr ⟨hp, h1, h2⟩

theorem Replaced.len {t t' : BT} {its : List (Int × Int)} {i j : Int} (hp : Placed i j t.list.length) (hl : t'.list = t.list.take i.toNat ++ its ++ t.list.drop j.toNat) : t'.list.length ≤ t.list.length + its.length := by
  obtain ⟨h1, h2, h3⟩ := hp
  rw [hl, List.length_append, List.length_append, List.length_take, List.length_drop]
  omega

theorem s_sameAt {s : Sl} {vs : List Value} {v : Value} {j : Int} {K : Prog} (hr : Rd 1 h s vs) (hj : vs[j.toNat]? = some v) (hk : wp P K h Q) : wp P (.check (shiftTo s.base (mulN (toN j) 1)) [v] K) h Q := by
  obtain ⟨a, e, c⟩ := hr.2 _ _ hj
  refine s_check0 (a := a.add j.toNat) (by simp [shiftTo, e, mulN, toN]) (cells_iff.2 fun i u hi => ?_) hk
  match i, hi with
  | 0, hi => simp at hi; subst hi; rw [add_zero']; exact c
  | i + 1, hi => simp at hi
theorem s_sub0 (m : Nat) : subN (toN (natI m)) 0 = m := by simp [subN, toN, natI_def]
theorem spoilts_at {m i : Nat} (hi : i < m) : (spoilts m)[i]? = some (spoilt i) := by simp [spoilts, hi]

/-- What a step that makes a tree leaves. -/
def Made (n : Nat) (h' : Heap) (w : Addr) (bs : List BT) (M : Nat) : Prop :=
  ∃ Z' ts' ss' ps' sl' bs', Wood n Z' h' w ts' ss' ps' sl' bs' (bs'.map BT.list) M ∧ bs.length ≤ bs'.length ∧ bs'.length ≤ bs.length + 1

theorem c_makes {o : Op7} {its : List (Int × Int)} (hW : Wood n Z h w ts ss ps sl bs (bs.map BT.list) M) (hn : n ≤ h.size) (hits : Runs h o.2.2.2.2.2.2.1 its) (hb : its ≠ [] → ∀ a, o.2.2.2.2.2.2.1.base = some a → a.block < n)
    (hpos : 0 < bs.length) (hroom : bs.length + 1 ≤ 4194304) (hM : M + its.length ≤ 4194304) :
    GivesN n P (F_wood_makes S (some w) o) [.one .bool] h fun (y : Bool × Unit) h' => y.1 = true ∧ Made n h' w bs (M + its.length) := by
  obtain ⟨(o0 : Int), (o1 : Int), (o2 : Int), (o3 : Int), (o4 : Int), (o5 : Int), s, u⟩ := o
  dsimp only at hits hb
  have hil := hits.len
  unfold F_wood_makes GivesN
  dsimp only
  intro elem
  have e1 : Ext h (h.push (.cells [iv o0, iv o1, iv o2, iv o3, iv o4, iv o5, .slice s.base s.len s.cap].toArray elem)) := Ext.push ..
  have q1 : Own h.size 1 (h.push (.cells [iv o0, iv o1, iv o2, iv o3, iv o4, iv o5, .slice s.base s.len s.cap].toArray elem)) ⟨some ⟨h.size, 0, none⟩, 7, 7⟩ [iv o0, iv o1, iv o2, iv o3, iv o4, iv o5, .slice s.base s.len s.cap] := own_alloc rfl (by decide) (by decide)
  generalize (h.push (.cells [iv o0, iv o1, iv o2, iv o3, iv o4, iv o5, .slice s.base s.len s.cap].toArray elem)) = h1 at e1 q1 ⊢
  have b1 := (q1.lt rfl).2
  dsimp only at b1
  have s1 := e1.size
  refine ⟨⟨h.size, 0, none⟩, rfl, (o0, o1, o2, o3, o4, o5, s, ()), q1.cells, ?_⟩
  refine wp_call (c_handed (o := (o0, o1, o2, o3, o4, o5, s, ())) (its := its) (hits.ext e1) (by omega)) fun y h2 e2 hy => ?_
  obtain ⟨⟨lb, ll, lc⟩, w1⟩ := y
  obtain ⟨hlc, hic, oL⟩ := hy
  dsimp only at hlc hic oL ⊢
  have s2 := e2.size
  have hll := oL.len
  have hlm := oL.own.2.2.1
  dsimp only at hll hlm
  have e02 := e1.trans e2
  have q2 := q1.ext e2
  have W2 : Wood n (fun i => h.size ≤ i ∧ i < h2.size) h2 w ts ss ps sl bs (bs.map BT.list) (M + its.length) := ((hW.mono (Nat.le_add_right M its.length)).anew fun i hi => hi.1).ext e02
  have zL : ∀ a, lb = some a → h.size ≤ a.block ∧ a.block < h2.size := fun a ha => by have := oL.own.lt (a := a) ha; omega
  have hits2 : ∀ {h'}, Keep n h h' → Runs h' s its := fun k => hits.keepN k hb
  have oLt : ∀ {h'}, OwnR h1.size h' ⟨lb, ll, lc⟩ (its ++ marksR its.length (lc - its.length)) → Runs h' ⟨lb, its.length, lc⟩ its := fun oo => by
    have := oo.runs.take (n := its.length) (m := lc) (by rw [List.length_append]; omega) (by omega) hlm
    rw [List.take_left' rfl] at this; exact this
  refine s_cell (b := .int .i64) (x := o0) rfl q2.cells rfl (wp_ifB (fun hc => ?_) fun hc => ?_)
  · refine s_cell (b := .sl) (x := s) rfl q2.cells rfl (s_grd (leB_ok (by rw [natI_def]; omega) (by rw [natI_def, hil]; omega)) ?_)
    rw [s_sub0, hil, cutBase_zero, show subN lc 0 = lc from rfl]
    refine wp_call (c_Of (oLt oL) (by omega)) fun y h3 e3 hy => ?_
    obtain ⟨⟨(p : Option Addr), w2⟩, w3⟩ := y
    obtain ⟨t, nt, lt, ft⟩ := hy
    dsimp only at nt ⊢
    refine s_putTree p nt fun h4 e4 oT => ?_
    have W4 := W2.ext (e3.trans e4)
    have s3 := e3.size
    have s4 := e4.size
    refine grd_some rfl (grd_some rfl (s_cell (b := .sl) (x := ts) rfl W4.ow.cells rfl (s_getT oT (s_newP p fun h5 e5 o5 => q_same (W4.ext e5).ow.cells (fun i v hi => by match i, hi with | 0, hi => exact hi) ?_))))
    have s5 := e5.size
    have e25 := (e3.trans e4).trans e5
    have q5 := q2.ext e25
    have oL5 := oL.ext e25
    refine s_appT (W4.ext e5) (by omega) o5 (by omega) fun r h6 m6 => grd_some rfl (grd_some rfl (s_stoT (b := t) m6 (by omega) (nt.ext (e4.trans e5)) ft.2.2 (by rw [lt]; omega) (fun i hi => by omega) fun h7 W7 z7 k7 => ?_))
    have s7 := k7.size
    have q7 : Own h.size 1 h7 _ _ := q5.keep fun a ha => z7 _ (by cases ha; exact ⟨Nat.le_refl _, Nat.lt_of_lt_of_le b1 s2⟩)
    have oL7 : OwnR h1.size h7 _ _ := ⟨oL5.own.keep fun a ha => z7 _ (zL a ha), oL5.wf⟩
    have k07 : Keep n h h7 := Keep.trans ((e02.trans e25).mono hn) k7
    refine grd_some rfl (grd_some rfl (s_cell (b := .sl) (x := ss) rfl W7.ow.cells rfl (s_cell (b := .sl) (x := s) rfl q7.cells rfl (wp_call (c_plain (hits2 k07) (by omega)) fun y h8 e8 hy => ?_))))
    obtain ⟨x, w4⟩ := y
    dsimp only at hy ⊢
    have s8 := e8.size
    refine q_same (W7.ext e8).ow.cells (fun i v hi => by match i, hi with | 0, hi => exact hi) (s_newS x fun h9 e9 o9 => q_same (W7.ext (e8.trans e9)).ow.cells (fun i v hi => by match i, hi with | 0, hi => exact hi) ?_)
    have s9 := e9.size
    refine s_appL (W7.ext (e8.trans e9)) (by omega) o9 (by rw [List.length_map]; omega) fun r2 h10 m10 => grd_some rfl (grd_some rfl (s_stoL (l := its) m10 (by omega) (hy.ext e9).runs (fun _ a ha => by have := (hy.own.lt ha).1; omega) (fun i hi => by omega) fun h11 W11 z11 k11 => ?_))
    have s11 := k11.size
    have e79 := e8.trans e9
    have q11 : Own h.size 1 h11 _ _ := (q7.ext e79).keep fun a ha => z11 _ (by cases ha; exact ⟨Nat.le_refl _, Nat.lt_of_lt_of_le b1 s2⟩)
    have oL11 : OwnR h1.size h11 _ _ := ⟨(oL7.ext e79).own.keep fun a ha => z11 _ (zL a ha), oL7.wf⟩
    have k11' : Keep n h h11 := Keep.trans k07 (Keep.trans (e79.mono (by omega)) k11)
    refine s_cell (b := .sl) (x := s) rfl q11.cells rfl (wp_callN (c_spoil oL11 (by omega) (hits2 k11') fun hne a ha => by have := hb hne a ha; omega) fun y h12 k12 hy => ?_)
    obtain ⟨(y : Bool), w5⟩ := y
    obtain ⟨hy, oL12, u12⟩ := hy
    dsimp only at hy ⊢
    subst y
    have s12 := k12.size
    have W12 := W11.spoiled u12 (fun a ha => zL a ha) (oL11.allK hlc)
    have q12 : Own h.size 1 h12 _ _ := q11.keep fun a ha => by cases ha; exact k12.2.1 _ (by dsimp only; omega)
    have k012 : Keep n h h12 := Keep.trans k11' (k12.mono (by omega))
    have rS : ∀ {h'}, Ext h12 h' → Runs h' ⟨lb, its.length, lc⟩ (spoilts its.length) := fun e => by
      have := (oL12.ext e).runs.take (n := its.length) (m := lc) (by rw [List.length_append, spoilts_len]; omega) (by omega) hlm
      rw [List.take_left' (spoilts_len _)] at this; exact this
    have fin : ∀ {h'}, Ext h12 h' → Made n h' w bs (M + its.length) := fun e =>
      ⟨_, _, _, _, _, bs ++ [t], by rw [map_snoc, lt]; exact W12.ext e, by simp, by simp⟩
    refine s_cell (b := .sl) (x := s) rfl q12.cells rfl (s_grd (leB_ok (by rw [natI_def]; omega) (by rw [natI_def, hil]; omega)) ?_)
    rw [s_sub0, hil]
    refine wp_call (c_Of (rS (Ext.refl _)) (by rw [spoilts_len]; omega)) fun y h13 e13 hy => ?_
    obtain ⟨⟨(p2 : Option Addr), w6⟩, w7⟩ := y
    obtain ⟨t2, nt2, lt2, _⟩ := hy
    dsimp only at nt2 ⊢
    have hw2 : wfR t2.list := by rw [lt2]; exact (rS (Ext.refl _)).wf
    have hl2 : t2.list.length = its.length := by rw [lt2, spoilts_len]
    refine s_putTree p2 nt2 fun h14 e14 oT2 => ?_
    have e24 := e13.trans e14
    refine s_cell (b := .sl) (x := s) rfl (q12.ext e24).cells rfl (s_grd (leB_ok (by rw [natI_def]; omega) (by rw [natI_def, hil]; omega)) ?_)
    rw [s_sub0, hil]
    refine wp_call (c_plain (rS e24) (by rw [spoilts_len]; omega)) fun y h15 e15 hy => ?_
    obtain ⟨v, w8⟩ := y
    dsimp only at hy ⊢
    have rV := hy.runs
    have vl := rV.len
    rw [spoilts_len] at vl
    have e25' := e24.trans e15
    have n15 := nt2.ext (e14.trans e15)
    have oT15 := oT2.ext e15
    have vL := V.sum hw2
    refine bind_bool False ?_ fun b h16 e16 hbf => ?_
    · refine s_getT oT15 (wp_call (c_Size n15) fun y k1 d1 hy => ?_)
      obtain ⟨(y : Int), w9⟩ := y
      dsimp only at hy ⊢
      rw [show neI y (natI v.len) = false from neI_not.2 (by rw [natI_def, vl, hy, hl2])]
      refine s_ifF (s_getT (oT15.ext d1) (wp_call (c_Sum (n15.ext d1) hw2 (by omega)) fun y k2 d2 hy => wp_call (c_Upto (rV.ext (d1.trans d2)) (by rw [spoilts_len]; omega)) fun z k3 d3 hz => ?_))
      obtain ⟨y, w10⟩ := y
      obtain ⟨z, w11⟩ := z
      dsimp only at hy hz
      rw [natI_def, vl, Int.toNat_natCast, List.take_of_length_le (by rw [spoilts_len]; omega), ← lt2, ← hy] at hz
      subst hz
      subst hy
      refine wp_call (c_sameRuns vL (by omega)) fun y k4 d4 hy => ?_
      obtain ⟨(y : Bool), w12⟩ := y
      dsimp only at hy ⊢
      subst y
      exact s_ret ⟨rfl, ((d1.trans d2).trans d3).trans d4, false, rfl, Iff.intro (fun x => by cases x) False.elim⟩
    · have hbb : b = false := by cases b; rfl; exact (hbf.1 rfl).elim
      subst hbb
      dsimp only
      have e26 := e25'.trans e16
      refine s_ifF (wp_while (fun (r : Int × Unit) h' => Ext h12 h' ∧ Ext h16 h' ∧ 0 ≤ r.1 ∧ r.1 ≤ its.length) (fun r _ => (its.length - r.1).toNat) (fun t vs h' => t = 2 ∧ vs = [] ∧ Ext h12 h') ⟨e26, Ext.refl _, by simp, by simp⟩ ?_ ?_)
      · rintro ⟨(i : Int), u⟩ k1 ⟨d1, d16, i0, i1⟩
        dsimp only at i0 i1 ⊢
        have e1k := e16.trans d16
        refine wp_ifB (fun hc => ?_) fun hc => s_ret ⟨fun h => absurd h (by decide), fun _ => ⟨rfl, rfl, d1⟩⟩
        rw [ltI_iff, natI_def, vl] at hc
        have hat := spoilts_at (m := its.length) (i := i.toNat) (by omega)
        refine s_getT (oT15.ext e1k) (wp_call (c_At (i := i) (x := spoilt i.toNat) (n15.ext e1k) hw2 (by omega) i0 (by rw [lt2]; exact hat)) fun y k2 d2 hy => ?_)
        obtain ⟨⟨(y1 : Int), (y2 : Int), w13⟩, (y3 : Bool), w14⟩ := y
        obtain ⟨hy1, hy2, hy3⟩ := hy
        dsimp only at hy1 hy2 hy3 ⊢
        subst y1; subst y2; subst y3
        have fsp := rV.wf.get hat
        refine s_put2 _ _ fsp fun k3 d3 oX => ?_
        refine bind_bool False ?_ fun b k4 d4 hbf => ?_
        · refine s_ifF (s_get2 rfl oX (s_at2 (rV.ext ((e1k.trans d2).trans d3)) i0 (by rw [spoilts_len]; omega) fun r hj => ?_))
          rw [hat] at hj
          cases hj
          refine wp_call (c_sameRun (a := ((spoilt i.toNat).1, (spoilt i.toNat).2, ())) (b := ((spoilt i.toNat).1, (spoilt i.toNat).2, ())) fsp fsp) fun y k4 d4 hy => ?_
          obtain ⟨(y : Bool), w15⟩ := y
          dsimp only at hy ⊢
          rw [hy.2 ⟨rfl, rfl⟩]
          exact s_ret ⟨rfl, d4, false, rfl, Iff.intro (fun x => by cases x) False.elim⟩
        · have hbb : b = false := by cases b; rfl; exact (hbf.1 rfl).elim
          subst hbb
          dsimp only
          have dd := (d2.trans d3).trans d4
          refine s_ifF (wp_ifB (fun _ => s_ret ⟨fun h => absurd h (by decide), fun _ => ⟨rfl, rfl, d1.trans dd⟩⟩) fun _ => ?_)
          rw [add_ok (by omega) (by omega)]
          exact s_ret ⟨fun _ => ⟨(i + 1, ()), rfl, ⟨d1.trans dd, d16.trans dd, by dsimp only; omega, by dsimp only; omega⟩, by dsimp only; omega⟩, fun h => absurd rfl h⟩
      · rintro t' vs k1 ⟨rfl, rfl, d1⟩
        exact s_tag (s_cast0 (s_ret ⟨rfl, Keep.trans k012 (d1.mono (by omega)), (true, ()), rfl, rfl, fin d1⟩))
  · refine ⟨⟨h.size, 0, none⟩, rfl, (o0, o1, o2, o3, o4, o5, s, ()), q2.cells, ?_⟩
    have hR := W2.toR hpos (by omega) hM
    have htl := hR.t.1
    rw [List.length_map, hR.tl] at htl
    refine wp_call (c_who (o := (o0, o1, o2, o3, o4, o5, s, ())) hR.obj (by omega) (by omega)) fun y h3 e3 hy => ?_
    obtain ⟨(k : Int), w2⟩ := y
    obtain ⟨k0, k1⟩ := hy
    dsimp only at k0 k1 ⊢
    have W3 := W2.ext e3
    have R3 := hR.ext e3
    have q3 := q2.ext e3
    have s3 := e3.size
    have hbk : bs[k.toNat]? = some bs[k.toNat] := List.getElem?_eq_getElem (by omega)
    obtain ⟨p, x, hp, hx, nd, rn, av, rm⟩ := R3.nd _ _ hbk
    obtain ⟨_, _, _, _, rm'⟩ := hW.nt _ _ hbk
    generalize bs[k.toNat] = t at nd rn av rm rm'
    have hpP : (ps.map Value.pointer)[k.toNat]? = some (.pointer p) := by rw [List.getElem?_map, hp]; rfl
    have hxP : (sl.map slV)[k.toNat]? = some (slV x) := by rw [List.getElem?_map, hx]; rfl
    have ckA : ∀ {h'} {j : Nat} {v : Value} {K : Prog} {Q : Nat → List Value → Heap → Prop}, Ext h3 h' → [iv o0, iv o1, iv o2, iv o3, iv o4, iv o5, .slice s.base s.len s.cap][j]? = some v → wp P K h' Q → wp P (.check (shiftTo (some ⟨h.size, 0, none⟩) j) [v] K) h' Q := fun e hv hk =>
      q_same (q3.ext e).cells (fun i u hi => by match i, hi with | 0, hi => simp at hi; subst hi; exact hv) hk
    have ckW : ∀ {h'} {K : Prog} {Q : Nat → List Value → Heap → Prop}, Ext h3 h' → wp P K h' Q → wp P (.check (shiftTo (some w) 0) [slV ts] K) h' Q := fun e hk =>
      q_same (W3.ext e).ow.cells (fun i v hi => by match i, hi with | 0, hi => exact hi) hk
    have ckX : ∀ {h'} {K : Prog} {Q : Nat → List Value → Heap → Prop}, Ext h3 h' → wp P K h' Q → wp P (.check (shiftTo (some w) 1) [slV ss] K) h' Q := fun e hk =>
      q_same (W3.ext e).ow.cells (fun i v hi => by match i, hi with | 0, hi => exact hi) hk
    refine bind_val (tys := [.one .ptr, .one (.int .i64)]) (fun (y : Option Addr × Int × Unit) h' => ∃ a q m, y.1 = some a ∧ h3.size ≤ a.block ∧ Own m 1 h' ⟨some a, 1, 1⟩ [.pointer q] ∧ Replaced t its o2 o3 h' q y.2.1) ⟨?_, ?_⟩ fun y h4 e4 hy => ?_
    · refine grd_some rfl (grd_some rfl (s_cell (b := .sl) (x := ts) rfl R3.obj rfl (s_atP R3.t k0 hp (s_cell (b := .int .i64) (x := o2) rfl q3.cells rfl (s_cell (b := .int .i64) (x := o3) rfl q3.cells rfl (s_cell (b := .sl) (x := s) rfl q3.cells rfl
        (s_grd (leB_ok (by rw [natI_def]; omega) (by rw [natI_def, hil]; omega)) ?_)))))))
      rw [s_sub0, hil, cutBase_zero, show subN lc 0 = lc from rfl]
      refine wp_call (c_ReplaceAny nd (oLt (oL.ext e3)) rn.wf av (by omega)) fun y k1 d1 hy => s_newP none fun k2 d2 o2 => ?_
      have d02 := d1.trans d2
      obtain ⟨⟨(q : Option Addr), w3⟩, (e : Int), w4⟩ := y
      dsimp only at hy ⊢
      rw [← hil]
      refine ckA d02 rfl (ckA d02 rfl (ckA d02 rfl (s_sameAt (R3.ext d02).t hpP (ckW d02 (s_putP q o2 fun k3 o3 u3 => ?_)))))
      have e3 := Upd.extN d02 u3 (by intro a ha; cases ha; exact d1.size)
      refine s_ret ⟨rfl, e3, (some ⟨k1.size, 0, none⟩, e, ()), rfl, ⟨k1.size, 0, none⟩, q, k1.size, rfl, d1.size, o3, ?_⟩
      have hy2 := hy.ext d2
      rcases hy2 with ⟨a1, a2, t', a3, a4, a5⟩ | a
      · exact .inl ⟨a1, a2, t', a3.upd u3 o2 (by decide), a4, a5⟩
      · exact .inr a
    · refine grd_some rfl (grd_some rfl (s_cell (b := .sl) (x := ts) rfl R3.obj rfl (s_atP R3.t k0 hp (s_cell (b := .int .i64) (x := o2) rfl q3.cells rfl (s_cell (b := .int .i64) (x := o3) rfl q3.cells rfl (s_cell (b := .sl) (x := s) rfl q3.cells rfl
        (s_grd (leB_ok (by rw [natI_def]; omega) (by rw [natI_def, hil]; omega)) ?_)))))))
      refine s_newP none fun k1 d1 oN => ckA d1 rfl (ckA d1 rfl (ckA d1 rfl (s_sameAt (R3.ext d1).t hpP (ckW d1 ?_))))
      rw [s_sub0, hil, cutBase_zero, show subN lc 0 = lc from rfl]
      refine wp_call (c_ReplaceAny (nd.ext d1) (oLt (oL.ext (e3.trans d1))) rn.wf av (by omega)) fun y k2 d2 hy => ?_
      obtain ⟨⟨(q : Option Addr), w3⟩, (e : Int), w4⟩ := y
      dsimp only at hy ⊢
      refine s_putP q (oN.ext d2) fun k3 o3 u3 => ?_
      have e3 := Upd.extN (d1.trans d2) u3 (by intro a ha; cases ha; exact Nat.le_refl _)
      refine s_ret ⟨rfl, e3, (some ⟨h3.size, 0, none⟩, e, ()), rfl, ⟨h3.size, 0, none⟩, q, h3.size, rfl, Nat.le_refl _, o3, ?_⟩
      rcases hy with ⟨a1, a2, t', a3, a4, a5⟩ | a
      · exact .inl ⟨a1, a2, t', a3.upd u3 (oN.ext d2) (by decide), a4, a5⟩
      · exact .inr a
    obtain ⟨(y1 : Option Addr), (e : Int), w3⟩ := y
    obtain ⟨a, q, m, hy1, hya, oQ, rep⟩ := hy
    dsimp only at hy1 oQ rep ⊢
    subst y1
    have R4 := R3.ext e4
    have q4 := q3.ext e4
    have s4 := e4.size
    refine grd_some rfl (grd_some rfl (s_cell (b := .sl) (x := ss) rfl R4.obj rfl (s_atS R4.s k0 hx (s_cell (b := .int .i64) (x := o2) rfl q4.cells rfl (s_cell (b := .int .i64) (x := o3) rfl q4.cells rfl (s_cell (b := .sl) (x := s) rfl q4.cells rfl
      (wp_call (c_plain (hits2 (((e02.trans e3).trans e4).mono hn)) (by omega)) fun y h5 e5 hy => ?_)))))))
    obtain ⟨x5, w4⟩ := y
    dsimp only at hy ⊢
    have e35 := e4.trans e5
    have s5 := e5.size
    refine ckA e35 rfl (ckA e35 rfl (s_sameAt (R4.ext e5).s hxP (ckX e35 (wp_call (c_refReplace (rn.ext e35) hy.runs (by omega)) fun y h6 e6 hz => ?_))))
    obtain ⟨x6, (f : Int), w5⟩ := y
    dsimp only at hz ⊢
    refine wp_call c_num fun y h7 e7 hy7 => ?_
    obtain ⟨(y : Int), w6⟩ := y
    dsimp only at hy7 ⊢
    subst y
    have e47 := (e5.trans e6).trans e7
    have e37 := e4.trans e47
    have s6 := e6.size
    have s7 := e7.size
    have W7 : Wood n (fun i => h.size ≤ i ∧ i < h7.size) h7 w ts ss ps sl bs (bs.map BT.list) (M + its.length) := ((hW.mono (Nat.le_add_right M its.length)).anew fun i hi => hi.1).ext ((e02.trans e3).trans e37)
    have rep7 := rep.ext e47
    have oQ7 := oQ.ext e47
    rcases rep7 with ⟨r1, r2, t', nt', lt', at'⟩ | ⟨r1, r2, r3⟩
    · obtain ⟨rfl, oX⟩ : f = 0 ∧ OwnR h5.size h6 x6 t'.list := by
        rcases hz with ⟨_, z1, z2⟩ | ⟨z, _⟩
        · exact ⟨z1, by rw [lt']; exact z2⟩
        · exact absurd r1 z
      subst e
      refine s_ifF (s_ifF (grd_some rfl (grd_some rfl (s_cell (b := .sl) (x := ts) rfl W7.ow.cells rfl (s_getT oQ7 (s_newP q fun h8 e8 o8 => q_same (W7.ext e8).ow.cells (fun i v hi => by match i, hi with | 0, hi => exact hi) ?_))))))
      have s8 := e8.size
      have oL8 := oL.ext ((e3.trans e37).trans e8)
      have q8 := q3.ext (e37.trans e8)
      have hlen := Replaced.len r1 lt'
      refine s_appT (W7.ext e8) (by omega) o8 (by omega) fun r h9 m9 => grd_some rfl (grd_some rfl (s_stoT (b := t') m9 (by omega) (nt'.ext e8) at' (by omega) (fun i hi => by omega) fun h10 W10' z10 k10 => ?_))
      have s10 := k10.size
      have q10 : Own h.size 1 h10 _ _ := q8.keep fun a ha => z10 _ (by cases ha; exact ⟨Nat.le_refl _, by dsimp only; omega⟩)
      have oL10 : OwnR h1.size h10 _ _ := ⟨oL8.own.keep fun a ha => z10 _ (by have := zL a ha; omega), oL8.wf⟩
      have W10 : Wood n (fun i => h.size ≤ i ∧ i < h2.size) h10 _ _ _ _ _ _ _ _ := W10'.less fun i hi => by omega
      have k010 : Keep n h h10 := Keep.trans ((((e02.trans e3).trans e37).trans e8).mono hn) k10
      refine grd_some rfl (grd_some rfl (s_cell (b := .sl) (x := ss) rfl W10.ow.cells rfl (s_newS x6 fun h11 e11 o11 => ?_)))
      have s11 := e11.size
      have x10 : Runs h10 x6 t'.list := OwnR.runs (n := h5.size) ⟨((oX.ext e7).ext e8).own.keep fun a ha => z10 _ (by have := (oX.own.lt ha).1; have := (oX.own.lt ha).2; omega), oX.wf⟩
      refine s_appL (W10.ext e11) (by omega) o11 (by rw [List.length_map]; omega) fun r2 h12 m12 => grd_some rfl (grd_some rfl (s_stoL (l := t'.list) m12 (by omega) (x10.ext e11) (fun _ a ha => by have := (oX.own.lt ha).1; omega) (fun i hi => by omega) fun h13 W13 z13 k13 => ?_))
      have s13 := k13.size
      have q13 : Own h.size 1 h13 _ _ := (q10.ext e11).keep fun a ha => z13 _ (by cases ha; exact ⟨Nat.le_refl _, Nat.lt_of_lt_of_le b1 s2⟩)
      have oL13 : OwnR h1.size h13 _ _ := ⟨(oL10.ext e11).own.keep fun a ha => z13 _ (zL a ha), oL10.wf⟩
      have k013 : Keep n h h13 := Keep.trans k010 (Keep.trans (e11.mono (by omega)) k13)
      refine s_cell (b := .sl) (x := s) rfl q13.cells rfl (wp_callN (c_spoil oL13 (by omega) (hits2 k013) fun hne a ha => by have := hb hne a ha; omega) fun y h14 k14 hy => ?_)
      obtain ⟨(y : Bool), w7⟩ := y
      obtain ⟨hy, oL14, u14⟩ := hy
      dsimp only at hy ⊢
      subst y
      have W14 := W13.spoiled u14 (fun a ha => zL a ha) (oL13.allK hlc)
      refine s_ret ⟨rfl, Keep.trans k013 (k14.mono (by omega)), (true, ()), rfl, rfl, _, _, _, _, _, bs ++ [t'], by rw [map_snoc]; exact W14, by simp, by simp⟩
    · obtain rfl : f = 1 := by
        rcases hz with ⟨z, _⟩ | ⟨_, z⟩
        · exact absurd z r1
        · exact z
      subst e; subst q
      refine s_ifF (s_ifT (s_getT oQ7 (wp_call (c_Size (t := .nil) (p := none) rfl) fun y h8 e8 hy => ?_)))
      obtain ⟨(y : Int), w7⟩ := y
      dsimp only at hy ⊢
      rw [show eqI y 0 = true from eqI_iff.2 hy]
      exact s_ret ⟨rfl, (((e02.trans e3).trans e37).trans e8).mono hn, (true, ()), rfl, rfl, _, _, _, _, _, bs, W7.ext e8, Nat.le_refl _, by omega⟩

end Go.Sw.Tree

set_option linter.unusedVariables false
set_option linter.unusedSimpArgs false
set_option maxRecDepth 100000
namespace Go.Sw.Tree
variable {P : Program} {S : Ids} {h : Heap} {Q : Nat → List Value → Heap → Prop}

theorem s_putAll {n m c : Nat} {a : Addr} {old : List Value} (new : List Value) {K : Prog} (ho : Own n 1 h ⟨some a, m, c⟩ old) (hl : new.length = old.length) (hf : ∀ v ∈ new, flat v = true)
    (hk : ∀ h', Own n 1 h' ⟨some a, m, c⟩ new → Upd ⟨some a, m, c⟩ h h' → wp P K h' Q) : wp P (.store (some a) new K) h Q := by
  have := s_putEnd (P := P) (Q := Q) (K := K) (pre := []) (old := old) new ho rfl hl hf hk
  simpa [shiftTo, add_zero'] using this

/-- l[j], all of a step. -/
theorem s_opAll {s : Sl} {l : List OpV} {o : OpV} {j : Int} {K : Op7 → Prog} (hr : Ops h s l) (h0 : 0 ≤ j) (hj : l[j.toNat]? = some o) (hk : wp P (K (o.k, o.w, o.f, o.t, o.kk, o.n, o.s, ())) h Q) :
    wp P (grd (andB (someB s.base) (inB j s.len)) (.load (.agg [.int .i64, .int .i64, .int .i64, .int .i64, .int .i64, .int .i64, .sl]) (shiftTo s.base (mulN (toN j) 7)) K)) h Q := by
  obtain ⟨a, ha, hc, _, _⟩ := hr.at_ _ _ hj
  have hlt := (List.getElem?_eq_some_iff.1 hj).1
  have hl := hr.len
  refine wp_grd (andB_iff.2 ⟨by simp [someB, ha], inB_is.2 ⟨h0, by omega⟩⟩) ⟨a.add (j.toNat * 7), by simp [shiftTo, ha, mulN, toN], (o.k, o.w, o.f, o.t, o.kk, o.n, o.s, ()), cells_iff.2 fun i v hi => ?_, hk⟩
  rw [add_add]
  exact hc i v hi

def tot (l : List OpV) : Nat := (l.map fun o => o.its.length).sum
theorem tot_take {l : List OpV} {i : Nat} {o : OpV} (hi : l[i]? = some o) : tot (l.take (i + 1)) = tot (l.take i) + o.its.length := by
  unfold tot
  rw [List.take_add_one, hi, List.map_append, List.sum_append]; simp
theorem sum_take_le (l : List Nat) (i : Nat) : (l.take i).sum ≤ l.sum := by
  induction l generalizing i with
  | nil => simp
  | cons x l ih => cases i with
    | zero => simp
    | succ i => have := ih i; simp only [List.take_succ_cons, List.sum_cons]; omega
theorem tot_take_le (l : List OpV) (i : Nat) : tot (l.take i) ≤ tot l := by
  unfold tot
  rw [List.map_take]; exact sum_take_le _ i

/-- What holds behind the first i steps. -/
def Played (n : Nat) (h' : Heap) (w : Addr) (l : List OpV) (i : Nat) : Prop :=
  ∃ Z ts ss ps sl bs, Wood n Z h' w ts ss ps sl bs (bs.map BT.list) (tot (l.take i)) ∧ 0 < bs.length ∧ bs.length ≤ i + 1

/-- The steps from lo to hi are told right. -/
def Told3 (P : Program) (S : Ids) (lo hi : Int) : Prop := ∀ {h : Heap} {w : Addr} {ts ss : Sl} {ps : List (Option Addr)} {sl : List Sl} {bs : List BT} {o : OpV}, WoodR h w ts ss ps sl bs → lo ≤ o.k → o.k ≤ hi → o.fits → (∀ n, o.s.len = n → n ≤ 4194304) →
    Gives P (F_wood_tells S (some w) (o.k, o.w, o.f, o.t, o.kk, o.n, o.s, ())) [.one .bool] h fun (y : Bool × Unit) _ => y.1 = true

theorem c_plays {s : Sl} {l : List OpV} {lo hi : Int} (hr : Ops h s l) (hT : Told3 P S lo hi) (hl : l.length ≤ 2097152) (htot : tot l ≤ 2097152) :
    Gives P (F_law4_plays S s lo hi) [.one .bool] h fun (y : Bool × Unit) _ => y.1 = true := by
  have hlen := hr.len
  unfold F_law4_plays Gives
  refine wp_call c_alive fun y h1 e1 hy => wp_call c_begin fun z h2 e2 hz => ?_
  obtain ⟨(y : Bool), w1⟩ := y
  obtain ⟨(z : Option Addr), w2⟩ := z
  obtain ⟨w, ts, ss, ps, sl, hz, W2⟩ := hz
  dsimp only at hy hz ⊢
  subst y; subst z
  have s1 := e1.size
  refine wp_while (fun (r : Bool × Int × Unit) h' => Ext h h' ∧ h1.size ≤ h'.size ∧ r.1 = true ∧ 0 ≤ r.2.1 ∧ r.2.1 ≤ l.length ∧ Played h1.size h' w l r.2.1.toNat) (fun r _ => (l.length - r.2.1).toNat)
    (fun t vs h' => t = 2 ∧ vs = [.bool true] ∧ Ext h h') ⟨e1.trans e2, e2.size, rfl, by simp, by simp, _, _, _, _, _, [.nil], W2.mono (Nat.zero_le _), by simp, by simp⟩ ?_ ?_
  · rintro ⟨b, (i : Int), u⟩ h3 ⟨e3, s3, hb, i0, i1, Z, ts, ss, ps, sl, bs, W3, hpos, hroom⟩
    dsimp only at hb i0 i1 W3 hpos hroom ⊢
    subst b
    refine bind_bool (i < l.length) ?_ fun b h4 e4 hb => ?_
    · refine wp_ifB (fun hc => ?_) fun hc => ?_
      · rw [ltI_iff, natI_def, hlen] at hc
        exact s_ret ⟨rfl, Ext.refl _, true, rfl, Iff.intro (fun _ => hc) fun _ => rfl⟩
      · rw [ltI_not, natI_def, hlen] at hc
        exact s_ret ⟨rfl, Ext.refl _, false, rfl, Iff.intro (fun x => by cases x) fun x => by omega⟩
    dsimp only
    refine wp_ifB (fun hc => ?_) fun hc => s_ret ⟨fun h => absurd h (by decide), fun _ => ⟨rfl, rfl, e3.trans e4⟩⟩
    have hi' := hb.1 hc
    have hj : l[i.toNat]? = some l[i.toNat] := List.getElem?_eq_getElem (by omega)
    obtain ⟨_, _, _, hof, hor⟩ := hr.at_ _ _ hj
    generalize l[i.toNat] = o at hj hof hor
    have htk := tot_take hj
    have htl := tot_take_le l (i.toNat + 1)
    have e04 := e3.trans e4
    have s4 := e4.size
    refine wp_bind (fun t vs h' => t = 0 ∧ vs = [.bool true] ∧ Ext h h' ∧ h1.size ≤ h'.size ∧ Played h1.size h' w l (i.toNat + 1)) ?_ ?_
    · refine s_opAll (hr.ext e04) i0 hj fun elem => ?_
      have e5 : Ext h4 (h4.push (.cells [iv 0, iv 0, iv 0, iv 0, iv 0, iv 0, .slice none 0 0].toArray elem)) := Ext.push ..
      have q5 : Own h4.size 1 (h4.push (.cells [iv 0, iv 0, iv 0, iv 0, iv 0, iv 0, .slice none 0 0].toArray elem)) ⟨some ⟨h4.size, 0, none⟩, 7, 7⟩ [iv 0, iv 0, iv 0, iv 0, iv 0, iv 0, .slice none 0 0] := own_alloc rfl (by decide) (by decide)
      generalize (h4.push (.cells [iv 0, iv 0, iv 0, iv 0, iv 0, iv 0, .slice none 0 0].toArray elem)) = h5 at e5 q5 ⊢
      refine s_putAll (cO o) q5 rfl (fun v hv => by simp only [cO, List.mem_cons, List.not_mem_nil, or_false] at hv; rcases hv with rfl | rfl | rfl | rfl | rfl | rfl | rfl <;> rfl) fun h6 q6 u6 => ?_
      have e46 : Ext h4 h6 := Upd.extN e5 u6 (fun a ha => by cases ha; exact Nat.le_refl _)
      have e06 := e04.trans e46
      have W6 := W3.ext (e4.trans e46)
      have s6 := e46.size
      refine bind_bool (o.k = 1 ∨ o.k = 2) ?_ fun b h7 e7 hb7 => ?_
      · refine s_cell (b := .int .i64) (x := o.k) rfl q6.cells rfl (wp_ifB (fun hc => ?_) fun hc => s_cell (b := .int .i64) (x := o.k) rfl q6.cells rfl ?_)
        · exact s_ret ⟨rfl, Ext.refl _, true, rfl, Iff.intro (fun _ => .inl (eqI_iff.1 hc)) fun _ => rfl⟩
        · rw [eqI_not] at hc
          exact s_ret ⟨rfl, Ext.refl _, _, rfl, Iff.intro (fun x => .inr (eqI_iff.1 x)) fun x => eqI_iff.2 (x.resolve_left hc)⟩
      have q7 := q6.ext e7
      have e07 := e06.trans e7
      have W7 := W6.ext e7
      have s7 := e7.size
      have ld : ∀ {h'} {K : Op7 → Prog} {Q : Nat → List Value → Heap → Prop}, Ext h7 h' → wp P (K (o.k, o.w, o.f, o.t, o.kk, o.n, o.s, ())) h' Q →
          wp P (.load (.agg [.int .i64, .int .i64, .int .i64, .int .i64, .int .i64, .int .i64, .sl]) (some ⟨h4.size, 0, none⟩) K) h' Q := fun e hk => ⟨_, rfl, (o.k, o.w, o.f, o.t, o.kk, o.n, o.s, ()), (q7.ext e).cells, hk⟩
      dsimp only
      refine wp_ifB (fun hc => ?_) fun hc => ?_
      · refine ld (Ext.refl _) (wp_callN (c_makes (o := (o.k, o.w, o.f, o.t, o.kk, o.n, o.s, ())) W7 (by omega) (hor.ext e07) (fun hne a ha => by have := hor.low hne ha; omega) hpos (by omega) (by omega)) fun y h8 k8 hy => ?_)
        obtain ⟨(y : Bool), w3⟩ := y
        obtain ⟨hy, Z', ts', ss', ps', sl', bs', W8, m1, m2⟩ := hy
        dsimp only at hy ⊢
        subst y
        have s8 := k8.size
        exact s_ret ⟨rfl, rfl, Keep.trans e07 (k8.mono s1), by omega, _, _, _, _, _, bs', by rw [htk]; exact W8, by omega, by omega⟩
      · have stay : ∀ {h'}, Ext h7 h' → Played h1.size h' w l (i.toNat + 1) := fun e => ⟨_, _, _, _, _, bs, (W7.ext e).mono (by omega), hpos, by omega⟩
        refine bind_bool (lo ≤ o.k ∧ o.k ≤ hi) ?_ fun b h8 e8 hb8 => ?_
        · refine s_cell (b := .int .i64) (x := o.k) rfl q7.cells rfl (wp_ifB (fun hd => s_cell (b := .int .i64) (x := o.k) rfl q7.cells rfl ?_) fun hd => ?_)
          · rw [geI_iff] at hd
            exact s_ret ⟨rfl, Ext.refl _, _, rfl, Iff.intro (fun x => ⟨hd, leI_iff.1 x⟩) fun x => leI_iff.2 x.2⟩
          · rw [geI_not] at hd
            exact s_ret ⟨rfl, Ext.refl _, false, rfl, Iff.intro (fun x => by cases x) fun x => by omega⟩
        dsimp only
        have s8 := e8.size
        refine wp_ifB (fun hd => ?_) fun hd => s_ret ⟨rfl, rfl, e07.trans e8, by omega, stay e8⟩
        obtain ⟨d1, d2⟩ := hb8.1 hd
        refine ld e8 (wp_call (hT ((W7.ext e8).toR hpos (by omega) (by have := tot_take_le l i.toNat; omega)) d1 d2 hof (fun m hm => by have := hor.len; omega)) fun y h9 e9 hy => ?_)
        obtain ⟨(y : Bool), w3⟩ := y
        dsimp only at hy ⊢
        subst y
        have s9 := e9.size
        exact s_ret ⟨rfl, rfl, (e07.trans e8).trans e9, by omega, stay (e8.trans e9)⟩
    · rintro t vs h5 ⟨rfl, rfl, e5, s5, pl⟩
      refine s_tag (s_castB ?_)
      rw [add_ok (by omega) (by omega)]
      refine s_ret ⟨fun _ => ⟨(true, i + 1, ()), rfl, ⟨e5, s5, rfl, by dsimp only; omega, by dsimp only; omega, ?_⟩, by dsimp only; omega⟩, fun h => absurd rfl h⟩
      dsimp only
      rw [show (i + 1).toNat = i.toNat + 1 by omega]; exact pl
  · rintro t vs h3 ⟨rfl, rfl, e3⟩
    exact s_tag (s_castB (s_ret ⟨rfl, e3, (true, ()), rfl, rfl⟩))

theorem told_plain {lo hi : Int} (hk : ∀ k, lo ≤ k → k ≤ hi → k ≠ 6 ∧ k ≠ 8 ∧ k ≠ 9) : Told3 P S lo hi := fun hW h1 h2 _ _ => c_tells hW (hk _ h1 h2)

theorem c_TreeSums {s : Sl} {l : List OpV} (hr : Ops h s l) (hl : l.length ≤ 2097152) (htot : tot l ≤ 2097152) : Gives P (F_law4_TreeSums S s) [.one .bool] h fun (y : Bool × Unit) _ => y.1 = true := by
  unfold F_law4_TreeSums Gives
  refine wp_call (c_fits hr) fun y h1 e1 _ => bind_val (tys := [.one .bool]) (fun (x : Bool × Unit) _ => x.1 = true) ?_ fun x h2 e2 hx => s_ret ⟨rfl, e1.trans e2, (x.1, ()), rfl, hx⟩
  refine wp_ifB (fun _ => s_ret ⟨rfl, Ext.refl _, (true, ()), rfl, rfl⟩) fun _ => wp_call (c_plays (hr.ext e1) (told_plain fun k h1 h2 => ⟨fun e => by subst e; exact absurd h2 (by decide), fun e => by subst e; exact absurd h2 (by decide), fun e => by subst e; exact absurd h2 (by decide)⟩) hl htot) fun y h2 e2 hy => ?_
  exact s_ret ⟨rfl, e2, (y.1, ()), rfl, hy⟩
theorem c_TreeFind {s : Sl} {l : List OpV} (hr : Ops h s l) (hl : l.length ≤ 2097152) (htot : tot l ≤ 2097152) : Gives P (F_law4_TreeFind S s) [.one .bool] h fun (y : Bool × Unit) _ => y.1 = true := by
  unfold F_law4_TreeFind Gives
  refine wp_call (c_fits hr) fun y h1 e1 _ => bind_val (tys := [.one .bool]) (fun (x : Bool × Unit) _ => x.1 = true) ?_ fun x h2 e2 hx => s_ret ⟨rfl, e1.trans e2, (x.1, ()), rfl, hx⟩
  refine wp_ifB (fun _ => s_ret ⟨rfl, Ext.refl _, (true, ()), rfl, rfl⟩) fun _ => wp_call (c_plays (hr.ext e1) (told_plain fun k h1 h2 => ⟨fun e => by subst e; exact absurd h1 (by decide), fun e => by subst e; exact absurd h2 (by decide), fun e => by subst e; exact absurd h2 (by decide)⟩) hl htot) fun y h2 e2 hy => ?_
  exact s_ret ⟨rfl, e2, (y.1, ()), rfl, hy⟩

end Go.Sw.Tree

set_option linter.unusedVariables false
set_option linter.unusedSimpArgs false
set_option maxRecDepth 100000
namespace Go.Sw.Tree
variable {P : Program} {S : Ids} {h : Heap} {Q : Nat → List Value → Heap → Prop}

theorem c_AtNo {p : Option Addr} {t : BT} {i : Int} (nt : Nd h p t) (hroom : t.list.length ≤ 4398046511104) (hf : i ≤ 9223372036854775807) (hno : i < 0 ∨ (t.list.length : Int) ≤ i) :
    Gives P (F_Tree_Run_At S (p, ()) i) [A2, .one .bool] h fun (y : R2 × Bool × Unit) h' => y.1.1 = 0 ∧ y.1.2.1 = 0 ∧ y.2.1 = false := by
  unfold F_Tree_Run_At Gives
  refine s_newP p fun h1 e1 o1 => s_zero2 fun h2 e2 o2 => s_getP (o1.ext e2) ?_
  refine wp_whileG (G := BT) (fun g (s : Int × Option Addr × Unit) h' => Ext h h' ∧ Nd h' s.2.1 g ∧ (s.1 < 0 ∨ (g.list.length : Int) ≤ s.1) ∧ s.1 ≤ 9223372036854775807 ∧ g.list.length ≤ 4398046511104 ∧ OwnL h1.size .i64 h' ⟨some ⟨h1.size, 0, none⟩, 2, 2⟩ [0, 0]) (fun g => g.list.length)
    (fun t' vs h' => t' = 2 ∧ vs = [] ∧ Ext h h' ∧ OwnL h1.size .i64 h' ⟨some ⟨h1.size, 0, none⟩, 2, 2⟩ [0, 0])
    t ⟨e1.trans e2, nt.ext (e1.trans e2), hno, hf, hroom, o2⟩ ?_ ?_
  · rintro g ⟨(j : Int), (q : Option Addr), u⟩ h3 ⟨e3, nq, hj0, hj1, hg, oa⟩
    dsimp only at nq hj0 hj1 ⊢
    cases g with
    | nil =>
      obtain rfl := nq
      refine bind_bool False (s_ifF (s_ret ⟨rfl, Ext.refl _, false, rfl, Iff.intro (fun x => by cases x) False.elim⟩)) fun b h4 e4 hb => ?_
      have hbb : b = false := by cases b; rfl; exact (hb.1 rfl).elim
      subst hbb
      exact s_ifF (s_ret ⟨fun h => absurd h (by decide), fun _ => ⟨rfl, rfl, e3.trans e4, oa.ext e4⟩⟩)
    | node l y r =>
      have hl := node_len l r y
      obtain ⟨a, ql, qr, rfl, c, n1, n2⟩ := nq
      have c : NdC h3 a ql qr l y r := c
      refine bind_bool (0 ≤ j) (s_ifT (s_ret ⟨rfl, Ext.refl _, geI j 0, rfl, geI_iff⟩)) fun b h4 e4 hb => ?_
      have c4 := c.ext e4
      have e04 := e3.trans e4
      dsimp only
      refine wp_ifB (fun hc => ?_) fun hc => s_ret ⟨fun h => absurd h (by decide), fun _ => ⟨rfl, rfl, e04, oa.ext e4⟩⟩
      have h0 := hb.1 hc
      refine q_left c4 (wp_call (c_count (n1.ext e4)) fun k h5 e5 hk => ?_)
      obtain ⟨(k : Int), w⟩ := k
      dsimp only at hk ⊢
      subst hk
      have c5 := c4.ext e5
      have oa5 := (oa.ext e4).ext e5
      have e05 := e04.trans e5
      rw [show eqI j (l.list.length : Int) = false from eqI_not.2 (by omega), show ltI j (l.list.length : Int) = false from ltI_not.2 (by omega)]
      rw [sub_ok (a := j) (by omega) (by omega), sub_ok (by omega) (by omega)]
      exact s_ifF (s_ifF (q_right c5 (s_ret ⟨fun _ => ⟨r, (j - l.list.length - 1, qr, ()), rfl, ⟨e05, (n2.ext e4).ext e5, by dsimp only; omega, by dsimp only; omega, by omega, oa5⟩, by omega⟩, fun h => absurd rfl h⟩)))
  · rintro tg vs h3 ⟨rfl, rfl, e3, oa⟩
    refine s_tag (s_cast0 (s_zero2 fun h4 e4 oz => s_get2 rfl oz (s_store2 0 0 (oa.ext e4) ⟨fits_zero _, fits_zero _⟩ fun h5 o5 u5 => s_get2 rfl o5 (s_ret ⟨rfl, Upd.extN (e3.trans e4) u5 (by intro a ha; cases ha; exact e1.size), ((0, 0, ()), false, ()), rfl, rfl, rfl, rfl⟩))))

theorem eqB_same (a : Bool) : eqB a a = true := by cases a <;> rfl

theorem c_tells6 {w : Addr} {ts ss : Sl} {ps : List (Option Addr)} {sl : List Sl} {bs : List BT} {o : Op7} (hW : WoodR h w ts ss ps sl bs) (hk : o.1 = 6) (hf : o.2.2.2.2.2.1 ≤ 9223372036854775807) :
    Gives P (F_wood_tells S (some w) o) [.one .bool] h fun (y : Bool × Unit) _ => y.1 = true := by
  obtain ⟨(o0 : Int), (o1 : Int), (o2 : Int), (o3 : Int), (o4 : Int), (o5 : Int), s, u⟩ := o
  dsimp only at hk hf
  subst o0
  unfold F_wood_tells Gives
  dsimp only
  intro elem
  have e1 : Ext h (h.push (.cells [iv 6, iv o1, iv o2, iv o3, iv o4, iv o5, .slice s.base s.len s.cap].toArray elem)) := Ext.push ..
  have q1 : Own h.size 1 (h.push (.cells [iv 6, iv o1, iv o2, iv o3, iv o4, iv o5, .slice s.base s.len s.cap].toArray elem)) ⟨some ⟨h.size, 0, none⟩, 7, 7⟩ [iv 6, iv o1, iv o2, iv o3, iv o4, iv o5, .slice s.base s.len s.cap] := own_alloc rfl (by decide) (by decide)
  generalize (h.push (.cells [iv 6, iv o1, iv o2, iv o3, iv o4, iv o5, .slice s.base s.len s.cap].toArray elem)) = h1 at e1 q1 ⊢
  have hW1 := hW.ext e1
  have htl := hW.t.1
  rw [List.length_map, hW.tl] at htl
  have hpos := hW.pos
  have hrm := hW.room
  refine ⟨⟨h.size, 0, none⟩, rfl, (6, o1, o2, o3, o4, o5, s, ()), q1.cells, ?_⟩
  refine wp_call (c_who (o := (6, o1, o2, o3, o4, o5, s, ())) hW1.obj (by omega) (by omega)) fun y h2 e2 hy => ?_
  obtain ⟨(k : Int), w1⟩ := y
  obtain ⟨k0, k1⟩ := hy
  dsimp only at k0 k1 ⊢
  have hW2 := hW1.ext e2
  have hb : bs[k.toNat]? = some bs[k.toNat] := List.getElem?_eq_getElem (by omega)
  obtain ⟨p, x, hp, hx, nd, rn, av, rm⟩ := hW2.nd _ _ hb
  generalize bs[k.toNat] = t at nd rn av rm
  refine grd_some rfl (grd_some rfl (s_cell (b := .sl) (x := ts) rfl hW2.obj rfl (s_atP hW2.t k0 hp (s_putTree p nd fun h3 e3 oT => ?_))))
  have hW3 := hW2.ext e3
  have n3 := nd.ext e3
  have r3 := rn.ext e3
  have q3 := (q1.ext (e2.trans e3)).cells
  have hw := rn.wf
  have e03 := (e1.trans e2).trans e3
  refine grd_some rfl (grd_some rfl (s_cell (b := .sl) (x := ss) rfl hW3.obj rfl (s_atS hW3.s k0 hx (s_cell (b := .int .i64) (x := 6) rfl q3 rfl ?_))))
  refine s_ifF (s_ifF (s_ifF (s_ifT ?_)))
  refine s_getT oT (s_cell (b := .int .i64) (x := o5) rfl q3 rfl ?_)
  have fin : ∀ {x1 x2 : Int} {b : Bool} {m1 m2 : Nat} {a1 a2 : Addr} {k : Heap}, fitsI .i64 x1 ∧ fitsI .i64 x2 → Ext h k → OwnL m1 .i64 k ⟨some a1, 2, 2⟩ [x1, x2] → OwnL m2 .i64 k ⟨some a2, 2, 2⟩ [x1, x2] →
      wp P (.bind (ifB (eqB b b) (.load A2 (some a1) fun (r35 : R2) => .load A2 (some a2) fun (r36 : R2) => .call (F_law4_sameRun S (r35.1, (r35.2.1, ())) (r36.1, (r36.2.1, ()))) [.one .bool] fun (r37 : Bool × Unit) => .ret 0 [.bool r37.1]) <| .ret 0 [.bool false])
        fun k38 vs39 => ifB (eqN k38 0) (.cast [.one .bool] vs39 fun (r40 : Bool × Unit) => .ret 0 [.bool r40.1]) .fail) k
        fun tag vs h' => tag = 0 ∧ Ext h h' ∧ ∃ x, vs = Ts.inj [.one .bool] x ∧ x.1 = true := by
    intro x1 x2 b m1 m2 a1 a2 k hf e l1 l2
    refine bind_val (tys := [.one .bool]) (fun (x : Bool × Unit) _ => x.1 = true) ?_ fun x k2 d2 hx => s_ret ⟨rfl, e.trans d2, (x.1, ()), rfl, hx⟩
    rw [eqB_same]
    refine s_ifT (s_get2 rfl l1 (s_get2 rfl l2 (wp_call (c_sameRun (a := (x1, x2, ())) (b := (x1, x2, ())) hf hf) fun y k2 d2 hy => ?_)))
    exact s_ret ⟨rfl, d2, (y.1, ()), rfl, hy.2 ⟨rfl, rfl⟩⟩
  by_cases hin : 0 ≤ o5 ∧ o5 < t.list.length
  · have hat : t.list[o5.toNat]? = some t.list[o5.toNat] := List.getElem?_eq_getElem (by omega)
    refine wp_call (c_At n3 hw (by omega) hin.1 hat) fun y h4 e4 hy => ?_
    have hfx := hw.get hat
    generalize t.list[o5.toNat] = xx at hat hy hfx
    obtain ⟨x1, x2⟩ := xx
    obtain ⟨⟨(y1 : Int), (y2 : Int), w13⟩, (y3 : Bool), w14⟩ := y
    obtain ⟨hy1, hy2, hy3⟩ := hy
    dsimp only at hy1 hy2 hy3 ⊢
    subst y1; subst y2; subst y3
    refine s_put2 x1 x2 hfx fun h5 e5 oX => ?_
    have q5 := (e4.trans e5).cells q3
    refine s_cell (b := .int .i64) (x := o5) rfl q5 rfl (wp_call (c_refAt (r3.ext (e4.trans e5))) fun z h6 e6 hz => ?_)
    obtain ⟨⟨(z1 : Int), (z2 : Int), w15⟩, (z3 : Bool), w16⟩ := z
    rcases hz with ⟨a1, a2, a3⟩ | ⟨a1, a2, a3, a4⟩
    · dsimp only at a1 a3 ⊢
      rw [hat] at a3
      cases a3
      subst z3
      exact s_put2 x1 x2 hfx fun h7 e7 oY => fin hfx ((((e03.trans e4).trans e5).trans e6).trans e7) (oX.ext (e6.trans e7)) oY
    · omega
  · refine wp_call (c_AtNo n3 (by omega) hf (by omega)) fun y h4 e4 hy => ?_
    obtain ⟨⟨(y1 : Int), (y2 : Int), w13⟩, (y3 : Bool), w14⟩ := y
    obtain ⟨hy1, hy2, hy3⟩ := hy
    dsimp only at hy1 hy2 hy3 ⊢
    subst y1; subst y2; subst y3
    have hfx : fitsI .i64 0 ∧ fitsI .i64 0 := ⟨fits_zero _, fits_zero _⟩
    refine s_put2 0 0 hfx fun h5 e5 oX => ?_
    have q5 := (e4.trans e5).cells q3
    refine s_cell (b := .int .i64) (x := o5) rfl q5 rfl (wp_call (c_refAt (r3.ext (e4.trans e5))) fun z h6 e6 hz => ?_)
    obtain ⟨⟨(z1 : Int), (z2 : Int), w15⟩, (z3 : Bool), w16⟩ := z
    rcases hz with ⟨a1, a2, a3⟩ | ⟨a1, a2, a3, a4⟩
    · have := (List.getElem?_eq_some_iff.1 a3).1
      omega
    · dsimp only at a1 a3 a4 ⊢
      subst z1; subst z2; subst z3
      exact s_put2 0 0 hfx fun h7 e7 oY => fin hfx ((((e03.trans e4).trans e5).trans e6).trans e7) (oX.ext (e6.trans e7)) oY

theorem c_TreeLooks {s : Sl} {l : List OpV} (hr : Ops h s l) (hl : l.length ≤ 2097152) (htot : tot l ≤ 2097152) : Gives P (F_law4_TreeLooks S s) [.one .bool] h fun (y : Bool × Unit) _ => y.1 = true := by
  unfold F_law4_TreeLooks Gives
  refine wp_call (c_fits hr) fun y h1 e1 _ => bind_val (tys := [.one .bool]) (fun (x : Bool × Unit) _ => x.1 = true) ?_ fun x h2 e2 hx => s_ret ⟨rfl, e1.trans e2, (x.1, ()), rfl, hx⟩
  refine wp_ifB (fun _ => s_ret ⟨rfl, Ext.refl _, (true, ()), rfl, rfl⟩) fun _ => wp_call (c_plays (hr.ext e1) (told_plain fun k h1 h2 => ⟨fun e => by subst e; exact absurd h2 (by decide), fun e => by subst e; exact absurd h2 (by decide), fun e => by subst e; exact absurd h2 (by decide)⟩) hl htot) fun y h2 e2 hy => ?_
  obtain ⟨(y : Bool), w⟩ := y
  dsimp only at hy ⊢
  subst y
  refine s_ifT (wp_call (c_plays (hr.ext (e1.trans e2)) (fun {_ _ _ _ _ _ _ o} hW h1 h2 hf _ => c_tells6 hW (Int.le_antisymm h2 h1) (fits_i64.1 hf.2.2.2.2.2).2) hl htot) fun y h3 e3 hy => ?_)
  exact s_ret ⟨rfl, e2.trans e3, (y.1, ()), rfl, hy⟩

end Go.Sw.Tree

set_option linter.unusedVariables false
set_option linter.unusedSimpArgs false
set_option maxRecDepth 100000
namespace Go.Sw.Tree
variable {P : Program} {S : Ids} {h : Heap} {Q : Nat → List Value → Heap → Prop}

abbrev ag (r : Int × Int) : Value := .agg #[iv r.1, iv r.2]
abbrev fItems (S : Ids) (a b : Option Addr) : Value := .func (.func S.f_Tree_Run_Items_1) #[] #[.pointer a, .pointer b]
abbrev fWalk (S : Ids) (a b : Option Addr) : Value := .func (.func S.f_Tree_Run_Items_1_1) #[] #[.pointer a, .pointer b]
abbrev fTake (S : Ids) (a b c : Option Addr) : Value := .func (.func S.f_law4_take_1) #[] #[.pointer a, .pointer b, .pointer c]
abbrev fNest (S : Ids) (a b c d e : Option Addr) : Value := .func (.func S.f_law4_nested_1) #[] #[.pointer a, .pointer b, .pointer c, .pointer d, .pointer e]

/-- The function values of the program's. -/
structure Clos (P : Program) (S : Ids) : Prop where
  it : ∀ (y : Value) (a b : Option Addr), Dyn P (fItems S a b) [y] (F_Tree_Run_Items_1 S y a b)
  wk : ∀ (p : Option Addr) (i : Int) (a b : Option Addr), Dyn P (fWalk S a b) [.pointer p, iv i] (F_Tree_Run_Items_1_1 S p i a b)
  tk : ∀ (r : Int × Int) (a b c : Option Addr), Dyn P (fTake S a b c) [ag r] (F_law4_take_1 S (r.1, r.2, ()) a b c)
  nt : ∀ (r : Int × Int) (a b c d e : Option Addr), Dyn P (fNest S a b c d e) [ag r] (F_law4_nested_1 S (r.1, r.2, ()) a b c d e)

/-- Blocks ahead of m and from m' to n stay. -/
def Fr (m m' n : Nat) (h h' : Heap) : Prop := h.size ≤ h'.size ∧ (∀ i, (i < m ∨ (m' ≤ i ∧ i < n)) → h'[i]? = h[i]?) ∧ ∀ a, frz h a = false → frz h' a = false
theorem Fr.trans {m m' n : Nat} {a b c : Heap} (x : Fr m m' n a b) (y : Fr m m' n b c) : Fr m m' n a c := ⟨Nat.le_trans x.1 y.1, fun i hi => (y.2.1 i hi).trans (x.2.1 i hi), fun a e => y.2.2 a (x.2.2 a e)⟩
theorem Fr.ext {m m' n : Nat} {a b : Heap} (e : Ext a b) (hm : m ≤ a.size) (hn : n ≤ a.size) : Fr m m' n a b := ⟨e.1, fun i hi => e.2.1 i (by omega), e.2.2⟩
theorem Fr.upd {m m' n : Nat} {s : Sl} {a b : Heap} (u : Upd s a b) (hm : m ≤ a.size) (hn : n ≤ a.size) (hs : ∀ x, s.base = some x → m ≤ x.block ∧ (x.block < m' ∨ n ≤ x.block)) : Fr m m' n a b :=
  ⟨u.1, fun i hi => u.2.1 i (by omega) fun x hx e => by have := hs x hx; omega, u.2.2⟩

/-- What is called with each thing in turn: J k: k of them were taken; F: it said that it is enough. -/
def Yields (P : Program) (y : Value) (m m' : Nat) (L : List (Int × Int)) (J : Nat → Heap → Prop) (F : Heap → Prop) : Prop :=
  ∀ (k : Nat) (r : Int × Int) (h : Heap), L[k]? = some r → m' + 2 ≤ h.size → J k h → DynV P y [ag r] h fun vs h' => ∃ b : Bool, vs = [.bool b] ∧ Fr m m' (m' + 2) h h' ∧ (b = true → J (k + 1) h') ∧ (b = false → F h')

/-- The walker's own. -/
structure St (hm : Heap) (m' : Nat) (y : Value) (S : Ids) (h : Heap) : Prop where
  ext : Ext hm h
  le : hm.size ≤ m'
  sz : m' + 2 ≤ h.size
  cy : Sw.cell h ⟨m', 0, none⟩ = some y
  cw : Sw.cell h ⟨m' + 1, 0, none⟩ = some (fWalk S (some ⟨m' + 1, 0, none⟩) (some ⟨m', 0, none⟩))
theorem St.fr {hm h h' : Heap} {m' : Nat} {y : Value} (s : St hm m' y S h) (f : Fr hm.size m' (m' + 2) h h') : St hm m' y S h' where
  ext := ⟨Nat.le_trans s.ext.1 f.1, fun i hi => (f.2.1 i (.inl hi)).trans (s.ext.2.1 i hi), fun a e => f.2.2 a (s.ext.2.2 a e)⟩
  le := s.le
  sz := Nat.le_trans s.sz f.1
  cy := by have := s.cy; unfold Sw.cell at this ⊢; dsimp only at this ⊢; rw [f.2.1 m' (by omega)]; exact this
  cw := by have := s.cw; unfold Sw.cell at this ⊢; dsimp only at this ⊢; rw [f.2.1 (m' + 1) (by omega)]; exact this
theorem St.more {hm h h' : Heap} {m' : Nat} {y : Value} (s : St hm m' y S h) (e : Ext h h') : St hm m' y S h' := s.fr (Fr.ext e (Nat.le_trans s.le (by have := s.sz; omega)) s.sz)

theorem s_any {a : Addr} {v : Value} {K : Value → Prog} (hc : Sw.cell h a = some v) (hk : wp P (K v) h Q) : wp P (.load (.one .any) (some a) K) h Q := wp_load1 (b := .any) a v rfl hc hk

theorem c_walk (D : Clos P S) {hm : Heap} {m' : Nat} {y : Value} {L : List (Int × Int)} {J : Nat → Heap → Prop} {F : Heap → Prop} (hJ : ∀ k a b, J k a → Ext a b → J k b) (hY : Yields P y hm.size m' L J F) :
    ∀ (t : BT) {p : Option Addr} {i : Int} {k : Nat} {h : Heap}, Nd hm p t → t.list.length ≤ 4398046511104 → 0 ≤ i → i ≤ 9223372036854775807 → (∀ (j : Nat) (r : Int × Int), t.list[j]? = some r → i.toNat ≤ j → L[k + (j - i.toNat)]? = some r) → St hm m' y S h → J k h →
    wp P (F_Tree_Run_Items_1_1 S p i (some ⟨m' + 1, 0, none⟩) (some ⟨m', 0, none⟩)) h fun tag vs h' => tag = 0 ∧ ∃ b : Bool, vs = [.bool b] ∧ St hm m' y S h' ∧ (b = true → J (k + (t.list.length - i.toNat)) h') ∧ (b = false → F h') := by
  intro t
  induction t with
  | nil =>
    intro p i k h nt hroom h0 h1 hL st hj
    obtain rfl := nt
    unfold F_Tree_Run_Items_1_1
    refine bind_bool True (s_ifT (s_ret ⟨rfl, Ext.refl _, true, rfl, Iff.intro (fun _ => trivial) fun _ => rfl⟩)) fun b h2 e2 hb => ?_
    have hbt : b = true := hb.2 trivial
    subst hbt
    exact s_ifT (s_ret ⟨rfl, true, rfl, st.more e2, fun _ => by simpa [BT.list] using hJ _ _ _ hj e2, fun h => by cases h⟩)
  | node l x r ihl ihr =>
    intro p i k h nt hroom h0 h1 hL st hj
    have hl := node_len l r x
    obtain ⟨a, ql, qr, rfl, c, n1, n2⟩ := nt
    have cAt : ∀ {h'}, St hm m' y S h' → NdC h' a ql qr l x r := fun s => NdC.ext c s.ext
    have hxL : ∀ (j : Nat) (v : Int × Int), l.list[j]? = some v → (BT.node l x r).list[j]? = some v := fun j v hv => by
      show (l.list ++ x :: r.list)[j]? = _
      rw [List.getElem?_append_left (List.getElem?_eq_some_iff.1 hv).1]; exact hv
    have hxM : (BT.node l x r).list[l.list.length]? = some x := by
      show (l.list ++ x :: r.list)[_]? = _
      rw [List.getElem?_append_right (Nat.le_refl _)]; simp
    have hxR : ∀ (j : Nat) (v : Int × Int), r.list[j]? = some v → (BT.node l x r).list[l.list.length + 1 + j]? = some v := fun j v hv => by
      show (l.list ++ x :: r.list)[_]? = _
      rw [List.getElem?_append_right (by omega), show l.list.length + 1 + j - l.list.length = j + 1 by omega, List.getElem?_cons_succ]; exact hv
    unfold F_Tree_Run_Items_1_1
    refine bind_bool (((BT.node l x r).list.length : Int) ≤ i) ?_ fun b h2 e2 hb => ?_
    · exact s_ifF (grd_some rfl (grd_some rfl (s_cell (b := .int .i64) (x := (((BT.node l x r).list.length : Nat) : Int)) rfl (cAt st) rfl (s_ret ⟨rfl, Ext.refl _, _, rfl, geI_iff⟩))))
    have st2 := st.more e2
    have hj2 := hJ _ _ _ hj e2
    dsimp only
    refine wp_ifB (fun hc => s_ret ⟨rfl, true, rfl, st2, fun _ => ?_, fun h => by cases h⟩) fun hc => ?_
    · have := hb.1 hc
      rw [show (BT.node l x r).list.length - i.toNat = 0 by omega]; exact hj2
    have hlt : i < ((BT.node l x r).list.length : Int) := by
      by_cases hx : ((BT.node l x r).list.length : Int) ≤ i
      · rw [hb.2 hx] at hc; cases hc
      · omega
    refine q_left (cAt st2) (wp_call (c_count (n1.ext st2.ext)) fun n h3 e3 hn => ?_)
    obtain ⟨(n : Int), w⟩ := n
    dsimp only at hn ⊢
    subst hn
    have st3 := st2.more e3
    have hj3 := hJ _ _ _ hj2 e3
    refine wp_bind (fun tg vs h' => tg = 0 ∧ ∃ b : Bool, vs = [.bool b] ∧ St hm m' y S h' ∧ (b = true → F h') ∧ (b = false → J (k + (l.list.length - i.toNat)) h')) ?_ ?_
    · refine wp_ifB (fun hd => ?_) fun hd => ?_
      · rw [ltI_iff] at hd
        refine s_any st3.cw (q_left (cAt st3) (wp_dyn (D.wk _ _ _ _) (wp_mono _ ?_ (ihl (k := k) n1 (by omega) h0 h1 (fun j v hv hj => hL j v (hxL j v hv) hj) st3 hj3))))
        rintro tg vs h4 ⟨rfl, b, rfl, st4, t4, f4⟩
        refine ⟨rfl, (b, ()), rfl, s_ret ⟨rfl, notB b, rfl, st4, fun hb => f4 (notB_iff.1 hb), fun hb => t4 (notB_not.1 hb)⟩⟩
      · rw [ltI_not] at hd
        refine s_ret ⟨rfl, false, rfl, st3, fun h => (by cases h), fun _ => ?_⟩
        rw [show l.list.length - i.toNat = 0 by omega]; exact hj3
    rintro tg vs h4 ⟨rfl, b, rfl, st4, f4, t4⟩
    refine s_tag (s_castB (wp_ifB (fun hc => s_ret ⟨rfl, false, rfl, st4, fun h => (by cases h), fun _ => f4 hc⟩) fun hc => ?_))
    have hj4 := t4 hc
    refine wp_bind (fun tg vs h' => tg = 0 ∧ ∃ b : Bool, vs = [.bool b] ∧ St hm m' y S h' ∧ (b = true → F h') ∧ (b = false → J (k + (l.list.length + 1 - i.toNat)) h')) ?_ ?_
    · refine wp_ifB (fun hd => ?_) fun hd => ?_
      · rw [leI_iff] at hd
        refine s_any st4.cy (q_item (cAt st4) (wp_callv ((hY _ x h4 (hL _ x hxM (by omega)) st4.sz hj4).mono ?_)))
        rintro vs h5 ⟨b, rfl, fr, t5, f5⟩
        refine ⟨(b, ()), rfl, s_ret ⟨rfl, notB b, rfl, st4.fr fr, fun hb => f5 (notB_iff.1 hb), fun hb => ?_⟩⟩
        have := t5 (notB_not.1 hb)
        rw [show k + (l.list.length + 1 - i.toNat) = k + (l.list.length - i.toNat) + 1 by omega]; exact this
      · rw [leI_not] at hd
        refine s_ret ⟨rfl, false, rfl, st4, fun h => (by cases h), fun _ => ?_⟩
        rw [show l.list.length + 1 - i.toNat = l.list.length - i.toNat by omega]; exact hj4
    rintro tg vs h5 ⟨rfl, b, rfl, st5, f5, t5⟩
    refine s_tag (s_castB (wp_ifB (fun hc => s_ret ⟨rfl, false, rfl, st5, fun h => (by cases h), fun _ => f5 hc⟩) fun hc => ?_))
    have hj5 := t5 hc
    rw [sub_ok (a := i) (by omega) (by omega), sub_ok (by omega) (by omega)]
    have hmx : maxI 0 (i - l.list.length - 1) = ((i.toNat - (l.list.length + 1) : Nat) : Int) := by unfold maxI; split <;> omega
    rw [hmx]
    refine s_any st5.cw (q_right (cAt st5) (wp_dyn (D.wk _ _ _ _) (wp_mono _ ?_ (ihr (k := k + (l.list.length + 1 - i.toNat)) n2 (by omega) (by omega) (by omega) (fun j v hv hj => ?_) st5 hj5))))
    · rintro tg vs h6 ⟨rfl, b, rfl, st6, t6, f6⟩
      refine ⟨rfl, (b, ()), rfl, s_ret ⟨rfl, b, rfl, st6, fun hb => ?_, f6⟩⟩
      have := t6 hb
      rw [Int.toNat_natCast] at this
      rw [show k + ((BT.node l x r).list.length - i.toNat) = k + (l.list.length + 1 - i.toNat) + (r.list.length - (i.toNat - (l.list.length + 1))) by omega]; exact this
    · rw [Int.toNat_natCast] at hj ⊢
      have := hL _ v (hxR j v hv) (by omega)
      rw [show k + (l.list.length + 1 - i.toNat) + (j - (i.toNat - (l.list.length + 1))) = k + (l.list.length + 1 + j - i.toNat) by omega]; exact this

/-- An iterator over a list. -/
def Iter (P : Program) (it : Value) (h0 : Heap) (L : List (Int × Int)) : Prop :=
  ∀ (hm h : Heap) (y : Value) (J : Nat → Heap → Prop) (F : Heap → Prop) (K : Unit → Prog) (Q : Nat → List Value → Heap → Prop), Ext h0 hm → Ext hm h → flat y = true → (∀ k a b, J k a → Ext a b → J k b) → Yields P y hm.size h.size L J F → J 0 h →
    (∀ h', Ext hm h' → h.size ≤ h'.size → (J L.length h' ∨ F h') → wp P (K ()) h' Q) → wp P (.callv it [y] [] K) h Q

theorem Iter.ext {it : Value} {h0 h1 : Heap} {L : List (Int × Int)} (x : Iter P it h0 L) (e : Ext h0 h1) : Iter P it h1 L := fun hm h y J F K Q e0 => x hm h y J F K Q (e.trans e0)

theorem iter_items (D : Clos P S) {h0 : Heap} {p : Option Addr} {t : BT} {a b : Addr} {i : Int} (nt : Nd h0 p t) (hroom : t.list.length ≤ 4398046511104) (hi : fitsI .i64 i) (ca : Sw.cell h0 a = some (.pointer p)) (cb : Sw.cell h0 b = some (iv i)) :
    Iter P (fItems S (some a) (some b)) h0 (t.list.drop i.toNat) := by
  intro hm h y J F K Q e0 em fy hJ hY hj hk
  rw [fits_i64] at hi
  refine wp_dyn (D.it _ _ _) ?_
  unfold F_Tree_Run_Items_1
  refine wp_grd (by cases y <;> first | rfl | cases fy) fun el1 => ?_
  have e1 : Ext h (h.push (.cells [y].toArray el1)) := Ext.push ..
  have q1 : Own h.size 1 (h.push (.cells [y].toArray el1)) ⟨some ⟨h.size, 0, none⟩, 1, 1⟩ [y] := own_alloc rfl (by decide) (by decide)
  have z1 : (h.push (.cells [y].toArray el1)).size = h.size + 1 := by simp
  generalize (h.push (.cells [y].toArray el1)) = h1 at e1 q1 z1 ⊢
  intro el2
  have e2 : Ext h1 (h1.push (.cells [.nilFunc].toArray el2)) := Ext.push ..
  have q2 : Own h1.size 1 (h1.push (.cells [.nilFunc].toArray el2)) ⟨some ⟨h1.size, 0, none⟩, 1, 1⟩ [.nilFunc] := own_alloc rfl (by decide) (by decide)
  generalize (h1.push (.cells [.nilFunc].toArray el2)) = h2 at e2 q2 ⊢
  rw [z1] at q2 ⊢
  refine s_putAll [fWalk S (some ⟨h.size + 1, 0, none⟩) (some ⟨h.size, 0, none⟩)] q2 rfl (by intro v hv; rw [List.mem_singleton.1 hv]; rfl) fun h3 q3 u3 => ?_
  have e13 : Ext h1 h3 := Upd.extN e2 u3 (fun x hx => by cases hx; exact Nat.le_of_eq z1)
  have e03 := (e0.trans em).trans (e1.trans e13)
  have b3 := (q3.lt rfl).2
  dsimp only at b3
  have c3 : Sw.cell h3 ⟨h.size + 1, 0, none⟩ = some (fWalk S (some ⟨h.size + 1, 0, none⟩) (some ⟨h.size, 0, none⟩)) := by have := cells_iff.1 q3.cells 0 _ rfl; rwa [add_zero'] at this
  have cy3 : Sw.cell h3 ⟨h.size, 0, none⟩ = some y := by have := cells_iff.1 (q1.ext e13).cells 0 _ rfl; rwa [add_zero'] at this
  have st : St hm h.size y S h3 := ⟨em.trans (e1.trans e13), em.size, b3, cy3, c3⟩
  refine s_any c3 (wp_grd rfl (wp_load1 (b := .ptr) (a.add 0) p rfl (by rw [add_zero']; exact e03.cell ca) (wp_load1 (b := .int .i64) b i rfl (e03.cell cb) (wp_dyn (D.wk _ _ _ _) ?_))))
  have hmx : maxI 0 i = (i.toNat : Int) := by unfold maxI; split <;> omega
  rw [hmx]
  refine wp_mono _ ?_ (c_walk D hJ hY t (k := 0) (nt.ext e0) hroom (by omega) (by omega) (fun j r hr hj => ?_) st (hJ _ _ _ hj (e1.trans e13)))
  · rintro tg vs h4 ⟨rfl, b, rfl, st4, t4, f4⟩
    have s4 := st4.sz
    refine ⟨rfl, (b, ()), rfl, s_ret ⟨rfl, (), rfl, hk h4 st4.ext (by omega) ?_⟩⟩
    cases b with
    | true => left; have := t4 rfl; rw [Int.toNat_natCast, Nat.zero_add] at this; rw [List.length_drop]; exact this
    | false => exact .inr (f4 rfl)
  · rw [Int.toNat_natCast] at hj ⊢
    rw [List.getElem?_drop, Nat.zero_add, show i.toNat + (j - i.toNat) = j by omega]; exact hr

end Go.Sw.Tree

set_option linter.unusedVariables false
set_option linter.unusedSimpArgs false
set_option maxRecDepth 100000
namespace Go.Sw.Tree
variable {P : Program} {S : Ids} {h : Heap} {Q : Nat → List Value → Heap → Prop}

theorem Fr.keep {m m' n q : Nat} {a b : Heap} (k : Keep q a b) (hm : m ≤ q) (hn : n ≤ q) : Fr m m' n a b := ⟨k.1, fun i hi => k.2.1 i (by omega), k.2.2⟩
theorem cell_own {n : Nat} {a : Addr} {v : Value} (o : Own n 1 h ⟨some a, 1, 1⟩ [v]) : Sw.cell h a = some v := by
  have := cells_iff.1 o.cells 0 v rfl
  rwa [add_zero'] at this
theorem cell_upd1 {a b : Addr} {m c : Nat} {v : Value} {h h' : Heap} (u : Upd ⟨some b, m, c⟩ h h') (hc : Sw.cell h a = some v) (hne : b.block ≠ a.block) : Sw.cell h' a = some v :=
  cell_upd u hc fun x hx => by cases hx; exact hne
theorem ownR_upd1 {n m c : Nat} {b : Addr} {s : Sl} {l : List (Int × Int)} {h h' : Heap} (o : OwnR n h s l) (u : Upd ⟨some b, m, c⟩ h h') (hb : b.block < n) : OwnR n h' s l :=
  ⟨o.own.keep fun a ha => u.2.1 _ (o.own.lt ha).2 fun x hx => by cases hx; have := (o.own.lt ha).1; omega, o.wf⟩

/-- The state of take: how many, what was got, not yet over. -/
structure Tk (n m' : Nat) (k : Int) (l : List (Int × Int)) (h : Heap) : Prop where
  sz : m' ≤ h.size
  ck : Sw.cell h ⟨n, 0, none⟩ = some (iv k)
  cs : ∃ s, Own n 1 h ⟨some ⟨n + 1, 0, none⟩, 1, 1⟩ [slV s] ∧ OwnR (m' + 2) h s l
  cb : Sw.cell h ⟨n + 2, 0, none⟩ = some (.bool false)
theorem Tk.ext {n m' : Nat} {k : Int} {l : List (Int × Int)} {h h' : Heap} (t : Tk n m' k l h) (e : Ext h h') : Tk n m' k l h' :=
  ⟨Nat.le_trans t.sz e.size, e.cell t.ck, let ⟨s, a, b⟩ := t.cs; ⟨s, a.ext e, b.ext e⟩, e.cell t.cb⟩

theorem yields_take (D : Clos P S) {n m' : Nat} {k : Int} {L : List (Int × Int)} (hm : n + 3 ≤ m') (hk : 1 ≤ k) (hw : wfR L) (hroom : L.length ≤ 4398046511104) :
    Yields P (fTake S (some ⟨n + 1, 0, none⟩) (some ⟨n, 0, none⟩) (some ⟨n + 2, 0, none⟩)) n m' L (fun j h => (j = 0 ∨ (j : Int) < k) ∧ Tk n m' k (L.take j) h) (fun h => k ≤ L.length ∧ Tk n m' k (L.take k.toNat) h) := by
  rintro j r h hr hsz ⟨hj, t⟩
  have hjl := (List.getElem?_eq_some_iff.1 hr).1
  obtain ⟨f1, f2⟩ := hw.get hr
  refine D.tk r _ _ _ h _ ?_
  unfold F_law4_take_1
  intro el
  have e1 : Ext h (h.push (.cells [iv r.1, iv r.2].toArray el)) := Ext.push ..
  have q1 : OwnL h.size .i64 (h.push (.cells [iv r.1, iv r.2].toArray el)) ⟨some ⟨h.size, 0, none⟩, 2, 2⟩ [r.1, r.2] := own_fresh (l := [r.1, r.2]) (by intro x hx; simp only [List.mem_cons, List.not_mem_nil, or_false] at hx; rcases hx with rfl | rfl; exact f1; exact f2) (by simp)
  show wp P _ (h.push (.cells [iv r.1, iv r.2].toArray el)) _
  generalize (h.push (.cells [iv r.1, iv r.2].toArray el)) = h1 at e1 q1 ⊢
  have t1 := t.ext e1
  obtain ⟨s, os, ol⟩ := t1.cs
  have s1 := e1.size
  have hsl := ol.len
  rw [List.length_take] at hsl
  refine wp_load1 (b := .sl) _ s rfl (cell_own os) (wp_load1 (b := .int .i64) _ k rfl t1.ck ?_)
  rw [show geI (natI s.len) k = false from geI_not.2 (by rw [natI_def]; omega)]
  refine s_ifF (wp_load1 (b := .sl) _ s rfl (cell_own os) (s_get2 rfl q1 (s_push2 ol (by omega) f1 f2 (by rw [List.length_take]; omega) fun s2 h2 k2 o2 => ?_)))
  have s2s := k2.size
  have os2 : Own n 1 h2 _ _ := os.keep fun a ha => by cases ha; exact k2.2.1 _ (by dsimp only; omega)
  refine s_putAll [slV s2] os2 rfl (by intro v hv; rw [List.mem_singleton.1 hv]; rfl) fun h3 os3 u3 => ?_
  have hl2 : L.take j ++ [(r.1, r.2)] = L.take (j + 1) := by rw [List.take_add_one, hr]; rfl
  rw [hl2] at o2
  have o3 := ownR_upd1 o2 u3 (by dsimp only; omega)
  have t3 : Tk n m' k (L.take (j + 1)) h3 := ⟨by have := u3.1; have := t1.sz; omega, cell_upd1 u3 ((k2.cell (by dsimp only; omega)).trans t1.ck) (by dsimp only; omega), ⟨s2, os3, o3⟩, cell_upd1 u3 ((k2.cell (by dsimp only; omega)).trans t1.cb) (by dsimp only; omega)⟩
  have s2l := o2.len
  rw [List.length_take] at s2l
  refine wp_load1 (b := .sl) _ s2 rfl (cell_own os3) (wp_load1 (b := .int .i64) _ k rfl t3.ck (s_ret ⟨rfl, _, rfl, ?_, fun hb => ?_, fun hb => ?_⟩))
  · exact ((Fr.ext e1 (by omega) (by omega)).trans (Fr.keep k2 (by omega) (by omega))).trans (Fr.upd u3 (by omega) (by omega) fun x hx => by cases hx; dsimp only; omega)
  · rw [ltI_iff, natI_def] at hb
    exact ⟨.inr (by omega), t3⟩
  · rw [ltI_not, natI_def] at hb
    have : k.toNat = j + 1 := by omega
    exact ⟨by omega, by rw [this]; exact t3⟩

theorem c_take (D : Clos P S) {it : Value} {L : List (Int × Int)} {k : Int} (hi : Iter P it h L) (hk : 1 ≤ k) (hw : wfR L) (hroom : L.length ≤ 4398046511104) :
    Gives P (F_law4_take S it k) [.one .sl, .one .bool] h fun (y : Sl × Bool × Unit) h' => OwnR h.size h' y.1 (L.take k.toNat) ∧ y.2.1 = true := by
  unfold F_law4_take Gives
  intro el1
  have e1 : Ext h (h.push (.cells [iv k].toArray el1)) := Ext.push ..
  have q1 : Own h.size 1 (h.push (.cells [iv k].toArray el1)) ⟨some ⟨h.size, 0, none⟩, 1, 1⟩ [iv k] := own_alloc rfl (by decide) (by decide)
  have z1 : (h.push (.cells [iv k].toArray el1)).size = h.size + 1 := by simp
  generalize (h.push (.cells [iv k].toArray el1)) = h1 at e1 q1 z1 ⊢
  intro el2
  have e2 : Ext h1 (h1.push (.cells [slV ⟨none, 0, 0⟩].toArray el2)) := Ext.push ..
  have q2 : Own h1.size 1 (h1.push (.cells [slV ⟨none, 0, 0⟩].toArray el2)) ⟨some ⟨h1.size, 0, none⟩, 1, 1⟩ [slV ⟨none, 0, 0⟩] := own_alloc rfl (by decide) (by decide)
  have z2 : (h1.push (.cells [slV ⟨none, 0, 0⟩].toArray el2)).size = h.size + 2 := by simp [z1]
  show wp P _ (h1.push (.cells [slV ⟨none, 0, 0⟩].toArray el2)) _
  generalize (h1.push (.cells [slV ⟨none, 0, 0⟩].toArray el2)) = h2 at e2 q2 z2 ⊢
  intro el3
  have e3 : Ext h2 (h2.push (.cells [.bool false].toArray el3)) := Ext.push ..
  have q3 : Own h2.size 1 (h2.push (.cells [.bool false].toArray el3)) ⟨some ⟨h2.size, 0, none⟩, 1, 1⟩ [.bool false] := own_alloc rfl (by decide) (by decide)
  have z3 : (h2.push (.cells [.bool false].toArray el3)).size = h.size + 3 := by simp [z2]
  generalize (h2.push (.cells [.bool false].toArray el3)) = h3 at e3 q3 z3 ⊢
  rw [z1] at q2 ⊢
  rw [z2] at q3 ⊢
  refine s_putAll [.bool false] q3 rfl (by intro v hv; rw [List.mem_singleton.1 hv]; rfl) fun h4 q4 u4 => ?_
  have e34 : Ext h2 h4 := Upd.extN e3 u4 (fun x hx => by cases hx; exact Nat.le_of_eq z2)
  have e04 := (e1.trans e2).trans e34
  have b4 := (q4.lt rfl).2
  dsimp only at b4
  have t4 : Tk h.size h4.size k (L.take 0) h4 := ⟨Nat.le_refl _, cell_own (q1.ext (e2.trans e34)), ⟨⟨none, 0, 0⟩, (q2.ext e34).mono (by omega), OwnR.nil _ _⟩, cell_own q4⟩
  refine hi h h4 _ (fun j h' => (j = 0 ∨ (j : Int) < k) ∧ Tk h.size h4.size k (L.take j) h') (fun h' => k ≤ L.length ∧ Tk h.size h4.size k (L.take k.toNat) h') _ _ (Ext.refl _) e04 rfl (fun j a b x e => ⟨x.1, x.2.ext e⟩) (yields_take D b4 hk hw hroom) ⟨.inl rfl, t4⟩ fun h5 e5 s5 hf => ?_
  have t5 : Tk h.size h4.size k (L.take k.toNat) h5 := by
    rcases hf with ⟨a, t⟩ | ⟨_, t⟩
    · rw [List.take_of_length_le (Nat.le_refl _)] at t
      rw [List.take_of_length_le (by omega)]; exact t
    · exact t
  obtain ⟨s, os, ol⟩ := t5.cs
  exact wp_load1 (b := .sl) _ s rfl (cell_own os) (wp_load1 (b := .bool) _ false rfl t5.cb (s_ret ⟨rfl, e5, (s, true, ()), rfl, ol.mono (by omega), rfl⟩))

end Go.Sw.Tree

set_option linter.unusedVariables false
set_option linter.unusedSimpArgs false
set_option maxRecDepth 100000
namespace Go.Sw.Tree
variable {P : Program} {S : Ids} {h : Heap} {Q : Nat → List Value → Heap → Prop}

/-- The state of nested: the iterator, what it gave, which step; what was seen, all good. -/
structure Ne (n m' : Nat) (it : Value) (got : Sl) (g : List (Int × Int)) (step : Int) (l : List (Int × Int)) (h : Heap) : Prop where
  sz : m' ≤ h.size
  ci : Sw.cell h ⟨n, 0, none⟩ = some it
  cg : Sw.cell h ⟨n + 1, 0, none⟩ = some (slV got)
  cp : Sw.cell h ⟨n + 2, 0, none⟩ = some (iv step)
  cs : ∃ s, Own n 1 h ⟨some ⟨n + 3, 0, none⟩, 1, 1⟩ [slV s] ∧ OwnR (m' + 2) h s l
  cb : Own n 1 h ⟨some ⟨n + 4, 0, none⟩, 1, 1⟩ [.bool true]
  rg : Runs h got g
theorem Ne.ext {n m' : Nat} {it : Value} {got : Sl} {g : List (Int × Int)} {step : Int} {l : List (Int × Int)} {h h' : Heap} (t : Ne n m' it got g step l h) (e : Ext h h') : Ne n m' it got g step l h' :=
  ⟨Nat.le_trans t.sz e.size, e.cell t.ci, e.cell t.cg, e.cell t.cp, let ⟨s, a, b⟩ := t.cs; ⟨s, a.ext e, b.ext e⟩, t.cb.ext e, t.rg.ext e⟩

theorem Runs.upd1 {s : Sl} {l : List (Int × Int)} {b : Addr} {m c N : Nat} {h h' : Heap} (r : Runs h s l) (u : Upd ⟨some b, m, c⟩ h h') (hb : l ≠ [] → ∀ a, s.base = some a → a.block < N) (hn : N ≤ b.block) : Runs h' s l :=
  runs_updB u r fun hl a x ha hx => by cases hx; have := hb hl a ha; omega

/-- The flag is written: it stays true. -/
theorem Ne.flag {n m' : Nat} {it : Value} {got : Sl} {g : List (Int × Int)} {step : Int} {l : List (Int × Int)} {h : Heap} {K : Prog} (t : Ne n m' it got g step l h) (hm : n + 5 ≤ m') (hb : g ≠ [] → ∀ a, got.base = some a → a.block < n)
    (hk : ∀ h', Ne n m' it got g step l h' → Upd ⟨some ⟨n + 4, 0, none⟩, 1, 1⟩ h h' → wp P K h' Q) : wp P (.store (some ⟨n + 4, 0, none⟩) [.bool true] K) h Q := by
  refine s_putAll [.bool true] t.cb rfl (by intro v hv; rw [List.mem_singleton.1 hv]; rfl) fun h' o u => hk h' ?_ u
  obtain ⟨s, os, ol⟩ := t.cs
  refine ⟨Nat.le_trans t.sz u.1, cell_upd1 u t.ci (by dsimp only; omega), cell_upd1 u t.cg (by dsimp only; omega), cell_upd1 u t.cp (by dsimp only; omega), ⟨s, ?_, ownR_upd1 ol u (by dsimp only; omega)⟩, o, t.rg.upd1 u hb (by dsimp only; omega)⟩
  exact os.keep fun a ha => u.2.1 _ (os.lt ha).2 fun x hx => by cases hx; cases ha; dsimp only; omega

theorem yields_nest (D : Clos P S) {hm : Heap} {n m' : Nat} {it : Value} {got : Sl} {g L : List (Int × Int)} {step : Int} (hn : hm.size = n) (hm' : n + 5 ≤ m') (hi : Iter P it hm L) (hg : g = L.take g.length) (hg1 : 1 ≤ g.length) (hb : g ≠ [] → ∀ a, got.base = some a → a.block < n) (hw : wfR L) (hroom : L.length ≤ 4398046511104) :
    Yields P (fNest S (some ⟨n + 3, 0, none⟩) (some ⟨n + 2, 0, none⟩) (some ⟨n, 0, none⟩) (some ⟨n + 1, 0, none⟩) (some ⟨n + 4, 0, none⟩)) n m' L
      (fun j h => Ext hm h ∧ (j = 0 ∨ j < g.length) ∧ Ne n m' it got g step (L.take j) h) (fun h => g.length ≤ L.length ∧ Ne n m' it got g step g h) := by
  rintro j r h hr hsz ⟨em, hj, t⟩
  have hjl := (List.getElem?_eq_some_iff.1 hr).1
  have gL : g.length ≤ L.length := by have := congrArg List.length hg; rw [List.length_take] at this; omega
  obtain ⟨f1, f2⟩ := hw.get hr
  refine D.nt r _ _ _ _ _ h _ ?_
  unfold F_law4_nested_1
  intro el
  have e1 : Ext h (h.push (.cells [iv r.1, iv r.2].toArray el)) := Ext.push ..
  have q1 : OwnL h.size .i64 (h.push (.cells [iv r.1, iv r.2].toArray el)) ⟨some ⟨h.size, 0, none⟩, 2, 2⟩ [r.1, r.2] := own_fresh (l := [r.1, r.2]) (by intro x hx; simp only [List.mem_cons, List.not_mem_nil, or_false] at hx; rcases hx with rfl | rfl; exact f1; exact f2) (by simp)
  show wp P _ (h.push (.cells [iv r.1, iv r.2].toArray el)) _
  generalize (h.push (.cells [iv r.1, iv r.2].toArray el)) = h1 at e1 q1 ⊢
  have t1 := t.ext e1
  have s1 := e1.size
  -- what the middle leaves
  refine wp_bind (fun tg vs h' => tg = 0 ∧ vs = [] ∧ h1.size ≤ h'.size ∧ Fr n m' (m' + 2) h1 h' ∧ Ne n m' it got g step (L.take j) h' ∧ OwnL h.size .i64 h' ⟨some ⟨h.size, 0, none⟩, 2, 2⟩ [r.1, r.2]) ?_ ?_
  · obtain ⟨s, os, ol⟩ := t1.cs
    refine wp_load1 (b := .sl) _ s rfl (cell_own os) (wp_load1 (b := .int .i64) _ step rfl t1.cp (wp_ifB (fun hc => ?_) fun hc => s_ret ⟨rfl, rfl, Nat.le_refl _, Fr.ext (Ext.refl _) (by omega) (by omega), t1, q1⟩))
    have gl := t1.rg.len
    refine s_any t1.ci (wp_load1 (b := .sl) _ got rfl t1.cg (wp_call (c_take D (L := L) (hi.ext (em.trans e1)) (by rw [natI_def]; omega) hw hroom) fun y h2 e2 hy => ?_))
    obtain ⟨x, (b : Bool), w⟩ := y
    obtain ⟨hx, hb1⟩ := hy
    dsimp only at hx hb1 ⊢
    subst b
    rw [natI_def, Int.toNat_natCast, gl, ← hg] at hx
    have xl := hx.len
    have t2 := t1.ext e2
    have s2 := e2.size
    have q2 := q1.ext e2
    refine wp_bind (fun tg vs h' => tg = 0 ∧ vs = [] ∧ h2.size ≤ h'.size ∧ Upd ⟨some ⟨n + 4, 0, none⟩, 1, 1⟩ h2 h' ∧ Ne n m' it got g step (L.take j) h') ?_ ?_
    · refine s_ifT (wp_load1 (b := .sl) _ got rfl t2.cg ?_)
      rw [show eqI (natI x.len) (natI got.len) = true from eqI_iff.2 (by rw [natI_def, natI_def, xl, gl])]
      exact t2.flag hm' hb fun h3 t3 u3 => s_ret ⟨rfl, rfl, u3.1, u3, t3⟩
    rintro tg vs h3 ⟨rfl, rfl, s3, u3, t3⟩
    refine s_tag (s_cast0 ?_)
    refine wp_while (fun (q : Int × Unit) h' => 0 ≤ q.1 ∧ q.1 ≤ g.length ∧ h2.size ≤ h'.size ∧ Upd ⟨some ⟨n + 4, 0, none⟩, 1, 1⟩ h2 h' ∧ Ne n m' it got g step (L.take j) h') (fun q _ => (g.length - q.1).toNat)
      (fun tg vs h' => tg = 2 ∧ vs = [] ∧ h2.size ≤ h'.size ∧ Upd ⟨some ⟨n + 4, 0, none⟩, 1, 1⟩ h2 h' ∧ Ne n m' it got g step (L.take j) h') ⟨by simp, by simp, s3, u3, t3⟩ ?_ ?_
    · rintro ⟨(i : Int), u⟩ h4 ⟨i0, i1, s4, u4, t4⟩
      dsimp only at i0 i1 ⊢
      refine bind_bool (i < g.length) ?_ fun b h5 e5 hb5 => ?_
      · refine wp_ifB (fun hd => ?_) fun hd => ?_
        · rw [ltI_iff, natI_def, xl] at hd
          exact wp_load1 (b := .bool) _ true rfl (cell_own t4.cb) (s_ret ⟨rfl, Ext.refl _, true, rfl, Iff.intro (fun _ => hd) fun _ => rfl⟩)
        · rw [ltI_not, natI_def, xl] at hd
          exact s_ret ⟨rfl, Ext.refl _, false, rfl, Iff.intro (fun x => by cases x) fun x => by omega⟩
      have t5 := t4.ext e5
      have u5 := upd_trans u4 (ext_upd (s := ⟨some ⟨n + 4, 0, none⟩, 1, 1⟩) e5)
      have s5 := e5.size
      dsimp only
      refine wp_ifB (fun hd => ?_) fun hd => s_ret ⟨fun h => absurd h (by decide), fun _ => ⟨rfl, rfl, by omega, u5, t5⟩⟩
      have hd' := hb5.1 hd
      have x5 := (ownR_upd1 hx u5 (by dsimp only; omega)).runs
      refine s_at2 x5 i0 hd' fun a ha => wp_load1 (b := .sl) _ got rfl t5.cg (s_at2 t5.rg i0 hd' fun b hb' => ?_)
      rw [ha] at hb'
      cases hb'
      dsimp only
      rw [eqI_self, eqI_self]
      refine t5.flag hm' hb fun h6 t6 u6 => ?_
      rw [add_ok (by omega) (by omega)]
      exact s_ret ⟨fun _ => ⟨(i + 1, ()), rfl, ⟨by dsimp only; omega, by dsimp only; omega, Nat.le_trans (Nat.le_trans s4 s5) u6.1, upd_trans u5 u6, t6⟩, by dsimp only; omega⟩, fun h => absurd rfl h⟩
    · rintro tg vs h4 ⟨rfl, rfl, s4, u4, t4⟩
      refine s_tag (s_cast0 (s_ret ⟨rfl, rfl, by omega, (Fr.ext e2 (by omega) (by omega)).trans (Fr.upd u4 (by omega) (by omega) fun y hy => by cases hy; dsimp only; omega), t4, ?_⟩))
      exact q2.upd u4 fun a b ha hb => by cases ha; cases hb; dsimp only; omega
  rintro tg vs h2 ⟨rfl, rfl, s2, fr2, t2, q2⟩
  refine s_tag (s_cast0 ?_)
  obtain ⟨s, os, ol⟩ := t2.cs
  have hsl := ol.len
  rw [List.length_take] at hsl
  refine wp_load1 (b := .sl) _ s rfl (cell_own os) (s_get2 rfl q2 (s_push2 ol (by omega) f1 f2 (by rw [List.length_take]; omega) fun s3 h3 k3 o3 => ?_))
  have s3s := k3.size
  have os3 : Own n 1 h3 _ _ := os.keep fun a ha => by cases ha; exact k3.2.1 _ (by dsimp only; omega)
  refine s_putAll [slV s3] os3 rfl (by intro v hv; rw [List.mem_singleton.1 hv]; rfl) fun h4 os4 u4 => ?_
  have s4 := u4.1
  have hl2 : L.take j ++ [(r.1, r.2)] = L.take (j + 1) := by rw [List.take_add_one, hr]; rfl
  rw [hl2] at o3
  have o4 := ownR_upd1 o3 u4 (by dsimp only; omega)
  have kp : ∀ {q : Nat} {v : Value}, q < m' → q ≠ n + 3 → Sw.cell h2 ⟨q, 0, none⟩ = some v → Sw.cell h4 ⟨q, 0, none⟩ = some v := fun hq hne hc =>
    cell_upd1 u4 ((k3.cell (by dsimp only; omega)).trans hc) (by dsimp only; omega)
  have t4 : Ne n m' it got g step (L.take (j + 1)) h4 := by
    refine ⟨by have := u4.1; have := t2.sz; omega, kp (by omega) (by omega) t2.ci, kp (by omega) (by omega) t2.cg, kp (by omega) (by omega) t2.cp, ⟨s3, os4, o4⟩, ?_, ?_⟩
    · exact t2.cb.keep fun a ha => by
        cases ha
        rw [u4.2.1 _ (by dsimp only; omega) fun x hx => by cases hx; dsimp only; omega]
        exact k3.2.1 _ (by dsimp only; omega)
    · exact (t2.rg.keepN k3 fun hl a ha => by have := hb hl a ha; omega).upd1 u4 hb (by dsimp only; omega)
  have fr : Fr n m' (m' + 2) h h4 := (((Fr.ext e1 (by omega) (by omega)).trans fr2).trans (Fr.keep k3 (by omega) (by omega))).trans (Fr.upd u4 (by omega) (by omega) fun x hx => by cases hx; dsimp only; omega)
  have em4 : Ext hm h4 := ⟨Nat.le_trans em.1 fr.1, fun i hi => (fr.2.1 i (.inl (by omega))).trans (em.2.1 i hi), fun a e => fr.2.2 a (em.2.2 a e)⟩
  have s3l := o3.len
  rw [List.length_take] at s3l
  have gl := t4.rg.len
  refine bind_bool (j + 1 < g.length) ?_ fun b h5 e5 hb5 => ?_
  · refine wp_load1 (b := .bool) _ true rfl (cell_own t4.cb) (s_ifT (wp_load1 (b := .sl) _ s3 rfl (cell_own os4) (wp_load1 (b := .sl) _ got rfl t4.cg (s_ret ⟨rfl, Ext.refl _, _, rfl, ?_⟩))))
    rw [ltI_iff, natI_def, natI_def, gl]; omega
  have t5 := t4.ext e5
  have fr5 := fr.trans (Fr.ext e5 (by omega) (by omega))
  refine s_ret ⟨rfl, b, rfl, fr5, fun hb' => ⟨em4.trans e5, .inr (hb5.1 hb'), t5⟩, fun hb' => ?_⟩
  have hge : ¬ (j + 1 < g.length) := fun x => by rw [hb5.2 x] at hb'; cases hb'
  have hgl : g.length = j + 1 := by omega
  refine ⟨by omega, ?_⟩
  have hgt : L.take (j + 1) = g := by rw [← hgl]; exact hg.symm
  rw [hgt] at t5
  exact t5

theorem c_nested (D : Clos P S) {it : Value} {got : Sl} {g L : List (Int × Int)} {step : Int} (hi : Iter P it h L) (fi : flat it = true) (hgot : Runs h got g) (hg : g = L.take g.length) (hg1 : 1 ≤ g.length) (hw : wfR L) (hroom : L.length ≤ 4398046511104) :
    Gives P (F_law4_nested S it got step) [.one .bool] h fun (y : Bool × Unit) _ => y.1 = true := by
  have gL : g.length ≤ L.length := by have := congrArg List.length hg; rw [List.length_take] at this; omega
  unfold F_law4_nested Gives
  refine wp_grd (by cases it <;> first | rfl | cases fi) fun el1 => ?_
  have e1 : Ext h (h.push (.cells [it].toArray el1)) := Ext.push ..
  have q1 : Own h.size 1 (h.push (.cells [it].toArray el1)) ⟨some ⟨h.size, 0, none⟩, 1, 1⟩ [it] := own_alloc rfl (by decide) (by decide)
  have z1 : (h.push (.cells [it].toArray el1)).size = h.size + 1 := by simp
  generalize (h.push (.cells [it].toArray el1)) = h1 at e1 q1 z1 ⊢
  intro el2
  have e2 : Ext h1 (h1.push (.cells [slV got].toArray el2)) := Ext.push ..
  have q2 : Own h1.size 1 (h1.push (.cells [slV got].toArray el2)) ⟨some ⟨h1.size, 0, none⟩, 1, 1⟩ [slV got] := own_alloc rfl (by decide) (by decide)
  have z2 : (h1.push (.cells [slV got].toArray el2)).size = h.size + 2 := by simp [z1]
  show wp P _ (h1.push (.cells [slV got].toArray el2)) _
  generalize (h1.push (.cells [slV got].toArray el2)) = h2 at e2 q2 z2 ⊢
  intro el3
  have e3 : Ext h2 (h2.push (.cells [iv step].toArray el3)) := Ext.push ..
  have q3 : Own h2.size 1 (h2.push (.cells [iv step].toArray el3)) ⟨some ⟨h2.size, 0, none⟩, 1, 1⟩ [iv step] := own_alloc rfl (by decide) (by decide)
  have z3 : (h2.push (.cells [iv step].toArray el3)).size = h.size + 3 := by simp [z2]
  generalize (h2.push (.cells [iv step].toArray el3)) = h3 at e3 q3 z3 ⊢
  intro el4
  have e4 : Ext h3 (h3.push (.cells [slV ⟨none, 0, 0⟩].toArray el4)) := Ext.push ..
  have q4 : Own h3.size 1 (h3.push (.cells [slV ⟨none, 0, 0⟩].toArray el4)) ⟨some ⟨h3.size, 0, none⟩, 1, 1⟩ [slV ⟨none, 0, 0⟩] := own_alloc rfl (by decide) (by decide)
  have z4 : (h3.push (.cells [slV ⟨none, 0, 0⟩].toArray el4)).size = h.size + 4 := by simp [z3]
  show wp P _ (h3.push (.cells [slV ⟨none, 0, 0⟩].toArray el4)) _
  generalize (h3.push (.cells [slV ⟨none, 0, 0⟩].toArray el4)) = h4 at e4 q4 z4 ⊢
  intro el5
  have e5 : Ext h4 (h4.push (.cells [.bool false].toArray el5)) := Ext.push ..
  have q5 : Own h4.size 1 (h4.push (.cells [.bool false].toArray el5)) ⟨some ⟨h4.size, 0, none⟩, 1, 1⟩ [.bool false] := own_alloc rfl (by decide) (by decide)
  generalize (h4.push (.cells [.bool false].toArray el5)) = h5 at e5 q5 ⊢
  rw [z1] at q2 ⊢
  rw [z2] at q3 ⊢
  rw [z3] at q4 ⊢
  rw [z4] at q5 ⊢
  refine s_putAll [.bool true] q5 rfl (by intro v hv; rw [List.mem_singleton.1 hv]; rfl) fun h6 q6 u6 => ?_
  have e46 : Ext h4 h6 := Upd.extN e5 u6 (fun x hx => by cases hx; exact Nat.le_of_eq z4)
  have e06 := (((e1.trans e2).trans e3).trans e4).trans e46
  have b6 := (q6.lt rfl).2
  dsimp only at b6
  have hb : g ≠ [] → ∀ a, got.base = some a → a.block < h.size := fun hl a ha => hgot.low hl ha
  have t6 : Ne h.size h6.size it got g step (L.take 0) h6 := ⟨Nat.le_refl _, cell_own (q1.ext (((e2.trans e3).trans e4).trans e46)), cell_own (q2.ext ((e3.trans e4).trans e46)), cell_own (q3.ext (e4.trans e46)),
    ⟨⟨none, 0, 0⟩, (q4.ext e46).mono (by omega), OwnR.nil _ _⟩, q6.mono (by omega), hgot.ext e06⟩
  refine s_any t6.ci (hi h h6 _ (fun j h' => Ext h h' ∧ (j = 0 ∨ j < g.length) ∧ Ne h.size h6.size it got g step (L.take j) h') (fun h' => g.length ≤ L.length ∧ Ne h.size h6.size it got g step g h') _ _ (Ext.refl _) e06 rfl
    (fun j a b x e => ⟨x.1.trans e, x.2.1, x.2.2.ext e⟩) (yields_nest D rfl b6 hi hg hg1 hb hw hroom) ⟨e06, .inl rfl, t6⟩ fun h7 e7 s7 hf => ?_)
  have t7 : Ne h.size h6.size it got g step g h7 := by
    rcases hf with ⟨_, a, t⟩ | ⟨_, t⟩
    · omega
    · exact t
  obtain ⟨s, os, ol⟩ := t7.cs
  have sl := ol.len
  have gl := hgot.len
  refine bind_bool False ?_ fun b h8 e8 hb8 => ?_
  · refine wp_load1 (b := .bool) _ true rfl (cell_own t7.cb) (s_ifF (wp_load1 (b := .sl) _ s rfl (cell_own os) (wp_load1 (b := .sl) _ got rfl t7.cg (s_ret ⟨rfl, Ext.refl _, _, rfl, ?_⟩))))
    rw [neI_iff, natI_def, natI_def, sl, gl]
    exact Iff.intro (fun h => absurd rfl h) False.elim
  have hbb : b = false := by cases b; rfl; exact (hb8.1 rfl).elim
  subst hbb
  dsimp only
  have t8 := t7.ext e8
  refine s_ifF (wp_while (fun (q : Int × Unit) h' => 0 ≤ q.1 ∧ q.1 ≤ g.length ∧ Ext h8 h') (fun q _ => (g.length - q.1).toNat) (fun tg vs h' => tg = 2 ∧ vs = [] ∧ Ext h8 h') ⟨by simp, by simp, Ext.refl _⟩ ?_ ?_)
  · rintro ⟨(i : Int), u⟩ h9 ⟨i0, i1, e9⟩
    dsimp only at i0 i1 ⊢
    have t9 := t8.ext e9
    refine wp_load1 (b := .sl) _ got rfl t9.cg (wp_ifB (fun hd => ?_) fun hd => s_ret ⟨fun h => absurd h (by decide), fun _ => ⟨rfl, rfl, e9⟩⟩)
    rw [ltI_iff, natI_def, gl] at hd
    refine wp_load1 (b := .sl) _ s rfl (cell_own ((os.ext e8).ext e9)) (s_at2 ((ol.ext e8).ext e9).runs i0 hd fun a ha => wp_load1 (b := .sl) _ got rfl t9.cg (s_at2 t9.rg i0 hd fun b hb' => ?_))
    rw [ha] at hb'
    cases hb'
    dsimp only
    rw [eqI_self, eqI_self]
    refine s_ifF ?_
    rw [add_ok (by omega) (by omega)]
    exact s_ret ⟨fun _ => ⟨(i + 1, ()), rfl, ⟨by dsimp only; omega, by dsimp only; omega, e9⟩, by dsimp only; omega⟩, fun h => absurd rfl h⟩
  · rintro tg vs h9 ⟨rfl, rfl, e9⟩
    exact s_tag (s_cast0 (s_ret ⟨rfl, (e7.trans e8).trans e9, (true, ()), rfl, rfl⟩))

end Go.Sw.Tree

set_option linter.unusedVariables false
set_option linter.unusedSimpArgs false
set_option maxRecDepth 100000
namespace Go.Sw.Tree
variable {P : Program} {S : Ids} {h : Heap} {Q : Nat → List Value → Heap → Prop}

theorem c_Items {p : Option Addr} {i : Int} : Gives P (F_Tree_Run_Items S (p, ()) i) [.one .any] h fun (y : Value × Unit) h' => ∃ a b, y.1 = fItems S (some a) (some b) ∧ Sw.cell h' a = some (.pointer p) ∧ Sw.cell h' b = some (iv i) := by
  unfold F_Tree_Run_Items Gives
  refine s_newP p fun h1 e1 o1 => fun el => ?_
  have e2 : Ext h1 (h1.push (.cells [iv i].toArray el)) := Ext.push ..
  have q2 : Own h1.size 1 (h1.push (.cells [iv i].toArray el)) ⟨some ⟨h1.size, 0, none⟩, 1, 1⟩ [iv i] := own_alloc rfl (by decide) (by decide)
  generalize (h1.push (.cells [iv i].toArray el)) = h2 at e2 q2 ⊢
  exact s_ret ⟨rfl, e1.trans e2, (fItems S (some ⟨h.size, 0, none⟩) (some ⟨h1.size, 0, none⟩), ()), rfl, _, _, rfl, cell_own (o1.ext e2), cell_own q2⟩

theorem take_len {α : Type} (L : List α) (K : Nat) : L.take K = L.take (L.take K).length := by
  rw [List.length_take]
  by_cases h : K ≤ L.length
  · rw [Nat.min_eq_left h]
  · rw [Nat.min_eq_right (by omega), List.take_of_length_le (by omega), List.take_of_length_le (by omega)]

theorem bool_false {b : Bool} (h : b = true → False) : b = false := by cases b; rfl; exact (h rfl).elim

theorem c_listed (D : Clos P S) {p : Option Addr} {t : BT} {s : Sl} {i k : Int} (nt : Nd h p t) (hr : Runs h s t.list) (hi : fitsI .i64 i) (hk : fitsI .i64 k) (hroom : t.list.length ≤ 4194304) :
    Gives P (F_law4_listed S (p, ()) s i k) [.one .bool] h fun (y : Bool × Unit) _ => y.1 = true := by
  have hw := hr.wf
  have hlen := hr.len
  have hi' := fits_i64.1 hi
  have hk' := fits_i64.1 hk
  unfold F_law4_listed Gives
  refine s_newP p fun h1 e1 o1 => s_getT o1 (wp_call c_Items fun y h2 e2 hy => ?_)
  obtain ⟨(it : Value), w⟩ := y
  obtain ⟨a, b, hit, ca, cb⟩ := hy
  dsimp only at hit ⊢
  subst it
  have e02 := e1.trans e2
  have iter := iter_items D (nt.ext e02) (by omega) hi ca cb
  have hA : maxI 0 i = (i.toNat : Int) := by unfold maxI; split <;> omega
  have hK : maxI 1 k = ((max 1 k).toNat : Int) := by unfold maxI; split <;> omega
  have hK1 : 1 ≤ (max 1 k).toNat := by omega
  have hwL : wfR (t.list.drop i.toNat) := hw.drop _
  have hLl : (t.list.drop i.toNat).length = t.list.length - i.toNat := List.length_drop
  rw [hA, hK]
  have hKb : (max 1 k).toNat ≤ 9223372036854775807 := by omega
  have hAb : i.toNat ≤ 9223372036854775807 := by omega
  have hAt : ∀ j, (t.list.drop i.toNat)[j]? = t.list[i.toNat + j]? := fun j => List.getElem?_drop
  generalize hAg : i.toNat = A at *
  generalize hKg : (max 1 k).toNat = K at *
  generalize t.list.drop A = L at *
  have hwl : (L.take K).length = min K L.length := List.length_take
  refine wp_grd rfl (s_ifF (bind_val (tys := [.one (.int .i64)]) (fun (x : Int × Unit) _ => x.1 = ((L.take K).length : Int)) ?_ fun x h3 e3 hx => ?_))
  · refine wp_ifB (fun hc => ?_) fun hc => ?_
    · rw [ltI_iff, natI_def, hlen] at hc
      rw [natI_def, hlen, sub_ok (by omega) (by omega)]
      have hm : minI ((t.list.length : Int) - (A : Int)) (K : Int) = ((L.take K).length : Int) := by unfold minI; split <;> omega
      exact s_ret ⟨rfl, Ext.refl _, (_, ()), rfl, hm⟩
    · rw [ltI_not, natI_def, hlen] at hc
      exact s_ret ⟨rfl, Ext.refl _, (0, ()), rfl, by dsimp only; omega⟩
  obtain ⟨(W : Int), w2⟩ := x
  dsimp only at hx ⊢
  have iter3 := iter.ext e3
  refine wp_call (c_take D (k := Int.ofNat 1) iter3 (by decide) hwL (by omega)) fun y h4 e4 hy => wp_call (c_take D (k := (K : Int)) (iter3.ext e4) (by omega) hwL (by omega)) fun z h5 e5 hz => ?_
  obtain ⟨one, (b1 : Bool), w3⟩ := y
  obtain ⟨got, (b2 : Bool), w4⟩ := z
  obtain ⟨ho, hb1⟩ := hy
  obtain ⟨hg, hb2⟩ := hz
  dsimp only at ho hb1 hg hb2 ⊢
  subst b1; subst b2
  rw [show (Int.ofNat 1).toNat = 1 from rfl] at ho
  rw [Int.toNat_natCast] at hg
  have ol := ho.len
  have gl := hg.len
  have h1l : (L.take 1).length = min 1 L.length := List.length_take
  have e05 := ((e02.trans e3).trans e4).trans e5
  refine bind_bool False ?_ fun b h6 e6 hb6 => ?_
  · refine s_ifF (s_ifF ?_)
    rw [show neI (natI got.len) W = false from neI_not.2 (by rw [natI_def]; omega)]
    refine s_ifF (s_ret ⟨rfl, Ext.refl _, _, rfl, Iff.intro (fun hx => ?_) False.elim⟩)
    rw [neI_iff, natI_def] at hx
    refine hx ?_
    unfold minI
    split <;> omega
  obtain rfl := bool_false hb6.1
  dsimp only
  have e06 := e05.trans e6
  have g6 := (hg.ext e6).runs
  have o6 := (ho.ext (e5.trans e6)).runs
  refine s_ifF (wp_while (fun (q : Int × Unit) h' => 0 ≤ q.1 ∧ q.1 ≤ W ∧ Ext h6 h') (fun q _ => (W - q.1).toNat) (fun tg vs h' => tg = 2 ∧ vs = [] ∧ Ext h6 h') ⟨by simp, by dsimp only; omega, Ext.refl _⟩ ?_ ?_)
  · rintro ⟨(j : Int), u⟩ h7 ⟨j0, j1, e7⟩
    dsimp only at j0 j1 ⊢
    refine wp_ifB (fun hd => ?_) fun hd => s_ret ⟨fun h => absurd h (by decide), fun _ => ⟨rfl, rfl, e7⟩⟩
    rw [ltI_iff] at hd
    have hjL : L[j.toNat]? = some L[j.toNat] := List.getElem?_eq_getElem (by omega)
    have hjT : (L.take K)[j.toNat]? = some L[j.toNat] := by rw [List.getElem?_take, if_pos (by omega)]; exact hjL
    have hjA := hAt j.toNat
    rw [hjL] at hjA
    have hf := hwL.get hjL
    generalize L[j.toNat] = r at hjL hjT hjA hf
    refine s_at2 (g6.ext e7) j0 (by omega) fun r1 hr1 => ?_
    rw [hjT] at hr1
    cases hr1
    rw [add_ok (by omega) (by omega)]
    refine s_at2 ((hr.ext e06).ext e7) (by omega) (by omega) fun r2 hr2 => ?_
    rw [show ((A : Int) + j).toNat = A + j.toNat by omega, ← hjA] at hr2
    cases hr2
    refine wp_call (c_sameRun (a := (r.1, r.2, ())) (b := (r.1, r.2, ())) hf hf) fun y h8 e8 hy => ?_
    obtain ⟨(y : Bool), w5⟩ := y
    dsimp only at hy ⊢
    rw [hy.2 ⟨rfl, rfl⟩]
    have e78 := e7.trans e8
    refine bind_bool False ?_ fun b h9 e9 hb9 => ?_
    · refine s_ifF (wp_ifB (fun hz => ?_) fun hz => s_ret ⟨rfl, Ext.refl _, false, rfl, Iff.intro (fun x => by cases x) False.elim⟩)
      have hLp : 0 < L.length := by omega
      have hL0 : L[0]? = some L[0] := List.getElem?_eq_getElem hLp
      have hT0 : (L.take K)[(0 : Int).toNat]? = some L[0] := by show (L.take K)[0]? = _; rw [List.getElem?_take, if_pos (by omega)]; exact hL0
      have hO0 : (L.take 1)[(0 : Int).toNat]? = some L[0] := by show (L.take 1)[0]? = _; rw [List.getElem?_take, if_pos (by omega)]; exact hL0
      generalize L[0] = r0 at hT0 hO0
      refine s_at2 (j := 0) (o6.ext e78) (by omega) (by omega) fun r1 hr1 => s_at2 (j := 0) (g6.ext e78) (by omega) (by omega) fun r2 hr2 => ?_
      rw [hO0] at hr1
      rw [hT0] at hr2
      cases hr1; cases hr2
      dsimp only
      rw [eqI_self, eqI_self]
      exact s_ret ⟨rfl, Ext.refl _, false, rfl, Iff.intro (fun x => by cases x) False.elim⟩
    obtain rfl := bool_false hb9.1
    dsimp only
    refine s_ifF ?_
    rw [add_ok (by omega) (by omega)]
    exact s_ret ⟨fun _ => ⟨(j + 1, ()), rfl, ⟨by dsimp only; omega, by dsimp only; omega, e78.trans e9⟩, by dsimp only; omega⟩, fun h => absurd rfl h⟩
  · rintro tg vs h7 ⟨rfl, rfl, e7⟩
    have e07 := e06.trans e7
    refine s_tag (s_cast0 (bind_val (tys := [.one .bool]) (fun (x : Bool × Unit) _ => x.1 = true) ?_ fun x h8 e8 hx => s_ret ⟨rfl, e07.trans e8, (x.1, ()), rfl, hx⟩))
    refine wp_ifB (fun hd => s_ret ⟨rfl, Ext.refl _, (true, ()), rfl, rfl⟩) fun hd => ?_
    rw [eqI_not] at hd
    have it7 := iter3.ext (((e4.trans e5).trans e6).trans e7)
    have nn : ∀ {h'} {step : Int}, Ext h7 h' → Gives P (F_law4_nested S (fItems S (some a) (some b)) got step) [.one .bool] h' fun (y : Bool × Unit) _ => y.1 = true := fun e =>
      c_nested D (it7.ext e) rfl (g6.ext (e7.trans e)) (take_len L K) (by omega) hwL (by omega)
    refine wp_call (nn (Ext.refl _)) fun y k1 d1 hy => ?_
    obtain ⟨(y : Bool), w5⟩ := y
    dsimp only at hy ⊢
    subst y
    refine s_ifT (s_not (wp_call (nn d1) fun y k2 d2 hy => ?_))
    obtain ⟨(y : Bool), w6⟩ := y
    dsimp only at hy ⊢
    subst y
    refine s_ifT (wp_call (nn (d1.trans d2)) fun y k3 d3 hy => ?_)
    exact s_ret ⟨rfl, (d1.trans d2).trans d3, (y.1, ()), rfl, hy⟩

theorem ht_pos (t : BT) : 0 < t.ht ↔ 0 < t.list.length := by
  cases t with
  | nil => simp [BT.ht, BT.list]
  | node l x r => simp [BT.ht, BT.list]; omega

theorem c_tells89 (D : Clos P S) {w : Addr} {ts ss : Sl} {ps : List (Option Addr)} {sl : List Sl} {bs : List BT} {o : Op7} (hW : WoodR h w ts ss ps sl bs) (hk : o.1 = 8 ∨ o.1 = 9) (hf4 : fitsI .i64 o.2.2.2.2.1) (hf5 : fitsI .i64 o.2.2.2.2.2.1) :
    Gives P (F_wood_tells S (some w) o) [.one .bool] h fun (y : Bool × Unit) _ => y.1 = true := by
  obtain ⟨(o0 : Int), (o1 : Int), (o2 : Int), (o3 : Int), (o4 : Int), (o5 : Int), s, u⟩ := o
  dsimp only at hk hf4 hf5
  unfold F_wood_tells Gives
  dsimp only
  intro elem
  have e1 : Ext h (h.push (.cells [iv o0, iv o1, iv o2, iv o3, iv o4, iv o5, .slice s.base s.len s.cap].toArray elem)) := Ext.push ..
  have q1 : Own h.size 1 (h.push (.cells [iv o0, iv o1, iv o2, iv o3, iv o4, iv o5, .slice s.base s.len s.cap].toArray elem)) ⟨some ⟨h.size, 0, none⟩, 7, 7⟩ [iv o0, iv o1, iv o2, iv o3, iv o4, iv o5, .slice s.base s.len s.cap] := own_alloc rfl (by decide) (by decide)
  generalize (h.push (.cells [iv o0, iv o1, iv o2, iv o3, iv o4, iv o5, .slice s.base s.len s.cap].toArray elem)) = h1 at e1 q1 ⊢
  have hW1 := hW.ext e1
  have htl := hW.t.1
  rw [List.length_map, hW.tl] at htl
  have hpos := hW.pos
  have hrm := hW.room
  refine ⟨⟨h.size, 0, none⟩, rfl, (o0, o1, o2, o3, o4, o5, s, ()), q1.cells, ?_⟩
  refine wp_call (c_who (o := (o0, o1, o2, o3, o4, o5, s, ())) hW1.obj (by omega) (by omega)) fun y h2 e2 hy => ?_
  obtain ⟨(k : Int), w1⟩ := y
  obtain ⟨k0, k1⟩ := hy
  dsimp only at k0 k1 ⊢
  have hW2 := hW1.ext e2
  have hb : bs[k.toNat]? = some bs[k.toNat] := List.getElem?_eq_getElem (by omega)
  obtain ⟨p, x, hp, hx, nd, rn, av, rm⟩ := hW2.nd _ _ hb
  generalize bs[k.toNat] = t at nd rn av rm
  refine grd_some rfl (grd_some rfl (s_cell (b := .sl) (x := ts) rfl hW2.obj rfl (s_atP hW2.t k0 hp (s_putTree p nd fun h3 e3 oT => ?_))))
  have hW3 := hW2.ext e3
  have n3 := nd.ext e3
  have r3 := rn.ext e3
  have q3 := (q1.ext (e2.trans e3)).cells
  have hw := rn.wf
  have hl := rn.len
  have e03 := (e1.trans e2).trans e3
  have hht := t.ht_le
  refine grd_some rfl (grd_some rfl (s_cell (b := .sl) (x := ss) rfl hW3.obj rfl (s_atS hW3.s k0 hx (s_cell (b := .int .i64) (x := o0) rfl q3 rfl ?_))))
  rcases hk with rfl | rfl
  · refine s_ifF (s_ifF (s_ifF (s_ifF (s_ifF (s_ifT (s_getT oT (s_cell (b := .int .i64) (x := o5) rfl q3 rfl (s_cell (b := .int .i64) (x := o4) rfl q3 rfl (wp_call (c_listed D n3 r3 hf5 hf4 rm) fun y h4 e4 hy => ?_)))))))))
    exact s_ret ⟨rfl, e03.trans e4, (y.1, ()), rfl, hy⟩
  · refine s_ifF (s_ifF (s_ifF (s_ifF (s_ifF (s_ifF (s_ifT (s_getT oT (wp_call (c_Height n3) fun y h4 e4 hy => wp_call (c_Digits (n := natI x.len) (by rw [natI_def]; omega) (by rw [natI_def]; omega)) fun z h5 e5 hz => ?_))))))))
    obtain ⟨(y : Int), w3⟩ := y
    obtain ⟨(z : Int), w4⟩ := z
    obtain ⟨d, hz, hd1, hd2⟩ := hz
    dsimp only at hy hz ⊢
    subst y; subst z
    rw [natI_def, Int.toNat_natCast, hl] at hd2
    have hp1 := ht_pos t
    have hlow : t.ht ≤ 3 * d := by
      by_cases h1 : 1 ≤ t.list.length
      · exact low av h1 hd2
      · omega
    refine bind_val (tys := [.one .bool]) (fun (x : Bool × Unit) _ => x.1 = true) ?_ fun x h6 e6 hx => s_ret ⟨rfl, ((e03.trans e4).trans e5).trans e6, (x.1, ()), rfl, hx⟩
    rw [mul64 (a := 3) (b := (d : Int)) (by omega) (by omega), show leI (t.ht : Int) (3 * (d : Int)) = true from leI_iff.2 (by omega)]
    have hgt : gtI (t.ht : Int) 0 = gtI (natI x.len) 0 := by
      by_cases h1 : 0 < t.list.length
      · rw [show gtI (t.ht : Int) 0 = true from gtI_iff.2 (by omega), show gtI (natI x.len) 0 = true from gtI_iff.2 (by rw [natI_def]; omega)]
      · rw [show gtI (t.ht : Int) 0 = false from gtI_not.2 (by omega), show gtI (natI x.len) 0 = false from gtI_not.2 (by rw [natI_def]; omega)]
    rw [hgt, eqB_same]
    have hge : geI (t.ht : Int) 0 = true := geI_iff.2 (by omega)
    exact s_ifT (s_ifT (s_ret ⟨rfl, Ext.refl _, (geI (t.ht : Int) 0, ()), rfl, hge⟩))

theorem told_all (D : Clos P S) {lo hi : Int} : Told3 P S lo hi := fun {_ _ _ _ _ _ _ o} hW h1 h2 hf _ => by
  by_cases h6 : o.k = 6
  · exact c_tells6 hW h6 (fits_i64.1 hf.2.2.2.2.2).2
  by_cases h8 : o.k = 8
  · exact c_tells89 D hW (.inl h8) hf.2.2.2.2.1 hf.2.2.2.2.2
  by_cases h9 : o.k = 9
  · exact c_tells89 D hW (.inr h9) hf.2.2.2.2.1 hf.2.2.2.2.2
  exact c_tells hW ⟨h6, h8, h9⟩

theorem c_TreeItems (D : Clos P S) {s : Sl} {l : List OpV} (hr : Ops h s l) (hl : l.length ≤ 2097152) (htot : tot l ≤ 2097152) : Gives P (F_law4_TreeItems S s) [.one .bool] h fun (y : Bool × Unit) _ => y.1 = true := by
  unfold F_law4_TreeItems Gives
  refine wp_call (c_fits hr) fun y h1 e1 _ => bind_val (tys := [.one .bool]) (fun (x : Bool × Unit) _ => x.1 = true) ?_ fun x h2 e2 hx => s_ret ⟨rfl, e1.trans e2, (x.1, ()), rfl, hx⟩
  refine wp_ifB (fun _ => s_ret ⟨rfl, Ext.refl _, (true, ()), rfl, rfl⟩) fun _ => wp_call (c_plays (hr.ext e1) (told_all D) hl htot) fun y h2 e2 hy => ?_
  exact s_ret ⟨rfl, e2, (y.1, ()), rfl, hy⟩
theorem c_TreeAll (D : Clos P S) {s : Sl} {l : List OpV} (hr : Ops h s l) (hl : l.length ≤ 2097152) (htot : tot l ≤ 2097152) : Gives P (F_law4_TreeAll S s) [.one .bool] h fun (y : Bool × Unit) _ => y.1 = true := by
  unfold F_law4_TreeAll Gives
  refine wp_call (c_fits hr) fun y h1 e1 _ => bind_val (tys := [.one .bool]) (fun (x : Bool × Unit) _ => x.1 = true) ?_ fun x h2 e2 hx => s_ret ⟨rfl, e1.trans e2, (x.1, ()), rfl, hx⟩
  refine wp_ifB (fun _ => s_ret ⟨rfl, Ext.refl _, (true, ()), rfl, rfl⟩) fun _ => wp_call (c_plays (hr.ext e1) (told_all D) hl htot) fun y h2 e2 hy => ?_
  exact s_ret ⟨rfl, e2, (y.1, ()), rfl, hy⟩

end Go.Sw.Tree
