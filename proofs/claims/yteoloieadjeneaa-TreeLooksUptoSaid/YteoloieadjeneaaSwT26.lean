/-
  Tree: the wood, trees and lists apart; what stays when it grows.
-/
import Derived.Test.YteoloieadjeneaaSwT25
set_option linter.unusedVariables false
set_option linter.unusedSimpArgs false
set_option maxRecDepth 100000
namespace Go.Sw.Tree
variable {P : Program} {S : Ids} {h : Heap} {Q : Nat → List Value → Heap → Prop}

/-- A whole block's cells are known. -/
theorem Own.allK {n m : Nat} {a : Addr} {vs : List Value} {cls : Value → Prop} (ho : Own n 1 h ⟨some a, m, m⟩ vs) (hc : ∀ v ∈ vs, cls v) : AllK cls h ⟨some a, m, m⟩ := by
  intro b hb i v hv
  cases hb
  obtain ⟨o1, o2, o3, e0, e1, e2, cs, el, e3, e4, e5⟩ := ho
  unfold Sw.cell at hv
  dsimp only at hv e3 e4 o1
  rw [e3] at hv
  simp only [Option.isSome_none, Bool.false_eq_true, if_false] at hv
  have hlt : i < vs.length := by have := (Array.getElem?_eq_some_iff.1 hv).1; omega
  have := e5 i _ (List.getElem?_eq_getElem hlt)
  rw [hv] at this
  cases this
  exact hc _ (List.getElem_mem hlt)
theorem OwnR.allK {n : Nat} {s : Sl} {l : List (Int × Int)} (ho : OwnR n h s l) (hm : s.len = s.cap) : AllK isInt h s := by
  intro b hb i v hv
  obtain ⟨o1, o2, o3, o4⟩ := ho.own
  rw [hb] at o4
  obtain ⟨e0, e1, e2, cs, el, e3, e4, e5⟩ := o4
  unfold Sw.cell at hv
  dsimp only at hv e3 e4 o1
  rw [e3] at hv
  simp only [Option.isSome_none, Bool.false_eq_true, if_false] at hv
  have hlt : i < (cR l).length := by have := (Array.getElem?_eq_some_iff.1 hv).1; rw [← o1, hm]; omega
  have := e5 i _ (List.getElem?_eq_getElem hlt)
  rw [hv] at this
  cases this
  obtain ⟨k, hk⟩ := cR_mem (List.getElem_mem hlt)
  rw [hk]; trivial

theorem runs_updB {s t : Sl} {h h' : Heap} {l : List (Int × Int)} (u : Upd s h h') (r : Runs h t l) (hne : l ≠ [] → ∀ a b, t.base = some a → s.base = some b → b.block ≠ a.block) : Runs h' t l :=
  ⟨⟨r.rd.1, fun i v hi => let ⟨a, e, c⟩ := r.rd.2 i v hi; ⟨a, e, cell_upd u c fun b hb => by
    rw [add_block]
    exact hne (by rintro rfl; simp [cR] at hi) a b e hb⟩⟩, r.cap, r.max, r.wf⟩

/-- The wood, to be changed: its trees and its lists; the blocks Z are none of theirs. -/
structure Wood (n : Nat) (Z : Nat → Prop) (h : Heap) (w : Addr) (ts ss : Sl) (ps : List (Option Addr)) (sl : List Sl) (bs : List BT) (ls : List (List (Int × Int))) (M : Nat) : Prop where
  ow : Own n 1 h ⟨some w, 2, 2⟩ [slV ts, slV ss]
  ot : Own n 1 h ts (ps.map .pointer)
  os : Own n 1 h ss (sl.map slV)
  kt : AllK isPtr h ts
  ks : AllK isSl h ss
  tw : ∀ a, ts.base = some a → a.block ≠ w.block
  sw : ∀ a, ss.base = some a → a.block ≠ w.block
  st : ∀ a b, ts.base = some a → ss.base = some b → a.block ≠ b.block
  zt : ∀ a, ts.base = some a → ¬ Z a.block
  zs : ∀ a, ss.base = some a → ¬ Z a.block
  zw : ¬ Z w.block
  tl : ps.length = bs.length
  sln : sl.length = ls.length
  nt : ∀ (i : Nat) (b : BT), bs[i]? = some b → ∃ p, ps[i]? = some p ∧ Nd h p b ∧ b.Avl ∧ b.list.length ≤ M
  nl : ∀ (i : Nat) (l : List (Int × Int)), ls[i]? = some l → ∃ x, sl[i]? = some x ∧ Runs h x l ∧ (l ≠ [] → ∀ a, x.base = some a → ¬ Z a.block)

variable {n : Nat} {Z : Nat → Prop} {w : Addr} {ts ss : Sl} {ps : List (Option Addr)} {sl : List Sl} {bs : List BT} {ls : List (List (Int × Int))} {M : Nat}

theorem Wood.ext {h' : Heap} (o : Wood n Z h w ts ss ps sl bs ls M) (e : Ext h h') : Wood n Z h' w ts ss ps sl bs ls M where
  ow := o.ow.ext e
  ot := o.ot.ext e
  os := o.os.ext e
  kt := o.kt.keep fun a ha => e.2.1 _ (o.ot.lt ha).2
  ks := o.ks.keep fun a ha => e.2.1 _ (o.os.lt ha).2
  tw := o.tw
  sw := o.sw
  st := o.st
  zt := o.zt
  zs := o.zs
  zw := o.zw
  tl := o.tl
  sln := o.sln
  nt := fun i b hi => let ⟨p, h1, h2, h3, h4⟩ := o.nt i b hi; ⟨p, h1, h2.ext e, h3, h4⟩
  nl := fun i l hi => let ⟨x, h1, h2, h3⟩ := o.nl i l hi; ⟨x, h1, h2.ext e, h3⟩

theorem Runs.low {s : Sl} {l : List (Int × Int)} (r : Runs h s l) (hl : l ≠ []) {a : Addr} (ha : s.base = some a) : a.block < h.size := by
  obtain ⟨x, l, rfl⟩ : ∃ x m, l = x :: m := by cases l with | nil => exact absurd rfl hl | cons x m => exact ⟨x, m, rfl⟩
  obtain ⟨b, e, c⟩ := r.rd.2 0 (iv x.1) rfl
  rw [ha] at e; cases e
  have := cell_lt c
  rw [add_block] at this; exact this

/-- New blocks are none of the wood's. -/
theorem Wood.anew {Z' : Nat → Prop} (o : Wood n Z h w ts ss ps sl bs ls M) (hz : ∀ i, Z' i → h.size ≤ i) : Wood n Z' h w ts ss ps sl bs ls M where
  ow := o.ow
  ot := o.ot
  os := o.os
  kt := o.kt
  ks := o.ks
  tw := o.tw
  sw := o.sw
  st := o.st
  zt := fun a ha x => by have := (o.ot.lt ha).2; have := hz _ x; omega
  zs := fun a ha x => by have := (o.os.lt ha).2; have := hz _ x; omega
  zw := fun x => by have := (o.ow.lt rfl).2; have := hz _ x; omega
  tl := o.tl
  sln := o.sln
  nt := o.nt
  nl := fun i l hi => let ⟨x, h1, h2, h3⟩ := o.nl i l hi; ⟨x, h1, h2, fun hl a ha x => by have := h2.low hl ha; have := hz _ x; omega⟩

theorem Wood.mono {M' : Nat} (o : Wood n Z h w ts ss ps sl bs ls M) (hM : M ≤ M') : Wood n Z h w ts ss ps sl bs ls M' where
  ow := o.ow
  ot := o.ot
  os := o.os
  kt := o.kt
  ks := o.ks
  tw := o.tw
  sw := o.sw
  st := o.st
  zt := o.zt
  zs := o.zs
  zw := o.zw
  tl := o.tl
  sln := o.sln
  nt := fun i b hi => let ⟨p, h1, h2, h3, h4⟩ := o.nt i b hi; ⟨p, h1, h2, h3, Nat.le_trans h4 hM⟩
  nl := o.nl

theorem Wood.less {Z' : Nat → Prop} (o : Wood n Z h w ts ss ps sl bs ls M) (hz : ∀ i, Z' i → Z i) : Wood n Z' h w ts ss ps sl bs ls M where
  ow := o.ow
  ot := o.ot
  os := o.os
  kt := o.kt
  ks := o.ks
  tw := o.tw
  sw := o.sw
  st := o.st
  zt := fun a ha x => o.zt a ha (hz _ x)
  zs := fun a ha x => o.zs a ha (hz _ x)
  zw := fun x => o.zw (hz _ x)
  tl := o.tl
  sln := o.sln
  nt := o.nt
  nl := fun i l hi => let ⟨x, h1, h2, h3⟩ := o.nl i l hi; ⟨x, h1, h2, fun hl a ha x => h3 hl a ha (hz _ x)⟩

/-- To be read. -/
theorem Wood.toR (o : Wood n Z h w ts ss ps sl bs (bs.map BT.list) M) (hpos : 0 < bs.length) (hroom : bs.length ≤ 4194304) (hM : M ≤ 4194304) : WoodR h w ts ss ps sl bs where
  obj := o.ow.cells
  t := o.ot.rd
  s := o.os.rd
  tl := o.tl
  sln := by rw [o.sln, List.length_map]
  pos := hpos
  room := hroom
  nd := fun i b hi => by
    obtain ⟨p, h1, h2, h3, h4⟩ := o.nt i b hi
    obtain ⟨x, h5, h6, _⟩ := o.nl i b.list (by rw [List.getElem?_map, hi]; rfl)
    exact ⟨p, x, h1, h5, h2, h6, h3, Nat.le_trans h4 hM⟩

/-- A block of ints that is none of the wood's changes. -/
theorem Wood.spoiled {h' : Heap} {s : Sl} (o : Wood n Z h w ts ss ps sl bs ls M) (u : Upd s h h') (hz : ∀ a, s.base = some a → Z a.block) (k : AllK isInt h s) : Wood n Z h' w ts ss ps sl bs ls M where
  ow := o.ow.keep fun a ha => u.2.1 _ (o.ow.lt ha).2 fun b hb e => o.zw (by cases ha; exact e ▸ hz b hb)
  ot := o.ot.keep fun a ha => u.2.1 _ (o.ot.lt ha).2 fun b hb e => o.zt a ha (e ▸ hz b hb)
  os := o.os.keep fun a ha => u.2.1 _ (o.os.lt ha).2 fun b hb e => o.zs a ha (e ▸ hz b hb)
  kt := o.kt.keep fun a ha => u.2.1 _ (o.ot.lt ha).2 fun b hb e => o.zt a ha (e ▸ hz b hb)
  ks := o.ks.keep fun a ha => u.2.1 _ (o.os.lt ha).2 fun b hb e => o.zs a ha (e ▸ hz b hb)
  tw := o.tw
  sw := o.sw
  st := o.st
  zt := o.zt
  zs := o.zs
  zw := o.zw
  tl := o.tl
  sln := o.sln
  nt := fun i b hi => let ⟨p, h1, h2, h3, h4⟩ := o.nt i b hi; ⟨p, h1, nd_updK u k (.inl fun p hp => hp) h2, h3, h4⟩
  nl := fun i l hi => by
    obtain ⟨x, h1, h2, h3⟩ := o.nl i l hi
    exact ⟨x, h1, runs_updB u h2 fun hl a b ha hb e => h3 hl a ha (e ▸ hz b hb), h3⟩

theorem map_snoc {α β : Type} (f : α → β) (l : List α) (x : α) : (l ++ [x]).map f = l.map f ++ [f x] := by simp
theorem get_snoc {α : Type} {l : List α} {x y : α} {i : Nat} (hi : (l ++ [x])[i]? = some y) : (i < l.length ∧ l[i]? = some y) ∨ (i = l.length ∧ y = x) := by
  by_cases h : i < l.length
  · rw [List.getElem?_append_left h] at hi; exact .inl ⟨h, hi⟩
  · rw [List.getElem?_append_right (by omega)] at hi
    have := (List.getElem?_eq_some_iff.1 hi).1
    simp at this
    rw [show i - l.length = 0 by omega] at hi
    exact .inr ⟨by omega, by simpa using hi.symm⟩
theorem get_old {α : Type} {l : List α} {x y : α} {i : Nat} (hi : l[i]? = some y) : (l ++ [x])[i]? = some y := by
  rw [List.getElem?_append_left (List.getElem?_eq_some_iff.1 hi).1]; exact hi
theorem get_new {α : Type} {l : List α} {x : α} {i : Nat} (hi : i = l.length) : (l ++ [x])[i]? = some x := by subst hi; simp

theorem isSl2 {ts ss : Sl} : ∀ v ∈ [slV ts, slV ss], isSl v := by
  intro v hv
  simp only [List.mem_cons, List.not_mem_nil, or_false] at hv
  rcases hv with rfl | rfl <;> trivial

/-- One tree more. -/
theorem Wood.moreT {h1 h2 : Heap} {r : Sl} {p : Option Addr} {b : BT} (o : Wood n Z h w ts ss ps sl bs ls M) (hp : Nd h p b) (ha : b.Avl) (hM : b.list.length ≤ M) (hz : ∀ i, Z i → i < h.size)
    (r1 : Own n 1 h1 r (ps.map .pointer ++ [.pointer p])) (rk : AllK isPtr h1 r) (u1 : Upd ts h h1) (rb : ∀ a, r.base = some a → ts.base = some a ∨ h.size ≤ a.block)
    (w2 : Own n 1 h2 ⟨some w, 2, 2⟩ [slV r, slV ss]) (u2 : Upd ⟨some w, 2, 2⟩ h1 h2) : Wood n Z h2 w r ss (ps ++ [p]) sl (bs ++ [b]) ls M ∧ ∀ i, Z i → h2[i]? = h[i]? := by
  have wl := (o.ow.lt rfl).2
  have os1 : Own n 1 h1 ss (sl.map slV) := o.os.keep fun a ha => u1.2.1 _ (o.os.lt ha).2 fun b hb => o.st b a hb ha
  have ow1 : Own n 1 h1 ⟨some w, 2, 2⟩ [slV ts, slV ss] := o.ow.keep fun a ha => u1.2.1 _ (o.ow.lt ha).2 fun b hb => by cases ha; exact o.tw b hb
  have ks1 : AllK isSl h1 ss := o.ks.keep fun a ha => u1.2.1 _ (o.os.lt ha).2 fun b hb => o.st b a hb ha
  have kw1 := Own.allK (cls := isSl) ow1 isSl2
  have rw' : ∀ a, r.base = some a → a.block ≠ w.block := fun a ha => (rb a ha).elim (o.tw a) fun hl => by omega
  have nd2 : ∀ {p : Option Addr} {b : BT}, Nd h p b → Nd h2 p b := fun x => nd_updK u2 kw1 (.inl fun p hp => hp) (nd_updK u1 o.kt (.inr fun n hn => hn) x)
  refine ⟨⟨w2, ?_, ?_, ?_, ?_, rw', o.sw, ?_, ?_, o.zs, o.zw, ?_, o.sln, ?_, ?_⟩, ?_⟩
  · rw [map_snoc]
    exact r1.keep fun a ha => u2.2.1 _ (r1.lt ha).2 fun b hb => by cases hb; exact fun e => rw' a ha e.symm
  · exact os1.keep fun a ha => u2.2.1 _ (os1.lt ha).2 fun b hb => by cases hb; exact fun e => o.sw a ha e.symm
  · exact rk.keep fun a ha => u2.2.1 _ (r1.lt ha).2 fun b hb => by cases hb; exact fun e => rw' a ha e.symm
  · exact ks1.keep fun a ha => u2.2.1 _ (os1.lt ha).2 fun b hb => by cases hb; exact fun e => o.sw a ha e.symm
  · exact fun a b ha hb => (rb a ha).elim (fun h => o.st a b h hb) fun hl => by have := (o.os.lt hb).2; omega
  · exact fun a ha => (rb a ha).elim (o.zt a) fun hl x => by have := hz _ x; omega
  · rw [List.length_append, List.length_append, o.tl]; rfl
  · intro i b' hi
    rcases get_snoc hi with ⟨_, hi⟩ | ⟨rfl, rfl⟩
    · obtain ⟨q, h1, h2, h3, h4⟩ := o.nt i b' hi
      exact ⟨q, get_old h1, nd2 h2, h3, h4⟩
    · exact ⟨p, get_new o.tl.symm, nd2 hp, ha, hM⟩
  · intro i l hi
    obtain ⟨x, h1, h2, h3⟩ := o.nl i l hi
    exact ⟨x, h1, runs_updK u2 kw1 (fun n hn => hn) (runs_updK u1 o.kt (fun n hn => hn) h2), h3⟩
  · intro i hi
    rw [u2.2.1 i (Nat.lt_of_lt_of_le (hz i hi) u1.1) fun a ha e => o.zw (by cases ha; exact e ▸ hi), u1.2.1 i (hz i hi) fun a ha e => o.zt a ha (e ▸ hi)]

/-- One list more. -/
theorem Wood.moreL {h1 h2 : Heap} {r x : Sl} {l : List (Int × Int)} (o : Wood n Z h w ts ss ps sl bs ls M) (hx : Runs h x l) (hxz : l ≠ [] → ∀ a, x.base = some a → ¬ Z a.block) (hz : ∀ i, Z i → i < h.size)
    (r1 : Own n 1 h1 r (sl.map slV ++ [slV x])) (rk : AllK isSl h1 r) (u1 : Upd ss h h1) (rb : ∀ a, r.base = some a → ss.base = some a ∨ h.size ≤ a.block)
    (w2 : Own n 1 h2 ⟨some w, 2, 2⟩ [slV ts, slV r]) (u2 : Upd ⟨some w, 2, 2⟩ h1 h2) : Wood n Z h2 w ts r ps (sl ++ [x]) bs (ls ++ [l]) M ∧ ∀ i, Z i → h2[i]? = h[i]? := by
  have wl := (o.ow.lt rfl).2
  have ot1 : Own n 1 h1 ts (ps.map .pointer) := o.ot.keep fun a ha => u1.2.1 _ (o.ot.lt ha).2 fun b hb => fun e => o.st a b ha hb e.symm
  have ow1 : Own n 1 h1 ⟨some w, 2, 2⟩ [slV ts, slV ss] := o.ow.keep fun a ha => u1.2.1 _ (o.ow.lt ha).2 fun b hb => by cases ha; exact o.sw b hb
  have kt1 : AllK isPtr h1 ts := o.kt.keep fun a ha => u1.2.1 _ (o.ot.lt ha).2 fun b hb => fun e => o.st a b ha hb e.symm
  have kw1 := Own.allK (cls := isSl) ow1 isSl2
  have rw' : ∀ a, r.base = some a → a.block ≠ w.block := fun a ha => (rb a ha).elim (o.sw a) fun hl => by omega
  have nd2 : ∀ {p : Option Addr} {b : BT}, Nd h p b → Nd h2 p b := fun x => nd_updK u2 kw1 (.inl fun p hp => hp) (nd_updK u1 o.ks (.inl fun n hn => hn) x)
  have rn2 : ∀ {x : Sl} {l : List (Int × Int)}, Runs h x l → Runs h2 x l := fun h2 => runs_updK u2 kw1 (fun n hn => hn) (runs_updK u1 o.ks (fun n hn => hn) h2)
  refine ⟨⟨w2, ?_, ?_, ?_, ?_, o.tw, rw', ?_, o.zt, ?_, o.zw, o.tl, ?_, ?_, ?_⟩, ?_⟩
  · exact ot1.keep fun a ha => u2.2.1 _ (ot1.lt ha).2 fun b hb => by cases hb; exact fun e => o.tw a ha e.symm
  · rw [map_snoc]
    exact r1.keep fun a ha => u2.2.1 _ (r1.lt ha).2 fun b hb => by cases hb; exact fun e => rw' a ha e.symm
  · exact kt1.keep fun a ha => u2.2.1 _ (ot1.lt ha).2 fun b hb => by cases hb; exact fun e => o.tw a ha e.symm
  · exact rk.keep fun a ha => u2.2.1 _ (r1.lt ha).2 fun b hb => by cases hb; exact fun e => rw' a ha e.symm
  · exact fun a b ha hb => (rb b hb).elim (fun h => o.st a b ha h) fun hl => by have := (o.ot.lt ha).2; omega
  · exact fun a ha => (rb a ha).elim (o.zs a) fun hl x => by have := hz _ x; omega
  · rw [List.length_append, List.length_append, o.sln]; rfl
  · intro i b' hi
    obtain ⟨q, h1, h2, h3, h4⟩ := o.nt i b' hi
    exact ⟨q, h1, nd2 h2, h3, h4⟩
  · intro i l' hi
    rcases get_snoc hi with ⟨_, hi⟩ | ⟨rfl, rfl⟩
    · obtain ⟨x', h1, h2, h3⟩ := o.nl i l' hi
      exact ⟨x', get_old h1, rn2 h2, h3⟩
    · exact ⟨x, get_new o.sln.symm, rn2 hx, hxz⟩
  · intro i hi
    rw [u2.2.1 i (Nat.lt_of_lt_of_le (hz i hi) u1.1) fun a ha e => o.zw (by cases ha; exact e ▸ hi), u1.2.1 i (hz i hi) fun a ha e => o.zs a ha (e ▸ hi)]

end Go.Sw.Tree
