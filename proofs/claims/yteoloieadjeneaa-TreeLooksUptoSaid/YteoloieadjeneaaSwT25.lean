/-
  Tree: the wood, to be changed: what stays when one block changes.
-/
import Derived.Test.YteoloieadjeneaaSwT24
set_option linter.unusedVariables false
set_option linter.unusedSimpArgs false
set_option maxRecDepth 100000
namespace Go.Sw.Tree
variable {P : Program} {S : Ids} {h : Heap} {Q : Nat → List Value → Heap → Prop}

/-- What lies in no cell of the changed block stays. -/
theorem cell_upd {s : Sl} {h h' : Heap} {a : Addr} {v : Value} (u : Upd s h h') (c : Sw.cell h a = some v) (hne : ∀ b, s.base = some b → b.block ≠ a.block) : Sw.cell h' a = some v := by
  have hlt := cell_lt c
  unfold Sw.cell at c ⊢
  rw [u.2.1 a.block hlt (fun b hb => hne b hb)]
  exact c
theorem rd_upd {s t : Sl} {h h' : Heap} {size : Nat} {vs : List Value} (u : Upd s h h') (r : Rd size h t vs) (hne : ∀ b, s.base = some b → ∀ a v, v ∈ vs → Sw.cell h a = some v → b.block ≠ a.block) : Rd size h' t vs :=
  ⟨r.1, fun i v hi => let ⟨a, e, c⟩ := r.2 i v hi; ⟨a, e, cell_upd u c fun b hb => hne b hb _ v (List.mem_of_getElem? hi) c⟩⟩
theorem cells_updK {s : Sl} {h h' : Heap} {a : Addr} {vs : List Value} (u : Upd s h h') (c : Cells h a vs) (hne : ∀ b, s.base = some b → b.block ≠ a.block) : Cells h' a vs :=
  cells_iff.2 fun j v hj => cell_upd u (cells_iff.1 c j v hj) fun b hb => by rw [add_block]; exact hne b hb

theorem allK_ne1 {cls : Value → Prop} {s : Sl} {a b : Addr} {v : Value} (c : AllK cls h s) (ha : s.base = some a) (hb : Sw.cell h b = some v) (hv : ¬ cls v) : a.block ≠ b.block :=
  AllK.ne (vs := [v]) (j := 0) c ha (cells_iff.2 fun j w hj => by
    match j, hj with
    | 0, hj => simp at hj; subst hj; rw [add_zero']; exact hb
    | j + 1, hj => simp at hj) rfl hv

def isPtr : Value → Prop
  | .pointer _ => True
  | _ => False
def isSl : Value → Prop
  | .slice _ _ _ => True
  | _ => False
def isInt : Value → Prop
  | .int _ _ => True
  | _ => False

/-- A node stays where a block of one kind changes. -/
theorem nd_updK {cls : Value → Prop} {s : Sl} {h h' : Heap} (u : Upd s h h') (k : AllK cls h s) (hp : (∀ p, ¬ cls (.pointer p)) ∨ (∀ n, ¬ cls (iv n))) : ∀ {t : BT} {p : Option Addr}, Nd h p t → Nd h' p t
  | .nil, _, n => n
  | .node l x r, p, ⟨a, pl, pr, e1, hc, n1, n2⟩ => ⟨a, pl, pr, e1, cells_updK u hc (fun b hb => by
      rcases hp with hp | hp
      · exact k.ne (j := 0) hb hc rfl (hp pl)
      · exact k.ne (j := 2) hb hc rfl (hp x.1)), nd_updK u k hp n1, nd_updK u k hp n2⟩
theorem cR_mem {l : List (Int × Int)} {v : Value} (hv : v ∈ cR l) : ∃ n, v = iv n := by
  obtain ⟨r, _, hr⟩ := List.mem_flatMap.1 hv
  simp only [List.mem_cons, List.not_mem_nil, or_false] at hr
  rcases hr with rfl | rfl
  · exact ⟨_, rfl⟩
  · exact ⟨_, rfl⟩
theorem runs_updK {cls : Value → Prop} {s t : Sl} {h h' : Heap} {l : List (Int × Int)} (u : Upd s h h') (k : AllK cls h s) (hp : ∀ n, ¬ cls (iv n)) (r : Runs h t l) : Runs h' t l :=
  ⟨rd_upd u r.rd fun b hb a v hv c => by obtain ⟨n, rfl⟩ := cR_mem hv; exact allK_ne1 k hb c (hp n), r.cap, r.max, r.wf⟩

/-- The wood, to be changed. -/
structure WoodO (n : Nat) (h : Heap) (w : Addr) (ts ss : Sl) (ps : List (Option Addr)) (sl : List Sl) (bs : List BT) : Prop where
  rd : WoodR h w ts ss ps sl bs
  ow : Own n 1 h ⟨some w, 2, 2⟩ [slV ts, slV ss]
  ot : Own n 1 h ts (ps.map .pointer)
  os : Own n 1 h ss (sl.map slV)
  kt : AllK isPtr h ts
  ks : AllK isSl h ss
  ne : ∀ a, ss.base = some a → a.block ≠ w.block

theorem WoodO.ext {n : Nat} {h h' : Heap} {w : Addr} {ts ss : Sl} {ps : List (Option Addr)} {sl : List Sl} {bs : List BT} (o : WoodO n h w ts ss ps sl bs) (e : Ext h h') : WoodO n h' w ts ss ps sl bs :=
  ⟨o.rd.ext e, o.ow.ext e, o.ot.ext e, o.os.ext e, o.kt.keep fun a ha => e.2.1 _ (o.ot.lt ha).2, o.ks.keep fun a ha => e.2.1 _ (o.os.lt ha).2, o.ne⟩

end Go.Sw.Tree
