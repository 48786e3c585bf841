/-
  Lists of one's own whose cells are all of one kind: append keeps it.
-/
import Derived.Test.YteoloieadjeneaaSwT20
set_option linter.unusedVariables false
set_option linter.unusedSimpArgs false
set_option maxRecDepth 100000
namespace Go.Sw
variable {P : Program} {h : Heap} {Q : Nat → List Value → Heap → Prop}

/-- All cells of a list's block are of one kind, its room too. -/
def AllK (cls : Value → Prop) (h : Heap) (s : Sl) : Prop := ∀ a, s.base = some a → ∀ i v, Sw.cell h ⟨a.block, i, none⟩ = some v → cls v

theorem AllK.nil (cls : Value → Prop) (h : Heap) : AllK cls h ⟨none, 0, 0⟩ := fun a ha => by cases ha
theorem AllK.keep {cls : Value → Prop} {h h' : Heap} {s : Sl} (c : AllK cls h s) (hk : ∀ a, s.base = some a → h'[a.block]? = h[a.block]?) : AllK cls h' s := fun a ha i v hv => c a ha i v (by
  unfold Sw.cell at hv ⊢; rw [hk a ha] at hv; exact hv)

theorem zeros_mem {z : Value} : ∀ {n : Nat} {v : Value}, v ∈ zeros [z] n → v = z := by
  intro n
  induction n with
  | zero => intro v hv; simp [zeros] at hv
  | succ n ih => intro v hv; simp only [zeros, List.cons_append, List.nil_append, List.mem_cons] at hv; rcases hv with rfl | hv; rfl; exact ih hv

theorem wp_appendK {n bytes : Nat} {z : Value} {cls : Value → Prop} {s x : Sl} {old new : List Value} {K : Sl → Prog} (ho : Own n 1 h s old) (hn : n ≤ h.size) (hx : Rd 1 h x new) (hcl : AllK cls h s) (hnew : ∀ v ∈ new, cls v) (hz : cls z)
    (hf : ∀ v ∈ new, flat v = true) (hroom : (s.len + x.len) * bytes ≤ 140737488355328) (hlen : s.len + x.len < 2 ^ 63)
    (hk : ∀ r h', Own n 1 h' r (old ++ new) → AllK cls h' r → r.len = s.len + x.len → Upd s h h' → (∀ a, r.base = some a → s.base = some a ∨ (h.size ≤ a.block)) → wp P (K r) h' Q) :
    wp P (.append 1 bytes [z] s x K) h Q := by
  refine ⟨new, hx.firsts, ?_⟩
  obtain ⟨o1, o2, o3, o4⟩ := ho
  have hlen' : (old ++ new).length = (s.len + x.len) * 1 := by rw [List.length_append, ← o1, ← hx.1, Nat.add_mul]
  by_cases hc : s.len + x.len ≤ s.cap
  · simp only [hc, if_true]
    cases hb : s.base with
    | none =>
      rw [hb] at o4
      simp only at o4 ⊢
      have e1 : s.len = 0 := by omega
      have e2 : x.len = 0 := by omega
      refine hk _ _ ⟨hlen'.symm, hc, o3, o4⟩ (fun a ha => by cases ha) rfl ⟨Nat.le_refl _, fun _ _ _ => rfl, fun _ e => e⟩ (fun a ha => by cases ha)
    | some a =>
      rw [hb] at o4
      obtain ⟨b, off, spot⟩ := a
      obtain ⟨e0, e1, e2, cs, elem, e3, e4, e5⟩ := o4
      simp only at e0 e1 e2 e3
      subst e0; subst e1
      have hfit : s.len * 1 + new.length ≤ cs.size := by
        rw [e4, ← hx.1, ← Nat.add_mul]; exact Nat.mul_le_mul_right _ hc
      have hadd : (Addr.mk b 0 none).add (s.len * 1) = ⟨b, s.len * 1, none⟩ := by simp [add_mk]
      obtain ⟨w, cs', c1, c2, c3, c4, c5, c6⟩ := puts_block (i := 0) (off := s.len * 1) e3 hf (by simpa using hfit)
      simp only [hadd]
      refine ⟨w, hk _ _ ⟨hlen'.symm, hc, o3, rfl, rfl, e2, cs', elem, c1, by rw [c2, e4], fun i v hi => ?_⟩ ?_ rfl ⟨by unfold puts; omega, fun i hi hne => c6 i fun e => (hne _ hb) e.symm, fun a e => by unfold puts; rw [thaw_putFrom]; exact e⟩ (fun a ha => Or.inl (hb.trans ha))⟩
      · rw [List.getElem?_append] at hi
        split at hi
        · rename_i hlt
          rw [c4 i (Or.inl (by omega))]
          exact e5 i v hi
        · rename_i hge
          have := c3 _ _ hi
          rw [o1] at this
          rw [show old.length + 0 + (i - old.length) = i by omega] at this
          exact this
      · intro a ha i v hv
        cases ha
        unfold Sw.cell puts at hv
        dsimp only at hv
        rw [c1] at hv
        simp only [Option.isSome_none, Bool.false_eq_true, if_false] at hv
        by_cases hin : i < s.len * 1 ∨ s.len * 1 + 0 + new.length ≤ i
        · rw [c4 i (by omega)] at hv
          refine hcl _ hb i v ?_
          unfold Sw.cell
          dsimp only
          rw [e3]
          simpa using hv
        · obtain ⟨j, hj⟩ : ∃ j, i = s.len * 1 + 0 + j := ⟨i - s.len * 1, by omega⟩
          have hjl : j < new.length := by omega
          have := c3 j _ (List.getElem?_eq_getElem hjl)
          rw [← hj, hv] at this
          cases this
          exact hnew _ (List.getElem_mem hjl)
  · simp only [hc, if_false]
    refine ⟨old, Rd.firsts (Own.rd ⟨o1, o2, o3, o4⟩), growslice_fits (by omega) hroom, hlen, fun cap elem hcap hcap' => ?_⟩
    refine hk _ _ ⟨hlen'.symm, hcap, hcap', rfl, rfl, hn, _, elem, Array.getElem?_push_size, ?_, fun i v hi => ?_⟩ ?_ rfl ⟨by simp, fun i hi _ => push_old h _ hi, (Ext.push h _ _).2.2⟩ (fun a ha => Or.inr (by cases ha; exact Nat.le_refl _))
    · simp only [List.size_toArray, List.length_append, zeros_len (zero := [z]) (size := 1) rfl]
      rw [← o1, ← hx.1, ← Nat.add_mul, ← Nat.add_mul, Nat.add_sub_cancel' hcap]
    · simp only [List.getElem?_toArray]
      rw [List.getElem?_append_left (by
        have := (List.getElem?_eq_some_iff.1 hi).1; exact this)]
      exact hi
    · intro a ha i v hv
      cases ha
      unfold Sw.cell at hv
      dsimp only at hv
      rw [Array.getElem?_push_size] at hv
      simp only [Option.isSome_none, Bool.false_eq_true, if_false, List.getElem?_toArray] at hv
      rcases List.mem_append.1 (List.mem_of_getElem? hv) with hm | hm
      · rcases List.mem_append.1 hm with hm | hm
        · obtain ⟨j, hj⟩ := List.getElem?_of_mem hm
          cases hb : s.base with
          | none =>
            rw [hb] at o4
            simp only at o4
            have := (List.getElem?_eq_some_iff.1 hj).1
            omega
          | some a =>
            rw [hb] at o4
            obtain ⟨b, off, spot⟩ := a
            obtain ⟨e0, e1, e2, cs, elem', e3, e4, e5⟩ := o4
            dsimp only at e3
            refine hcl _ hb j v ?_
            unfold Sw.cell
            dsimp only
            rw [e3]
            simpa using e5 j v hj
        · exact hnew v hm
      · rw [zeros_mem hm]; exact hz

/-- What has a cell of no such kind lies in another block. -/
theorem AllK.ne {cls : Value → Prop} {s : Sl} {a b : Addr} {vs : List Value} {j : Nat} {v : Value} (c : AllK cls h s) (ha : s.base = some a) (hb : Cells h b vs) (hj : vs[j]? = some v) (hv : ¬ cls v) : a.block ≠ b.block := by
  intro e
  have hc := cells_iff.1 hb j v hj
  obtain ⟨bb, bo, bs⟩ := b
  dsimp only at e
  have hx := hc
  unfold Sw.cell at hx
  split at hx
  · rename_i c' hcc
    split at hx
    · cases hx
    · rename_i hns
      refine hv (c a ha ((Addr.mk bb bo bs).add j).off v ?_)
      unfold Sw.cell
      dsimp only
      have h2 : h[a.block]? = h[((Addr.mk bb bo bs).add j).block]? := by rw [add_block, e]
      rw [h2, hcc]
      simpa using hx
  · cases hx
end Go.Sw
