/-
  What the bound on an input's bulk gives.
-/
import Derived.Test.YtfgknhffpccamaaRows
import Derived.Test.YtfgknhffpccamaaSwZ3
import Derived.Test.YtfgknhffpccamaaSwZ5
namespace Go.Proofs.Ytfgknhffpccamaa.bulks
theorem ok {H : Type} : Sw.BulkOk (H := H) Rows.uptoBulk Rows.uptoBulkAll where
  lit := fun k n => by simp [Rows.uptoBulk]
  litB := fun x => by simp [Rows.uptoBulk]
  nil := by simp [Rows.uptoBulk]
  sl := fun e s => by simp only [Rows.uptoBulk]; omega
  agg := fun l => by simp only [Rows.uptoBulk]; omega
  cons := fun d r => by simp only [Rows.uptoBulkAll]; omega
theorem one_le {H : Type} (d : DataW H) : 1 ≤ Rows.uptoBulk d := by
  cases d with
  | lit l => cases l <;> simp [Rows.uptoBulk]
  | _ => simp [Rows.uptoBulk]
theorem length_le {H : Type} (l : List (DataW H)) : l.length ≤ Rows.uptoBulkAll l := by
  induction l with
  | nil => simp [Rows.uptoBulkAll]
  | cons x r ih => have := one_le x; simp only [Rows.uptoBulkAll, List.length_cons]; omega
theorem mem_le {H : Type} {d : DataW H} {l : List (DataW H)} (h : d ∈ l) : Rows.uptoBulk d ≤ Rows.uptoBulkAll l := by
  induction l with
  | nil => cases h
  | cons x r ih =>
    simp only [Rows.uptoBulkAll]
    rcases List.mem_cons.1 h with rfl | h
    · omega
    · have := ih h; omega
theorem sum_le {H α : Type} (f : α → Nat) : ∀ (l : List α) (e : List (DataW H)), (∀ (i : Nat) (o : α), l[i]? = some o → ∃ d', e[i]? = some d' ∧ f o ≤ Rows.uptoBulk d') → (l.map f).sum ≤ Rows.uptoBulkAll e := by
  intro l
  induction l with
  | nil => intro e _; simp
  | cons x l ih =>
    intro e h
    obtain ⟨d, h1, h2⟩ := h 0 x rfl
    cases e with
    | nil => simp at h1
    | cons y e =>
      simp at h1
      subst h1
      have := ih e fun i o hi => h (i + 1) o (by simpa using hi)
      simp only [List.map_cons, List.sum_cons, Rows.uptoBulkAll]; omega
theorem dcells_le {H : Type} (d : DataW H) : Sw.dcells d ≤ Rows.uptoBulk d := by
  cases d with
  | slice e s =>
    have h1 := length_le e
    have h2 := length_le s
    simp only [Sw.dcells, Rows.uptoBulk]; omega
  | _ => simp [Sw.dcells]
theorem bound {H : Type} {l : List (DataW H)} (hk : Rows.uptoSmall H l = true) : Rows.uptoBulkAll l ≤ 1048576 := by
  simpa [Rows.uptoSmall] using hk
end Go.Proofs.Ytfgknhffpccamaa.bulks
