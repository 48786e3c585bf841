/-
  What the bound on an input's bulk gives.
-/
import Derived.Test.YtaebgdhdldfigaaRows
import Derived.Test.YtaebgdhdldfigaaSwZ3
import Derived.Test.YtaebgdhdldfigaaSwZ5
namespace Go.Proofs.Ytaebgdhdldfigaa.bulks
theorem ok {H : Type} : Sw.BulkOk (H := H) Rows.uptoBulk Rows.uptoBulkAll where
 lit := fun k n => by simp [Rows.uptoBulk]
 litB := fun x => by simp [Rows.uptoBulk]
 nil := by simp [Rows.uptoBulk]
 sl := fun e s => by simp only [Rows.uptoBulk]; omega
 agg := fun l => by simp only [Rows.uptoBulk]; omega
 cons := fun d r => by simp only [Rows.uptoBulkAll]; omega
theorem bound {H : Type} {l : List (DataW H)} (hk : Rows.uptoSmall H l = true) : Rows.uptoBulkAll l ≤ 1048576 := by
 simpa [Rows.uptoSmall] using hk
end Go.Proofs.Ytaebgdhdldfigaa.bulks
