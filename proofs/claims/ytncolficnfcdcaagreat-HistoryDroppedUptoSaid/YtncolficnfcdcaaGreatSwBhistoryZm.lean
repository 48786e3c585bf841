/-
  What the bound on an input's bulk gives.
-/
import Derived.Test.YtncolficnfcdcaaGreatRows
import Derived.Test.YtncolficnfcdcaaGreatSwZ3
import Derived.Test.YtncolficnfcdcaaGreatSwZ5
namespace Go.Proofs.YtncolficnfcdcaaGreat.bulks
theorem ok {H:Type}:Sw.BulkOk (H:=H) Rows.uptoBulk Rows.uptoBulkAll where
 lit:=fun k n=>by simp [Rows.uptoBulk]
 litB:=fun x=>by simp [Rows.uptoBulk]
 nil:=by simp [Rows.uptoBulk]
 sl:=fun e s=>by simp only [Rows.uptoBulk]; omega
 agg:=fun l=>by simp only [Rows.uptoBulk]; omega
 cons:=fun d r=>by simp only [Rows.uptoBulkAll]; omega
theorem one_le {H:Type} (d:DataW H):1≤Rows.uptoBulk d:=by
 cases d with
 | lit l=>cases l <;> simp [Rows.uptoBulk]
 | _=>simp [Rows.uptoBulk]
theorem length_le {H:Type} (l:List (DataW H)):l.length≤Rows.uptoBulkAll l:=by
 induction l with
 | nil=>simp [Rows.uptoBulkAll]
 | cons x r ih=>have:=one_le x; simp only [Rows.uptoBulkAll,List.length_cons]; omega
theorem dcells_le {H:Type} (d:DataW H):Sw.dcells d≤Rows.uptoBulk d:=by
 cases d with
 | slice e s=>
  have h1:=length_le e
  have h2:=length_le s
  simp only [Sw.dcells,Rows.uptoBulk]; omega
 | _=>simp [Sw.dcells]
theorem bound {H:Type} {l:List (DataW H)} (hk:Rows.uptoSmall H l=true):Rows.uptoBulkAll l≤1048576:=by
 simpa [Rows.uptoSmall] using hk
end Go.Proofs.YtncolficnfcdcaaGreat.bulks
