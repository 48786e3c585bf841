
/- Steps. -/
import Derived.Test.YtncolficnfcdcaaGreatRows
import Derived.Test.YtncolficnfcdcaaGreatSwZ3
import Derived.Test.YtncolficnfcdcaaGreatSwZ5
set_option linter.unusedVariables false
set_option linter.unusedSimpArgs false
namespace Go.Proofs.YtncolficnfcdcaaGreat.bulks
section
theorem ok{H:Type}:Sw.Mz (H:=H) Rows.uptoBulk Rows.uptoBulkAll where
 lit:=λk n=>by simp[Rows.uptoBulk]
 xc:=λx=>by simp[Rows.uptoBulk]
 nil:=by simp[Rows.uptoBulk]
 sl:=λe s=>by simp only[Rows.uptoBulk];omega
 agg:=λl=>by simp only[Rows.uptoBulk];omega
 cons:=λd r=>by simp only[Rows.uptoBulkAll];omega
theorem bound{H:Type}{l:List (DataW H)}(a:Rows.uptoSmall H l=true):Rows.uptoBulkAll l<=1048576:=by
 simpa[Rows.uptoSmall] using a
end
end Go.Proofs.YtncolficnfcdcaaGreat.bulks
