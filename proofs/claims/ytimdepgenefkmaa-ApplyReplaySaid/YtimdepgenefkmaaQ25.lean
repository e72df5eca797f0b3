import Derived.Test.YtimdepgenefkmaaQ24
set_option maxRecDepth 8000
set_option linter.unusedVariables false
set_option linter.unusedSimpArgs false
namespace Go.Proofs.Ytimdepgenefkmaa
open Go Go.RowKit

theorem fok9 : fnOk Try.prog 9 = true := by kernel_rfl
end Go.Proofs.Ytimdepgenefkmaa
