/- Blank pages, right pages, by both. -/
import Derived.Test.YtimdepgenefkmaaP30
set_option maxRecDepth 8000
set_option linter.unusedVariables false
set_option linter.unusedSimpArgs false
namespace Go.Proofs.Ytimdepgenefkmaa
open Go Go.RowKit

def Ud.zero : Ud := ⟨0, []⟩
theorem uzero_ok : Ud.zero.Ok := ⟨by decide, by decide, fun o ho => by cases ho⟩
end Go.Proofs.Ytimdepgenefkmaa
