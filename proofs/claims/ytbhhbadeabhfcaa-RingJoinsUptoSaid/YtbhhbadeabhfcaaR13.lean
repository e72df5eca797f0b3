/- Texts as arguments. -/
import Derived.Test.YtbhhbadeabhfcaaR10
import Derived.ChangeMaps5
set_option linter.unusedVariables false
set_option linter.unusedSimpArgs false
namespace Go.Proofs.Ytbhhbadeabhfcaa
open Go Go.ChangeShapes Go.WideShapes Go.ChangeAt Go.RowKit

theorem str_list {b : ByteArray} (h : b.size ≤ maxLen) : ∃ s : List UInt8, b = ⟨s.toArray⟩ ∧ s.length ≤ 9223372036854775807 := by
  obtain ⟨a⟩ := b
  refine ⟨a.toList, by simp, ?_⟩
  have h2 : a.size ≤ maxLen := h
  simpa [maxLen] using h2
end Go.Proofs.Ytbhhbadeabhfcaa
