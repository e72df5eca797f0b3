/- Bytes as arguments. -/
import Derived.Test.YthfaldoagmkllaaER1
set_option linter.unusedVariables false
set_option linter.unusedSimpArgs false
namespace Go.Proofs.Ythfaldoagmkllaa
open Go Go.ChangeShapes Go.WideShapes Go.ChangeAt Go.RowKit

theorem lit_u8n {n : Int} (h : (Lit.int IntKind.u8 n).wf = true) : ∃ m : Nat, n = m ∧ m < 256 := by
  simp [Lit.wf, IntKind.min, IntKind.max, IntKind.bits, IntKind.signed] at h
  exact ⟨n.toNat, by omega, by omega⟩
end Go.Proofs.Ythfaldoagmkllaa
