/- A call of a script. -/
import Derived.Test.YthfaldoagmkllaaD15
set_option linter.unusedVariables false
set_option linter.unusedSimpArgs false
namespace Go.Proofs.Ythfaldoagmkllaa
open Go Go.RowKit

theorem readP_len {d : DS} (hd : d.Ok) (b : Int) : (d.readP b).1.length = 256 := by
  unfold DS.readP
  split
  · exact zb_len 256
  · split
    · exact zb_len 256
    · split
      · exact zb_len 256
      · exact gatN_len hd.seen _ 4 (by omega)
theorem readP_same {d : DS} (b : Int) : (d.readP b).2.2.fails = d.fails ∧ (d.readP b).2.2.pend = d.pend := by
  have h := opP_same d
  unfold DS.readP
  split
  · exact ⟨rfl, rfl⟩
  · split
    · exact ⟨rfl, rfl⟩
    · split <;> exact ⟨h.2.2.2.2.1, h.2.2.2.1⟩
theorem writeP_fails (d : DS) (b : Int) (x : List UInt8) : (d.writeP b x).2.fails = d.fails := by
  have h := opP_same d
  unfold DS.writeP
  split
  · rfl
  · split
    · rfl
    · split <;> exact h.2.2.2.2.1
theorem syncP_fails (d : DS) : d.syncP.2.fails = d.fails := by
  have h := opP_same d
  unfold DS.syncP
  split
  · rfl
  · split <;> exact h.2.2.2.2.1
theorem syncP_pend (d : DS) (h : d.syncP.2.pend ≠ []) : d.pend ≠ [] := by
  have h2 := opP_same d
  revert h
  unfold DS.syncP
  split
  · exact fun h => h
  · split
    · rw [h2.2.2.2.1]; exact fun h => h
    · exact fun h => absurd rfl h
theorem six0 (x : Nat) (h : 5 ≤ x) : Six 0 1 2 3 4 x := ⟨by simp; omega⟩
end Go.Proofs.Ythfaldoagmkllaa
