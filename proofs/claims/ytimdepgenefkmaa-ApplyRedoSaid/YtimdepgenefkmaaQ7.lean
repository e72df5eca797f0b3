/- Replay. -/
import Derived.Test.YtimdepgenefkmaaQ6
set_option maxRecDepth 8000
set_option linter.unusedVariables false
set_option linter.unusedSimpArgs false
namespace Go.Proofs.Ytimdepgenefkmaa
open Go Go.RowKit

theorem redoP_len {uu : Bool} {no : Nat} {p : List UInt8} {e : En} (hp : p.length = 224) (he : e.Ok) : (redoP uu no p e).1.length = 224 := by
  have hI : (if e.rc.kind = 1 then e.rc.image else p).length = 224 := by split; exact he.rc.image; exact hp
  unfold redoP
  obtain ⟨q, hq⟩ : ∃ q, (if e.rc.kind = 1 then e.rc.image else p) = q := ⟨_, rfl⟩
  rw [hq] at hI ⊢
  split
  · exact zb_len 224
  split
  · exact undoP_len
  split
  · exact zb_len 224
  split
  · split
    · exact putData_len ⟨he.lsn, he.rc.ts, he.rc.ppg, dApplyR_len (getData_dt hp).body⟩
    · exact zb_len 224
  · have hd := getData_dt (no := no) hI
    exact putData_len ⟨he.lsn, hd.ts, hd.pg, hd.body⟩
theorem fok8 : fnOk Try.prog 8 = true := by kernel_rfl
end Go.Proofs.Ytimdepgenefkmaa
