/- Keys in order: the closure, sort.Slice. -/
import Derived.Test.YtipbgaahpchhbaaG2
import Derived.Test.YtipbgaahpchhbaaF43
import Derived.Test.YtipbgaahpchhbaaSL
import Derived.Deep.QuietTactic
import Derived.WalkKit
set_option linter.unusedVariables false
set_option linter.unusedSimpArgs false
namespace Go.Proofs.Ytipbgaahpchhbaa
open Go Go.RowKit

set_option maxHeartbeats 2000000 in
theorem less_ok : LessInts Try.prog .u16 25 := by
  intro blk off c bs os size W G hs hc i j hi hj
  have ci := hc i hi
  have cj := hc j hj
  go_enter Try.func25, Try.ntmps25
  go_wp2
  go_quiet (fail)
  go_wp2
  go_ret
  exact ⟨rfl, nq, rfl⟩
noncomputable def siT : TypeInfo := (Try.prog.info? 32).get (by kernel_rfl)
noncomputable def siE : TypeInfo := (Try.prog.info? 23).get (by kernel_rfl)
theorem siK (n : Nat) (h2 : 2 ≤ n) : Lib.swapperK n siE 9 = 7 := by
  have a : siE.hasPointers = false := by kernel_rfl
  have b : siE.bytes = 2 := by kernel_rfl
  have c : (n == 0) = false := by simp; omega
  have d : (n == 1) = false := by simp; omega
  simp [Lib.swapperK, a, b, c, d]
theorem tiny_ok : SortTiny Try.prog 24 25 32 := fun p n c h1 la lb w => by
  have hK : Lib.swapperK n siE 9 = n + 1 := by
    rcases Nat.eq_zero_or_pos n with h | h
    · subst h; simp [Lib.swapperK]
    · obtain rfl : n = 1 := by omega
      simp [Lib.swapperK]
  exact Any.sort_Slice_tiny sl6 32 23 siT siE (by kernel_rfl) (by kernel_rfl) (by kernel_rfl) (by kernel_rfl) 9 (fun _ => by kernel_rfl) p n c h1 (31 + n) (by
    rw [hK]
    rcases Nat.eq_zero_or_pos n with h | h
    · subst h; kernel_rfl
    · obtain rfl : n = 1 := by omega
      kernel_rfl) (.func 25) la lb w
theorem small_ok : SortSmall Try.prog .u16 24 25 32 := fun lb blk off c d h2 h12 w hless hH hblk =>
  Any.sort_Slice_small_sorted sl6 32 23 siT siE (by kernel_rfl) (by kernel_rfl) (by kernel_rfl) (by kernel_rfl) 9 (fun _ => by kernel_rfl) (by kernel_rfl) (fun _ => by kernel_rfl) (Value.int .u16) (fun _ => rfl) Sort.ltInt Sort.swo_ltInt 25 lb
    (enters_of Try.func25 (by kernel_rfl) rfl) blk off c d h2 h12 37 (by rw [siK _ h2]; kernel_rfl) true
    (fun args W => run_callFunc_extern Try.func37 (by kernel_rfl) (by kernel_rfl) (by kernel_rfl) (e := Extern.ReflectliteSwapper.swap true) (by kernel_rfl) args W) w hless hH hblk
end Go.Proofs.Ytipbgaahpchhbaa
