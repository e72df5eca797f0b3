/- A disk that isn't there. -/
import Derived.Test.YthfaldoagmkllaaD12
set_option linter.unusedVariables false
set_option linter.unusedSimpArgs false
namespace Go.Proofs.Ythfaldoagmkllaa
open Go Go.RowKit

theorem read_nil (k : Int) : ACall Try.prog 35 [.nilptr, .int .i64 k] [] (.tuple [arrAV (zb 256), .int .i64 4]) [] := by
  refine ACall.run (Z := Z) (N := 39) mixed hZ Try.func35 rfl rfl (by kernel_rfl) (by simp) (nil_args args_i) 0 ?_
  simp -dsimp -implicitDefEqProofs only [↓j0, ↓j1, ↓j2, ↓j7, ↓j10, ↓j12, ↓j13, ↓j15, j17, j18, j19, j20, j21, j22, j23, ↓j25, ↓j27, ↓j29, ↓j30, j32, j33, j35, ↓j38, ↓j39, ↓j40, ↓j41, ↓j44, ↓j48, ↓j54, ↓j78, j81, ↓j124, j125, j127, ↓j145, ↓j146, ↓j147, ↓j149, ↓j151, ↓j153, partsAV, AV.proj, AV.offOf, AV.upd, AV.size, AV.layable, argEnv, j163, j164, j171, j172, j175, reduceCtorEq, ↓reduceIte, Nat.reduceEqDiff, j182, j194, j196, j211, j214, j218, j219, ↓j236, j240, j243, j309, j319, j414, j434]
  exact Final.many (.inr rfl) (rs := [.cell 4 29, .tmp 5]) (us := [arrAV (zb 256), .int .i64 4]) rfl ⟨⟨0, 0, [], _, rfl, rfl, rfl, rfl, by simp -dsimp -implicitDefEqProofs only [j129, j182, j240, j243, j309, j310]⟩, ⟨rfl, fun vs h => by cases h⟩, trivial⟩ (by simp) ⟨.same _ (on_bytes _ _), .same _ trivial, trivial⟩
theorem write_nil (k : Int) (x : List UInt8) (hx : x.length = 256) : ACall Try.prog 20 [.nilptr, .int .i64 k, arrAV x] [] (.int .i64 4) [] := by
  refine ACall.run (Z := Z) (N := 62) mixed hZ Try.func20 rfl rfl (by kernel_rfl) (by simp) (nil_args args_pbx) 0 ?_
  simp -dsimp -implicitDefEqProofs only [↓j0, ↓j1, ↓j2, ↓j7, ↓j10, ↓j12, ↓j13, ↓j15, j17, j18, j20, ↓j25, ↓j29, ↓j30, j32, j33, j35, ↓j38, ↓j39, ↓j40, ↓j42, ↓j48, j81, ↓j145, ↓j146, ↓j147, ↓j149, ↓j151, AV.layable, argEnv, j163, j164, j171, j172, j175, reduceCtorEq, ↓reduceIte, Nat.reduceAdd, Nat.reduceEqDiff, j194, j196, j211, ↓j236, j319]
  exact Final.one (.inr rfl) (r := .tmp 6) rfl ⟨rfl, fun vs h => by cases h⟩ (fun vs h => by cases h) (fun vs h => by cases h) (.same _ trivial)
theorem sync_nil : ACall Try.prog 36 [.nilptr] [] (.int .i64 4) [] := by
  refine ACall.run (Z := Z) (N := 19) mixed hZ Try.func36 rfl rfl (by kernel_rfl) (by simp) (nil_args no_args) 0 ?_
  simp -dsimp -implicitDefEqProofs only [↓j0, ↓j1, ↓j2, ↓j7, ↓j10, ↓j12, ↓j13, ↓j15, j17, j18, j20, ↓j25, ↓j29, ↓j30, j32, j33, j35, ↓j38, ↓j39, ↓j40, ↓j48, j81, ↓j145, ↓j146, ↓j147, ↓j149, ↓j151, argEnv, j163, j164, j172, j175, reduceCtorEq, ↓reduceIte, Nat.reduceEqDiff, j194, j211, ↓j236, j319]
  exact Final.one (.inr rfl) (r := .tmp 2) rfl ⟨rfl, fun vs h => by cases h⟩ (fun vs h => by cases h) (fun vs h => by cases h) (.same _ trivial)
theorem plan_nil (fs : List Int) (k : Int) : ACall Try.prog 21 [.nilptr, intsAV fs, .int .i64 k] [] (.tuple []) [] := by
  refine ACall.run (Z := Z) (N := 33) mixed hZ Try.func21 rfl rfl (by kernel_rfl) (by simp) (nil_args args_li) 0 ?_
  simp -dsimp -implicitDefEqProofs only [↓j0, ↓j1, ↓j7, ↓j10, ↓j12, ↓j13, ↓j15, j17, j18, j20, ↓j25, ↓j29, ↓j30, j35, ↓j38, ↓j48, ↓j145, ↓j146, ↓j147, ↓j149, argEnv, j172, ↓reduceIte, Nat.reduceAdd, j194, j196, j211, ↓j236, j319]
  exact Final.manyH (.inr rfl) (rs := []) (us := []) rfl trivial (by simp) trivial (fun n b h => by simp [Heap.get] at h)
theorem crash_nil (l : List Bool) : ACall Try.prog 22 [.nilptr, boolsAV l] [] (.tuple []) [] := by
  refine ACall.run (Z := Z) (N := 43) mixed hZ Try.func22 rfl rfl (by kernel_rfl) (by simp) (nil_args args_bl) 0 ?_
  simp -dsimp -implicitDefEqProofs only [↓j0, ↓j1, ↓j7, ↓j10, ↓j12, ↓j13, ↓j15, j17, j18, j20, ↓j25, ↓j29, ↓j30, j35, ↓j38, ↓j48, ↓j145, ↓j146, ↓j147, ↓j149, argEnv, j172, ↓reduceIte, j194, j196, j211, ↓j236, j319]
  exact Final.manyH (.inr rfl) (rs := []) (us := []) rfl trivial (by simp) trivial (fun n b h => by simp [Heap.get] at h)
end Go.Proofs.Ythfaldoagmkllaa
