/- A disk that isn't there. -/
import Derived.Test.YtpnjllemklindaaD12
set_option linter.unusedVariables false
set_option linter.unusedSimpArgs false
namespace Go.Proofs.Ytpnjllemklindaa
open Go Go.RowKit

theorem fok18 : fnOk Try.prog 18 = true := by kernel_rfl
theorem size_nil : ACall Try.prog 29 [.nilptr] [] (.int .i64 0) [] := by
  refine ACall.run (Z := Z) (N := 9) mixed hZ Try.func29 rfl rfl (by kernel_rfl) (by simp) (nil_args no_args) 0 ?_
  simp -dsimp -implicitDefEqProofs only [↓j0, ↓j1, ↓j7, ↓j10, ↓j12, ↓j13, ↓j15, j17, j18, j20, ↓j25, ↓j29, ↓j30, j33, j35, ↓j38, ↓j39, ↓j48, ↓j145, ↓j146, ↓j147, ↓j149, argEnv, j172, reduceCtorEq, ↓reduceIte, j194, j211, ↓j236, j271]
  exact Final.one (.inr rfl) (r := .tmp 2) rfl ⟨rfl, fun vs h => by cases h⟩ (fun vs h => by cases h) (fun vs h => by cases h) (.same _ trivial)
theorem ops_nil : ACall Try.prog 20 [.nilptr] [] (.int .i64 0) [] := by
  refine ACall.run (Z := Z) (N := 9) mixed hZ Try.func20 rfl rfl (by kernel_rfl) (by simp) (nil_args no_args) 0 ?_
  simp -dsimp -implicitDefEqProofs only [↓j0, ↓j1, ↓j7, ↓j10, ↓j12, ↓j13, ↓j15, j17, j18, j20, ↓j25, ↓j29, ↓j30, j33, j35, ↓j38, ↓j39, ↓j48, ↓j145, ↓j146, ↓j147, ↓j149, argEnv, j172, reduceCtorEq, ↓reduceIte, j194, j211, ↓j236, j271]
  exact Final.one (.inr rfl) (r := .tmp 2) rfl ⟨rfl, fun vs h => by cases h⟩ (fun vs h => by cases h) (fun vs h => by cases h) (.same _ trivial)
theorem pending_nil : ACall Try.prog 17 [.nilptr] [] (.int .i64 0) [] := by
  refine ACall.run (Z := Z) (N := 10) mixed hZ Try.func17 rfl rfl (by kernel_rfl) (by simp) (nil_args no_args) 0 ?_
  simp -dsimp -implicitDefEqProofs only [↓j0, ↓j1, ↓j7, ↓j10, ↓j12, ↓j13, ↓j15, j17, j18, j20, ↓j25, ↓j29, ↓j30, j33, j35, ↓j38, ↓j39, ↓j48, ↓j145, ↓j146, ↓j147, ↓j149, argEnv, j172, reduceCtorEq, ↓reduceIte, j194, j211, ↓j236, j271]
  exact Final.one (.inr rfl) (r := .tmp 2) rfl ⟨rfl, fun vs h => by cases h⟩ (fun vs h => by cases h) (fun vs h => by cases h) (.same _ trivial)
theorem down_nil : ACall Try.prog 21 [.nilptr] [] (.bool true) [] := by
  refine ACall.run (Z := Z) (N := 11) mixed hZ Try.func21 rfl rfl (by kernel_rfl) (by simp) (nil_args no_args) 0 ?_
  simp -dsimp -implicitDefEqProofs only [↓j0, ↓j1, ↓j2, ↓j7, ↓j10, ↓j12, ↓j15, j17, j18, j20, ↓j25, ↓j29, ↓j30, j32, j35, ↓j38, ↓j39, ↓j40, ↓j48, j81, ↓j145, ↓j146, ↓j147, ↓j151, argEnv, j163, j164, j172, j175, reduceCtorEq, ↓reduceIte, Nat.reduceEqDiff, j194, j211, ↓j236, j271]
  exact Final.one (.inr rfl) (r := .tmp 2) rfl ⟨rfl, fun vs h => by cases h⟩ (fun vs h => by cases h) (fun vs h => by cases h) (.same _ trivial)
theorem seen_nil (k : Int) : ACall Try.prog 13 [.nilptr, .int .i64 k] [] (arrAV (zb 256)) [] := by
  refine ACall.run (Z := Z) (N := 26) mixed hZ Try.func13 rfl rfl (by kernel_rfl) (by simp) (nil_args args_i) 0 ?_
  simp -dsimp -implicitDefEqProofs only [↓j0, ↓j1, ↓j2, ↓j7, ↓j10, ↓j12, ↓j13, ↓j15, j17, j18, j19, j20, j21, j22, j23, ↓j25, ↓j27, ↓j29, ↓j30, j32, j35, ↓j38, ↓j40, ↓j41, ↓j44, ↓j48, ↓j54, ↓j78, j81, ↓j124, j125, j127, ↓j145, ↓j146, ↓j147, ↓j149, ↓j151, ↓j153, partsAV, AV.proj, AV.offOf, AV.upd, AV.size, AV.layable, argEnv, j163, j164, j171, j172, j175, reduceCtorEq, ↓reduceIte, Nat.reduceEqDiff, j182, j194, j196, j211, j214, j218, j219, ↓j236, j240, j243, j271, j280, j441, j466]
  exact Final.one (.inr rfl) (r := .cell 4 29) rfl ⟨0, 0, [], _, rfl, rfl, rfl, rfl, by simp -dsimp -implicitDefEqProofs only [j129, j182, j240, j243, j280, j281]⟩ (fun vs h => by cases h) (fun vs h => by cases h) (.same _ (on_bytes _ _))
theorem sure_nil (k : Int) : ACall Try.prog 16 [.nilptr, .int .i64 k] [] (arrAV (zb 256)) [] := by
  refine ACall.run (Z := Z) (N := 26) mixed hZ Try.func16 rfl rfl (by kernel_rfl) (by simp) (nil_args args_i) 0 ?_
  simp -dsimp -implicitDefEqProofs only [↓j0, ↓j1, ↓j2, ↓j7, ↓j10, ↓j12, ↓j13, ↓j15, j17, j18, j19, j20, j21, j22, j23, ↓j25, ↓j27, ↓j29, ↓j30, j32, j35, ↓j38, ↓j40, ↓j41, ↓j44, ↓j48, ↓j54, ↓j78, j81, ↓j124, j125, j127, ↓j145, ↓j146, ↓j147, ↓j149, ↓j151, ↓j153, partsAV, AV.proj, AV.offOf, AV.upd, AV.size, AV.layable, argEnv, j163, j164, j171, j172, j175, reduceCtorEq, ↓reduceIte, Nat.reduceEqDiff, j182, j194, j196, j211, j214, j218, j219, ↓j236, j240, j243, j271, j280, j441, j466]
  exact Final.one (.inr rfl) (r := .cell 4 29) rfl ⟨0, 0, [], _, rfl, rfl, rfl, rfl, by simp -dsimp -implicitDefEqProofs only [j129, j182, j240, j243, j280, j281]⟩ (fun vs h => by cases h) (fun vs h => by cases h) (.same _ (on_bytes _ _))
theorem read_nil (k : Int) : ACall Try.prog 23 [.nilptr, .int .i64 k] [] (.tuple [arrAV (zb 256), .int .i64 4]) [] := by
  refine ACall.run (Z := Z) (N := 39) mixed hZ Try.func23 rfl rfl (by kernel_rfl) (by simp) (nil_args args_i) 0 ?_
  simp -dsimp -implicitDefEqProofs only [↓j0, ↓j1, ↓j2, ↓j7, ↓j10, ↓j12, ↓j13, ↓j15, j17, j18, j19, j20, j21, j22, j23, ↓j25, ↓j27, ↓j29, ↓j30, j32, j33, j35, ↓j38, ↓j39, ↓j40, ↓j41, ↓j44, ↓j48, ↓j54, ↓j78, j81, ↓j124, j125, j127, ↓j145, ↓j146, ↓j147, ↓j149, ↓j151, ↓j153, partsAV, AV.proj, AV.offOf, AV.upd, AV.size, AV.layable, argEnv, j163, j164, j171, j172, j175, reduceCtorEq, ↓reduceIte, Nat.reduceEqDiff, j182, j194, j196, j211, j214, j218, j219, ↓j236, j240, j243, j271, j280, j441, j466]
  exact Final.many (.inr rfl) (rs := [.cell 4 29, .tmp 5]) (us := [arrAV (zb 256), .int .i64 4]) rfl ⟨⟨0, 0, [], _, rfl, rfl, rfl, rfl, by simp -dsimp -implicitDefEqProofs only [j129, j182, j240, j243, j280, j281]⟩, ⟨rfl, fun vs h => by cases h⟩, trivial⟩ (by simp) ⟨.same _ (on_bytes _ _), .same _ trivial, trivial⟩
theorem write_nil (k : Int) (x : List UInt8) (hx : x.length = 256) : ACall Try.prog 10 [.nilptr, .int .i64 k, arrAV x] [] (.int .i64 4) [] := by
  refine ACall.run (Z := Z) (N := 62) mixed hZ Try.func10 rfl rfl (by kernel_rfl) (by simp) (nil_args args_pbx) 0 ?_
  simp -dsimp -implicitDefEqProofs only [↓j0, ↓j1, ↓j2, ↓j7, ↓j10, ↓j12, ↓j13, ↓j15, j17, j18, j20, ↓j25, ↓j29, ↓j30, j32, j33, j35, ↓j38, ↓j39, ↓j40, ↓j42, ↓j48, j81, ↓j145, ↓j146, ↓j147, ↓j149, ↓j151, AV.layable, argEnv, j163, j164, j171, j172, j175, reduceCtorEq, ↓reduceIte, Nat.reduceAdd, Nat.reduceEqDiff, j194, j196, j211, ↓j236, j271]
  exact Final.one (.inr rfl) (r := .tmp 6) rfl ⟨rfl, fun vs h => by cases h⟩ (fun vs h => by cases h) (fun vs h => by cases h) (.same _ trivial)
theorem sync_nil : ACall Try.prog 12 [.nilptr] [] (.int .i64 4) [] := by
  refine ACall.run (Z := Z) (N := 19) mixed hZ Try.func12 rfl rfl (by kernel_rfl) (by simp) (nil_args no_args) 0 ?_
  simp -dsimp -implicitDefEqProofs only [↓j0, ↓j1, ↓j2, ↓j7, ↓j10, ↓j12, ↓j13, ↓j15, j17, j18, j20, ↓j25, ↓j29, ↓j30, j32, j33, j35, ↓j38, ↓j39, ↓j40, ↓j48, j81, ↓j145, ↓j146, ↓j147, ↓j149, ↓j151, argEnv, j163, j164, j172, j175, reduceCtorEq, ↓reduceIte, Nat.reduceEqDiff, j194, j211, ↓j236, j271]
  exact Final.one (.inr rfl) (r := .tmp 2) rfl ⟨rfl, fun vs h => by cases h⟩ (fun vs h => by cases h) (fun vs h => by cases h) (.same _ trivial)
theorem plan_nil (fs : List Int) (k : Int) : ACall Try.prog 19 [.nilptr, intsAV fs, .int .i64 k] [] (.tuple []) [] := by
  refine ACall.run (Z := Z) (N := 33) mixed hZ Try.func19 rfl rfl (by kernel_rfl) (by simp) (nil_args args_li) 0 ?_
  simp -dsimp -implicitDefEqProofs only [↓j0, ↓j1, ↓j7, ↓j10, ↓j12, ↓j13, ↓j15, j17, j18, j20, ↓j25, ↓j29, ↓j30, j35, ↓j38, ↓j48, ↓j145, ↓j146, ↓j147, ↓j149, argEnv, j172, ↓reduceIte, Nat.reduceAdd, j194, j196, j211, ↓j236, j271]
  exact Final.manyH (.inr rfl) (rs := []) (us := []) rfl trivial (by simp) trivial (fun n b h => by simp [Heap.get] at h)
theorem crash_nil (l : List Bool) : ACall Try.prog 14 [.nilptr, boolsAV l] [] (.tuple []) [] := by
  refine ACall.run (Z := Z) (N := 43) mixed hZ Try.func14 rfl rfl (by kernel_rfl) (by simp) (nil_args args_bl) 0 ?_
  simp -dsimp -implicitDefEqProofs only [↓j0, ↓j1, ↓j7, ↓j10, ↓j12, ↓j13, ↓j15, j17, j18, j20, ↓j25, ↓j29, ↓j30, j35, ↓j38, ↓j48, ↓j145, ↓j146, ↓j147, ↓j149, argEnv, j172, ↓reduceIte, j194, j196, j211, ↓j236, j271]
  exact Final.manyH (.inr rfl) (rs := []) (us := []) rfl trivial (by simp) trivial (fun n b h => by simp [Heap.get] at h)
def noneP (o : DOp) : Nat := if o.kind = 0 ∨ o.kind = 1 ∨ o.kind = 2 then 4 else 0
theorem do_nil (o : DOp) (hk : o.Ok) : ACall Try.prog 22 [.nilptr, o.av] [] (.tuple [arrAV (zb 256), .int .i64 (noneP o : Nat)]) [] := by
  refine ACall.run (Z := Z) (N := 49) mixed hZ Try.func22 rfl rfl (by kernel_rfl) (by simp) (nil_args args_o) 0 ?_
  have fin : ∀ (c : Nat) (t : Env) (H : Heap) (m : Nat), c = noneP o → look t 4 = some (.ptr 1 0 []) → look t 5 = some (.int .i64 (c : Nat)) → Heap.get H 1 = some (.cells (arrAV (zb 256))) →
      Final Try.prog Try.f22 (.tuple [arrAV (zb 256), .int .i64 (noneP o : Nat)]) [] .ret ⟨49, t, H, m⟩ := by
    intro c t H m hx h4 h5 h11
    rw [← hx]
    exact Final.many (.inr rfl) (rs := [.cell 4 29, .tmp 5]) (us := [arrAV (zb 256), .int .i64 (c : Nat)]) rfl ⟨⟨1, 0, [], _, h4, h11, rfl, rfl, by simp -dsimp -implicitDefEqProofs only [j129, j182, j240, j243, j280, j281]⟩, ⟨h5, fun vs h => by cases h⟩, trivial⟩ (by simp) ⟨.same _ (on_bytes _ _), .same _ trivial, trivial⟩
  by_cases k0 : o.kind = 0
  · simp -dsimp -implicitDefEqProofs only [↓j0, ↓j1, ↓j7, ↓j12, ↓j13, ↓j14, ↓j15, j17, j18, j20, ↓j25, ↓j27, ↓j29, ↓j30, j33, ↓j38, ↓j39, ↓j41, ↓j42, ↓j43, ↓j45, ↓j48, ↓j53, ↓j76, ↓j79, ↓j89, j130, ↓j145, ↓j146, ↓j147, ↓j149, ↓j153, j157, AV.proj, AV.offOf, AV.size, AV.sizeL, AV.layable, argEnv, j163, j164, j166, j167, j170, j171, j172, reduceCtorEq, ↓reduceIte, Nat.reduceAdd, Nat.reduceEqDiff, j182, j185, j196, j197, Int.reduceBEq, j250, j296, j299, j441, k0]
    refine CallTo.pure (args := [.nilptr, .int .i64 o.block]) rfl fok23 (by simp -dsimp -implicitDefEqProofs only [↓j25, ↓j29, j173, j174, ↓reduceIte, Nat.reduceEqDiff]) (fun y hy => (nil_args args_i y hy).2) (read_nil o.block) ?_
    simp -dsimp -implicitDefEqProofs only [↓j0, ↓j1, ↓j10, j17, j18, j19, j20, j21, j22, j23, ↓j25, ↓j27, ↓j29, ↓j39, ↓j44, ↓j57, ↓j78, j85, ↓j145, ↓j146, ↓j153, AV.proj, AV.offOf, AV.upd, AV.size, AV.layable, j163, j164, j170, j171, reduceCtorEq, ↓reduceIte, Nat.reduceEqDiff, j182, j240, j243, j280]
    exact fin 4 _ _ _ (by simp [noneP, k0]) rfl rfl rfl
  by_cases k1 : o.kind = 1
  · simp -dsimp -implicitDefEqProofs only [↓j0, ↓j1, ↓j4, ↓j7, ↓j8, ↓j12, ↓j13, ↓j14, ↓j15, j17, j18, j20, j24, ↓j25, ↓j27, ↓j29, ↓j30, j33, ↓j38, ↓j39, ↓j41, ↓j42, ↓j43, ↓j45, ↓j48, ↓j53, ↓j54, ↓j76, ↓j79, ↓j89, ↓j124, j125, j127, j130, ↓j145, ↓j146, ↓j147, ↓j148, ↓j149, ↓j153, j157, partsAV, AV.proj, AV.offOf, AV.size, AV.sizeL, AV.layable, argEnv, j163, j164, j166, j167, j170, j171, j172, j174, reduceCtorEq, ↓reduceIte, Nat.reduceAdd, Nat.reduceEqDiff, j182, j185, j196, j197, j214, j218, j219, Int.reduceBEq, j250, j255, j296, j299, j302, j441, j466, k1]
    refine CallTo.pure (args := [.int .u8 (o.byte : Nat)]) rfl fok11 (by simp -dsimp -implicitDefEqProofs only [↓j25, ↓j29, j173, j174, ↓reduceIte]) (fun x hx => (args_i x hx).2) (filled_spec o.byte hk.byte) ?_
    simp -dsimp -implicitDefEqProofs only [↓j4, j17, j18, j20, j24, ↓j53, j170, j171, j172, j174]
    refine CallTo.pure (args := [.nilptr, .int .i64 o.block, arrAV (filL o.byte 256)]) rfl fok10 (by simp -dsimp -implicitDefEqProofs only [↓j25, ↓j29, j173, j174, ↓reduceIte, Nat.reduceEqDiff]) (fun y hy => (nil_args args_pbx y hy).2) (write_nil o.block _ (filL_len _ _)) ?_
    simp -dsimp -implicitDefEqProofs only [↓j3, ↓j4, j17, j18, j19, j20, j21, j22, j23, j24, ↓j25, ↓j27, ↓j29, ↓j39, ↓j44, ↓j78, ↓j145, ↓j146, ↓j153, AV.proj, AV.offOf, AV.upd, AV.size, AV.layable, j170, j171, j172, j173, j174, reduceCtorEq, ↓reduceIte, Nat.reduceEqDiff, j182, j240, j243, j280]
    refine ⟨by kernel_rfl, ?_⟩
    exact fin 4 _ _ _ (by simp [noneP, k1]) rfl rfl rfl
  by_cases k2 : o.kind = 2
  · simp -dsimp -implicitDefEqProofs only [↓j0, ↓j1, ↓j7, ↓j12, ↓j13, ↓j14, ↓j15, j17, j18, j20, ↓j25, ↓j27, ↓j29, ↓j30, j33, ↓j38, ↓j39, ↓j41, ↓j42, ↓j43, ↓j45, ↓j48, ↓j53, ↓j54, ↓j76, ↓j79, ↓j89, ↓j124, j125, j127, j130, ↓j145, ↓j146, ↓j147, ↓j148, ↓j149, ↓j153, j157, partsAV, AV.proj, AV.offOf, AV.sizeL, AV.layable, argEnv, j163, j167, j170, j171, j172, reduceCtorEq, ↓reduceIte, Nat.reduceAdd, Nat.reduceEqDiff, j182, j185, j196, j197, j214, j218, j219, Int.reduceBEq, j250, j296, j441, j466, k2]
    refine CallTo.pure (args := [.nilptr]) rfl fok12 (by simp -dsimp -implicitDefEqProofs only [↓j25, ↓j29, j173, j174, ↓reduceIte]) (fun y hy => (nil_args no_args y hy).2) sync_nil ?_
    simp -dsimp -implicitDefEqProofs only [↓j0, ↓j1, ↓j10, j17, j18, j19, j20, j21, j22, j23, ↓j25, ↓j27, ↓j29, ↓j39, ↓j44, ↓j78, ↓j145, ↓j146, ↓j153, AV.proj, AV.offOf, AV.upd, AV.size, AV.layable, j170, j171, reduceCtorEq, ↓reduceIte, Nat.reduceEqDiff, j182, j240, j243, j280]
    exact fin 4 _ _ _ (by simp [noneP, k2]) rfl rfl rfl
  by_cases k3 : o.kind = 3
  · have hfl3 := hk.flen k3
    have hu := unif_ints o.fails
    have hu0 : Unif 1 [] := fun x hx => by simp at hx
    have hT : List.take o.fails.length (o.fails.map (AV.int .i64)) = o.fails.map (.int .i64) := List.take_of_length_le (by simp)
    simp -dsimp -implicitDefEqProofs only [↓j0, ↓j1, ↓j4, ↓j7, ↓j8, ↓j12, ↓j13, ↓j14, ↓j15, j17, j18, j20, j24, ↓j25, ↓j27, ↓j29, ↓j30, j33, ↓j38, ↓j39, ↓j41, ↓j42, ↓j43, ↓j45, ↓j48, ↓j51, ↓j74, ↓j76, ↓j79, ↓j89, j125, j127, j130, j133, ↓j145, ↓j146, ↓j147, ↓j148, ↓j149, ↓j153, j157, partsAV, AV.proj, AV.offOf, AV.size, AV.sizeL, AV.layable, argEnv, j163, j164, j166, j167, j170, j171, j172, j173, j174, reduceCtorEq, ↓reduceIte, Nat.reduceAdd, Nat.reduceEqDiff, j182, j185, j196, j197, j214, j218, j219, j226, Nat.reducePow, List.replicate, Int.reduceBEq, j234, j250, j290, j296, j305, j441, j470, k3]
    refine DoAppend_of rfl rfl at41 ?_
    simp -dsimp -implicitDefEqProofs only [↓j27, ↓j101, ↓j102, ↓j104, ↓j146, ↓j153, ↓reduceIte, Nat.reduceEqDiff, j182, j184, j188, j189, j196, j197, j214, j222, j223, j231, j234, hu, hu0, hT]
    refine ⟨⟨by omega, by omega⟩, ?_⟩
    simp -dsimp -implicitDefEqProofs only [↓j4, j17, j18, j20, j21, j22, j23, j24, ↓j25, ↓j27, ↓j29, ↓j43, ↓j45, ↓j53, ↓j76, ↓j79, j130, ↓j145, ↓j146, ↓j153, AV.proj, AV.offOf, AV.size, AV.sizeL, j163, j164, j166, j167, j170, j171, j172, j173, j174, reduceCtorEq, ↓reduceIte, Nat.reduceAdd, Nat.reduceEqDiff, j182, j196, j197, j222, j228, j229, j250, j299, hT]
    have hfz := Frz.sl (K := fun n => Heap.get ([] : Heap) n ≠ none) (H := [(3, .cells (.agg (o.fails.map (.int .i64))))]) 3 0 [] 0 o.fails.length o.fails.length 1 _ (o.fails.map (.int .i64)) rfl (fun h => h rfl) rfl rfl (by simp) hu (fun x hx => AV.onL_iff.1 (on_ints _ o.fails) x (List.mem_of_mem_drop (List.mem_of_mem_take hx)))
    rw [List.drop_zero, hT] at hfz
    refine CallTo.lend (args := [.nilptr, intsAV o.fails, .int .i64 o.block]) (args' := [.nilptr, .sl 3 0 [] 0 o.fails.length o.fails.length 1, .int .i64 o.block]) [(3, .cells (.agg (o.fails.map (.int .i64))))] [] rfl fok19 (by simp -dsimp -implicitDefEqProofs only [↓j25, ↓j29, j173, j174, ↓reduceIte, Nat.reduceEqDiff]) (fun x hx vs h => ?_) (plan_nil _ _) (SubH.of ⟨rfl, trivial⟩) ⟨.same _ trivial, hfz, .same _ trivial, trivial⟩ (fun n b h => by simp [Heap.get] at h) ?_
    · subst h; simp at hx
    simp -dsimp -implicitDefEqProofs only [↓j3, j17, j18, j20, j21, j22, j23, j24, j170, j171, j172, j173, j174, reduceCtorEq, ↓reduceIte, Nat.reduceEqDiff]
    refine ⟨by kernel_rfl, ?_⟩
    simp -dsimp -implicitDefEqProofs only [↓j0, ↓j1, ↓j7, ↓j10, ↓j12, ↓j15, j17, j18, j19, j20, j21, j22, j23, ↓j25, ↓j27, ↓j29, ↓j30, j33, ↓j39, ↓j44, ↓j54, ↓j78, ↓j124, j125, j127, ↓j145, ↓j146, ↓j153, partsAV, AV.proj, AV.offOf, AV.upd, AV.size, AV.layable, j170, j171, reduceCtorEq, ↓reduceIte, Nat.reduceEqDiff, j182, j214, j218, j219, j240, j243, j280, j466]
    exact fin 0 _ _ _ (by simp [noneP, k3]) rfl rfl rfl
  by_cases k4 : o.kind = 4
  · simp -dsimp -implicitDefEqProofs only [↓j0, ↓j1, ↓j7, ↓j12, ↓j13, ↓j14, ↓j15, j17, j18, j20, ↓j25, ↓j27, ↓j29, ↓j30, j33, ↓j38, ↓j39, ↓j41, ↓j42, ↓j43, ↓j45, ↓j48, ↓j53, ↓j76, ↓j79, ↓j89, j130, j133, ↓j145, ↓j146, ↓j147, ↓j148, ↓j149, ↓j153, j157, AV.proj, AV.offOf, AV.size, AV.sizeL, AV.layable, argEnv, j163, j164, j166, j167, j170, j171, j172, reduceCtorEq, ↓reduceIte, Nat.reduceAdd, Nat.reduceEqDiff, j182, j185, j196, j197, Int.reduceBEq, j250, j266, j296, j308, j441, k4]
    refine CallTo.pure (args := [boolsAV o.keep]) rfl fok15 (by simp -dsimp -implicitDefEqProofs only [↓j25, ↓j29, j173, j174, ↓reduceIte]) (fun y hy => (args_bl y hy).2) (copied_spec o.keep (hk.klen k4)) ?_
    simp -dsimp -implicitDefEqProofs only [↓j1, j17, j18, j20, ↓j53, j171]
    refine CallTo.pure (args := [.nilptr, boolsAV o.keep]) rfl fok14 (by simp -dsimp -implicitDefEqProofs only [↓j25, ↓j29, j173, j174, ↓reduceIte, Nat.reduceEqDiff]) (fun y hy => (nil_args args_bl y hy).2) (crash_nil _) ?_
    simp -dsimp -implicitDefEqProofs only [↓j0, ↓j1, ↓j7, ↓j10, ↓j12, ↓j15, j17, j18, j19, j20, j21, j22, j23, ↓j25, ↓j27, ↓j29, ↓j30, j33, ↓j39, ↓j44, ↓j54, ↓j78, ↓j124, j125, j127, ↓j145, ↓j146, ↓j153, partsAV, AV.proj, AV.offOf, AV.upd, AV.size, AV.layable, j170, j171, reduceCtorEq, ↓reduceIte, Nat.reduceEqDiff, j182, j214, j218, j219, j240, j243, j280, j466]
    exact fin 0 _ _ _ (by simp [noneP, k4]) rfl rfl rfl
  · have e0 : (o.kind == 0) = false := by simpa using k0
    have e1 : (o.kind == 1) = false := by simpa using k1
    have e2 : (o.kind == 2) = false := by simpa using k2
    have e3 : (o.kind == 3) = false := by simpa using k3
    have e4 : (o.kind == 4) = false := by simpa using k4
    simp -dsimp -implicitDefEqProofs only [↓j0, ↓j1, ↓j7, ↓j9, ↓j10, ↓j12, ↓j13, ↓j14, ↓j15, j17, j18, j19, j20, j21, j22, j23, ↓j25, ↓j27, ↓j29, ↓j30, j33, ↓j39, ↓j41, ↓j42, ↓j43, ↓j44, ↓j45, ↓j48, ↓j54, ↓j76, ↓j78, ↓j79, ↓j89, ↓j124, j125, j127, j130, ↓j145, ↓j146, ↓j148, ↓j149, ↓j153, j157, partsAV, AV.proj, AV.offOf, AV.upd, AV.size, AV.sizeL, AV.layable, argEnv, j163, j167, j170, j171, j172, reduceCtorEq, ↓reduceIte, Nat.reduceAdd, Nat.reduceEqDiff, j182, j185, j196, j197, j214, j218, j219, j240, j243, j250, j280, j296, j441, j466, e0, e1, e2, e3, e4]
    exact fin 0 _ _ _ (by simp [noneP, k0, k1, k2]) rfl rfl rfl
theorem diskNone_spec (o : DOp) (hk : o.Ok) : ACall Try.prog 8 [o.av] [] (.bool true) [] := by
  refine ACall.run (Z := Z) (N := 65) mixed hZ Try.func8 rfl rfl (by kernel_rfl) (by simp) args_o 0 ?_
  have hce := cellsEq_bytes (l := zb 256) (k := zb 256) rfl
  have hkb := kinds_bytes (zb_len 256)
  have hbb : (zb 256 == zb 256) = true := beq_self_eq_true _
  rw [hbb] at hce
  simp -dsimp -implicitDefEqProofs only [↓j0, ↓j1, ↓j7, ↓j12, ↓j15, j17, j18, j20, ↓j25, ↓j27, ↓j29, ↓j30, j32, j35, ↓j38, ↓j39, ↓j42, ↓j43, ↓j53, ↓j76, j129, ↓j145, ↓j146, ↓j153, AV.proj, AV.offOf, AV.size, AV.sizeL, AV.layable, argEnv, j171, j172, ↓reduceIte, Nat.reduceAdd, Nat.reduceEqDiff, j182, j196, j197, j293, j294]
  refine CallTo.pure (args := [.nilptr, o.av]) rfl fok22 (by simp -dsimp -implicitDefEqProofs only [↓j25, ↓j29, j173, j174, ↓reduceIte, Nat.reduceEqDiff]) (fun y hy => (nil_args args_o y hy).2) (do_nil o hk) ?_
  simp -dsimp -implicitDefEqProofs only [↓j0, ↓j1, ↓j2, ↓j7, ↓j12, ↓j15, j17, j18, j19, j20, j21, j22, j23, ↓j25, ↓j27, ↓j29, ↓j30, j33, ↓j38, ↓j39, ↓j41, ↓j43, ↓j44, ↓j45, ↓j48, ↓j57, ↓j76, ↓j78, ↓j79, j85, ↓j89, j130, ↓j145, ↓j146, ↓j150, ↓j153, j162, AV.proj, AV.offOf, AV.upd, AV.size, AV.sizeL, AV.layable, j163, j164, j167, j170, j171, j175, reduceCtorEq, ↓reduceIte, Nat.reduceAdd, Nat.reduceEqDiff, j182, j185, j197, j240, j243, j250, j280, j296, j441]
  have z0 : (((0 : Nat) : Int) == 0) = true := rfl
  refine ⟨fun h0 => ?_, fun h0 => ?_⟩
  · have h0' := of_decide_eq_true h0
    simp -dsimp -implicitDefEqProofs only [↓j1, ↓j2, j17, j18, j20, ↓j25, ↓j27, ↓j29, ↓j30, j32, j33, ↓j38, ↓j40, ↓j43, ↓j45, ↓j48, ↓j76, ↓j79, j83, ↓j89, j130, ↓j145, ↓j146, ↓j147, ↓j150, ↓j153, j159, AV.proj, AV.offOf, AV.sizeL, j163, j164, j167, j171, j175, reduceCtorEq, ↓reduceIte, Nat.reduceEqDiff, j182, j185, j197, j250, j296, h0]
    refine ⟨fun h3 => ?_, fun h3 => ?_⟩
    · have h3' := of_decide_eq_true h3
      have e4 : ((noneP o : Int) != 4) = false := by
        have : noneP o = 4 := by rw [noneP, if_pos (by omega)]
        rw [this]; rfl
      simp -dsimp -implicitDefEqProofs only [↓j0, ↓j1, ↓j2, ↓j7, ↓j9, ↓j12, ↓j13, ↓j15, j17, j18, j20, ↓j25, ↓j27, ↓j29, ↓j30, j32, j33, ↓j38, ↓j40, ↓j43, ↓j48, ↓j53, ↓j54, ↓j76, j83, ↓j89, ↓j91, ↓j124, j125, j127, j129, ↓j145, ↓j146, ↓j147, ↓j148, ↓j149, ↓j150, ↓j153, j158, partsAV, AV.proj, AV.offOf, AV.layable, j163, j164, j171, j175, ↓reduceIte, Nat.reduceEqDiff, j182, j185, j195, j211, j214, j218, j219, j240, j241, j243, j280, j281, j283, j284, j466, h3, e4, hce, hkb]
      refine CallTo.pure (args := [.nilptr]) rfl fok21 (by simp -dsimp -implicitDefEqProofs only [↓j25, ↓j29, j173, j174, ↓reduceIte]) (fun y hy => (nil_args no_args y hy).2) down_nil ?_
      simp -dsimp -implicitDefEqProofs only [↓j1, ↓j2, j17, j18, j20, ↓j25, ↓j29, ↓j30, j32, ↓j38, ↓j40, ↓j53, j83, ↓j145, ↓j147, ↓j150, j163, j164, j171, j175, ↓reduceIte, Nat.reduceEqDiff]
      refine CallTo.pure (args := [.nilptr]) rfl fok29 (by simp -dsimp -implicitDefEqProofs only [↓j25, ↓j29, j173, j174, ↓reduceIte]) (fun y hy => (nil_args no_args y hy).2) size_nil ?_
      simp -dsimp -implicitDefEqProofs only [↓j1, ↓j2, j17, j18, j20, ↓j25, ↓j29, ↓j30, j32, j33, ↓j38, ↓j40, ↓j48, ↓j53, j83, ↓j89, ↓j145, ↓j146, ↓j147, ↓j150, j157, j163, j164, j171, j175, ↓reduceIte, Nat.reduceEqDiff, j185, Int.reduceBEq]
      refine CallTo.pure (args := [.nilptr]) rfl fok20 (by simp -dsimp -implicitDefEqProofs only [↓j25, ↓j29, j173, j174, ↓reduceIte]) (fun y hy => (nil_args no_args y hy).2) ops_nil ?_
      simp -dsimp -implicitDefEqProofs only [↓j1, ↓j2, j17, j18, j20, ↓j25, ↓j29, ↓j30, j32, j33, ↓j38, ↓j40, ↓j48, ↓j53, j83, ↓j89, ↓j145, ↓j146, ↓j147, ↓j150, j157, j163, j164, j171, j175, ↓reduceIte, Nat.reduceEqDiff, j185, Int.reduceBEq]
      refine CallTo.pure (args := [.nilptr]) rfl fok17 (by simp -dsimp -implicitDefEqProofs only [↓j25, ↓j29, j173, j174, ↓reduceIte]) (fun y hy => (nil_args no_args y hy).2) pending_nil ?_
      simp -dsimp -implicitDefEqProofs only [↓j1, ↓j2, j17, j18, j20, ↓j25, ↓j27, ↓j29, ↓j30, j32, j33, ↓j38, ↓j40, ↓j43, ↓j45, ↓j48, ↓j53, ↓j76, ↓j79, j83, ↓j89, j130, ↓j145, ↓j146, ↓j147, ↓j150, ↓j153, j157, AV.proj, AV.offOf, AV.size, AV.sizeL, j163, j164, j166, j167, j171, j175, reduceCtorEq, ↓reduceIte, Nat.reduceEqDiff, j182, j185, j196, j197, Int.reduceBEq, j250, j299]
      refine CallTo.pure (args := [.nilptr, .int .i64 o.block]) rfl fok13 (by simp -dsimp -implicitDefEqProofs only [↓j25, ↓j29, j173, j174, ↓reduceIte, Nat.reduceEqDiff]) (fun y hy => (nil_args args_i y hy).2) (seen_nil o.block) ?_
      simp -dsimp -implicitDefEqProofs only [↓j1, ↓j2, j17, j18, j20, ↓j25, ↓j27, ↓j29, ↓j30, j32, ↓j38, ↓j40, ↓j43, ↓j45, ↓j48, ↓j53, ↓j54, ↓j76, ↓j79, j83, ↓j91, ↓j124, j125, j127, j130, ↓j145, ↓j146, ↓j147, ↓j150, ↓j153, partsAV, AV.proj, AV.offOf, AV.size, AV.sizeL, AV.layable, j163, j164, j166, j167, j171, j175, reduceCtorEq, ↓reduceIte, Nat.reduceEqDiff, j182, j195, j196, j197, j211, j214, j218, j219, j241, j250, j281, j283, j284, j299, j466, hce, hkb]
      refine CallTo.pure (args := [.nilptr, .int .i64 o.block]) rfl fok16 (by simp -dsimp -implicitDefEqProofs only [↓j25, ↓j29, j173, j174, ↓reduceIte, Nat.reduceEqDiff]) (fun y hy => (nil_args args_i y hy).2) (sure_nil o.block) ?_
      simp -dsimp -implicitDefEqProofs only [↓j1, ↓j2, j17, j18, j20, ↓j25, ↓j29, ↓j30, j32, ↓j38, ↓j40, ↓j48, ↓j53, ↓j54, j83, ↓j91, ↓j124, j125, j127, ↓j145, ↓j146, ↓j147, ↓j150, partsAV, AV.layable, j163, j164, j171, j175, ↓reduceIte, Nat.reduceEqDiff, j182, j195, j211, j214, j218, j219, j241, j281, j283, j284, j466, hce, hkb]
      refine CallTo.pure (args := []) rfl fok18 (by simp -dsimp -implicitDefEqProofs only [j174]) (fun y hy => (no_args y hy).2) awake_spec ?_
      simp -dsimp -implicitDefEqProofs only [↓j0, ↓j1, ↓j10, j17, j18, j20, ↓j25, ↓j29, ↓j30, j32, ↓j39, ↓j40, j83, ↓j145, j171, ↓reduceIte, Nat.reduceEqDiff]
      exact Final.one (.inr rfl) (r := .tmp 2) rfl ⟨rfl, fun vs h => by cases h⟩ (fun vs h => by cases h) (fun vs h => by cases h) (.same _ trivial)
    · simp -dsimp -implicitDefEqProofs only [↓j0, ↓j1, ↓j2, ↓j7, ↓j9, ↓j12, ↓j13, ↓j15, j17, j18, j20, ↓j25, ↓j27, ↓j29, ↓j30, j32, ↓j38, ↓j40, ↓j43, ↓j48, ↓j53, ↓j54, ↓j76, j82, ↓j91, ↓j124, j125, j127, j129, ↓j145, ↓j146, ↓j147, ↓j148, ↓j149, ↓j150, ↓j153, partsAV, AV.proj, AV.offOf, AV.layable, j163, j164, j171, j175, ↓reduceIte, Nat.reduceEqDiff, j182, j195, j211, j214, j218, j219, j240, j241, j243, j280, j281, j283, j284, j466, h3, hce, hkb]
      refine CallTo.pure (args := [.nilptr]) rfl fok21 (by simp -dsimp -implicitDefEqProofs only [↓j25, ↓j29, j173, j174, ↓reduceIte]) (fun y hy => (nil_args no_args y hy).2) down_nil ?_
      simp -dsimp -implicitDefEqProofs only [↓j1, ↓j2, j17, j18, j20, ↓j25, ↓j29, ↓j30, j32, ↓j38, ↓j40, ↓j53, j83, ↓j145, ↓j147, ↓j150, j163, j164, j171, j175, ↓reduceIte, Nat.reduceEqDiff]
      refine CallTo.pure (args := [.nilptr]) rfl fok29 (by simp -dsimp -implicitDefEqProofs only [↓j25, ↓j29, j173, j174, ↓reduceIte]) (fun y hy => (nil_args no_args y hy).2) size_nil ?_
      simp -dsimp -implicitDefEqProofs only [↓j1, ↓j2, j17, j18, j20, ↓j25, ↓j29, ↓j30, j32, j33, ↓j38, ↓j40, ↓j48, ↓j53, j83, ↓j89, ↓j145, ↓j146, ↓j147, ↓j150, j157, j163, j164, j171, j175, ↓reduceIte, Nat.reduceEqDiff, j185, Int.reduceBEq]
      refine CallTo.pure (args := [.nilptr]) rfl fok20 (by simp -dsimp -implicitDefEqProofs only [↓j25, ↓j29, j173, j174, ↓reduceIte]) (fun y hy => (nil_args no_args y hy).2) ops_nil ?_
      simp -dsimp -implicitDefEqProofs only [↓j1, ↓j2, j17, j18, j20, ↓j25, ↓j29, ↓j30, j32, j33, ↓j38, ↓j40, ↓j48, ↓j53, j83, ↓j89, ↓j145, ↓j146, ↓j147, ↓j150, j157, j163, j164, j171, j175, ↓reduceIte, Nat.reduceEqDiff, j185, Int.reduceBEq]
      refine CallTo.pure (args := [.nilptr]) rfl fok17 (by simp -dsimp -implicitDefEqProofs only [↓j25, ↓j29, j173, j174, ↓reduceIte]) (fun y hy => (nil_args no_args y hy).2) pending_nil ?_
      simp -dsimp -implicitDefEqProofs only [↓j1, ↓j2, j17, j18, j20, ↓j25, ↓j27, ↓j29, ↓j30, j32, j33, ↓j38, ↓j40, ↓j43, ↓j45, ↓j48, ↓j53, ↓j76, ↓j79, j83, ↓j89, j130, ↓j145, ↓j146, ↓j147, ↓j150, ↓j153, j157, AV.proj, AV.offOf, AV.size, AV.sizeL, j163, j164, j166, j167, j171, j175, reduceCtorEq, ↓reduceIte, Nat.reduceEqDiff, j182, j185, j196, j197, Int.reduceBEq, j250, j299]
      refine CallTo.pure (args := [.nilptr, .int .i64 o.block]) rfl fok13 (by simp -dsimp -implicitDefEqProofs only [↓j25, ↓j29, j173, j174, ↓reduceIte, Nat.reduceEqDiff]) (fun y hy => (nil_args args_i y hy).2) (seen_nil o.block) ?_
      simp -dsimp -implicitDefEqProofs only [↓j1, ↓j2, j17, j18, j20, ↓j25, ↓j27, ↓j29, ↓j30, j32, ↓j38, ↓j40, ↓j43, ↓j45, ↓j48, ↓j53, ↓j54, ↓j76, ↓j79, j83, ↓j91, ↓j124, j125, j127, j130, ↓j145, ↓j146, ↓j147, ↓j150, ↓j153, partsAV, AV.proj, AV.offOf, AV.size, AV.sizeL, AV.layable, j163, j164, j166, j167, j171, j175, reduceCtorEq, ↓reduceIte, Nat.reduceEqDiff, j182, j195, j196, j197, j211, j214, j218, j219, j241, j250, j281, j283, j284, j299, j466, hce, hkb]
      refine CallTo.pure (args := [.nilptr, .int .i64 o.block]) rfl fok16 (by simp -dsimp -implicitDefEqProofs only [↓j25, ↓j29, j173, j174, ↓reduceIte, Nat.reduceEqDiff]) (fun y hy => (nil_args args_i y hy).2) (sure_nil o.block) ?_
      simp -dsimp -implicitDefEqProofs only [↓j1, ↓j2, j17, j18, j20, ↓j25, ↓j29, ↓j30, j32, ↓j38, ↓j40, ↓j48, ↓j53, ↓j54, j83, ↓j91, ↓j124, j125, j127, ↓j145, ↓j146, ↓j147, ↓j150, partsAV, AV.layable, j163, j164, j171, j175, ↓reduceIte, Nat.reduceEqDiff, j182, j195, j211, j214, j218, j219, j241, j281, j283, j284, j466, hce, hkb]
      refine CallTo.pure (args := []) rfl fok18 (by simp -dsimp -implicitDefEqProofs only [j174]) (fun y hy => (no_args y hy).2) awake_spec ?_
      simp -dsimp -implicitDefEqProofs only [↓j0, ↓j1, ↓j10, j17, j18, j20, ↓j25, ↓j29, ↓j30, j32, ↓j39, ↓j40, j83, ↓j145, j171, ↓reduceIte, Nat.reduceEqDiff]
      exact Final.one (.inr rfl) (r := .tmp 2) rfl ⟨rfl, fun vs h => by cases h⟩ (fun vs h => by cases h) (fun vs h => by cases h) (.same _ trivial)
  · simp -dsimp -implicitDefEqProofs only [↓j0, ↓j1, ↓j2, ↓j7, ↓j9, ↓j12, ↓j13, ↓j15, j17, j18, j20, ↓j25, ↓j27, ↓j29, ↓j30, j32, ↓j38, ↓j40, ↓j43, ↓j48, ↓j53, ↓j54, ↓j76, j82, ↓j91, ↓j124, j125, j127, j129, ↓j145, ↓j146, ↓j147, ↓j148, ↓j149, ↓j150, ↓j153, partsAV, AV.proj, AV.offOf, AV.layable, j163, j164, j171, j175, ↓reduceIte, Nat.reduceEqDiff, j182, j195, j211, j214, j218, j219, j240, j241, j243, j280, j281, j283, j284, j466, h0, hce, hkb]
    refine CallTo.pure (args := [.nilptr]) rfl fok21 (by simp -dsimp -implicitDefEqProofs only [↓j25, ↓j29, j173, j174, ↓reduceIte]) (fun y hy => (nil_args no_args y hy).2) down_nil ?_
    simp -dsimp -implicitDefEqProofs only [↓j1, ↓j2, j17, j18, j20, ↓j25, ↓j29, ↓j30, j32, ↓j38, ↓j40, ↓j53, j83, ↓j145, ↓j147, ↓j150, j163, j164, j171, j175, ↓reduceIte, Nat.reduceEqDiff]
    refine CallTo.pure (args := [.nilptr]) rfl fok29 (by simp -dsimp -implicitDefEqProofs only [↓j25, ↓j29, j173, j174, ↓reduceIte]) (fun y hy => (nil_args no_args y hy).2) size_nil ?_
    simp -dsimp -implicitDefEqProofs only [↓j1, ↓j2, j17, j18, j20, ↓j25, ↓j29, ↓j30, j32, j33, ↓j38, ↓j40, ↓j48, ↓j53, j83, ↓j89, ↓j145, ↓j146, ↓j147, ↓j150, j157, j163, j164, j171, j175, ↓reduceIte, Nat.reduceEqDiff, j185, Int.reduceBEq]
    refine CallTo.pure (args := [.nilptr]) rfl fok20 (by simp -dsimp -implicitDefEqProofs only [↓j25, ↓j29, j173, j174, ↓reduceIte]) (fun y hy => (nil_args no_args y hy).2) ops_nil ?_
    simp -dsimp -implicitDefEqProofs only [↓j1, ↓j2, j17, j18, j20, ↓j25, ↓j29, ↓j30, j32, j33, ↓j38, ↓j40, ↓j48, ↓j53, j83, ↓j89, ↓j145, ↓j146, ↓j147, ↓j150, j157, j163, j164, j171, j175, ↓reduceIte, Nat.reduceEqDiff, j185, Int.reduceBEq]
    refine CallTo.pure (args := [.nilptr]) rfl fok17 (by simp -dsimp -implicitDefEqProofs only [↓j25, ↓j29, j173, j174, ↓reduceIte]) (fun y hy => (nil_args no_args y hy).2) pending_nil ?_
    simp -dsimp -implicitDefEqProofs only [↓j1, ↓j2, j17, j18, j20, ↓j25, ↓j27, ↓j29, ↓j30, j32, j33, ↓j38, ↓j40, ↓j43, ↓j45, ↓j48, ↓j53, ↓j76, ↓j79, j83, ↓j89, j130, ↓j145, ↓j146, ↓j147, ↓j150, ↓j153, j157, AV.proj, AV.offOf, AV.size, AV.sizeL, j163, j164, j166, j167, j171, j175, reduceCtorEq, ↓reduceIte, Nat.reduceEqDiff, j182, j185, j196, j197, Int.reduceBEq, j250, j299]
    refine CallTo.pure (args := [.nilptr, .int .i64 o.block]) rfl fok13 (by simp -dsimp -implicitDefEqProofs only [↓j25, ↓j29, j173, j174, ↓reduceIte, Nat.reduceEqDiff]) (fun y hy => (nil_args args_i y hy).2) (seen_nil o.block) ?_
    simp -dsimp -implicitDefEqProofs only [↓j1, ↓j2, j17, j18, j20, ↓j25, ↓j27, ↓j29, ↓j30, j32, ↓j38, ↓j40, ↓j43, ↓j45, ↓j48, ↓j53, ↓j54, ↓j76, ↓j79, j83, ↓j91, ↓j124, j125, j127, j130, ↓j145, ↓j146, ↓j147, ↓j150, ↓j153, partsAV, AV.proj, AV.offOf, AV.size, AV.sizeL, AV.layable, j163, j164, j166, j167, j171, j175, reduceCtorEq, ↓reduceIte, Nat.reduceEqDiff, j182, j195, j196, j197, j211, j214, j218, j219, j241, j250, j281, j283, j284, j299, j466, hce, hkb]
    refine CallTo.pure (args := [.nilptr, .int .i64 o.block]) rfl fok16 (by simp -dsimp -implicitDefEqProofs only [↓j25, ↓j29, j173, j174, ↓reduceIte, Nat.reduceEqDiff]) (fun y hy => (nil_args args_i y hy).2) (sure_nil o.block) ?_
    simp -dsimp -implicitDefEqProofs only [↓j1, ↓j2, j17, j18, j20, ↓j25, ↓j29, ↓j30, j32, ↓j38, ↓j40, ↓j48, ↓j53, ↓j54, j83, ↓j91, ↓j124, j125, j127, ↓j145, ↓j146, ↓j147, ↓j150, partsAV, AV.layable, j163, j164, j171, j175, ↓reduceIte, Nat.reduceEqDiff, j182, j195, j211, j214, j218, j219, j241, j281, j283, j284, j466, hce, hkb]
    refine CallTo.pure (args := []) rfl fok18 (by simp -dsimp -implicitDefEqProofs only [j174]) (fun y hy => (no_args y hy).2) awake_spec ?_
    simp -dsimp -implicitDefEqProofs only [↓j0, ↓j1, ↓j10, j17, j18, j20, ↓j25, ↓j29, ↓j30, j32, ↓j39, ↓j40, j83, ↓j145, j171, ↓reduceIte, Nat.reduceEqDiff]
    exact Final.one (.inr rfl) (r := .tmp 2) rfl ⟨rfl, fun vs h => by cases h⟩ (fun vs h => by cases h) (fun vs h => by cases h) (.same _ trivial)
end Go.Proofs.Ytpnjllemklindaa
