/- A room that isn't there. -/
import Derived.Test.YtlagoaggllhggaaB3
set_option linter.unusedVariables false
set_option linter.unusedSimpArgs false
namespace Go.Proofs.Ytlagoaggllhggaa
open Go Go.RowKit

theorem fok8 : fnOk Try.prog 8 = true := by kernel_rfl
theorem fok9 : fnOk Try.prog 9 = true := by kernel_rfl
theorem fok14 : fnOk Try.prog 14 = true := by kernel_rfl
theorem fok15 : fnOk Try.prog 15 = true := by kernel_rfl
theorem argsN {no lsn : Int} {xs : List Old} : ∀ x, x ∈ [AV.int .i64 no, undoAV lsn xs] → AV.on (fun _ => False) x ∧ ∀ vs, x ≠ .tuple vs := fun x hx => by
  simp only [List.mem_cons, List.not_mem_nil, or_false] at hx
  rcases hx with rfl | rfl
  · exact ⟨trivial, fun vs h => by cases h⟩
  · exact ⟨on_undo _ _ _, fun vs h => by cases h⟩
theorem note_nil (no lsn : Int) (xs : List Old) : ACall Try.prog 8 [.nilptr, .int .i64 no, undoAV lsn xs] [] (.tuple []) [] := by
  refine ACall.run (Z := Z) (N := 21) mixed hZ Try.func8 rfl rfl (by kernel_rfl) (by simp) (nil_args argsN) 0 ?_
  simp -dsimp -implicitDefEqProofs only [↓j0, ↓j1, ↓j7, ↓j12, ↓j15, j17, j18, j20, ↓j25, ↓j29, ↓j38, ↓j42, ↓j53, ↓j145, ↓j146, AV.layable, argEnv, j171, j172, reduceCtorEq, ↓reduceIte, Nat.reduceAdd, Nat.reduceEqDiff, j196]
  refine CallTo.pure (args := [.nilptr, .int .i64 no]) rfl fok22 (by simp -dsimp -implicitDefEqProofs only [↓j25, ↓j29, j173, j174, ↓reduceIte, Nat.reduceEqDiff]) (notup (fun vs h => by cases h) fun vs h => by cases h) (has_nil no) ?_
  simp -dsimp -implicitDefEqProofs only [↓j0, ↓j9, ↓j13, j17, j18, j20, ↓j25, ↓j29, ↓j145, ↓j148, ↓j149, j171, ↓reduceIte]
  exact Final.many (.inl rfl) (rs := []) (us := []) rfl trivial (by simp) trivial
theorem refs_nil : ACall Try.prog 15 [.nilptr] [] (.vsl [] 0) [] := by
  refine ACall.run (Z := Z) (N := 42) mixed hZ Try.func15 rfl rfl (by kernel_rfl) (by simp) (nil_args ptr_arg) 0 ?_
  simp -dsimp -implicitDefEqProofs only [↓j0, ↓j1, ↓j7, ↓j9, ↓j10, ↓j12, ↓j13, ↓j15, j17, j18, j20, ↓j25, ↓j29, ↓j30, j35, j36, ↓j38, ↓j39, ↓j48, ↓j145, ↓j146, ↓j148, ↓j149, argEnv, j172, reduceCtorEq, ↓reduceIte, Nat.reduceEqDiff, j193, j212, ↓j236, j266]
  exact Final.one (.inr rfl) (r := .tmp 2) rfl ⟨rfl, fun vs h => by cases h⟩ (fun vs h => by cases h) (fun vs h => by cases h) .nil
theorem page_nil (no : Int) : ACall Try.prog 14 [.nilptr, .int .i64 no] [] (undoAV 0 []) [] := by
  refine ACall.run (Z := Z) (N := 28) mixed hZ Try.func14 rfl rfl (by kernel_rfl) (by simp) (nil_args int_arg) 0 ?_
  simp -dsimp -implicitDefEqProofs only [↓j0, ↓j1, ↓j7, ↓j12, ↓j15, j17, j18, j20, ↓j25, ↓j29, ↓j38, ↓j41, ↓j53, ↓j145, argEnv, j171, j172, reduceCtorEq, ↓reduceIte, Nat.reduceEqDiff, j196, j374]
  refine CallTo.pure (args := [.nilptr, .int .i64 no]) rfl fok22 (by simp -dsimp -implicitDefEqProofs only [↓j25, ↓j29, j173, j174, ↓reduceIte, Nat.reduceEqDiff]) (notup (fun vs h => by cases h) fun vs h => by cases h) (has_nil no) ?_
  simp -dsimp -implicitDefEqProofs only [↓j0, ↓j1, ↓j7, ↓j10, ↓j12, ↓j13, ↓j15, j17, j18, j19, j20, j21, j22, j23, ↓j25, ↓j27, ↓j29, ↓j44, ↓j54, ↓j55, ↓j78, j84, ↓j124, j125, j127, ↓j145, ↓j146, ↓j147, ↓j149, ↓j153, partsAV, AV.proj, AV.offOf, AV.upd, AV.size, AV.sizeL, AV.layable, j171, j172, ↓reduceIte, Nat.reduceAdd, Nat.reduceEqDiff, j182, j194, j197, j214, j218, j219, j289, j394]
  exact Final.one (.inr rfl) (r := .cell 4 33) rfl ⟨0, 0, [], _, rfl, rfl, rfl, rfl, by simp -dsimp -implicitDefEqProofs only [j129, AV.size, AV.sizeL, Nat.reduceAdd, j182, j197, j289, j290]⟩ (fun vs h => by cases h) (fun vs h => by cases h) (.same _ ⟨trivial, trivial, trivial⟩)

theorem roomNone_spec (no lsn : Int) (xs : List Old) (hl : xs.length ≤ 9223372036854775807) : ACall Try.prog 4 [.int .i64 no, undoAV lsn xs] [] (.bool true) [] := by
  refine ACall.run (Z := Z) (N := 52) mixed hZ Try.func4 rfl rfl (by kernel_rfl) (by simp) argsN 0 ?_
  have ret : ∀ (t : Env) (H : Heap) (m : Nat), look t 4 = some (.bool true) → Final Try.prog Try.f4 (.bool true) [] .ret ⟨52, t, H, m⟩ := fun t H m h =>
    Final.one (.inr rfl) (r := .tmp 4) rfl ⟨h, fun vs h => by cases h⟩ (fun vs h => by cases h) (fun vs h => by cases h) (.same _ trivial)
  have nil0 : ∀ x : AV, x ∈ ([] : List AV) → ∀ vs, x ≠ .tuple vs := fun x hx => by simp at hx
  simp -dsimp -implicitDefEqProofs only [↓j0, ↓j1, ↓j7, ↓j12, ↓j13, ↓j15, j17, j18, j20, ↓j25, ↓j27, ↓j29, ↓j30, j32, j33, j35, ↓j39, ↓j42, ↓j43, ↓j45, ↓j48, ↓j58, ↓j62, ↓j76, ↓j79, ↓j89, j133, j142, ↓j145, ↓j146, ↓j149, ↓j153, j161, AV.proj, AV.offOf, AV.size, AV.sizeL, AV.layable, argEnv, j163, j164, j166, j167, j171, j172, reduceCtorEq, ↓reduceIte, Nat.reduceEqDiff, j182, j185, j196, j197, j286, j295, j416]
  refine ⟨fun h100 => ?_, fun h100 => ?_⟩
  · simp -dsimp -implicitDefEqProofs only [↓j1, ↓j7, ↓j12, ↓j15, ↓j53]
    refine CallTo.pure (args := []) rfl fok7 rfl nil0 awake_spec ?_
    simp -dsimp -implicitDefEqProofs only [↓j0, ↓j1, ↓j10, j17, j18, j20, ↓j25, ↓j29, ↓j39, ↓j145, j171, ↓reduceIte]
    exact ret _ _ _ rfl
  have h100' := of_decide_eq_false h100
  have z0 : (((0 : Nat) : Int) == 0) = true := rfl
  simp -dsimp -implicitDefEqProofs only [↓j1, ↓j7, ↓j9, ↓j12, ↓j15, j17, j18, j20, ↓j25, ↓j27, ↓j29, ↓j38, ↓j43, ↓j53, ↓j76, j129, ↓j145, ↓j146, ↓j153, AV.proj, AV.offOf, AV.size, AV.sizeL, j171, reduceCtorEq, ↓reduceIte, Nat.reduceAdd, Nat.reduceEqDiff, j182, j197, j289, j290]
  refine CallTo.pure (args := [undoAV lsn xs]) rfl fok9 (by simp -dsimp -implicitDefEqProofs only [↓j25, ↓j29, j173, j174, ↓reduceIte]) (fun x hx => (args1 x hx).2) (kept_spec lsn xs (by omega)) ?_
  simp -dsimp -implicitDefEqProofs only [↓j1, j17, j18, j20, ↓j53, j171]
  refine CallTo.pure (args := [.nilptr, .int .i64 no, undoAV lsn xs]) rfl fok8 (by simp -dsimp -implicitDefEqProofs only [↓j25, ↓j29, j173, j174, ↓reduceIte, Nat.reduceEqDiff]) (fun x hx => (nil_args argsN x hx).2) (note_nil no lsn xs) ?_
  simp -dsimp -implicitDefEqProofs only [↓j0, ↓j1, ↓j7, ↓j12, ↓j15, j17, j18, j20, ↓j25, ↓j29, ↓j38, ↓j53, ↓j145, j171, reduceCtorEq, ↓reduceIte, Nat.reduceEqDiff]
  refine CallTo.pure (args := [.nilptr, .int .i64 no]) rfl fok11' (by simp -dsimp -implicitDefEqProofs only [↓j25, ↓j29, j173, j174, ↓reduceIte, Nat.reduceEqDiff]) (fun x hx => (nil_args int_arg x hx).2) (find_nil no) ?_
  simp -dsimp -implicitDefEqProofs only [↓j0, ↓j1, ↓j2, ↓j7, ↓j12, ↓j15, j17, j18, j20, ↓j25, ↓j29, ↓j30, j32, j33, ↓j38, ↓j39, ↓j40, ↓j48, ↓j53, ↓j55, ↓j57, j83, j84, j85, ↓j89, ↓j145, ↓j146, ↓j147, ↓j150, j157, j163, j164, j171, j175, ↓reduceIte, Nat.reduceEqDiff, j185, j194, Int.reduceBEq]
  refine CallTo.pure (args := [.nilptr]) rfl fok17 (by simp -dsimp -implicitDefEqProofs only [↓j25, ↓j29, j173, j174, ↓reduceIte]) (fun x hx => (nil_args ptr_arg x hx).2) live_nil ?_
  simp -dsimp -implicitDefEqProofs only [↓j1, ↓j2, j17, j18, j20, ↓j25, ↓j29, ↓j30, j32, j33, ↓j38, ↓j40, ↓j48, ↓j53, j83, ↓j89, ↓j145, ↓j146, ↓j147, ↓j150, j157, j163, j164, j171, j175, ↓reduceIte, Nat.reduceEqDiff, j185, Int.reduceBEq]
  refine CallTo.pure (args := [.nilptr]) rfl fok15 (by simp -dsimp -implicitDefEqProofs only [↓j25, ↓j29, j173, j174, ↓reduceIte]) (fun x hx => (nil_args ptr_arg x hx).2) refs_nil ?_
  simp -dsimp -implicitDefEqProofs only [↓j1, ↓j2, j17, j18, j20, ↓j25, ↓j29, ↓j30, j32, j33, ↓j38, ↓j40, ↓j48, ↓j53, ↓j58, ↓j62, j83, ↓j89, j142, ↓j145, ↓j146, ↓j147, ↓j150, j157, j163, j164, j171, j175, reduceCtorEq, ↓reduceIte, Nat.reduceEqDiff, j185, j419, z0]
  refine CallTo.pure (args := [.nilptr, .int .i64 no]) rfl fok14 (by simp -dsimp -implicitDefEqProofs only [↓j25, ↓j29, j173, j174, ↓reduceIte, Nat.reduceEqDiff]) (fun x hx => (nil_args int_arg x hx).2) (page_nil no) ?_
  simp -dsimp -implicitDefEqProofs only [↓j1, ↓j2, j17, j18, j20, ↓j25, ↓j29, ↓j30, j32, j33, ↓j38, ↓j40, ↓j48, ↓j53, ↓j58, ↓j62, j83, ↓j89, j107, j133, j142, ↓j145, ↓j146, ↓j147, ↓j150, j157, AV.size, AV.sizeL, j163, j164, j166, j167, j171, j174, j175, ↓reduceIte, Nat.reduceEqDiff, j182, j185, j197, j231, ↓j237, j286, j294, j416, z0]
  refine CallTo.pure (args := []) rfl fok7 rfl nil0 awake_spec ?_
  simp -dsimp -implicitDefEqProofs only [↓j0, ↓j1, ↓j10, j17, j18, j20, ↓j25, ↓j29, ↓j30, j32, ↓j39, ↓j40, j83, ↓j145, j171, ↓reduceIte, Nat.reduceEqDiff]
  exact ret _ _ _ rfl
end Go.Proofs.Ytlagoaggllhggaa
