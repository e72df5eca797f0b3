/- The law ApplyRedo. -/
import Derived.Test.YtimdepgenefkmaaQ24
set_option maxRecDepth 8000
set_option linter.unusedVariables false
set_option linter.unusedSimpArgs false
namespace Go.Proofs.Ytimdepgenefkmaa
open Go Go.RowKit

theorem fok9 : fnOk Try.prog 9 = true := by kernel_rfl
set_option maxHeartbeats 3200000 in
theorem applyRedo_spec (uu : Bool) (no : Nat) (hno : no < 65536) (p : List UInt8) (hp : p.length = 224) (e : En) (he : e.Ok) : ACall Try.prog 3 [idAV uu no, arrAV p, e.av] [] (.bool true) [] := by
  refine ACall.run (Z := Z) (N := 36) mixed hZ Try.func3 rfl rfl (by kernel_rfl) (by simp) args_ipe 0 ?_
  have hz := zb_len 224
  have hi2 := he.rc.image
  have h1 := redo_spec uu no hno p hp e he
  have h2 := rredo_spec uu no hno p hp e he
  have hrl := redoP_len (uu := uu) (no := no) hp he
  obtain ⟨⟨q, f⟩, hq⟩ : ∃ x, redoP uu no p e = x := ⟨_, rfl⟩
  rw [hq] at h1 h2 hrl
  have hrl : q.length = 224 := hrl
  have hce := cellsEq_bytes (l := q) (k := q) rfl
  have hkb := kinds_bytes hrl
  simp only [beq_self_eq_true] at hce
  have hff : (f == f) = true := by rw [beq_iff_eq]
  simp -dsimp -implicitDefEqProofs only [↓j0, ↓j1, ↓j7, ↓j12, ↓j15, j17, j18, j20, ↓j25, ↓j27, ↓j29, ↓j30, j32, ↓j39, ↓j42, ↓j43, ↓j53, ↓j76, j129, ↓j145, ↓j146, ↓j153, AV.proj, AV.offOf, AV.size, AV.sizeL, AV.layable, argEnv, j170, j171, j172, reduceCtorEq, ↓reduceIte, Nat.reduceAdd, Nat.reduceEqDiff, j182, j196, j197, j240, j263, j264, j273, j274, j341, j342, hp, hi2]
  refine CallTo.pure (args := [idAV uu no, arrAV p, e.av]) rfl fok8 (by simp -dsimp -implicitDefEqProofs only [↓j25, ↓j29, j173, j174, ↓reduceIte, Nat.reduceEqDiff]) (fun x hx => (args_ipe x hx).2) h1 ?_
  simp -dsimp -implicitDefEqProofs only [↓j0, ↓j1, ↓j7, ↓j12, ↓j15, j17, j18, j19, j20, j21, j22, j23, ↓j25, ↓j27, ↓j29, ↓j38, ↓j39, ↓j41, ↓j43, ↓j44, ↓j53, ↓j57, ↓j76, ↓j78, j85, j129, ↓j145, ↓j146, ↓j153, AV.proj, AV.offOf, AV.upd, AV.size, AV.sizeL, AV.layable, j163, j164, j170, j171, reduceCtorEq, ↓reduceIte, Nat.reduceAdd, Nat.reduceEqDiff, j182, j197, j240, j263, j264, j273, j274, j341, j342, j419, hp, hz, hi2, hrl]
  refine CallTo.pure (args := [idAV uu no, arrAV p, e.av]) rfl fok9 (by simp -dsimp -implicitDefEqProofs only [↓j25, ↓j29, j173, j174, ↓reduceIte, Nat.reduceEqDiff]) (fun x hx => (args_ipe x hx).2) h2 ?_
  simp -dsimp -implicitDefEqProofs only [↓j0, ↓j1, ↓j7, ↓j12, ↓j15, j17, j18, j19, j20, j21, j22, j23, ↓j25, ↓j27, ↓j29, ↓j38, ↓j39, ↓j41, ↓j43, ↓j44, ↓j48, ↓j57, ↓j76, ↓j78, j85, ↓j91, j129, ↓j145, ↓j146, ↓j153, AV.proj, AV.offOf, AV.upd, AV.size, AV.layable, j163, j164, j170, j171, reduceCtorEq, ↓reduceIte, Nat.reduceAdd, Nat.reduceEqDiff, j182, j184, j211, j240, j241, j273, j274, j276, j277, j419, hz, hrl, hce]
  refine ⟨hkb, ?_⟩
  simp -dsimp -implicitDefEqProofs only [↓j1, ↓j2, j17, j18, j20, ↓j25, ↓j29, ↓j30, j32, ↓j38, ↓j40, ↓j48, ↓j53, j83, ↓j89, ↓j145, ↓j146, ↓j147, ↓j150, j157, j163, j164, j171, j175, ↓reduceIte, Nat.reduceEqDiff, j185, j195, hff]
  refine CallTo.pure (args := []) rfl fok10 (by simp -dsimp -implicitDefEqProofs only [j174]) (fun x hx => by cases hx) awake_spec ?_
  simp -dsimp -implicitDefEqProofs only [↓j0, ↓j1, ↓j10, j17, j18, j20, ↓j25, ↓j29, ↓j30, j32, ↓j39, ↓j40, j83, ↓j145, j171, ↓reduceIte, Nat.reduceEqDiff]
  exact Final.one (.inr rfl) (r := .tmp 6) rfl ⟨rfl, fun vs h => by cases h⟩ (fun vs h => by cases h) (fun vs h => by cases h) (.same _ trivial)
end Go.Proofs.Ytimdepgenefkmaa
