/- A page of one's own; where a slot goes. -/
import Derived.Test.YtlagoaggllhggaaA2
set_option linter.unusedVariables false
set_option linter.unusedSimpArgs false
namespace Go.Proofs.Ytlagoaggllhggaa
open Go Go.RowKit

theorem take_olds (xs : List Old) : (xs.map Old.av).take xs.length = xs.map Old.av := List.take_of_length_le (by simp)
abbrev ownAV (m : Nat) (lsn : Int) (xs : List Old) : AV := .agg [.int .u64 lsn, .sl m 0 [] 0 xs.length xs.length 6]
abbrev nilAV (lsn : Int) : AV := .agg [.int .u64 lsn, .nilsl]

theorem own_nil (lsn : Int) : ACall Try.prog 26 [undoAV lsn []] [] (nilAV lsn) [] := by
  refine ACall.run (Z := Z) (N := 8) mixed hZ Try.func26 rfl rfl (by kernel_rfl) (by simp) args1 0 ?_
  simp -dsimp -implicitDefEqProofs only [↓j0, ↓j1, ↓j7, ↓j12, ↓j15, j17, j18, j20, ↓j25, ↓j27, ↓j29, ↓j30, j36, ↓j41, ↓j42, ↓j43, ↓j45, ↓j51, ↓j76, ↓j79, j133, ↓j145, ↓j146, ↓j153, AV.proj, AV.offOf, AV.size, AV.sizeL, AV.layable, argEnv, j163, j164, j166, j167, j170, j171, j172, reduceCtorEq, ↓reduceIte, Nat.reduceAdd, Nat.reduceEqDiff, j182, j196, j197, j286, j295, j374]
  refine DoAppend_of rfl rfl at31 ?_
  have hu := unif_olds []
  simp only [List.map_nil] at hu
  simp -dsimp -implicitDefEqProofs only [↓j0, ↓j1, ↓j7, ↓j10, ↓j12, ↓j15, j17, j18, j19, j20, j21, j22, j23, ↓j25, ↓j27, ↓j29, ↓j43, ↓j44, ↓j45, ↓j76, ↓j78, ↓j79, ↓j100, ↓j104, j129, ↓j145, ↓j146, ↓j147, ↓j153, AV.proj, AV.offOf, AV.upd, AV.size, AV.sizeL, AV.layable, j163, j164, j166, j167, j168, j169, j170, j171, j174, reduceCtorEq, ↓reduceIte, Nat.reduceAdd, Nat.reduceEqDiff, j182, j196, j197, j223, j228, j231, j234, j285, j289, j290, j295, hu, Nat.zero_le, beq_self_eq_true]
  exact Final.one (.inr rfl) (r := .cell 2 33) rfl ⟨1, 0, [], _, rfl, rfl, rfl, rfl, by simp -dsimp -implicitDefEqProofs only [j129, AV.size, AV.sizeL, Nat.reduceAdd, j182, j197, j289, j290]⟩ (fun vs h => by cases h) (fun vs h => by cases h) (.same _ ⟨trivial, trivial, trivial⟩)

theorem own_cons (m : Nat) (lsn : Int) (xs : List Old) (hx : xs ≠ []) (hb : xs.length * 32 ≤ 140737488355328) : ACall Try.prog 26 [undoAV lsn xs] [] (ownAV (m + 2) lsn xs) [(m + 2, .cells (.agg (xs.map Old.av)))] := by
  refine ACall.run (Z := Z) (N := 8) mixed hZ Try.func26 rfl rfl (by kernel_rfl) (by simp) args1 m ?_
  simp -dsimp -implicitDefEqProofs only [↓j0, ↓j1, ↓j7, ↓j12, ↓j15, j17, j18, j20, ↓j25, ↓j27, ↓j29, ↓j30, j36, ↓j41, ↓j42, ↓j43, ↓j45, ↓j51, ↓j76, ↓j79, j133, ↓j145, ↓j146, ↓j153, AV.proj, AV.offOf, AV.size, AV.sizeL, AV.layable, argEnv, j163, j164, j166, j167, j170, j171, j172, reduceCtorEq, ↓reduceIte, Nat.reduceAdd, Nat.reduceEqDiff, j182, j196, j197, j221, j224, j286, j295, j374]
  refine DoAppend_of rfl rfl at31 ?_
  have hu := unif_olds xs
  have hl : xs.length ≤ 9223372036854775807 := by omega
  have hne : (xs.length == 0) = false := by
    cases xs with
    | nil => exact absurd rfl hx
    | cons _ _ => rfl
  simp -dsimp -implicitDefEqProofs only [↓j0, ↓j1, ↓j7, ↓j10, ↓j12, ↓j15, j17, j18, j19, j20, j21, j22, j23, ↓j25, ↓j27, ↓j29, ↓j43, ↓j44, ↓j45, ↓j76, ↓j78, ↓j79, ↓j100, ↓j104, j129, ↓j145, ↓j146, ↓j148, ↓j153, AV.proj, AV.offOf, AV.upd, AV.size, AV.sizeL, AV.layable, j163, j164, j166, j167, j168, j169, j170, j171, reduceCtorEq, ↓reduceIte, Nat.reduceAdd, Nat.reduceEqDiff, j182, j196, j197, j220, j221, j222, j223, j224, j285, j289, j290, j295, hu, take_olds, hb, hl, hne]
  exact Final.oneNew (.inr rfl) (r := .cell 2 33) rfl ⟨m + 1, 0, [], _, rfl, by simp -dsimp -implicitDefEqProofs only [↓j27, ↓reduceIte], rfl, rfl, by simp -dsimp -implicitDefEqProofs only [j129, AV.size, AV.sizeL, Nat.reduceAdd, j182, j197, j289, j290]⟩ (fun vs h => by cases h) (by simp -dsimp -implicitDefEqProofs only [↓j27, reduceCtorEq, ↓reduceIte, Nat.reduceEqDiff, j220]) ⟨trivial, rfl, trivial⟩ (on_olds _ xs)
end Go.Proofs.Ytlagoaggllhggaa
