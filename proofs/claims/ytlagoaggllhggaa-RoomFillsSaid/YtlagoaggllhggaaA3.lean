/- A page of one's own; where a slot goes. -/
import Derived.Test.YtlagoaggllhggaaA2
set_option linter.unusedVariables false
set_option linter.unusedSimpArgs false
namespace Go.Proofs.Ytlagoaggllhggaa
open Go Go.RowKit

theorem take_olds (xs : List Old) : (xs.map Old.av).take xs.length = xs.map Old.av := List.take_of_length_le (by simp)
abbrev ownAV (m : Nat) (lsn : Int) (xs : List Old) : AV := .agg [.int .u64 lsn, .sl m 0 [] 0 xs.length xs.length 6]
abbrev nilAV (lsn : Int) : AV := .agg [.int .u64 lsn, .nilsl]

theorem own_nil (lsn : Int) : ACall Try.prog 26 [undoAV lsn []] [] (nilAV lsn) [] := by
  refine ACall.run (Z := Z) (N := 8) mixed hZ Try.func26 rfl rfl (by kernel_rfl) (by simp) args1 0 ?_
  simp -dsimp -implicitDefEqProofs only [↓j0, ↓j1, ↓j7, ↓j12, ↓j15, j17, j18, j20, ↓j25, ↓j27, ↓j29, ↓j30, j36, ↓j41, ↓j42, ↓j43, ↓j45, ↓j51, ↓j63, ↓j66, j120, ↓j129, ↓j130, ↓j137, AV.proj, AV.offOf, AV.size, AV.sizeL, AV.layable, argEnv, j147, j148, j150, j151, j154, j155, j156, reduceCtorEq, ↓reduceIte, Nat.reduceAdd, Nat.reduceEqDiff, j166, j180, j181, j259, j268, j347]
  refine DoAppend_of rfl rfl at31 ?_
  have hu := unif_olds []
  simp only [List.map_nil] at hu
  simp -dsimp -implicitDefEqProofs only [↓j0, ↓j1, ↓j7, ↓j10, ↓j12, ↓j15, j17, j18, j19, j20, j21, j22, j23, ↓j25, ↓j27, ↓j29, ↓j43, ↓j44, ↓j45, ↓j63, ↓j65, ↓j66, ↓j87, ↓j91, j116, ↓j129, ↓j130, ↓j131, ↓j137, AV.proj, AV.offOf, AV.upd, AV.size, AV.sizeL, AV.layable, j147, j148, j150, j151, j152, j153, j154, j155, j158, reduceCtorEq, ↓reduceIte, Nat.reduceAdd, Nat.reduceEqDiff, j166, j180, j181, j207, j212, j215, j218, j258, j262, j263, j268, hu, Nat.zero_le, beq_self_eq_true]
  exact Final.one (.inr rfl) (r := .cell 2 33) rfl ⟨1, 0, [], _, rfl, rfl, rfl, rfl, by simp -dsimp -implicitDefEqProofs only [j116, AV.size, AV.sizeL, Nat.reduceAdd, j166, j181, j262, j263]⟩ (fun vs h => by cases h) (fun vs h => by cases h) (.same _ ⟨trivial, trivial, trivial⟩)

theorem own_cons (m : Nat) (lsn : Int) (xs : List Old) (hx : xs ≠ []) (hb : xs.length * 32 ≤ 140737488355328) : ACall Try.prog 26 [undoAV lsn xs] [] (ownAV (m + 2) lsn xs) [(m + 2, .cells (.agg (xs.map Old.av)))] := by
  refine ACall.run (Z := Z) (N := 8) mixed hZ Try.func26 rfl rfl (by kernel_rfl) (by simp) args1 m ?_
  simp -dsimp -implicitDefEqProofs only [↓j0, ↓j1, ↓j7, ↓j12, ↓j15, j17, j18, j20, ↓j25, ↓j27, ↓j29, ↓j30, j36, ↓j41, ↓j42, ↓j43, ↓j45, ↓j51, ↓j63, ↓j66, j120, ↓j129, ↓j130, ↓j137, AV.proj, AV.offOf, AV.size, AV.sizeL, AV.layable, argEnv, j147, j148, j150, j151, j154, j155, j156, reduceCtorEq, ↓reduceIte, Nat.reduceAdd, Nat.reduceEqDiff, j166, j180, j181, j205, j208, j259, j268, j347]
  refine DoAppend_of rfl rfl at31 ?_
  have hu := unif_olds xs
  have hl : xs.length ≤ 9223372036854775807 := by omega
  have hne : (xs.length == 0) = false := by
    cases xs with
    | nil => exact absurd rfl hx
    | cons _ _ => rfl
  simp -dsimp -implicitDefEqProofs only [↓j0, ↓j1, ↓j7, ↓j10, ↓j12, ↓j15, j17, j18, j19, j20, j21, j22, j23, ↓j25, ↓j27, ↓j29, ↓j43, ↓j44, ↓j45, ↓j63, ↓j65, ↓j66, ↓j87, ↓j91, j116, ↓j129, ↓j130, ↓j132, ↓j137, AV.proj, AV.offOf, AV.upd, AV.size, AV.sizeL, AV.layable, j147, j148, j150, j151, j152, j153, j154, j155, reduceCtorEq, ↓reduceIte, Nat.reduceAdd, Nat.reduceEqDiff, j166, j180, j181, j204, j205, j206, j207, j208, j258, j262, j263, j268, hu, take_olds, hb, hl, hne]
  exact Final.oneNew (.inr rfl) (r := .cell 2 33) rfl ⟨m + 1, 0, [], _, rfl, by simp -dsimp -implicitDefEqProofs only [↓j27, ↓reduceIte], rfl, rfl, by simp -dsimp -implicitDefEqProofs only [j116, AV.size, AV.sizeL, Nat.reduceAdd, j166, j181, j262, j263]⟩ (fun vs h => by cases h) (by simp -dsimp -implicitDefEqProofs only [↓j27, reduceCtorEq, ↓reduceIte, Nat.reduceEqDiff, j204]) ⟨trivial, rfl, trivial⟩ (on_olds _ xs)
end Go.Proofs.Ytlagoaggllhggaa
