/- Two pages that are the same. -/
import Derived.Test.YtlagoaggllhggaaA6
set_option linter.unusedVariables false
set_option linter.unusedSimpArgs false
namespace Go.Proofs.Ytlagoaggllhggaa
open Go Go.RowKit

def sameL : List Old → List Old → Bool
  | [], [] => true
  | a :: r, b :: s => a.same b && sameL r s
  | _, _ => false
theorem sameL_iff : ∀ {xs ys : List Old}, sameL xs ys = true ↔ xs = ys
  | [], [] => by simp [sameL]
  | [], _ :: _ => by simp [sameL]
  | _ :: _, [] => by simp [sameL]
  | a :: r, b :: s => by simp [sameL, same_iff, sameL_iff]
def sameU (l : Int) (xs : List Old) (m : Int) (ys : List Old) : Bool := (l == m) && sameL xs ys
theorem sameU_self (l : Int) (xs : List Old) : sameU l xs l xs = true := by simp [sameU, sameL_iff]
theorem argsU {l m : Int} {xs ys : List Old} : ∀ x, x ∈ [undoAV l xs, undoAV m ys] → AV.on (fun _ => False) x ∧ ∀ vs, x ≠ .tuple vs := fun x hx => by
  simp only [List.mem_cons, List.not_mem_nil, or_false] at hx
  rcases hx with rfl | rfl
  · exact ⟨on_undo _ _ _, fun vs h => by cases h⟩
  · exact ⟨on_undo _ _ _, fun vs h => by cases h⟩

def sameSt (l m : Int) (xs ys : List Old) (i : Nat) : St := ⟨38, [(23, .int .i64 i), (22, .int .i64 xs.length), (21, rowAV xs), (2, .ptr 0 0 []), (3, .ptr 1 0 []), (4, .bool false)], [(0, .cells (undoAV l xs)), (1, .cells (undoAV m ys))], 2⟩

theorem same_spec (l m : Int) (xs ys : List Old) (hl : xs.length ≤ 9223372036854775807) : ACall Try.prog 13 [undoAV l xs, undoAV m ys] [] (.bool (sameU l xs m ys)) [] := by
  refine ACall.run (Z := Z) (N := 38) mixed hZ Try.func13 rfl rfl (by kernel_rfl) (by simp) argsU 0 ?_
  have ret : ∀ (b : Bool) (t : Env) (H : Heap) (k : Nat), look t 4 = some (.bool b) → b = sameU l xs m ys → Final Try.prog Try.f13 (.bool (sameU l xs m ys)) [] .ret ⟨38, t, H, k⟩ := by
    intro b t H k h hb
    subst hb
    exact Final.one (.inr rfl) (r := .tmp 4) rfl ⟨h, fun vs h => by cases h⟩ (fun vs h => by cases h) (fun vs h => by cases h) (.same _ trivial)
  simp -dsimp -implicitDefEqProofs only [↓j0, ↓j1, ↓j2, ↓j7, ↓j12, ↓j15, j17, j18, j20, ↓j25, ↓j27, ↓j29, ↓j30, j32, ↓j38, ↓j39, ↓j42, ↓j43, ↓j45, ↓j48, ↓j63, ↓j66, ↓j76, j117, ↓j129, ↓j130, ↓j135, ↓j137, j142, AV.proj, AV.offOf, AV.sizeL, AV.layable, argEnv, j147, j148, j151, j154, j155, j156, j159, reduceCtorEq, ↓reduceIte, Nat.reduceAdd, Nat.reduceEqDiff, j166, j169, j180, j181, j256, j265]
  refine ⟨fun h1 => ?_, fun h1 => ?_⟩
  · simp -dsimp -implicitDefEqProofs only [↓j0, ↓j1, ↓j2, ↓j7, ↓j10, ↓j12, ↓j13, ↓j15, j17, j18, j20, ↓j25, ↓j29, ↓j30, j32, ↓j39, ↓j40, j68, ↓j129, ↓j131, ↓j133, ↓j135, j147, j148, j155, j159, ↓reduceIte, Nat.reduceEqDiff, h1]
    refine ret false _ _ _ ?_ ?_
    · rfl
    · have : (l == m) = false := by simpa using h1
      simp [sameU, this]
  have e1 : l = m := by simpa using h1
  subst e1
  simp -dsimp -implicitDefEqProofs only [↓j0, ↓j1, ↓j2, ↓j13, j17, j18, j20, ↓j25, ↓j27, ↓j29, ↓j30, j32, ↓j40, ↓j43, ↓j45, ↓j48, ↓j58, ↓j63, ↓j66, j70, ↓j76, j120, j126, ↓j129, ↓j130, ↓j132, ↓j133, ↓j135, ↓j137, j142, AV.proj, AV.offOf, AV.size, AV.sizeL, j147, j148, j150, j151, j155, j159, reduceCtorEq, ↓reduceIte, Nat.reduceEqDiff, j166, j169, j179, j180, j181, j259, j268, j388, h1]
  refine ⟨fun h2 => ?_, fun h2 => ?_⟩
  · simp -dsimp -implicitDefEqProofs only [↓j0, ↓j1, ↓j7, ↓j10, ↓j12, ↓j15, j17, j18, j20, ↓j30, j32, ↓j39, ↓j129, j155, h2]
    refine ret false _ _ _ ?_ ?_
    · rfl
    · have hne : xs ≠ ys := fun h => by subst h; simp at h2
      have : sameL xs ys = false := by
        cases hs : sameL xs ys
        · rfl
        · exact absurd (sameL_iff.1 hs) hne
      simp [sameU, this]
  have e2 : xs.length = ys.length := by
    have : (xs.length : Int) = ys.length := by simpa using h2
    omega
  simp -dsimp -implicitDefEqProofs only [↓j0, ↓j1, ↓j7, ↓j9, ↓j12, ↓j14, ↓j15, ↓j16, j17, j18, j20, ↓j25, ↓j27, ↓j29, ↓j30, j33, ↓j38, ↓j43, ↓j45, ↓j58, ↓j63, ↓j66, j120, j126, ↓j129, ↓j130, ↓j137, AV.proj, AV.offOf, AV.size, AV.sizeL, j147, j148, j150, j151, j155, reduceCtorEq, ↓reduceIte, Nat.reduceEqDiff, j166, j180, j181, j259, j268, j388, h2]
  refine AWp.loopR (Z := Z) mixed hZ (by kernel_rfl) (fun n s => ∃ i, i + n = xs.length ∧ xs.take i = ys.take i ∧ s = sameSt l l xs ys i) (n0 := xs.length) (s0 := sameSt l l xs ys 0) ?_ ⟨0, by omega, rfl, rfl⟩ ?_ rfl
  · exact Wk.sub (by simp -dsimp -implicitDefEqProofs only [↓j25, ↓j27, j163, reduceCtorEq, ↓reduceIte, Nat.reduceEqDiff, j166, j167, j168, j186, j187, j188, j189, j193, j207] <;> simp)
  · rintro n s ⟨i, hi, hs, rfl⟩
    refine ⟨rfl, ?_⟩
    simp -dsimp -implicitDefEqProofs only [sameSt, ↓j0, ↓j1, ↓j7, ↓j12, ↓j13, ↓j15, j17, j18, j20, ↓j25, ↓j29, ↓j48, ↓j76, ↓j129, ↓j130, ↓j133, j143, j155, ↓reduceIte, Nat.reduceEqDiff, j169]
    refine ⟨fun hlt => ?_, fun hge => ?_⟩
    · have hlt' : (i : Int) < (xs.length : Int) := of_decide_eq_true hlt
      have hlt2 : (i : Int) < (ys.length : Int) := by omega
      obtain ⟨a, ha⟩ := list_get (xs := xs) (i := i) (by omega)
      obtain ⟨b, hb⟩ := list_get (xs := ys) (i := i) (by omega)
      have hsz := sizeL_olds xs i (by omega)
      have hsz2 := sizeL_olds ys i (by omega)
      have hw : IntKind.i64.wrap ((i : Int) + 1) = ((i + 1 : Nat) : Int) := by rw [wrap_i64 (by omega) (by omega)]; omega
      have hk := cellsEq_old a b
      simp -dsimp -implicitDefEqProofs only [↓j0, ↓j1, ↓j3, ↓j4, ↓j7, ↓j8, ↓j9, ↓j12, ↓j14, ↓j15, j17, j18, j20, j24, ↓j25, ↓j27, ↓j29, ↓j38, ↓j39, ↓j43, ↓j45, ↓j46, ↓j48, ↓j63, ↓j64, ↓j66, ↓j78, ↓j79, j116, j120, ↓j129, ↓j130, ↓j137, AV.proj, AV.offOf, AV.size, AV.sizeL, AV.flat, AV.flatL, j147, j148, j150, j151, j154, j155, j156, j157, j158, j161, reduceCtorEq, ↓reduceIte, Nat.reduceAdd, Nat.reduceEqDiff, j166, j175, j180, j181, j190, j191, j192, j196, kindOf, j259, j260, j268, j301, j302, j318, j319, ha, hb, hlt', hlt2, hsz, hsz2, hk]
      refine ⟨by kernel_rfl, ?_⟩
      simp -dsimp -implicitDefEqProofs only [↓j13, ↓j25, ↓j29, ↓j129, ↓j133, ↓reduceIte]
      cases hab : a.same b
      · simp -dsimp -implicitDefEqProofs only [↓j0, ↓j1, ↓j7, ↓j10, ↓j12, ↓j15, j17, j18, j20, ↓j30, j32, ↓j39, ↓j129, ↓j131, j155, j178]
        refine ret false _ _ _ ?_ ?_
        · rfl
        · have : sameL xs ys = false := by
            cases hs : sameL xs ys
            · rfl
            · have := sameL_iff.1 hs
              subst this
              rw [ha] at hb
              cases hb
              rw [same_self] at hab; cases hab
          simp [sameU, this]
      · simp -dsimp -implicitDefEqProofs only [↓j0, ↓j1, ↓j7, ↓j9, ↓j15, j17, j18, j20, ↓j25, ↓j29, ↓j30, j33, ↓j38, ↓j48, ↓j76, ↓j129, ↓j130, ↓j132, j138, j155, ↓reduceIte, Nat.reduceEqDiff, j169, j177]
        have hab' := same_iff.1 hab
        exact ⟨n - 1, sameSt l l xs ys (i + 1), by omega, ⟨i + 1, by omega, by rw [take_succ ha, take_succ hb, hs, hab'], rfl⟩, Wk.sub (by simp -dsimp -implicitDefEqProofs only [↓j25, ↓j27, reduceCtorEq, ↓reduceIte, Nat.reduceEqDiff, j166, j186, j187, j188, j189, j207, hw] <;> simp)⟩
    · have hge' : ¬ (i : Int) < (xs.length : Int) := of_decide_eq_false hge
      have hx : xs.take i = xs := List.take_of_length_le (by omega)
      have hy : ys.take i = ys := List.take_of_length_le (by omega)
      rw [hx, hy] at hs
      simp -dsimp -implicitDefEqProofs only [↓j0, ↓j1, ↓j7, ↓j10, ↓j11, ↓j12, ↓j15, j17, j18, j20, ↓j30, j32, ↓j39, ↓j129, j155, ↓reduceIte, hge]
      refine ret true _ _ _ ?_ ?_
      · rfl
      · subst hs; exact (sameU_self l xs).symm
end Go.Proofs.Ytlagoaggllhggaa
