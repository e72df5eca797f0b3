/- Two pages that are the same. -/
import Derived.Test.YtlagoaggllhggaaA6
set_option linter.unusedVariables false
set_option linter.unusedSimpArgs false
namespace Go.Proofs.Ytlagoaggllhggaa
open Go Go.RowKit

def sameL : List Old → List Old → Bool
  | [], [] => true
  | a :: r, b :: s => a.same b && sameL r s
  | _, _ => false
theorem sameL_iff : ∀ {xs ys : List Old}, sameL xs ys = true ↔ xs = ys
  | [], [] => by simp [sameL]
  | [], _ :: _ => by simp [sameL]
  | _ :: _, [] => by simp [sameL]
  | a :: r, b :: s => by simp [sameL, same_iff, sameL_iff]
def sameU (l : Int) (xs : List Old) (m : Int) (ys : List Old) : Bool := (l == m) && sameL xs ys
theorem sameU_self (l : Int) (xs : List Old) : sameU l xs l xs = true := by simp [sameU, sameL_iff]
theorem argsU {l m : Int} {xs ys : List Old} : ∀ x, x ∈ [undoAV l xs, undoAV m ys] → AV.on (fun _ => False) x ∧ ∀ vs, x ≠ .tuple vs := fun x hx => by
  simp only [List.mem_cons, List.not_mem_nil, or_false] at hx
  rcases hx with rfl | rfl
  · exact ⟨on_undo _ _ _, fun vs h => by cases h⟩
  · exact ⟨on_undo _ _ _, fun vs h => by cases h⟩

def sameSt (l m : Int) (xs ys : List Old) (i : Nat) : St := ⟨38, [(23, .int .i64 i), (22, .int .i64 xs.length), (21, rowAV xs), (2, .ptr 0 0 []), (3, .ptr 1 0 []), (4, .bool false)], [(0, .cells (undoAV l xs)), (1, .cells (undoAV m ys))], 2⟩

theorem same_spec (l m : Int) (xs ys : List Old) (hl : xs.length ≤ 9223372036854775807) : ACall Try.prog 13 [undoAV l xs, undoAV m ys] [] (.bool (sameU l xs m ys)) [] := by
  refine ACall.run (Z := Z) (N := 38) mixed hZ Try.func13 rfl rfl (by kernel_rfl) (by simp) argsU 0 ?_
  have ret : ∀ (b : Bool) (t : Env) (H : Heap) (k : Nat), look t 4 = some (.bool b) → b = sameU l xs m ys → Final Try.prog Try.f13 (.bool (sameU l xs m ys)) [] .ret ⟨38, t, H, k⟩ := by
    intro b t H k h hb
    subst hb
    exact Final.one (.inr rfl) (r := .tmp 4) rfl ⟨h, fun vs h => by cases h⟩ (fun vs h => by cases h) (fun vs h => by cases h) (.same _ trivial)
  simp -dsimp -implicitDefEqProofs only [↓j0, ↓j1, ↓j2, ↓j7, ↓j12, ↓j15, j17, j18, j20, ↓j25, ↓j27, ↓j29, ↓j30, j32, ↓j38, ↓j39, ↓j42, ↓j43, ↓j45, ↓j48, ↓j76, ↓j79, ↓j89, j130, ↓j145, ↓j146, ↓j151, ↓j153, j158, AV.proj, AV.offOf, AV.sizeL, AV.layable, argEnv, j163, j164, j167, j170, j171, j172, j175, reduceCtorEq, ↓reduceIte, Nat.reduceAdd, Nat.reduceEqDiff, j182, j185, j196, j197, j283, j292]
  refine ⟨fun h1 => ?_, fun h1 => ?_⟩
  · simp -dsimp -implicitDefEqProofs only [↓j0, ↓j1, ↓j2, ↓j7, ↓j10, ↓j12, ↓j13, ↓j15, j17, j18, j20, ↓j25, ↓j29, ↓j30, j32, ↓j39, ↓j40, j81, ↓j145, ↓j147, ↓j149, ↓j151, j163, j164, j171, j175, ↓reduceIte, Nat.reduceEqDiff, h1]
    refine ret false _ _ _ ?_ ?_
    · rfl
    · have : (l == m) = false := by simpa using h1
      simp [sameU, this]
  have e1 : l = m := by simpa using h1
  subst e1
  simp -dsimp -implicitDefEqProofs only [↓j0, ↓j1, ↓j2, ↓j13, j17, j18, j20, ↓j25, ↓j27, ↓j29, ↓j30, j32, ↓j40, ↓j43, ↓j45, ↓j48, ↓j58, ↓j62, ↓j76, ↓j79, j83, ↓j89, j133, j142, ↓j145, ↓j146, ↓j148, ↓j149, ↓j151, ↓j153, j158, AV.proj, AV.offOf, AV.size, AV.sizeL, j163, j164, j166, j167, j171, j175, reduceCtorEq, ↓reduceIte, Nat.reduceEqDiff, j182, j185, j195, j196, j197, j286, j295, j416, h1]
  refine ⟨fun h2 => ?_, fun h2 => ?_⟩
  · simp -dsimp -implicitDefEqProofs only [↓j0, ↓j1, ↓j7, ↓j10, ↓j12, ↓j15, j17, j18, j20, ↓j30, j32, ↓j39, ↓j145, j171, h2]
    refine ret false _ _ _ ?_ ?_
    · rfl
    · have hne : xs ≠ ys := fun h => by subst h; simp at h2
      have : sameL xs ys = false := by
        cases hs : sameL xs ys
        · rfl
        · exact absurd (sameL_iff.1 hs) hne
      simp [sameU, this]
  have e2 : xs.length = ys.length := by
    have : (xs.length : Int) = ys.length := by simpa using h2
    omega
  simp -dsimp -implicitDefEqProofs only [↓j0, ↓j1, ↓j7, ↓j9, ↓j12, ↓j14, ↓j15, ↓j16, j17, j18, j20, ↓j25, ↓j27, ↓j29, ↓j30, j33, ↓j38, ↓j43, ↓j45, ↓j58, ↓j62, ↓j76, ↓j79, j133, j142, ↓j145, ↓j146, ↓j153, AV.proj, AV.offOf, AV.size, AV.sizeL, j163, j164, j166, j167, j171, reduceCtorEq, ↓reduceIte, Nat.reduceEqDiff, j182, j196, j197, j286, j295, j416, h2]
  refine AWp.loopR (Z := Z) mixed hZ (by kernel_rfl) (fun n s => ∃ i, i + n = xs.length ∧ xs.take i = ys.take i ∧ s = sameSt l l xs ys i) (n0 := xs.length) (s0 := sameSt l l xs ys 0) ?_ ⟨0, by omega, rfl, rfl⟩ ?_ rfl
  · exact Wk.sub (by simp -dsimp -implicitDefEqProofs only [↓j25, ↓j27, j179, reduceCtorEq, ↓reduceIte, Nat.reduceEqDiff, j182, j183, j184, j202, j203, j204, j205, j209, j223] <;> simp)
  · rintro n s ⟨i, hi, hs, rfl⟩
    refine ⟨rfl, ?_⟩
    simp -dsimp -implicitDefEqProofs only [sameSt, ↓j0, ↓j1, ↓j7, ↓j12, ↓j13, ↓j15, j17, j18, j20, ↓j25, ↓j29, ↓j48, ↓j89, ↓j145, ↓j146, ↓j149, j159, j171, ↓reduceIte, Nat.reduceEqDiff, j185]
    refine ⟨fun hlt => ?_, fun hge => ?_⟩
    · have hlt' : (i : Int) < (xs.length : Int) := of_decide_eq_true hlt
      have hlt2 : (i : Int) < (ys.length : Int) := by omega
      obtain ⟨a, ha⟩ := list_get (xs := xs) (i := i) (by omega)
      obtain ⟨b, hb⟩ := list_get (xs := ys) (i := i) (by omega)
      have hsz := sizeL_olds xs i (by omega)
      have hsz2 := sizeL_olds ys i (by omega)
      have hw : IntKind.i64.wrap ((i : Int) + 1) = ((i + 1 : Nat) : Int) := by rw [wrap_i64 (by omega) (by omega)]; omega
      have hk := cellsEq_old a b
      simp -dsimp -implicitDefEqProofs only [↓j0, ↓j1, ↓j3, ↓j4, ↓j7, ↓j8, ↓j9, ↓j12, ↓j14, ↓j15, j17, j18, j20, j24, ↓j25, ↓j27, ↓j29, ↓j38, ↓j39, ↓j43, ↓j45, ↓j46, ↓j48, ↓j76, ↓j77, ↓j79, ↓j91, ↓j92, j129, j133, ↓j145, ↓j146, ↓j153, AV.proj, AV.offOf, AV.size, AV.sizeL, AV.flat, AV.flatL, j163, j164, j166, j167, j170, j171, j172, j173, j174, j177, reduceCtorEq, ↓reduceIte, Nat.reduceAdd, Nat.reduceEqDiff, j182, j191, j196, j197, j206, j207, j208, j212, kindOf, j286, j287, j295, j328, j329, j345, j346, ha, hb, hlt', hlt2, hsz, hsz2, hk]
      refine ⟨by kernel_rfl, ?_⟩
      simp -dsimp -implicitDefEqProofs only [↓j13, ↓j25, ↓j29, ↓j145, ↓j149, ↓reduceIte]
      cases hab : a.same b
      · simp -dsimp -implicitDefEqProofs only [↓j0, ↓j1, ↓j7, ↓j10, ↓j12, ↓j15, j17, j18, j20, ↓j30, j32, ↓j39, ↓j145, ↓j147, j171, j194]
        refine ret false _ _ _ ?_ ?_
        · rfl
        · have : sameL xs ys = false := by
            cases hs : sameL xs ys
            · rfl
            · have := sameL_iff.1 hs
              subst this
              rw [ha] at hb
              cases hb
              rw [same_self] at hab; cases hab
          simp [sameU, this]
      · simp -dsimp -implicitDefEqProofs only [↓j0, ↓j1, ↓j7, ↓j9, ↓j15, j17, j18, j20, ↓j25, ↓j29, ↓j30, j33, ↓j38, ↓j48, ↓j89, ↓j145, ↓j146, ↓j148, j154, j171, ↓reduceIte, Nat.reduceEqDiff, j185, j193]
        have hab' := same_iff.1 hab
        exact ⟨n - 1, sameSt l l xs ys (i + 1), by omega, ⟨i + 1, by omega, by rw [take_succ ha, take_succ hb, hs, hab'], rfl⟩, Wk.sub (by simp -dsimp -implicitDefEqProofs only [↓j25, ↓j27, reduceCtorEq, ↓reduceIte, Nat.reduceEqDiff, j182, j202, j203, j204, j205, j223, hw] <;> simp)⟩
    · have hge' : ¬ (i : Int) < (xs.length : Int) := of_decide_eq_false hge
      have hx : xs.take i = xs := List.take_of_length_le (by omega)
      have hy : ys.take i = ys := List.take_of_length_le (by omega)
      rw [hx, hy] at hs
      simp -dsimp -implicitDefEqProofs only [↓j0, ↓j1, ↓j7, ↓j10, ↓j11, ↓j12, ↓j15, j17, j18, j20, ↓j30, j32, ↓j39, ↓j145, j171, ↓reduceIte, hge]
      refine ret true _ _ _ ?_ ?_
      · rfl
      · subst hs; exact (sameU_self l xs).symm
end Go.Proofs.Ytlagoaggllhggaa
