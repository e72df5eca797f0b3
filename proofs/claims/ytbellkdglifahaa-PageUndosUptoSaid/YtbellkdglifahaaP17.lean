/- Undo pages of their own; two undo pages. -/
import Derived.Test.YtbellkdglifahaaP16
set_option linter.unusedVariables false
set_option linter.unusedSimpArgs false
namespace Go.Proofs.Ytbellkdglifahaa
open Go Go.RowKit

theorem kept_spec (u : Ud) (hu : u.Ok) (hb : u.olds.length ≤ 1048576) : ACall Try.prog 17 [u.av] [] u.av [] := by
  refine ACall.run (Z := Z) (N := 10) mixed hZ Try.func17 rfl rfl (by kernel_rfl) (by simp) args_ud 100 ?_
  have hul := unif_od u.olds
  have hu0 : Unif 6 [] := fun x hx => by simp at hx
  have hT : List.take u.olds.length (u.olds.map Od.av) = u.olds.map Od.av := List.take_of_length_le (by simp)
  simp -dsimp -implicitDefEqProofs only [↓j0, ↓j1, ↓j4, ↓j7, ↓j8, ↓j12, ↓j15, j17, j18, j20, j24, ↓j25, ↓j27, ↓j29, ↓j41, ↓j42, ↓j43, ↓j45, ↓j51, ↓j74, ↓j76, ↓j79, j125, j127, j130, j133, ↓j145, ↓j146, ↓j153, partsAV, AV.proj, AV.offOf, AV.size, AV.sizeL, AV.layable, argEnv, j163, j164, j166, j167, j170, j171, j172, j173, j174, ↓reduceIte, Nat.reduceAdd, Nat.reduceEqDiff, j182, j196, j197, j214, j218, j219, j226, Nat.reducePow, List.replicate, j234, j264, j309, j315, j318, j370, j379]
  refine DoAppend_of rfl rfl at42 ?_
  simp -dsimp -implicitDefEqProofs only [↓j27, ↓j101, ↓j102, ↓j104, ↓j146, ↓j153, ↓reduceIte, Nat.reduceEqDiff, j182, j184, j188, j189, j196, j197, j214, j222, j223, j231, j234, hul, hu0, hT]
  refine ⟨⟨by omega, by omega⟩, ?_⟩
  simp -dsimp -implicitDefEqProofs only [↓j3, ↓j4, j17, j18, j19, j20, j21, j22, j23, j24, ↓j25, ↓j27, ↓j29, ↓j44, ↓j54, ↓j78, ↓j124, j125, j126, j127, j128, ↓j145, ↓j146, ↓j153, partsAV, AV.proj, AV.offOf, AV.upd, AV.size, AV.sizeL, AV.layable, j163, j164, j166, j167, j168, j169, j170, j171, j172, j173, j174, j179, j180, ↓reduceIte, Nat.reduceAdd, Nat.reduceEqDiff, j182, j183, j196, j197, j213, j214, j215, j216, j217, j222, j228, j229, j312, j316, j319, j382, hT]
  refine ⟨by kernel_rfl, ?_⟩
  simp -dsimp -implicitDefEqProofs only [↓j10]
  have hfz : Frz (fun _ => False) [(101, ABlk.cells (AV.agg [AV.int .u64 u.lsn, AV.sl 103 0 [] 0 u.olds.length u.olds.length 6])), (103, .cells (.agg (u.olds.map Od.av))), (100, .cells u.av)] (.agg [.int .u64 u.lsn, .sl 103 0 [] 0 u.olds.length u.olds.length 6]) u.av := by
    refine Frz.agg _ _ rfl fun k hk => ?_
    match k, hk with
    | 0, _ => exact .same _ trivial
    | 1, _ =>
      have h := Frz.sl (K := fun _ => False) (H := [(101, ABlk.cells (AV.agg [AV.int .u64 u.lsn, AV.sl 103 0 [] 0 u.olds.length u.olds.length 6])), (103, .cells (.agg (u.olds.map Od.av))), (100, .cells u.av)]) 103 0 [] 0 u.olds.length u.olds.length 6 _ (u.olds.map Od.av) rfl (fun h => h) rfl rfl (by simp) hul (fun x hx => AV.onL_iff.1 (on_ods _ u.olds) x (List.mem_of_mem_drop (List.mem_of_mem_take hx)))
      rw [List.drop_zero, hT] at h
      exact h
  exact Final.one (.inr rfl) (r := .cell 2 44) rfl ⟨101, 0, [], _, rfl, rfl, rfl, rfl, by simp -dsimp -implicitDefEqProofs only [j129, AV.size, AV.sizeL, Nat.reduceAdd, j182, j197, j312, j313]⟩ (fun vs h => by cases h) (fun vs h => by cases h) hfz
def suT (a b : Ud) (i : Nat) : Env := [(23, .int .i64 i), (22, .int .i64 a.olds.length), (3, .ptr 1 0 []), (2, .ptr 0 0 []), (4, .bool false)]
def suSt (a b : Ud) (i : Nat) : St := ⟨38, suT a b i, [(1, .cells b.av), (0, .cells a.av)], 2⟩
theorem args_uu {a b : Ud} : ∀ x, x ∈ [a.av, b.av] → AV.on (fun _ => False) x ∧ ∀ vs, x ≠ .tuple vs := fun x hx => by
  simp only [List.mem_cons, List.not_mem_nil, or_false] at hx
  rcases hx with rfl | rfl <;> exact ⟨on_ud _ _, fun vs h => by cases h⟩
/-- The two hold the same. -/
theorem same_spec (a : Ud) (ha : a.Ok) : ACall Try.prog 24 [a.av, a.av] [] (.bool true) [] := by
  refine ACall.run (Z := Z) (N := 38) mixed hZ Try.func24 rfl rfl (by kernel_rfl) (by simp) args_uu 0 ?_
  have hl := ha.len
  have f1 : ((a.lsn : Int) != (a.lsn : Int)) = false := by simp
  have f2 : ((a.olds.length : Int) != (a.olds.length : Int)) = false := by simp
  simp -dsimp -implicitDefEqProofs only [↓j0, ↓j1, ↓j2, ↓j7, ↓j9, ↓j12, ↓j13, ↓j14, ↓j15, ↓j16, j17, j18, j20, ↓j25, ↓j27, ↓j29, ↓j30, j32, j33, ↓j38, ↓j39, ↓j40, ↓j42, ↓j43, ↓j45, ↓j48, ↓j58, ↓j62, ↓j76, ↓j79, j83, ↓j89, j130, j133, j142, ↓j145, ↓j146, ↓j148, ↓j149, ↓j151, ↓j153, j158, AV.proj, AV.offOf, AV.size, AV.sizeL, AV.layable, argEnv, j163, j164, j166, j167, j170, j171, j172, j175, reduceCtorEq, ↓reduceIte, Nat.reduceAdd, Nat.reduceEqDiff, j182, j185, j195, j196, j197, j264, j309, j315, j318, j401, f1, f2]
  refine AWp.loopR (Z := Z) mixed hZ (by kernel_rfl) (fun n s => ∃ i, i + n = a.olds.length ∧ s = suSt a a i) (n0 := a.olds.length) (s0 := suSt a a 0) ?_ ⟨0, by omega, rfl⟩ ?_ rfl
  · exact Wk.sub (by simp -dsimp -implicitDefEqProofs only [↓j25, ↓j27, j179, reduceCtorEq, ↓reduceIte, Nat.reduceEqDiff, j182, j183, j184, j202, j203, j204, j205, j209, j223, suT] <;> simp)
  rintro n s ⟨i, hi, rfl⟩
  refine ⟨rfl, ?_⟩
  rcases Nat.lt_or_ge i a.olds.length with hlt | hge
  · have hd : decide ((i : Int) < (a.olds.length : Int)) = true := decide_eq_true (by omega)
    have hlt2 : (i : Int) < (a.olds.length : Int) := by omega
    obtain ⟨x, hx⟩ := list_get (xs := a.olds) (i := i) (by omega)
    have hsz2 : AV.sizeL ((a.olds.map Od.av).take i) = i * 6 := (unif_od a.olds).sizeL_take (by simp; omega)
    have hw : IntKind.i64.wrap ((i : Int) + 1) = ((i + 1 : Nat) : Int) := by rw [wrap_i64 (by omega) (by omega)]; omega
    have hce := cellsEq_od x x
    rw [Od.eqb_iff.2 rfl] at hce
    simp -dsimp -implicitDefEqProofs only [↓j0, ↓j1, ↓j3, ↓j4, ↓j7, ↓j8, ↓j9, ↓j12, ↓j13, ↓j14, ↓j15, j17, j18, j20, j24, ↓j25, ↓j27, ↓j29, ↓j38, ↓j39, ↓j43, ↓j45, ↓j46, ↓j48, ↓j76, ↓j77, ↓j79, ↓j89, ↓j91, ↓j92, j129, j133, ↓j145, ↓j146, ↓j147, ↓j149, ↓j153, j159, AV.proj, AV.offOf, AV.size, AV.sizeL, AV.flat, AV.flatL, j163, j164, j166, j167, j170, j171, j172, j173, j174, j177, reduceCtorEq, ↓reduceIte, Nat.reduceAdd, Nat.reduceEqDiff, j182, j185, j191, j193, j196, j197, j206, j207, j208, j212, kindOf, j309, j310, j318, j338, j339, j355, j356, suSt, suT, hlt2, hx, hsz2, hce]
    refine ⟨by kernel_rfl, ?_⟩
    simp -dsimp -implicitDefEqProofs only [↓j0, ↓j1, ↓j7, ↓j9, ↓j13, ↓j15, j17, j18, j20, ↓j25, ↓j29, ↓j30, j33, ↓j38, ↓j48, ↓j89, ↓j145, ↓j146, ↓j148, ↓j149, j154, j171, ↓reduceIte, Nat.reduceEqDiff, j185]
    exact ⟨n - 1, suSt a a (i + 1), by omega, ⟨i + 1, by omega, rfl⟩, Wk.sub (by simp -dsimp -implicitDefEqProofs only [↓j25, ↓j27, reduceCtorEq, ↓reduceIte, Nat.reduceEqDiff, j182, j202, j203, j204, j205, j223, suT, hw] <;> simp)⟩
  · have hi2 : i = a.olds.length := by omega
    subst hi2
    have hd : decide ((a.olds.length : Int) < (a.olds.length : Int)) = false := decide_eq_false (by omega)
    simp -dsimp -implicitDefEqProofs only [↓j0, ↓j1, ↓j7, ↓j10, ↓j11, ↓j12, ↓j13, ↓j15, j17, j18, j20, ↓j25, ↓j29, ↓j30, j32, ↓j39, ↓j48, ↓j89, ↓j145, ↓j146, ↓j148, ↓j149, j159, j171, ↓reduceIte, Nat.reduceEqDiff, j185, suSt, suT, hd]
    exact Final.one (.inr rfl) (r := .tmp 4) rfl ⟨rfl, fun vs h => by cases h⟩ (fun vs h => by cases h) (fun vs h => by cases h) (.same _ trivial)
end Go.Proofs.Ytbellkdglifahaa
