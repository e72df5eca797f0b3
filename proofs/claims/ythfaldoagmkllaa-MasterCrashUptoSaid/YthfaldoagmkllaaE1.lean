/- Masters: which may be. -/
import Derived.Test.YthfaldoagmkllaaC19
import Derived.Test.YthfaldoagmkllaaF41
set_option linter.unusedVariables false
set_option linter.unusedSimpArgs false
namespace Go.Proofs.Ythfaldoagmkllaa
open Go Go.RowKit

structure Ms where
  seq : Nat
  epoch : Nat
  tail : Nat
  lsn : Nat
  last : Nat
  pages : Int
  undo : Int
  log : Int
  maxTs : Nat
abbrev Ms.cfg (m : Ms) : AV := .agg [.int .i64 m.pages, .int .i64 m.undo, .int .i64 m.log, .int .u32 m.maxTs]
abbrev Ms.av (m : Ms) : AV := .agg [.int .u64 m.seq, .int .u32 m.epoch, .int .u32 m.tail, .int .u64 m.lsn, .int .u32 m.last, m.cfg]
structure Ms.Ok (m : Ms) : Prop where
  seq : m.seq < 18446744073709551616
  epoch : m.epoch < 4294967296
  tail : m.tail < 4294967296
  lsn : m.lsn < 18446744073709551616
  last : m.last < 4294967296
  maxTs : m.maxTs < 4294967296
def Ms.zero : Ms := ⟨0, 0, 0, 0, 0, 0, 0, 0, 0⟩
theorem on_ms (S : Nat → Prop) (m : Ms) : AV.on S m.av := ⟨trivial, trivial, trivial, trivial, trivial, ⟨trivial, trivial, trivial, trivial, trivial⟩, trivial⟩
theorem args_ms {m : Ms} : ∀ x, x ∈ [m.av] → AV.on (fun _ => False) x ∧ ∀ vs, x ≠ .tuple vs := fun x hx => by
  simp only [List.mem_singleton] at hx; subst hx; exact ⟨on_ms _ _, fun vs h => by cases h⟩
theorem args_cfg {m : Ms} : ∀ x, x ∈ [m.cfg] → AV.on (fun _ => False) x ∧ ∀ vs, x ≠ .tuple vs := fun x hx => by
  simp only [List.mem_singleton] at hx; subst hx; exact ⟨⟨trivial, trivial, trivial, trivial, trivial⟩, fun vs h => by cases h⟩
def mayM (m : Ms) : Bool := decide (1 ≤ m.pages) && (decide (m.pages ≤ 16) && (decide (1 ≤ m.undo) && (decide (m.undo ≤ 32) && (decide (64 ≤ m.log) && (decide (m.log ≤ 512) && (decide ((m.last : Int) ≤ (m.maxTs : Int))))))))
theorem fok12 : fnOk Try.prog 12 = true := by kernel_rfl
theorem fok13 : fnOk Try.prog 13 = true := by kernel_rfl
theorem fok14 : fnOk Try.prog 14 = true := by kernel_rfl
theorem fok24 : fnOk Try.prog 24 = true := by kernel_rfl
theorem fok30 : fnOk Try.prog 30 = true := by kernel_rfl
theorem fok32 : fnOk Try.prog 32 = true := by kernel_rfl
theorem fok33 : fnOk Try.prog 33 = true := by kernel_rfl
theorem fok42 : fnOk Try.prog 42 = true := by kernel_rfl
theorem fok26 : fnOk Try.prog 26 = true := by kernel_rfl
theorem fok8 : fnOk Try.prog 8 = true := by kernel_rfl
theorem fok9 : fnOk Try.prog 9 = true := by kernel_rfl
theorem fok10 : fnOk Try.prog 10 = true := by kernel_rfl
theorem fok11 : fnOk Try.prog 11 = true := by kernel_rfl
theorem fok15 : fnOk Try.prog 15 = true := by kernel_rfl
theorem fok16 : fnOk Try.prog 16 = true := by kernel_rfl
theorem fok18 : fnOk Try.prog 18 = true := by kernel_rfl
theorem fok19 : fnOk Try.prog 19 = true := by kernel_rfl
theorem fok23 : fnOk Try.prog 23 = true := by kernel_rfl
theorem fok31 : fnOk Try.prog 31 = true := by kernel_rfl
theorem fok34 : fnOk Try.prog 34 = true := by kernel_rfl
theorem may_spec (m : Ms) : ACall Try.prog 13 [m.av] [] (.bool (mayM m)) [] := by
  refine ACall.run (Z := Z) (N := 41) mixed hZ Try.func13 rfl rfl (by kernel_rfl) (by simp) args_ms 0 ?_
  have fin : ∀ (r : Bool) (t : Env) (H : Heap) (k : Nat), r = mayM m → look t 2 = some (.bool r) → Final Try.prog Try.f13 (.bool (mayM m)) [] .ret ⟨41, t, H, k⟩ := fun r t H k hr h =>
    Final.one (.inr rfl) (r := .tmp 2) rfl ⟨hr ▸ h, fun vs h => by cases h⟩ (fun vs h => by cases h) (fun vs h => by cases h) (.same _ trivial)
  rcases Decidable.em (1 ≤ m.pages) with h0 | h0
  rotate_left
  · have e0 : decide (1 ≤ m.pages) = false := decide_eq_false h0
    simp -dsimp -implicitDefEqProofs only [↓j0, ↓j1, ↓j2, ↓j7, ↓j10, ↓j12, ↓j15, j17, j18, j19, j20, j21, j22, j23, ↓j25, ↓j27, ↓j29, ↓j30, j32, j33, ↓j38, ↓j39, ↓j40, ↓j41, ↓j42, ↓j43, ↓j44, ↓j45, ↓j48, ↓j76, ↓j78, ↓j79, j82, ↓j89, j129, j130, ↓j145, ↓j146, ↓j148, ↓j150, ↓j153, j162, AV.proj, AV.offOf, AV.upd, AV.size, AV.sizeL, AV.layable, argEnv, j163, j164, j166, j167, j170, j171, j172, j175, reduceCtorEq, ↓reduceIte, Nat.reduceAdd, Nat.reduceEqDiff, j182, j185, j196, j197, j250, j266, j267, j269, j300, j411, e0]
    exact fin false _ _ _ (by unfold mayM; rw [show decide (1 ≤ m.pages) = false from decide_eq_false h0]; simp) rfl
  have e0 : decide (1 ≤ m.pages) = true := decide_eq_true h0
  rcases Decidable.em (m.pages ≤ 16) with h1 | h1
  rotate_left
  · have e1 : decide (m.pages ≤ 16) = false := decide_eq_false h1
    simp -dsimp -implicitDefEqProofs only [↓j0, ↓j1, ↓j2, ↓j7, ↓j10, ↓j12, ↓j15, j17, j18, j19, j20, j21, j22, j23, ↓j25, ↓j27, ↓j29, ↓j30, j32, j33, ↓j38, ↓j39, ↓j40, ↓j41, ↓j42, ↓j43, ↓j44, ↓j45, ↓j48, ↓j76, ↓j78, ↓j79, j82, j83, ↓j89, j129, j130, ↓j145, ↓j146, ↓j147, ↓j148, ↓j150, ↓j153, j160, j162, AV.proj, AV.offOf, AV.upd, AV.size, AV.sizeL, AV.layable, argEnv, j163, j164, j166, j167, j170, j171, j172, j175, reduceCtorEq, ↓reduceIte, Nat.reduceAdd, Nat.reduceEqDiff, j182, j185, j196, j197, j250, j266, j267, j269, j300, j411, e0, e1]
    exact fin false _ _ _ (by unfold mayM; rw [show decide (m.pages ≤ 16) = false from decide_eq_false h1]; simp) rfl
  have e1 : decide (m.pages ≤ 16) = true := decide_eq_true h1
  rcases Decidable.em (1 ≤ m.undo) with h2 | h2
  rotate_left
  · have e2 : decide (1 ≤ m.undo) = false := decide_eq_false h2
    simp -dsimp -implicitDefEqProofs only [↓j0, ↓j1, ↓j2, ↓j7, ↓j10, ↓j12, ↓j15, j17, j18, j19, j20, j21, j22, j23, ↓j25, ↓j27, ↓j29, ↓j30, j32, j33, ↓j38, ↓j39, ↓j40, ↓j41, ↓j42, ↓j43, ↓j44, ↓j45, ↓j48, ↓j76, ↓j78, ↓j79, j82, j83, ↓j89, j129, j130, ↓j145, ↓j146, ↓j147, ↓j148, ↓j150, ↓j153, j160, j162, AV.proj, AV.offOf, AV.upd, AV.size, AV.sizeL, AV.layable, argEnv, j163, j164, j166, j167, j170, j171, j172, j175, reduceCtorEq, ↓reduceIte, Nat.reduceAdd, Nat.reduceEqDiff, j182, j185, j196, j197, j250, j266, j267, j269, j272, j300, j411, e0, e1, e2]
    exact fin false _ _ _ (by unfold mayM; rw [show decide (1 ≤ m.undo) = false from decide_eq_false h2]; simp) rfl
  have e2 : decide (1 ≤ m.undo) = true := decide_eq_true h2
  rcases Decidable.em (m.undo ≤ 32) with h3 | h3
  rotate_left
  · have e3 : decide (m.undo ≤ 32) = false := decide_eq_false h3
    simp -dsimp -implicitDefEqProofs only [↓j0, ↓j1, ↓j2, ↓j7, ↓j10, ↓j12, ↓j15, j17, j18, j19, j20, j21, j22, j23, ↓j25, ↓j27, ↓j29, ↓j30, j32, j33, ↓j38, ↓j39, ↓j40, ↓j41, ↓j42, ↓j43, ↓j44, ↓j45, ↓j48, ↓j76, ↓j78, ↓j79, j82, j83, ↓j89, j129, j130, ↓j145, ↓j146, ↓j147, ↓j148, ↓j150, ↓j153, j160, j162, AV.proj, AV.offOf, AV.upd, AV.size, AV.sizeL, AV.layable, argEnv, j163, j164, j166, j167, j170, j171, j172, j175, reduceCtorEq, ↓reduceIte, Nat.reduceAdd, Nat.reduceEqDiff, j182, j185, j196, j197, j250, j266, j267, j269, j272, j300, j411, e0, e1, e2, e3]
    exact fin false _ _ _ (by unfold mayM; rw [show decide (m.undo ≤ 32) = false from decide_eq_false h3]; simp) rfl
  have e3 : decide (m.undo ≤ 32) = true := decide_eq_true h3
  rcases Decidable.em (64 ≤ m.log) with h4 | h4
  rotate_left
  · have e4 : decide (64 ≤ m.log) = false := decide_eq_false h4
    simp -dsimp -implicitDefEqProofs only [↓j0, ↓j1, ↓j2, ↓j7, ↓j10, ↓j12, ↓j15, j17, j18, j19, j20, j21, j22, j23, ↓j25, ↓j27, ↓j29, ↓j30, j32, j33, ↓j38, ↓j39, ↓j40, ↓j41, ↓j42, ↓j43, ↓j44, ↓j45, ↓j48, ↓j76, ↓j78, ↓j79, j82, j83, ↓j89, j129, j130, ↓j145, ↓j146, ↓j147, ↓j148, ↓j150, ↓j153, j160, j162, AV.proj, AV.offOf, AV.upd, AV.size, AV.sizeL, AV.layable, argEnv, j163, j164, j166, j167, j170, j171, j172, j175, reduceCtorEq, ↓reduceIte, Nat.reduceAdd, Nat.reduceEqDiff, j182, j185, j196, j197, j250, j266, j267, j269, j272, j275, j300, j411, e0, e1, e2, e3, e4]
    exact fin false _ _ _ (by unfold mayM; rw [show decide (64 ≤ m.log) = false from decide_eq_false h4]; simp) rfl
  have e4 : decide (64 ≤ m.log) = true := decide_eq_true h4
  rcases Decidable.em (m.log ≤ 512) with h5 | h5
  rotate_left
  · have e5 : decide (m.log ≤ 512) = false := decide_eq_false h5
    simp -dsimp -implicitDefEqProofs only [↓j0, ↓j1, ↓j2, ↓j7, ↓j10, ↓j12, ↓j15, j17, j18, j19, j20, j21, j22, j23, ↓j25, ↓j27, ↓j29, ↓j30, j32, j33, ↓j38, ↓j39, ↓j40, ↓j41, ↓j42, ↓j43, ↓j44, ↓j45, ↓j48, ↓j76, ↓j78, ↓j79, j82, j83, ↓j89, j129, j130, ↓j145, ↓j146, ↓j147, ↓j148, ↓j150, ↓j153, j160, j162, AV.proj, AV.offOf, AV.upd, AV.size, AV.sizeL, AV.layable, argEnv, j163, j164, j166, j167, j170, j171, j172, j175, reduceCtorEq, ↓reduceIte, Nat.reduceAdd, Nat.reduceEqDiff, j182, j185, j196, j197, j250, j266, j267, j269, j272, j275, j300, j411, e0, e1, e2, e3, e4, e5]
    exact fin false _ _ _ (by unfold mayM; rw [show decide (m.log ≤ 512) = false from decide_eq_false h5]; simp) rfl
  have e5 : decide (m.log ≤ 512) = true := decide_eq_true h5
  rcases Decidable.em ((m.last : Int) ≤ (m.maxTs : Int)) with h6 | h6
  rotate_left
  · have e6 : decide ((m.last : Int) ≤ (m.maxTs : Int)) = false := decide_eq_false h6
    simp -dsimp -implicitDefEqProofs only [↓j0, ↓j1, ↓j2, ↓j7, ↓j10, ↓j12, ↓j15, j17, j18, j19, j20, j21, j22, j23, ↓j25, ↓j27, ↓j29, ↓j30, j32, j33, ↓j38, ↓j39, ↓j40, ↓j41, ↓j42, ↓j43, ↓j44, ↓j45, ↓j48, ↓j76, ↓j78, ↓j79, j83, ↓j89, j129, j130, ↓j145, ↓j146, ↓j147, ↓j150, ↓j153, j160, j162, AV.proj, AV.offOf, AV.upd, AV.size, AV.sizeL, AV.layable, argEnv, j163, j164, j166, j167, j170, j171, j172, j175, reduceCtorEq, ↓reduceIte, Nat.reduceAdd, Nat.reduceEqDiff, j182, j185, j196, j197, j250, j264, j266, j267, j269, j272, j275, j278, j297, j300, j411, e0, e1, e2, e3, e4, e5, e6]
    exact fin false _ _ _ (by unfold mayM; rw [show decide ((m.last : Int) ≤ (m.maxTs : Int)) = false from decide_eq_false h6]; simp) rfl
  have e6 : decide ((m.last : Int) ≤ (m.maxTs : Int)) = true := decide_eq_true h6
  simp -dsimp -implicitDefEqProofs only [↓j0, ↓j1, ↓j2, ↓j7, ↓j10, ↓j12, ↓j15, j17, j18, j19, j20, j21, j22, j23, ↓j25, ↓j27, ↓j29, ↓j30, j32, j33, ↓j38, ↓j39, ↓j40, ↓j41, ↓j42, ↓j43, ↓j44, ↓j45, ↓j48, ↓j76, ↓j78, ↓j79, j83, ↓j89, j129, j130, ↓j145, ↓j146, ↓j147, ↓j150, ↓j153, j160, j162, AV.proj, AV.offOf, AV.upd, AV.size, AV.sizeL, AV.layable, argEnv, j163, j164, j166, j167, j170, j171, j172, j175, reduceCtorEq, ↓reduceIte, Nat.reduceAdd, Nat.reduceEqDiff, j182, j185, j196, j197, j250, j264, j266, j267, j269, j272, j275, j278, j297, j300, j411, e0, e1, e2, e3, e4, e5, e6]
  exact fin true _ _ _ (by unfold mayM; simp only [h0, h1, h2, h3, h4, h5, h6, decide_true, Bool.and_self]) rfl
theorem rmay_spec (m : Ms) : ACall Try.prog 12 [m.av] [] (.bool (mayM m)) [] := by
  refine ACall.run (Z := Z) (N := 39) mixed hZ Try.func12 rfl rfl (by kernel_rfl) (by simp) args_ms 0 ?_
  have fin : ∀ (r : Bool) (t : Env) (H : Heap) (k : Nat), r = mayM m → look t 2 = some (.bool r) → Final Try.prog Try.f12 (.bool (mayM m)) [] .ret ⟨39, t, H, k⟩ := fun r t H k hr h =>
    Final.one (.inr rfl) (r := .tmp 2) rfl ⟨hr ▸ h, fun vs h => by cases h⟩ (fun vs h => by cases h) (fun vs h => by cases h) (.same _ trivial)
  rcases Decidable.em (1 ≤ m.pages) with h0 | h0
  rotate_left
  · have e0 : decide (m.pages < 1) = true := decide_eq_true (by omega)
    simp -dsimp -implicitDefEqProofs only [↓j0, ↓j1, ↓j2, ↓j7, ↓j10, ↓j12, ↓j13, ↓j15, j17, j18, j19, j20, j21, j22, j23, ↓j25, ↓j27, ↓j29, ↓j30, j32, j33, ↓j38, ↓j39, ↓j40, ↓j41, ↓j42, ↓j43, ↓j44, ↓j45, ↓j48, ↓j76, ↓j78, ↓j79, j81, ↓j89, j129, j130, ↓j145, ↓j146, ↓j147, ↓j149, ↓j151, ↓j153, j159, AV.proj, AV.offOf, AV.upd, AV.size, AV.sizeL, AV.layable, argEnv, j163, j164, j166, j167, j170, j171, j172, j175, reduceCtorEq, ↓reduceIte, Nat.reduceAdd, Nat.reduceEqDiff, j182, j185, j196, j197, j250, j266, j267, j269, j300, j411, e0]
    exact fin false _ _ _ (by unfold mayM; rw [show decide (1 ≤ m.pages) = false from decide_eq_false h0]; simp) rfl
  have e0 : decide (m.pages < 1) = false := decide_eq_false (by omega)
  rcases Decidable.em (1 ≤ m.undo) with h2 | h2
  rotate_left
  · have e2 : decide (m.undo < 1) = true := decide_eq_true (by omega)
    simp -dsimp -implicitDefEqProofs only [↓j0, ↓j1, ↓j2, ↓j7, ↓j10, ↓j12, ↓j13, ↓j15, j17, j18, j19, j20, j21, j22, j23, ↓j25, ↓j27, ↓j29, ↓j30, j32, j33, ↓j38, ↓j39, ↓j40, ↓j41, ↓j42, ↓j43, ↓j44, ↓j45, ↓j48, ↓j76, ↓j78, ↓j79, j81, j83, ↓j89, j129, j130, ↓j145, ↓j146, ↓j147, ↓j148, ↓j149, ↓j151, ↓j153, j159, AV.proj, AV.offOf, AV.upd, AV.size, AV.sizeL, AV.layable, argEnv, j163, j164, j166, j167, j170, j171, j172, j175, reduceCtorEq, ↓reduceIte, Nat.reduceAdd, Nat.reduceEqDiff, j182, j185, j195, j196, j197, j250, j266, j267, j269, j272, j300, j411, e0, e2]
    exact fin false _ _ _ (by unfold mayM; rw [show decide (1 ≤ m.undo) = false from decide_eq_false h2]; simp) rfl
  have e2 : decide (m.undo < 1) = false := decide_eq_false (by omega)
  rcases Decidable.em (64 ≤ m.log) with h4 | h4
  rotate_left
  · have e4 : decide (m.log < 64) = true := decide_eq_true (by omega)
    simp -dsimp -implicitDefEqProofs only [↓j0, ↓j1, ↓j2, ↓j7, ↓j10, ↓j12, ↓j13, ↓j15, j17, j18, j19, j20, j21, j22, j23, ↓j25, ↓j27, ↓j29, ↓j30, j32, j33, ↓j38, ↓j39, ↓j40, ↓j41, ↓j42, ↓j43, ↓j44, ↓j45, ↓j48, ↓j76, ↓j78, ↓j79, j83, ↓j89, j129, j130, ↓j145, ↓j146, ↓j147, ↓j148, ↓j149, ↓j151, ↓j153, j159, AV.proj, AV.offOf, AV.upd, AV.size, AV.sizeL, AV.layable, argEnv, j163, j164, j166, j167, j170, j171, j172, j175, reduceCtorEq, ↓reduceIte, Nat.reduceAdd, Nat.reduceEqDiff, j182, j185, j195, j196, j197, j250, j266, j267, j269, j272, j275, j300, j411, e0, e2, e4]
    exact fin false _ _ _ (by unfold mayM; rw [show decide (64 ≤ m.log) = false from decide_eq_false h4]; simp) rfl
  have e4 : decide (m.log < 64) = false := decide_eq_false (by omega)
  rcases Decidable.em (m.pages ≤ 16) with h1 | h1
  rotate_left
  · have e1 : decide (m.pages ≤ 16) = false := decide_eq_false h1
    simp -dsimp -implicitDefEqProofs only [↓j0, ↓j1, ↓j2, ↓j7, ↓j9, ↓j10, ↓j12, ↓j13, ↓j15, j17, j18, j19, j20, j21, j22, j23, ↓j25, ↓j27, ↓j29, ↓j30, j32, j33, ↓j38, ↓j39, ↓j40, ↓j41, ↓j42, ↓j43, ↓j44, ↓j45, ↓j48, ↓j76, ↓j78, ↓j79, j82, j83, ↓j89, j129, j130, ↓j145, ↓j146, ↓j148, ↓j149, ↓j150, ↓j151, ↓j153, j159, j160, AV.proj, AV.offOf, AV.upd, AV.size, AV.sizeL, AV.layable, argEnv, j163, j164, j166, j167, j170, j171, j172, j175, reduceCtorEq, ↓reduceIte, Nat.reduceAdd, Nat.reduceEqDiff, j182, j185, j195, j196, j197, j250, j266, j267, j269, j272, j275, j300, j411, e0, e2, e4, e1]
    exact fin false _ _ _ (by unfold mayM; rw [show decide (m.pages ≤ 16) = false from decide_eq_false h1]; simp) rfl
  have e1 : decide (m.pages ≤ 16) = true := decide_eq_true h1
  rcases Decidable.em (m.undo ≤ 32) with h3 | h3
  rotate_left
  · have e3 : decide (m.undo ≤ 32) = false := decide_eq_false h3
    simp -dsimp -implicitDefEqProofs only [↓j0, ↓j1, ↓j2, ↓j7, ↓j9, ↓j10, ↓j12, ↓j13, ↓j15, j17, j18, j19, j20, j21, j22, j23, ↓j25, ↓j27, ↓j29, ↓j30, j32, j33, ↓j38, ↓j39, ↓j40, ↓j41, ↓j42, ↓j43, ↓j44, ↓j45, ↓j48, ↓j76, ↓j78, ↓j79, j82, j83, ↓j89, j129, j130, ↓j145, ↓j146, ↓j147, ↓j148, ↓j149, ↓j150, ↓j151, ↓j153, j159, j160, AV.proj, AV.offOf, AV.upd, AV.size, AV.sizeL, AV.layable, argEnv, j163, j164, j166, j167, j170, j171, j172, j175, reduceCtorEq, ↓reduceIte, Nat.reduceAdd, Nat.reduceEqDiff, j182, j185, j195, j196, j197, j250, j266, j267, j269, j272, j275, j300, j411, e0, e2, e4, e1, e3]
    exact fin false _ _ _ (by unfold mayM; rw [show decide (m.undo ≤ 32) = false from decide_eq_false h3]; simp) rfl
  have e3 : decide (m.undo ≤ 32) = true := decide_eq_true h3
  rcases Decidable.em (m.log ≤ 512) with h5 | h5
  rotate_left
  · have e5 : decide (m.log ≤ 512) = false := decide_eq_false h5
    simp -dsimp -implicitDefEqProofs only [↓j0, ↓j1, ↓j2, ↓j7, ↓j9, ↓j10, ↓j12, ↓j13, ↓j15, j17, j18, j19, j20, j21, j22, j23, ↓j25, ↓j27, ↓j29, ↓j30, j32, j33, ↓j38, ↓j39, ↓j40, ↓j41, ↓j42, ↓j43, ↓j44, ↓j45, ↓j48, ↓j76, ↓j78, ↓j79, j82, j83, ↓j89, j129, j130, ↓j145, ↓j146, ↓j147, ↓j148, ↓j149, ↓j150, ↓j151, ↓j153, j159, j160, AV.proj, AV.offOf, AV.upd, AV.size, AV.sizeL, AV.layable, argEnv, j163, j164, j166, j167, j170, j171, j172, j175, reduceCtorEq, ↓reduceIte, Nat.reduceAdd, Nat.reduceEqDiff, j182, j185, j195, j196, j197, j250, j266, j267, j269, j272, j275, j300, j411, e0, e2, e4, e1, e3, e5]
    exact fin false _ _ _ (by unfold mayM; rw [show decide (m.log ≤ 512) = false from decide_eq_false h5]; simp) rfl
  have e5 : decide (m.log ≤ 512) = true := decide_eq_true h5
  rcases Decidable.em ((m.last : Int) ≤ (m.maxTs : Int)) with h6 | h6
  rotate_left
  · have e6 : decide ((m.last : Int) ≤ (m.maxTs : Int)) = false := decide_eq_false h6
    simp -dsimp -implicitDefEqProofs only [↓j0, ↓j1, ↓j2, ↓j7, ↓j9, ↓j10, ↓j12, ↓j13, ↓j15, j17, j18, j19, j20, j21, j22, j23, ↓j25, ↓j27, ↓j29, ↓j30, j32, j33, ↓j38, ↓j39, ↓j40, ↓j41, ↓j42, ↓j43, ↓j44, ↓j45, ↓j48, ↓j76, ↓j78, ↓j79, j83, ↓j89, j129, j130, ↓j145, ↓j146, ↓j147, ↓j148, ↓j149, ↓j150, ↓j151, ↓j153, j159, j160, AV.proj, AV.offOf, AV.upd, AV.size, AV.sizeL, AV.layable, argEnv, j163, j164, j166, j167, j170, j171, j172, j175, reduceCtorEq, ↓reduceIte, Nat.reduceAdd, Nat.reduceEqDiff, j182, j185, j195, j196, j197, j250, j264, j266, j267, j269, j272, j275, j278, j297, j300, j411, e0, e2, e4, e1, e3, e5, e6]
    exact fin false _ _ _ (by unfold mayM; rw [show decide ((m.last : Int) ≤ (m.maxTs : Int)) = false from decide_eq_false h6]; simp) rfl
  have e6 : decide ((m.last : Int) ≤ (m.maxTs : Int)) = true := decide_eq_true h6
  simp -dsimp -implicitDefEqProofs only [↓j0, ↓j1, ↓j2, ↓j7, ↓j9, ↓j10, ↓j12, ↓j13, ↓j15, j17, j18, j19, j20, j21, j22, j23, ↓j25, ↓j27, ↓j29, ↓j30, j32, j33, ↓j38, ↓j39, ↓j40, ↓j41, ↓j42, ↓j43, ↓j44, ↓j45, ↓j48, ↓j76, ↓j78, ↓j79, j83, ↓j89, j129, j130, ↓j145, ↓j146, ↓j147, ↓j148, ↓j149, ↓j150, ↓j151, ↓j153, j159, j160, AV.proj, AV.offOf, AV.upd, AV.size, AV.sizeL, AV.layable, argEnv, j163, j164, j166, j167, j170, j171, j172, j175, reduceCtorEq, ↓reduceIte, Nat.reduceAdd, Nat.reduceEqDiff, j182, j185, j195, j196, j197, j250, j264, j266, j267, j269, j272, j275, j278, j297, j300, j411, e0, e2, e4, e1, e3, e5, e6]
  exact fin true _ _ _ (by unfold mayM; simp only [h0, h1, h2, h3, h4, h5, h6, decide_true, Bool.and_self]) rfl
def sizeM (m : Ms) : Int := if mayM { m with last := 0 } then 2 + m.pages + m.undo + m.log else 0
end Go.Proofs.Ythfaldoagmkllaa
