/- The pages of this seat. -/
import Derived.Test.YtlagoaggllhggaaG2
set_option linter.unusedVariables false
set_option linter.unusedSimpArgs false
namespace Go.Proofs.Ytlagoaggllhggaa
open Go Go.RowKit

structure Old where
  live : Bool
  page : Int
  ts : Int
  rpage : Int
  rslot : Int
  delta : ByteArray

abbrev Old.av (o : Old) : AV := .agg [.bool o.live, .int .u16 o.page, .int .u32 o.ts, .agg [.int .u16 o.rpage, .int .u8 o.rslot], .str o.delta]
abbrev rowAV (xs : List Old) : AV := .vsl (xs.map Old.av) xs.length
abbrev undoAV (lsn : Int) (xs : List Old) : AV := .agg [.int .u64 lsn, rowAV xs]

def Old.cost (o : Old) : Nat := if o.live then 10 + o.delta.size else 0
def sizeOf' (xs : List Old) : Nat := 16 + (xs.map fun o => 1 + o.cost).sum

theorem unif_olds (xs : List Old) : Unif 6 (xs.map Old.av) := fun x hx => by
  obtain ⟨o, _, rfl⟩ := List.mem_map.1 hx; rfl
theorem sizeL_olds (xs : List Old) (i : Nat) (h : i ≤ xs.length) : AV.sizeL ((xs.map Old.av).take i) = i * 6 := (unif_olds xs).sizeL_take (by simpa using h)
theorem on_olds (S : Nat → Prop) (xs : List Old) : AV.onL S (xs.map Old.av) := by
  rw [AV.onL_iff]
  intro x hx
  obtain ⟨o, _, rfl⟩ := List.mem_map.1 hx
  simp [AV.on, AV.onL]
theorem on_undo (S : Nat → Prop) (lsn : Int) (xs : List Old) : AV.on S (undoAV lsn xs) := ⟨trivial, on_olds S xs, trivial⟩
theorem sizeOf_take {xs : List Old} {i : Nat} {o : Old} (h : xs[i]? = some o) : sizeOf' (xs.take (i + 1)) = sizeOf' (xs.take i) + 1 + o.cost := by
  rw [take_succ h]; simp [sizeOf']; omega
theorem sizeOf_le (xs : List Old) (i : Nat) : sizeOf' (xs.take i) ≤ sizeOf' xs := by
  conv => rhs; rw [← List.take_append_drop i xs]
  simp only [sizeOf', List.map_append, List.sum_append]; omega

theorem len_le_size (xs : List Old) : xs.length + 16 ≤ sizeOf' xs := by
  induction xs with
  | nil => simp [sizeOf']
  | cons o xs ih => simp [sizeOf'] at ih ⊢; omega

theorem args1 {lsn : Int} {xs : List Old} : ∀ x, x ∈ [undoAV lsn xs] → AV.on (fun _ => False) x ∧ ∀ vs, x ≠ .tuple vs := fun x hx => by
  simp only [List.mem_singleton] at hx
  subst hx
  exact ⟨on_undo _ _ _, fun vs h => by cases h⟩

def szSt (xs : List Old) (i acc : Nat) : St := ⟨25, [(9, .int .i64 i), (8, .int .i64 xs.length), (7, rowAV xs), (3, .int .i64 acc), (2, .int .i64 0)], [], 1 + i⟩

theorem size_spec (lsn : Int) (xs : List Old) (h : sizeOf' xs < 9000000000000000000) : ACall Try.prog 28 [undoAV lsn xs] [] (.int .i64 (sizeOf' xs)) [] := by
  refine ACall.run (Z := Z) (N := 25) mixed hZ Try.func28 rfl rfl (by kernel_rfl) (by simp) args1 0 ?_
  simp -dsimp -implicitDefEqProofs only [↓j0, ↓j1, ↓j7, ↓j12, ↓j14, ↓j15, ↓j16, j17, j18, j20, ↓j25, ↓j27, ↓j29, ↓j30, j33, ↓j38, ↓j39, ↓j42, ↓j43, ↓j45, ↓j58, ↓j62, ↓j76, ↓j79, j133, j142, ↓j145, ↓j146, ↓j153, AV.proj, AV.offOf, AV.size, AV.sizeL, AV.layable, argEnv, j163, j164, j166, j167, j171, j172, ↓reduceIte, Nat.reduceEqDiff, j182, j196, j197, j286, j295, j416]
  refine AWp.loopR (Z := Z) mixed hZ (by kernel_rfl) (fun n s => ∃ i, i + n = xs.length ∧ s = szSt xs i (sizeOf' (xs.take i))) (n0 := xs.length) (s0 := szSt xs 0 16) ?_ ⟨0, by omega, by simp [sizeOf']⟩ ?_ rfl
  · exact Wk.sub (by simp -dsimp -implicitDefEqProofs only [↓j25, j179, ↓reduceIte, Nat.reduceEqDiff, j182, j183, j184, j197, j202, j203, j204, j209, j223] <;> simp)
  · rintro n s ⟨i, hi, rfl⟩
    refine ⟨rfl, ?_⟩
    simp -dsimp -implicitDefEqProofs only [szSt, ↓j0, ↓j1, ↓j7, ↓j12, ↓j13, ↓j15, j17, j18, j20, ↓j25, ↓j29, ↓j48, ↓j89, ↓j145, ↓j146, ↓j149, j159, j172, ↓reduceIte, Nat.reduceEqDiff, j185]
    refine ⟨fun hlt => ?_, fun hge => ?_⟩
    · have hlt : (i : Int) < (xs.length : Int) := of_decide_eq_true hlt
      obtain ⟨o, ho⟩ := list_get (xs := xs) (i := i) (by omega)
      have hsz := sizeL_olds xs i (by omega)
      have hle := sizeOf_le xs (i + 1)
      rw [sizeOf_take ho] at hle
      simp -dsimp -implicitDefEqProofs only [↓j0, ↓j1, ↓j7, ↓j9, ↓j12, ↓j13, ↓j14, ↓j15, j17, j18, j19, j20, j21, j22, j23, ↓j25, ↓j27, ↓j29, ↓j30, j33, ↓j38, ↓j39, ↓j41, ↓j43, ↓j44, ↓j45, ↓j46, ↓j48, ↓j76, ↓j77, ↓j78, ↓j79, ↓j89, ↓j92, j129, j131, ↓j145, ↓j146, ↓j149, ↓j153, j154, AV.proj, AV.offOf, AV.upd, AV.size, AV.sizeL, AV.layable, j163, j167, j171, j172, j177, ↓reduceIte, Nat.reduceAdd, Nat.reduceEqDiff, j182, j185, j191, j197, j206, j207, j208, j224, j253, j287, j328, j329, j331, j380, ho, hlt, hsz]
      have hlen := len_le_size xs
      have hc : o.cost = if o.live then 10 + o.delta.size else 0 := rfl
      refine ⟨fun hl => ?_, fun hl => ?_⟩
      all_goals
        simp -dsimp -implicitDefEqProofs only [↓j0, ↓j1, ↓j7, ↓j9, ↓j15, j17, j18, j20, ↓j25, ↓j27, ↓j29, ↓j30, j33, ↓j38, ↓j39, ↓j43, ↓j45, ↓j48, ↓j58, ↓j59, ↓j76, ↓j79, ↓j89, j132, j141, ↓j145, ↓j146, ↓j153, j154, AV.proj, AV.offOf, AV.size, AV.sizeL, j163, j164, j166, j167, j171, ↓reduceIte, Nat.reduceAdd, Nat.reduceEqDiff, j182, j185, j196, j197, j258, j259, j343, hl]
        refine ⟨n - 1, szSt xs (i + 1) (sizeOf' (xs.take (i + 1))), by omega, ⟨i + 1, by omega, rfl⟩, Wk.sub ?_⟩
        rw [sizeOf_take ho]
        simp only [hl, if_true, Bool.false_eq_true, if_false] at hc
        simp (disch := omega) only [↓j0, ↓j1, ↓j2, ↓j3, ↓j4, ↓j5, ↓j6, ↓j7, ↓j8, ↓j9, ↓j10, ↓j11, ↓j12, ↓j13, ↓j14, ↓j15, ↓j16, j17, j18, j19, j20, j21, j22, j23, j24, ↓j25, j26, ↓j27, j28, ↓j29, ↓j30, ↓j31, j32, j33, j34, j35, j36, j37, ↓j38, ↓j39, ↓j40, ↓j41, ↓j42, ↓j43, ↓j44, ↓j45, ↓j46, ↓j47, ↓j48, ↓j49, ↓j50, ↓j51, ↓j52, ↓j53, ↓j54, ↓j55, ↓j56, ↓j57, ↓j58, ↓j59, ↓j60, ↓j61, ↓j62, ↓j63, ↓j64, ↓j65, ↓j66, ↓j67, ↓j68, ↓j69, ↓j70, ↓j71, ↓j72, ↓j73, ↓j74, ↓j75, ↓j76, ↓j77, ↓j78, ↓j79, ↓j80, j81, j82, j83, j84, j85, j86, j87, j88, ↓j89, ↓j90, ↓j91, ↓j92, ↓j93, ↓j94, ↓j95, ↓j96, ↓j97, ↓j98, ↓j99, ↓j100, ↓j101, ↓j102, ↓j103, ↓j104, ↓j105, ↓j106, j107, j108, j109, j110, j111, j112, j113, j114, j115, j116, j117, j118, j119, ↓j120, ↓j121, ↓j122, ↓j123, ↓j124, j125, j126, j127, j128, j129, j130, j131, j132, j133, j134, j135, j136, j137, j138, j139, j140, j141, j142, j143, j144, ↓j145, ↓j146, ↓j147, ↓j148, ↓j149, ↓j150, ↓j151, ↓j152, ↓j153, j154, j155, j156, j157, j158, j159, j160, j161, j162, partsAV, AV.proj, AV.offOf, AV.upd, AV.size, AV.sizeL, AV.layable, AV.flat, AV.flatL, argEnv, j163, j164, j165, j166, j167, j168, j169, j170, j171, j172, j173, j174, j175, j176, j177, j178, j179, j180, j181, reduceCtorEq, ↓reduceIte, Nat.reduceAdd, Nat.reduceMul, Nat.reduceEqDiff, Nat.reduceLT, Nat.reduceLeDiff, Nat.reduceSub, Int.reduceLT, Int.reduceLE, Int.reduceAdd, Int.reduceEq, Int.reduceToNat, j182, j183, j184, j185, j186, j187, j188, j189, j190, j191, j192, j193, j194, j195, j196, j197, Int.reduceNeg, j198, j199, j200, j201, j202, j203, j204, j205, j206, j207, j208, j209, j210, j211, j212, kindOf, j213, j214, j215, j216, j217, j218, j219, j220, j221, j222, j223, j224, ↓j225, j226, Nat.reducePow, j227, List.replicate, j228, j229, j230, j231, Nat.reduceBEq, Int.reduceBEq, bndAV, j232, j233, j234, ↓j235, ↓j236, ↓j237, ↓j238, ↓j239, j240, j241, j242, j243, ↓j244, ↓j245, evL, capOk, j246, j247, j248, j249, j250, j251, j252, j253, j254, j255, j256, j257, j258, j259, j260, j261, j262, j263, j264, j265, j266, j267, j268, j269, j270, j271, j272, j273, j274, j275, j276, j277, j278, j279, j280, j281, j282, j283, j284, j285, j286, j287, j288, j289, j290, j291, j292, j293, j294, j295, j296, j297, j298, j299, j300, j301, j302, j303, j304, j305, j306, j307, j308, j309, j310, j311, j312, j313, j314, j315, j316, j317, j318, j319, j320, j321, j322, j323, j324, j325, j326, j327, j328, j329, j330, j331, j332, j333, j334, j335, j336, j337, j338, j339, j340, j341, j342, j343, j344, j345, j346, j347, j348, j349, j350, j351, j352, j353, j354, j355, j356, j357, j358, j359, j360, j361, j362, j363, j364, j365, j366, j367, j368, j369, j370, j371, j372, j373, j374, j375, j376, j377, j378, j379, j380, j381, j382, j383, j384, j385, j386, j387, j388, j389, j390, j391, j392, j393, j394, j395, j396, j397, j398, j399, j400, j401, j402, j403, j404, j405, j406, j407, j408, j409, j410, j411, j412, j413, j414, j415, j416, j417, j418, j419, j420, j421, j422, j423, j424, j425, j426, wrap_i64]
        omega
    · have hge : ¬ (i : Int) < (xs.length : Int) := of_decide_eq_false hge
      have : xs.take i = xs := List.take_of_length_le (by omega)
      rw [this]
      exact Final.one (.inr rfl) rfl ⟨rfl, fun vs h => by cases h⟩ (fun vs h => by cases h) (fun vs h => by cases h) (.same _ trivial)
end Go.Proofs.Ytlagoaggllhggaa
