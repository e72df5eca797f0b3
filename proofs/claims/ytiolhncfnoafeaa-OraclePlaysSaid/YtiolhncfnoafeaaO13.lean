/- The document's oracle: Begin. -/
import Derived.Test.YtiolhncfnoafeaaO12
set_option maxRecDepth 8000
set_option linter.unusedVariables false
set_option linter.unusedSimpArgs false
namespace Go.Proofs.Ytiolhncfnoafeaa
open Go Go.RowKit

def rbegP (last : Nat) (l : List Tx) : (Nat × Nat × Nat) × List Tx := if 8 ≤ (liveL l).length then ((0, 0, 10), l) else ((l.length + 1, last, 0), l ++ [⟨l.length + 1, last, true⟩])
/-- The name of the list behind Begin. -/
def rbegN (l : List Tx) : Nat := if 8 ≤ (liveL l).length then 4 else 101
set_option maxHeartbeats 3200000 in
theorem rbegin_spec (last max : Nat) (l : List Tx) (hl : l.length < 1000) : ACall Try.prog 16 [.ptr 99 0 []] (roH last max l 4) (.tuple [.int .u64 (rbegP last l).1.1, .int .u32 (rbegP last l).1.2.1, .int .i64 (rbegP last l).1.2.2]) (roH last max (rbegP last l).2 (rbegN l)) := by
  refine ACall.runH (Z := Z) (N := 39) mixed hZ Try.func16 rfl rfl (by kernel_rfl) (by simp) (ro_args no_args) ro_on' 100 (ro_lt (by omega)) ?_
  have hlv := rlv_spec last max l (by omega) 4 rfl
  have lcl := liveL_le l
  have hW : rbegP last l = if 8 ≤ (liveL l).length then ((0, 0, 10), l) else ((l.length + 1, last, 0), l ++ [⟨l.length + 1, last, true⟩]) := rfl
  have hN : rbegN l = if 8 ≤ (liveL l).length then 4 else 101 := rfl
  have ret : ∀ (a b c m : Nat) (l' : List Tx) (t : Env) (H : Heap) (nx : Nat), ((a, b, c), l') = rbegP last l → m = rbegN l → look t 2 = some (.int .u64 a) → look t 3 = some (.int .u32 b) → look t 4 = some (.int .i64 c) → Heap.get H 99 = some (roC last max l' m) → (0 < l'.length → Heap.get H m = some (.cells (.agg (l'.map Tx.av)))) → Final Try.prog Try.f16 (.tuple [.int .u64 (rbegP last l).1.1, .int .u32 (rbegP last l).1.2.1, .int .i64 (rbegP last l).1.2.2]) (roH last max (rbegP last l).2 (rbegN l)) .ret ⟨39, t, H, nx⟩ := fun a b c m l' t H nx hk hm h1 h2 h3 h4 h5 => by
    rw [← hk, ← hm]
    exact Final.manyH (.inr rfl) (rs := [.tmp 2, .tmp 3, .tmp 4]) (us := [.int .u64 a, .int .u32 b, .int .i64 c]) rfl ⟨⟨h1, fun vs h => by cases h⟩, ⟨h2, fun vs h => by cases h⟩, ⟨h3, fun vs h => by cases h⟩, trivial⟩ (by simp) ⟨.same _ trivial, .same _ trivial, .same _ trivial, trivial⟩ (ro_keep h4 h5)
  simp -dsimp -implicitDefEqProofs only [↓j0, ↓j1, ↓j7, ↓j12, ↓j15, j17, j18, j20, ↓j25, ↓j29, ↓j30, j33, ↓j38, ↓j39, ↓j53, ↓j145, argEnv, j171, reduceCtorEq, ↓reduceIte]
  refine CallTo.gen (args := [.ptr 99 0 []]) (roH last max l 4) (roH last max l 4) 100 rfl fok23 (by simp -dsimp -implicitDefEqProofs only [↓j25, ↓j29, j173, j174, ↓reduceIte]) (notup1 fun vs h => by cases h) hlv (fun n b h => h) ⟨by simp, put_ro⟩ ?_
  by_cases h8 : 8 ≤ (liveL l).length
  · have e1 : decide (8 ≤ (((liveL l).length : Nat) : Int)) = true := decide_eq_true (by omega)
    rw [if_pos h8] at hW hN
    have hp : 0 < l.length := by omega
    rw [ro_lv hp]
    simp -dsimp -implicitDefEqProofs only [↓j0, ↓j1, ↓j7, ↓j10, ↓j12, ↓j13, ↓j15, j17, j18, j20, j21, j22, j23, ↓j25, ↓j29, ↓j30, j33, ↓j39, ↓j48, ↓j89, ↓j145, ↓j146, ↓j147, ↓j149, j162, j171, j172, j173, j174, ↓reduceIte, Nat.reduceEqDiff, j185, lvH, e1]
    refine ret 0 0 10 4 l _ _ _ hW.symm hN.symm rfl rfl rfl ?_ fun _ => rfl
    rw [roC, (txV_ne hp 4).1]; rfl
  have e1 : decide (8 ≤ (((liveL l).length : Nat) : Int)) = false := decide_eq_false (by omega)
  rw [if_neg h8] at hW hN
  have w1 : IntKind.i64.wrap ((l.length : Int) + 1) = ((l.length + 1 : Nat) : Int) := by rw [wrap_i64 (by omega) (by omega)]; omega
  cases hl0 : l with
  | nil =>
    subst hl0
    have hv : txV [] 4 = .nilsl := rfl
    have hb : txB [] 4 = [] := rfl
    have z1 : IntKind.i64.wrap (((0 : Nat) : Int) + 1) = 1 := rfl
    have z2 : IntKind.u64.wrap 1 = 1 := rfl
    have u1 : Unif 3 [AV.agg [.int .u64 1, .int .u32 last, .bool true]] := unif_tx [⟨1, last, true⟩]
    have tk : List.take 1 (List.drop 0 [AV.agg [.int .u64 1, .int .u32 last, .bool true]]) = [AV.agg [.int .u64 1, .int .u32 last, .bool true]] := rfl
    rw [roH, roC, hv, hb]
    simp -dsimp -implicitDefEqProofs only [↓j0, ↓j1, ↓j4, ↓j8, ↓j9, ↓j12, ↓j13, ↓j15, j17, j18, j20, j21, j22, j23, j24, ↓j25, ↓j27, ↓j29, ↓j30, j32, j33, ↓j38, ↓j43, ↓j45, ↓j48, ↓j50, ↓j51, ↓j54, ↓j56, ↓j58, ↓j60, ↓j74, ↓j76, ↓j79, ↓j89, ↓j124, j125, j126, j127, j128, j130, j134, j144, ↓j145, ↓j146, ↓j148, ↓j149, ↓j153, j154, j162, partsAV, AV.proj, AV.offOf, AV.size, AV.sizeL, AV.layable, j163, j164, j166, j167, j168, j169, j170, j171, j172, j173, j174, j179, j180, reduceCtorEq, ↓reduceIte, Nat.reduceAdd, Nat.reduceMul, Nat.reduceEqDiff, Nat.reduceLeDiff, j182, j183, j185, j196, j197, j213, j214, j215, j216, j217, ↓j225, Nat.reducePow, List.replicate, j234, j260, j276, j282, j288, j292, j307, j310, j313, j359, j364, j369, j378, e1, z1, z2]
    refine DoAppend_of rfl rfl at34 ?_
    simp -dsimp -implicitDefEqProofs only [↓j3, ↓j4, j17, j18, j19, j20, j21, j22, j23, j24, ↓j25, ↓j27, ↓j29, ↓j44, ↓j45, ↓j56, ↓j78, ↓j79, ↓j100, ↓j106, j107, ↓j145, ↓j146, ↓j148, ↓j153, AV.proj, AV.offOf, AV.upd, AV.size, AV.sizeL, AV.layable, j163, j164, j166, j167, j168, j169, j170, j171, j172, j173, j174, ↓reduceIte, Nat.reduceAdd, Nat.reduceMul, Nat.reduceEqDiff, Nat.reduceLeDiff, j182, j196, j197, j223, j227, j228, j230, j231, Nat.reduceBEq, j234, j275, j288, u1]
    refine ⟨by kernel_rfl, ?_⟩
    have z3 : IntKind.u64.wrap ((1 : Nat) : Int) = 1 := rfl
    simp -dsimp -implicitDefEqProofs only [↓j3, ↓j4, ↓j8, ↓j12, ↓j15, j17, j18, j20, j24, ↓j25, ↓j27, ↓j29, ↓j30, j33, ↓j38, ↓j39, ↓j43, ↓j45, ↓j50, ↓j56, ↓j58, ↓j61, ↓j76, ↓j79, j130, j135, j143, ↓j145, ↓j146, ↓j153, AV.proj, AV.offOf, AV.size, AV.sizeL, j163, j164, j166, j167, j170, j171, j172, j174, reduceCtorEq, ↓reduceIte, Nat.reduceAdd, Nat.reduceEqDiff, j182, j196, j197, ↓j225, j260, j276, j282, j288, j292, j369, j378, z3]
    refine ⟨by kernel_rfl, ?_⟩
    simp -dsimp -implicitDefEqProofs only [↓j10]
    exact ret 1 last 0 101 [⟨1, last, true⟩] _ _ _ hW.symm hN.symm rfl rfl rfl rfl fun _ => rfl
  | cons t0 r0 =>
    rw [← hl0]
    have hp : 0 < l.length := by rw [hl0]; simp
    clear hl0
    obtain ⟨N, hNN⟩ : ∃ N, l.length + 1 = N := ⟨_, rfl⟩
    have w2 : IntKind.u64.wrap ((N : Nat) : Int) = (N : Int) := by rw [wrap_u64, Nat.mod_eq_of_lt (by omega)]
    rw [hNN] at w1 hW
    have ul := unif_tx l
    have u1 : Unif 3 [AV.agg [.int .u64 N, .int .u32 last, .bool true]] := unif_tx [⟨N, last, true⟩]
    have tk : List.take 1 (List.drop 0 [AV.agg [.int .u64 N, .int .u32 last, .bool true]]) = [AV.agg [.int .u64 N, .int .u32 last, .bool true]] := rfl
    rw [ro_lv hp]
    simp -dsimp -implicitDefEqProofs only [↓j0, ↓j1, ↓j4, ↓j8, ↓j9, ↓j12, ↓j13, ↓j15, j17, j18, j20, j21, j22, j23, j24, ↓j25, ↓j27, ↓j29, ↓j30, j32, j33, ↓j38, ↓j43, ↓j45, ↓j48, ↓j50, ↓j51, ↓j54, ↓j56, ↓j58, ↓j61, ↓j74, ↓j76, ↓j79, ↓j89, ↓j124, j125, j126, j127, j128, j130, j135, j143, ↓j145, ↓j146, ↓j148, ↓j149, ↓j153, j154, j162, partsAV, AV.proj, AV.offOf, AV.size, AV.sizeL, AV.layable, j163, j164, j166, j167, j168, j169, j170, j171, j172, j173, j174, j179, j180, reduceCtorEq, ↓reduceIte, Nat.reduceAdd, Nat.reduceMul, Nat.reduceEqDiff, Nat.reduceLeDiff, j182, j183, j185, j196, j197, j213, j214, j215, j216, j217, ↓j225, Nat.reducePow, List.replicate, j234, j260, j276, j282, j288, j292, j307, j310, j313, j359, j364, j369, j378, e1, lvH, w1, w2]
    refine DoAppend_of rfl rfl at34 ?_
    simp -dsimp -implicitDefEqProofs only [↓j27, ↓j101, ↓j102, ↓j106, j107, ↓j145, ↓j146, ↓j153, AV.proj, AV.offOf, j166, ↓reduceIte, Nat.reduceEqDiff, Nat.reduceLeDiff, j182, j184, j188, j189, j196, j197, j213, j214, j215, j222, j223, j227, j228, j230, j231, j234, u1, ul]
    refine ⟨by omega, ?_⟩
    have lt1 : List.take l.length (List.map Tx.av l) = List.map Tx.av l := List.take_of_length_le (by simp)
    have lt2 : List.map Tx.av l ++ [AV.agg [.int .u64 N, .int .u32 last, .bool true]] = List.map Tx.av (l ++ [(⟨N, last, true⟩ : Tx)]) := by rw [List.map_append]; rfl
    obtain ⟨l2, hl2⟩ : ∃ l2, l ++ [(⟨N, last, true⟩ : Tx)] = l2 := ⟨_, rfl⟩
    have hl2l : l2.length = N := by rw [← hl2]; simp; omega
    rw [hl2] at lt2 hW
    simp -dsimp -implicitDefEqProofs only [↓j3, ↓j4, j17, j18, j19, j20, j21, j22, j23, j24, ↓j25, ↓j27, ↓j29, ↓j44, ↓j45, ↓j56, ↓j78, ↓j79, ↓j145, ↓j146, ↓j153, AV.proj, AV.offOf, AV.upd, AV.size, AV.sizeL, AV.layable, j163, j164, j166, j167, j168, j169, j170, j171, j172, j173, j174, ↓reduceIte, Nat.reduceAdd, Nat.reduceEqDiff, j182, j196, j197, j227, j228, j230, j231, j275, j288, lt1, lt2, hNN]
    refine ⟨by kernel_rfl, ?_⟩
    simp -dsimp -implicitDefEqProofs only [↓j3, ↓j4, ↓j8, ↓j12, ↓j15, j17, j18, j20, j24, ↓j25, ↓j27, ↓j29, ↓j30, j33, ↓j38, ↓j39, ↓j43, ↓j45, ↓j50, ↓j56, ↓j58, ↓j61, ↓j76, ↓j79, j130, j135, j143, ↓j145, ↓j146, ↓j153, AV.proj, AV.offOf, AV.size, AV.sizeL, j163, j164, j166, j167, j170, j171, j172, j174, reduceCtorEq, ↓reduceIte, Nat.reduceAdd, Nat.reduceEqDiff, j182, j196, j197, ↓j225, j260, j276, j282, j288, j292, j369, j378, w2]
    refine ⟨by kernel_rfl, ?_⟩
    simp -dsimp -implicitDefEqProofs only [↓j10]
    refine ret N last 0 101 l2 _ _ _ hW.symm hN.symm rfl rfl rfl ?_ fun _ => rfl
    rw [roC, (txV_ne (by omega) 101).1, hl2l]; rfl
end Go.Proofs.Ytiolhncfnoafeaa
