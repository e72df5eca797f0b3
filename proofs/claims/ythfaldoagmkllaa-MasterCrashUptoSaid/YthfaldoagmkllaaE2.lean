/- A master's text. -/
import Derived.Test.YthfaldoagmkllaaE1
set_option linter.unusedVariables false
set_option linter.unusedSimpArgs false
namespace Go.Proofs.Ythfaldoagmkllaa
open Go Go.RowKit

def markL : List UInt8 := [118, 97, 114, 118, 101, 49]
def msText (m : Ms) : List UInt8 := markL ++ putL m.seq 8 ++ (putL m.epoch 4 ++ (putL m.tail 4 ++ (putL m.lsn 8 ++ (putL m.last 4 ++ (putL m.pages.toNat 2 ++ (putL m.undo.toNat 2 ++ (putL m.log.toNat 2 ++ (putL m.maxTs 4))))))))
theorem msText_len (m : Ms) : (msText m).length = 44 := by
  simp only [msText, List.length_append, putL_len]; rfl
theorem may_nums {m : Ms} (h : mayM m = true) : 1 ≤ m.pages ∧ m.pages ≤ 16 ∧ 1 ≤ m.undo ∧ m.undo ≤ 32 ∧ 64 ≤ m.log ∧ m.log ≤ 512 ∧ m.last ≤ m.maxTs := by
  unfold mayM at h
  simp only [Bool.and_eq_true, decide_eq_true_eq] at h
  omega
set_option maxHeartbeats 1600000 in
theorem text_spec (m : Ms) (hm : m.Ok) (hy : mayM m = true) : ACall Try.prog 23 [m.av] [] (.str ⟨(msText m).toArray⟩) [] := by
  refine ACall.run (Z := Z) (N := 50) mixed hZ Try.func23 rfl rfl (by kernel_rfl) (by simp) args_ms 0 ?_
  obtain ⟨g1, g2, g3, g4, g5, g6, g7⟩ := may_nums hy
  have k1 := hm.seq
  have k2 := hm.epoch
  have k3 := hm.tail
  have k4 := hm.lsn
  have k5 := hm.last
  have k6 := hm.maxTs
  have n0 : (ByteArray.mk #[118, 97, 114, 118, 101, 49]).size = 6 := rfl
  have l1 := putL_len (m.seq) 8
  obtain ⟨T1, hT1⟩ : ∃ T, markL ++ putL (m.seq) 8 = T := ⟨_, rfl⟩
  have n1 : T1.length = 14 := by rw [← hT1, List.length_append, l1]; rfl
  have a1 : (ByteArray.mk #[118, 97, 114, 118, 101, 49]) ++ (ByteArray.mk (putL (m.seq) 8).toArray) = ByteArray.mk T1.toArray := by rw [← hT1]; exact str_append markL _
  have l2 := putL_len (m.epoch) 4
  obtain ⟨T2, hT2⟩ : ∃ T, T1 ++ putL (m.epoch) 4 = T := ⟨_, rfl⟩
  have n2 : T2.length = 18 := by rw [← hT2, List.length_append, l2, n1]
  have a2 : (ByteArray.mk T1.toArray) ++ (ByteArray.mk (putL (m.epoch) 4).toArray) = ByteArray.mk T2.toArray := by rw [← hT2]; exact str_append _ _
  have x2 : IntKind.u64.wrap (m.epoch : Int) = (m.epoch : Int) := by rw [wrap_u64, Nat.mod_eq_of_lt (by omega)]
  have l3 := putL_len (m.tail) 4
  obtain ⟨T3, hT3⟩ : ∃ T, T2 ++ putL (m.tail) 4 = T := ⟨_, rfl⟩
  have n3 : T3.length = 22 := by rw [← hT3, List.length_append, l3, n2]
  have a3 : (ByteArray.mk T2.toArray) ++ (ByteArray.mk (putL (m.tail) 4).toArray) = ByteArray.mk T3.toArray := by rw [← hT3]; exact str_append _ _
  have x3 : IntKind.u64.wrap (m.tail : Int) = (m.tail : Int) := by rw [wrap_u64, Nat.mod_eq_of_lt (by omega)]
  have l4 := putL_len (m.lsn) 8
  obtain ⟨T4, hT4⟩ : ∃ T, T3 ++ putL (m.lsn) 8 = T := ⟨_, rfl⟩
  have n4 : T4.length = 30 := by rw [← hT4, List.length_append, l4, n3]
  have a4 : (ByteArray.mk T3.toArray) ++ (ByteArray.mk (putL (m.lsn) 8).toArray) = ByteArray.mk T4.toArray := by rw [← hT4]; exact str_append _ _
  have l5 := putL_len (m.last) 4
  obtain ⟨T5, hT5⟩ : ∃ T, T4 ++ putL (m.last) 4 = T := ⟨_, rfl⟩
  have n5 : T5.length = 34 := by rw [← hT5, List.length_append, l5, n4]
  have a5 : (ByteArray.mk T4.toArray) ++ (ByteArray.mk (putL (m.last) 4).toArray) = ByteArray.mk T5.toArray := by rw [← hT5]; exact str_append _ _
  have x5 : IntKind.u64.wrap (m.last : Int) = (m.last : Int) := by rw [wrap_u64, Nat.mod_eq_of_lt (by omega)]
  have l6 := putL_len (m.pages.toNat) 2
  obtain ⟨T6, hT6⟩ : ∃ T, T5 ++ putL (m.pages.toNat) 2 = T := ⟨_, rfl⟩
  have n6 : T6.length = 36 := by rw [← hT6, List.length_append, l6, n5]
  have a6 : (ByteArray.mk T5.toArray) ++ (ByteArray.mk (putL (m.pages.toNat) 2).toArray) = ByteArray.mk T6.toArray := by rw [← hT6]; exact str_append _ _
  have x6 : IntKind.u64.wrap m.pages = (m.pages.toNat : Int) := by
    have : m.pages = ((m.pages.toNat : Nat) : Int) := by omega
    conv => lhs; rw [this]
    rw [wrap_u64, Nat.mod_eq_of_lt (by omega)]
  have l7 := putL_len (m.undo.toNat) 2
  obtain ⟨T7, hT7⟩ : ∃ T, T6 ++ putL (m.undo.toNat) 2 = T := ⟨_, rfl⟩
  have n7 : T7.length = 38 := by rw [← hT7, List.length_append, l7, n6]
  have a7 : (ByteArray.mk T6.toArray) ++ (ByteArray.mk (putL (m.undo.toNat) 2).toArray) = ByteArray.mk T7.toArray := by rw [← hT7]; exact str_append _ _
  have x7 : IntKind.u64.wrap m.undo = (m.undo.toNat : Int) := by
    have : m.undo = ((m.undo.toNat : Nat) : Int) := by omega
    conv => lhs; rw [this]
    rw [wrap_u64, Nat.mod_eq_of_lt (by omega)]
  have l8 := putL_len (m.log.toNat) 2
  obtain ⟨T8, hT8⟩ : ∃ T, T7 ++ putL (m.log.toNat) 2 = T := ⟨_, rfl⟩
  have n8 : T8.length = 40 := by rw [← hT8, List.length_append, l8, n7]
  have a8 : (ByteArray.mk T7.toArray) ++ (ByteArray.mk (putL (m.log.toNat) 2).toArray) = ByteArray.mk T8.toArray := by rw [← hT8]; exact str_append _ _
  have x8 : IntKind.u64.wrap m.log = (m.log.toNat : Int) := by
    have : m.log = ((m.log.toNat : Nat) : Int) := by omega
    conv => lhs; rw [this]
    rw [wrap_u64, Nat.mod_eq_of_lt (by omega)]
  have l9 := putL_len (m.maxTs) 4
  obtain ⟨T9, hT9⟩ : ∃ T, T8 ++ putL (m.maxTs) 4 = T := ⟨_, rfl⟩
  have n9 : T9.length = 44 := by rw [← hT9, List.length_append, l9, n8]
  have a9 : (ByteArray.mk T8.toArray) ++ (ByteArray.mk (putL (m.maxTs) 4).toArray) = ByteArray.mk T9.toArray := by rw [← hT9]; exact str_append _ _
  have x9 : IntKind.u64.wrap (m.maxTs : Int) = (m.maxTs : Int) := by rw [wrap_u64, Nat.mod_eq_of_lt (by omega)]
  have ht : T9 = msText m := by rw [← hT9, ← hT8, ← hT7, ← hT6, ← hT5, ← hT4, ← hT3, ← hT2, ← hT1]; simp [msText]
  simp -dsimp -implicitDefEqProofs only [↓j0, ↓j1, ↓j4, ↓j7, ↓j8, ↓j12, ↓j15, j17, j18, j20, j24, ↓j25, ↓j27, ↓j29, ↓j30, j34, ↓j39, ↓j42, ↓j43, ↓j45, ↓j53, ↓j76, ↓j79, j130, ↓j145, ↓j146, ↓j153, AV.proj, AV.offOf, AV.sizeL, AV.layable, argEnv, j163, j167, j170, j171, j172, j174, ↓reduceIte, Nat.reduceEqDiff, j182, j196, j197, j261, j285]
  refine CallTo.pure (args := [.int .u64 (m.seq : Nat), .int .i64 ((8 : Nat) : Int)]) rfl fok24 (by simp -dsimp -implicitDefEqProofs only [↓j25, ↓j29, ↓j30, j33, j173, j174, ↓reduceIte]; rfl) (notup (fun vs h => by cases h) fun vs h => by cases h) (put_spec (m.seq) 8 (by omega)) ?_
  simp -dsimp -implicitDefEqProofs only [↓j4, j17, j18, j20, j24, ↓j25, ↓j27, ↓j29, ↓j30, j34, ↓j43, ↓j45, ↓j48, ↓j50, ↓j53, ↓j76, ↓j79, j117, ↓j120, j130, ↓j145, ↓j146, ↓j153, AV.proj, AV.offOf, AV.size, AV.sizeL, j163, j164, j166, j167, j170, j171, j172, j174, ↓reduceIte, Nat.reduceAdd, Nat.reduceEqDiff, Nat.reduceLeDiff, j182, j196, j197, ↓j225, j262, j264, j288, j462, str_bytes, l1, n0, a1, x2]
  refine CallTo.pure (args := [.int .u64 (m.epoch : Nat), .int .i64 ((4 : Nat) : Int)]) rfl fok24 (by simp -dsimp -implicitDefEqProofs only [↓j25, ↓j29, ↓j30, j33, j173, j174, ↓reduceIte]; rfl) (notup (fun vs h => by cases h) fun vs h => by cases h) (put_spec (m.epoch) 4 (by omega)) ?_
  simp -dsimp -implicitDefEqProofs only [↓j4, j17, j18, j20, j24, ↓j25, ↓j27, ↓j29, ↓j43, ↓j45, ↓j48, ↓j50, ↓j53, ↓j76, ↓j79, j117, ↓j120, j130, ↓j145, ↓j146, ↓j153, AV.proj, AV.offOf, AV.size, AV.sizeL, j163, j164, j166, j167, j170, j171, j172, j174, ↓reduceIte, Nat.reduceAdd, Nat.reduceEqDiff, Nat.reduceLeDiff, j182, j196, j197, ↓j225, j262, j264, j291, j462, str_bytes, l2, n1, a2, x3]
  refine CallTo.pure (args := [.int .u64 (m.tail : Nat), .int .i64 ((4 : Nat) : Int)]) rfl fok24 (by simp -dsimp -implicitDefEqProofs only [↓j25, ↓j29, ↓j30, j33, j173, j174, ↓reduceIte]; rfl) (notup (fun vs h => by cases h) fun vs h => by cases h) (put_spec (m.tail) 4 (by omega)) ?_
  simp -dsimp -implicitDefEqProofs only [↓j4, j17, j18, j20, j24, ↓j25, ↓j27, ↓j29, ↓j43, ↓j45, ↓j48, ↓j53, ↓j76, ↓j79, j117, ↓j120, j130, ↓j145, ↓j146, ↓j153, AV.proj, AV.offOf, AV.size, AV.sizeL, j163, j164, j166, j167, j170, j171, j172, j174, ↓reduceIte, Nat.reduceAdd, Nat.reduceEqDiff, Nat.reduceLeDiff, j182, j196, j197, j261, j294, str_bytes, l3, n2, a3]
  refine CallTo.pure (args := [.int .u64 (m.lsn : Nat), .int .i64 ((8 : Nat) : Int)]) rfl fok24 (by simp -dsimp -implicitDefEqProofs only [↓j25, ↓j29, ↓j30, j33, j173, j174, ↓reduceIte]; rfl) (notup (fun vs h => by cases h) fun vs h => by cases h) (put_spec (m.lsn) 8 (by omega)) ?_
  simp -dsimp -implicitDefEqProofs only [↓j4, j17, j18, j20, j24, ↓j25, ↓j27, ↓j29, ↓j43, ↓j45, ↓j48, ↓j50, ↓j53, ↓j76, ↓j79, j117, ↓j120, j130, ↓j145, ↓j146, ↓j153, AV.proj, AV.offOf, AV.size, AV.sizeL, j163, j164, j166, j167, j170, j171, j172, j174, ↓reduceIte, Nat.reduceAdd, Nat.reduceEqDiff, Nat.reduceLeDiff, j182, j196, j197, ↓j225, j262, j264, j297, j462, str_bytes, l4, n3, a4, x5]
  refine CallTo.pure (args := [.int .u64 (m.last : Nat), .int .i64 ((4 : Nat) : Int)]) rfl fok24 (by simp -dsimp -implicitDefEqProofs only [↓j25, ↓j29, ↓j30, j33, j173, j174, ↓reduceIte]; rfl) (notup (fun vs h => by cases h) fun vs h => by cases h) (put_spec (m.last) 4 (by omega)) ?_
  simp -dsimp -implicitDefEqProofs only [↓j4, j17, j18, j20, j24, ↓j25, ↓j27, ↓j29, ↓j43, ↓j45, ↓j48, ↓j50, ↓j53, ↓j76, ↓j79, j117, ↓j120, j130, ↓j145, ↓j146, ↓j153, AV.proj, AV.offOf, AV.size, AV.sizeL, j163, j164, j166, j167, j170, j171, j172, j174, ↓reduceIte, Nat.reduceAdd, Nat.reduceEqDiff, Nat.reduceLeDiff, j182, j196, j197, ↓j225, j250, j262, j269, j300, j457, str_bytes, l5, n4, a5, x6]
  refine CallTo.pure (args := [.int .u64 (m.pages.toNat : Nat), .int .i64 ((2 : Nat) : Int)]) rfl fok24 (by simp -dsimp -implicitDefEqProofs only [↓j25, ↓j29, ↓j30, j33, j173, j174, ↓reduceIte]; rfl) (notup (fun vs h => by cases h) fun vs h => by cases h) (put_spec (m.pages.toNat) 2 (by omega)) ?_
  simp -dsimp -implicitDefEqProofs only [↓j4, j17, j18, j20, j24, ↓j25, ↓j27, ↓j29, ↓j43, ↓j45, ↓j48, ↓j50, ↓j53, ↓j76, ↓j79, j117, ↓j120, j130, ↓j145, ↓j146, ↓j153, AV.proj, AV.offOf, AV.size, AV.sizeL, j163, j164, j166, j167, j170, j171, j172, j174, ↓reduceIte, Nat.reduceAdd, Nat.reduceEqDiff, Nat.reduceLeDiff, j182, j196, j197, ↓j225, j250, j262, j272, j300, j457, str_bytes, l6, n5, a6, x7]
  refine CallTo.pure (args := [.int .u64 (m.undo.toNat : Nat), .int .i64 ((2 : Nat) : Int)]) rfl fok24 (by simp -dsimp -implicitDefEqProofs only [↓j25, ↓j29, ↓j30, j33, j173, j174, ↓reduceIte]; rfl) (notup (fun vs h => by cases h) fun vs h => by cases h) (put_spec (m.undo.toNat) 2 (by omega)) ?_
  simp -dsimp -implicitDefEqProofs only [↓j4, j17, j18, j20, j24, ↓j25, ↓j27, ↓j29, ↓j43, ↓j45, ↓j48, ↓j50, ↓j53, ↓j76, ↓j79, j117, ↓j120, j130, ↓j145, ↓j146, ↓j153, AV.proj, AV.offOf, AV.size, AV.sizeL, j163, j164, j166, j167, j170, j171, j172, j174, ↓reduceIte, Nat.reduceAdd, Nat.reduceEqDiff, Nat.reduceLeDiff, j182, j196, j197, ↓j225, j250, j262, j275, j300, j457, str_bytes, l7, n6, a7, x8]
  refine CallTo.pure (args := [.int .u64 (m.log.toNat : Nat), .int .i64 ((2 : Nat) : Int)]) rfl fok24 (by simp -dsimp -implicitDefEqProofs only [↓j25, ↓j29, ↓j30, j33, j173, j174, ↓reduceIte]; rfl) (notup (fun vs h => by cases h) fun vs h => by cases h) (put_spec (m.log.toNat) 2 (by omega)) ?_
  simp -dsimp -implicitDefEqProofs only [↓j4, j17, j18, j20, j24, ↓j25, ↓j27, ↓j29, ↓j43, ↓j45, ↓j48, ↓j50, ↓j53, ↓j76, ↓j79, j117, ↓j120, j130, ↓j145, ↓j146, ↓j153, AV.proj, AV.offOf, AV.size, AV.sizeL, j163, j164, j166, j167, j170, j171, j172, j174, ↓reduceIte, Nat.reduceAdd, Nat.reduceEqDiff, Nat.reduceLeDiff, j182, j196, j197, ↓j225, j262, j264, j278, j300, j462, str_bytes, l8, n7, a8, x9]
  refine CallTo.pure (args := [.int .u64 (m.maxTs : Nat), .int .i64 ((4 : Nat) : Int)]) rfl fok24 (by simp -dsimp -implicitDefEqProofs only [↓j25, ↓j29, ↓j30, j33, j173, j174, ↓reduceIte]; rfl) (notup (fun vs h => by cases h) fun vs h => by cases h) (put_spec (m.maxTs) 4 (by omega)) ?_
  simp -dsimp -implicitDefEqProofs only [↓j3, ↓j4, j17, j18, j20, j24, ↓j25, ↓j29, ↓j39, ↓j48, j117, ↓j120, ↓j145, j170, j171, j172, j174, ↓reduceIte, Nat.reduceAdd, Nat.reduceEqDiff, Nat.reduceLeDiff, str_bytes, l9, n8, a9]
  refine ⟨by kernel_rfl, ?_⟩
  simp -dsimp -implicitDefEqProofs only [↓j10]
  rw [← ht]
  exact Final.one (.inr rfl) (r := .tmp 2) rfl ⟨rfl, fun vs h => by cases h⟩ (fun vs h => by cases h) (fun vs h => by cases h) (.same _ trivial)
end Go.Proofs.Ythfaldoagmkllaa
