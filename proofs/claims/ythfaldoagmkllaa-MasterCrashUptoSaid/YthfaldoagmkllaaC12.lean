/- The document's sum and numbers; frames; the law RingFrames. -/
import Derived.Test.YthfaldoagmkllaaC11
set_option linter.unusedVariables false
set_option linter.unusedSimpArgs false
namespace Go.Proofs.Ythfaldoagmkllaa
open Go Go.RowKit

theorem notup {x y : AV} (hx : ∀ vs, x ≠ .tuple vs) (hy : ∀ vs, y ≠ .tuple vs) : ∀ z, z ∈ [x, y] → ∀ vs, z ≠ .tuple vs := fun z hz => by
  simp only [List.mem_cons, List.not_mem_nil, or_false] at hz
  rcases hz with rfl | rfl
  · exact hx
  · exact hy

theorem str_append (a b : List UInt8) : (ByteArray.mk a.toArray) ++ (ByteArray.mk b.toArray) = ByteArray.mk (a ++ b).toArray := by
  apply ByteArray.ext
  rw [ByteArray.data_append]
  simp

theorem rmore_spec (s : List UInt8) (hl : s.length ≤ 9223372036854775807) : ACall Try.prog 41 [.int .u32 0, .str ⟨s.toArray⟩] [] (.int .u32 (crcSum s : Nat)) [] := by
  refine ACall.run (Z := Z) (N := 30) mixed hZ Try.func41 rfl rfl (by kernel_rfl) (by simp) args_is 0 ?_
  have x0 : IntKind.u32.wrap (4294967295 - 0) = ((4294967295 : Nat) : Int) := by decide
  simp -dsimp -implicitDefEqProofs only [↓j0, ↓j1, ↓j7, ↓j12, ↓j14, ↓j15, ↓j16, j17, j18, j20, ↓j25, ↓j29, ↓j30, j33, ↓j38, ↓j39, ↓j48, ↓j89, ↓j145, ↓j146, j155, argEnv, j172, reduceCtorEq, ↓reduceIte, j185, j196, x0]
  refine AWp.loopR (Z := Z) mixed hZ (by kernel_rfl) (fun n st => ∃ i, i + n = s.length ∧ st = mrSt 30 0 s i (crcL 4294967295 (s.take i)) []) (n0 := s.length) (s0 := mrSt 30 0 s 0 4294967295 []) ?_ ⟨0, by omega, rfl⟩ ?_ rfl
  · exact Wk.sub (by simp -dsimp -implicitDefEqProofs only [↓j25, j171, j179, reduceCtorEq, ↓reduceIte, Nat.reduceEqDiff, j182, j183, j184, j202, j203, j204, j209, j223] <;> simp)
  rintro n st ⟨i, hi, rfl⟩
  refine ⟨rfl, ?_⟩
  have hrl : crcL 4294967295 (s.take i) < 4294967296 := crcL_lt (by decide)
  obtain ⟨r, hr⟩ : ∃ r, crcL 4294967295 (s.take i) = r := ⟨_, rfl⟩
  rw [hr] at hrl
  rcases Nat.lt_or_ge i s.length with hlt | hge
  · have hd : decide ((i : Int) < (s.length : Int)) = true := decide_eq_true (by omega)
    have hix : (i : Int) < (s.length : Int) := by omega
    obtain ⟨b, hb⟩ := list_get (xs := s) (i := i) (by omega)
    have hbt : byteAt ⟨s.toArray⟩ (i : Int) = (b.toNat : Int) := by
      unfold byteAt
      rw [Int.toNat_natCast, Array.getD_eq_getD_getElem?, List.getElem?_toArray, hb]; rfl
    have hbl := b.toNat_lt
    have hwb : IntKind.u32.wrap (b.toNat : Int) = (b.toNat : Int) := by rw [wrap_u32, Nat.mod_eq_of_lt (by omega)]
    have hxr : bXor .u32 (r : Int) (b.toNat : Int) = ((r ^^^ b.toNat : Nat) : Int) := bXor_u32 hrl (by omega)
    have hw : IntKind.i64.wrap ((i : Int) + 1) = ((i + 1 : Nat) : Int) := by rw [wrap_i64 (by omega) (by omega)]; omega
    have hnext := crcL_take hb 4294967295
    rw [hr] at hnext
    have hql := xor_byte_lt b hrl
    obtain ⟨q, hq⟩ : ∃ q, r ^^^ b.toNat = q := ⟨_, rfl⟩
    rw [hq] at hnext hql hxr
    simp -dsimp -implicitDefEqProofs only [↓j0, ↓j1, ↓j7, ↓j9, ↓j12, ↓j13, ↓j14, ↓j15, ↓j16, j17, j18, j20, ↓j25, ↓j29, ↓j30, j33, ↓j38, ↓j39, ↓j47, ↓j48, ↓j50, ↓j58, ↓j59, ↓j89, ↓j95, j112, j141, ↓j145, ↓j146, ↓j147, ↓j149, j159, j171, j172, ↓reduceIte, Nat.reduceEqDiff, j182, j185, j191, j208, ↓j225, j259, j265, j459, mrSt, hr, hix, hbt, hwb, hxr, str_bytes]
    refine AWp.loopR (Z := Z) mixed hZ (by kernel_rfl) (fun m st => ∃ j, j + m = 8 ∧ st = mrSt 30 0 s i (crcBits j q) [(7, .int .i64 j)]) (n0 := 8) (s0 := mrSt 30 0 s i q [(7, .int .i64 ((0 : Nat) : Int))]) ?_ ⟨0, by omega, rfl⟩ ?_ rfl
    · exact Wk.sub (by simp -dsimp -implicitDefEqProofs only [↓j25, j170, j171, j179, ↓reduceIte, Nat.reduceEqDiff, j182, j183, j184, j202, j203, j204, j209, j223] <;> simp)
    rintro m st ⟨j, hj, rfl⟩
    refine ⟨rfl, ?_⟩
    rcases Nat.lt_or_ge j 8 with hj8 | hj8
    · have hd2 : decide ((j : Int) < 8) = true := decide_eq_true (by omega)
      have hw2 : IntKind.i64.wrap ((j : Int) + 1) = ((j + 1 : Nat) : Int) := by rw [wrap_i64 (by omega) (by omega)]; omega
      have hst := turned_spec (crcBits j q) (crcBits_lt hql j)
      simp -dsimp -implicitDefEqProofs only [↓j0, ↓j1, ↓j7, ↓j9, ↓j12, ↓j13, ↓j14, ↓j15, j17, j18, j20, ↓j25, ↓j29, ↓j30, j33, ↓j38, ↓j48, ↓j53, ↓j89, ↓j145, ↓j146, ↓j147, ↓j149, j159, j170, j171, j172, ↓reduceIte, Nat.reduceEqDiff, j185, mrSt, hd2]
      refine CallTo.pure (args := [.int .u32 (crcBits j q : Nat)]) rfl fok45 (by simp -dsimp -implicitDefEqProofs only [↓j25, ↓j29, j173, j174, ↓reduceIte]) (fun x hx => (args_i x hx).2) hst ?_
      simp -dsimp -implicitDefEqProofs only [↓j0, ↓j1, ↓j7, ↓j15, j17, j18, j20, ↓j25, ↓j29, ↓j30, j33, ↓j38, ↓j39, ↓j48, ↓j89, ↓j145, ↓j146, j154, j172, ↓reduceIte, Nat.reduceEqDiff, j185]
      exact ⟨m - 1, mrSt 30 0 s i (crcBits (j + 1) q) [(7, .int .i64 ((j + 1 : Nat) : Int))], by omega, ⟨j + 1, by omega, rfl⟩, Wk.sub (by simp -dsimp -implicitDefEqProofs only [↓j25, j170, j171, ↓reduceIte, Nat.reduceEqDiff, j182, j202, j203, j204, j223, hw2, crcBits] <;> simp)⟩
    · have hj' : j = 8 := by omega
      subst hj'
      have hd2 : decide (((8 : Nat) : Int) < 8) = false := rfl
      simp -dsimp -implicitDefEqProofs only [↓j0, ↓j1, ↓j7, ↓j11, ↓j12, ↓j13, ↓j15, j17, j18, j20, ↓j25, ↓j29, ↓j30, j33, ↓j38, ↓j39, ↓j48, ↓j89, ↓j145, ↓j146, ↓j148, ↓j149, j154, j159, j170, j171, j172, ↓reduceIte, Nat.reduceEqDiff, j185, mrSt, hd2]
      exact ⟨n - 1, mrSt 30 0 s (i + 1) (crcL 4294967295 (s.take (i + 1))) [], by omega, ⟨i + 1, by omega, rfl⟩, Wk.sub (by rw [hnext]; simp -dsimp -implicitDefEqProofs only [↓j25, j171, ↓reduceIte, Nat.reduceEqDiff, j182, j202, j203, j204, j223, hw] <;> simp)⟩
  · have hd : decide ((i : Int) < (s.length : Int)) = false := decide_eq_false (by omega)
    have hT : s.take i = s := List.take_of_length_le hge
    rw [hT] at hr
    have hfin : IntKind.u32.wrap (4294967295 - (r : Int)) = ((crcSum s : Nat) : Int) := by
      rw [crcSum, hr, show (4294967295 : Int) - (r : Int) = ((4294967295 - r : Nat) : Int) by omega, wrap_u32, Nat.mod_eq_of_lt (by omega)]
    simp -dsimp -implicitDefEqProofs only [↓j0, ↓j1, ↓j7, ↓j10, ↓j11, ↓j12, ↓j13, ↓j15, j17, j18, j20, ↓j25, ↓j29, ↓j30, j33, ↓j38, ↓j39, ↓j48, ↓j58, ↓j59, ↓j89, j141, ↓j145, ↓j146, ↓j148, ↓j149, j155, j159, j171, j172, ↓reduceIte, Nat.reduceEqDiff, j185, j259, mrSt, hT, hr, hd, hfin, str_bytes]
    exact Final.one (.inr rfl) (r := .tmp 4) rfl ⟨rfl, fun vs h => by cases h⟩ (fun vs h => by cases h) (fun vs h => by cases h) (.same _ trivial)
theorem rsum_spec (s : List UInt8) (hl : s.length ≤ 9223372036854775807) : ACall Try.prog 28 [.str ⟨s.toArray⟩] [] (.int .u32 (crcSum s : Nat)) [] := by
  refine ACall.run (Z := Z) (N := 5) mixed hZ Try.func28 rfl rfl (by kernel_rfl) (by simp) args_s 0 ?_
  simp -dsimp -implicitDefEqProofs only [↓j0, ↓j1, ↓j7, ↓j12, ↓j15, j17, j18, j20, ↓j25, ↓j29, ↓j30, j33, ↓j38, ↓j39, ↓j53, ↓j145, argEnv, j172, reduceCtorEq, ↓reduceIte]
  refine CallTo.pure (args := [.int .u32 0, .str ⟨s.toArray⟩]) rfl fok41 (by simp -dsimp -implicitDefEqProofs only [↓j25, ↓j29, ↓j30, j33, j173, j174, ↓reduceIte]) (fun x hx => (args_is x hx).2) (rmore_spec s hl) ?_
  simp -dsimp -implicitDefEqProofs only [↓j0, ↓j1, ↓j10, j17, j18, j20, ↓j25, ↓j29, ↓j39, ↓j145, j172, ↓reduceIte]
  exact Final.one (.inr rfl) (r := .tmp 2) rfl ⟨rfl, fun vs h => by cases h⟩ (fun vs h => by cases h) (fun vs h => by cases h) (.same _ trivial)

theorem fok27 : fnOk Try.prog 27 = true := by kernel_rfl
def rpSt (v n i c : Nat) : St := ⟨28, [(6, .int .i64 i), (5, .str ⟨(putL v i).toArray⟩), (0, .int .u64 (v / 2 ^ (8 * i) : Nat)), (1, .int .i64 n), (4, .str ⟨#[]⟩)], [], c⟩
theorem rput_spec (v n : Nat) (hv : v < 18446744073709551616) (hn : n ≤ 8) : ACall Try.prog 27 [.int .u64 v, .int .i64 n] [] (.str ⟨(putL v n).toArray⟩) [] := by
  refine ACall.run (Z := Z) (N := 28) mixed hZ Try.func27 rfl rfl (by kernel_rfl) (by simp) args_ii 0 ?_
  have d1 : decide ((n : Int) < 0) = false := decide_eq_false (by omega)
  have d2 : decide (8 < (n : Int)) = false := decide_eq_false (by omega)
  simp -dsimp -implicitDefEqProofs only [↓j0, ↓j1, ↓j2, ↓j7, ↓j9, ↓j12, ↓j13, ↓j14, ↓j15, ↓j16, j17, j18, j20, ↓j25, ↓j29, ↓j30, j32, j33, j34, ↓j38, ↓j39, ↓j40, ↓j48, j83, ↓j89, ↓j145, ↓j146, ↓j148, ↓j149, ↓j151, j159, j161, argEnv, j163, j164, j172, j175, reduceCtorEq, ↓reduceIte, Nat.reduceEqDiff, j185, j195, j196, d1, d2]
  refine AWp.loopR (Z := Z) mixed hZ (by kernel_rfl) (fun k s => ∃ i c, i + k = n ∧ s = rpSt v n i c) (n0 := n) (s0 := rpSt v n 0 0) ?_ ⟨0, 0, by omega, rfl⟩ ?_ rfl
  · exact Wk.sub (by simp -dsimp -implicitDefEqProofs only [↓j25, j179, reduceCtorEq, ↓reduceIte, Nat.reduceMul, Nat.reduceEqDiff, j182, j183, j184, j202, j203, j204, j209, j223, Nat.reducePow] <;> simp [putL])
  rintro k s ⟨i, c, hi, rfl⟩
  refine ⟨rfl, ?_⟩
  have hql : v / 2 ^ (8 * i) < 18446744073709551616 := Nat.lt_of_le_of_lt (Nat.div_le_self _ _) hv
  have hqn : v / 2 ^ (8 * (i + 1)) = v / 2 ^ (8 * i) / 256 := by
    rw [Nat.div_div_eq_div_mul, show 8 * (i + 1) = 8 * i + 8 by omega, Nat.pow_add]
  have hpt := putL_take v i
  obtain ⟨q, hq⟩ : ∃ q, v / 2 ^ (8 * i) = q := ⟨_, rfl⟩
  obtain ⟨l, hl⟩ : ∃ l, putL v i = l := ⟨_, rfl⟩
  have hll : l.length = i := by rw [← hl, putL_len]
  rw [hq] at hql hqn hpt
  rw [hl] at hpt
  rcases Nat.lt_or_ge i n with hlt | hge
  · have hd : decide ((i : Int) < (n : Int)) = true := decide_eq_true (by omega)
    have hw : IntKind.i64.wrap ((i : Int) + 1) = ((i + 1 : Nat) : Int) := by rw [wrap_i64 (by omega) (by omega)]; omega
    have e1 : (q : Int).tmod 256 = ((q % 256 : Nat) : Int) := by rw [Int.tmod_eq_emod_of_nonneg (by omega)]; omega
    have e2 : IntKind.u64.wrap ((q : Int).tdiv 256) = ((q / 256 : Nat) : Int) := by
      rw [Int.tdiv_eq_ediv_of_nonneg (by omega), show (q : Int) / 256 = ((q / 256 : Nat) : Int) by omega, wrap_u64, Nat.mod_eq_of_lt (by omega)]
    have hby : IntKind.u8.wrap ((q % 256 : Nat) : Int) = ((q % 256 : Nat) : Int) := by rw [wrap_u8, Nat.mod_mod]
    have hbo : bytesOf [AV.int .u8 ((q % 256 : Nat) : Int)] = some [UInt8.ofNat q] := by
      simp only [bytesOf, Option.map_some]
      congr 2
      apply UInt8.toNat_inj.1
      simp
      omega
    have hu : Unif 1 [AV.int .u8 ((q % 256 : Nat) : Int)] := fun x hx => by
      simp only [List.mem_singleton] at hx; subst hx; rfl
    have hlim : i + 1 ≤ 9223372036854775807 := by omega
    have hs1 : (ByteArray.mk #[UInt8.ofNat q]).size = 1 := rfl
    have ha : (ByteArray.mk l.toArray) ++ (ByteArray.mk #[UInt8.ofNat q]) = ByteArray.mk (l ++ [UInt8.ofNat q]).toArray := str_append l [UInt8.ofNat q]
    simp -dsimp -implicitDefEqProofs only [↓j0, ↓j1, ↓j7, ↓j9, ↓j12, ↓j13, ↓j14, ↓j15, j17, j18, j20, ↓j25, ↓j27, ↓j29, ↓j30, j33, ↓j38, ↓j39, ↓j48, ↓j50, ↓j74, ↓j89, ↓j106, j107, j108, j109, j117, ↓j120, ↓j121, j125, j126, j127, j128, ↓j145, ↓j146, ↓j147, ↓j149, ↓j153, j154, j159, partsAV, AV.proj, AV.offOf, AV.size, AV.sizeL, AV.layable, j163, j166, j167, j169, j171, j172, j179, j180, reduceCtorEq, ↓reduceIte, Nat.reduceMul, Nat.reduceEqDiff, Nat.reduceLeDiff, Int.reduceEq, j182, j183, j185, j196, j197, j213, j214, j215, j217, j223, ↓j225, Nat.reducePow, j227, List.replicate, j228, j230, j231, j234, j256, j259, j342, j443, j461, rpSt, hq, hl, hd, e1, e2, hby, hbo, hu, str_bytes, hll, hs1, hlim, ha]
    exact ⟨k - 1, rpSt v n (i + 1) (c + 1), by omega, ⟨i + 1, c + 1, by omega, rfl⟩, Wk.sub (by simp -dsimp -implicitDefEqProofs only [↓j25, reduceCtorEq, ↓reduceIte, Nat.reduceEqDiff, j182, j202, j203, j204, j223, hw, hpt, hqn] <;> simp)⟩
  · have hin : i = n := by omega
    subst hin
    have hd : decide ((i : Int) < (i : Int)) = false := decide_eq_false (by omega)
    simp -dsimp -implicitDefEqProofs only [↓j0, ↓j1, ↓j7, ↓j10, ↓j11, ↓j12, ↓j13, ↓j15, j17, j18, j20, ↓j25, ↓j29, ↓j38, ↓j39, ↓j48, ↓j89, ↓j145, ↓j146, ↓j148, ↓j149, j159, j172, reduceCtorEq, ↓reduceIte, Nat.reduceEqDiff, j185, rpSt, hl, hd]
    exact Final.one (.inr rfl) (r := .tmp 4) rfl ⟨rfl, fun vs h => by cases h⟩ (fun vs h => by cases h) (fun vs h => by cases h) (.same _ trivial)

def frameL (s : List UInt8) : List UInt8 := if 1 ≤ s.length ∧ s.length ≤ 400 then putL s.length 2 ++ putL (crcSum s) 4 ++ s else []
theorem str_nil (s : List UInt8) : strEq ⟨s.toArray⟩ ⟨#[]⟩ = decide (s.length = 0) := by
  rw [Bool.eq_iff_iff, strEq_iff, decide_eq_true_eq]
  constructor
  · intro h
    have := congrArg ByteArray.size h
    simpa [ByteArray.size] using this
  · intro h
    rw [List.length_eq_zero_iff.1 h]
end Go.Proofs.Ythfaldoagmkllaa
