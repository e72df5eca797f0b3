/- The document's sum and numbers; frames; the law RingFrames. -/
import Derived.Test.YtbhhbadeabhfcaaC11
set_option linter.unusedVariables false
set_option linter.unusedSimpArgs false
namespace Go.Proofs.Ytbhhbadeabhfcaa
open Go Go.RowKit

theorem rmore_spec (s : List UInt8) (hl : s.length ≤ 9223372036854775807) : ACall Try.prog 40 [.int .u32 0, .str ⟨s.toArray⟩] [] (.int .u32 (crcSum s : Nat)) [] := by
  refine ACall.run (Z := Z) (N := 30) mixed hZ Try.func40 rfl rfl (by kernel_rfl) (by simp) args_is 0 ?_
  have x0 : IntKind.u32.wrap (4294967295 - 0) = ((4294967295 : Nat) : Int) := by decide
  simp -dsimp -implicitDefEqProofs only [↓j0, ↓j1, ↓j7, ↓j12, ↓j14, ↓j15, ↓j16, j17, j18, j20, ↓j25, ↓j29, ↓j30, j33, ↓j38, ↓j39, ↓j48, ↓j76, ↓j129, ↓j130, j139, argEnv, j156, reduceCtorEq, ↓reduceIte, j169, j180, x0]
  refine AWp.loopR (Z := Z) mixed hZ (by kernel_rfl) (fun n st => ∃ i, i + n = s.length ∧ st = mrSt 30 0 s i (crcL 4294967295 (s.take i)) []) (n0 := s.length) (s0 := mrSt 30 0 s 0 4294967295 []) ?_ ⟨0, by omega, rfl⟩ ?_ rfl
  · exact Wk.sub (by simp -dsimp -implicitDefEqProofs only [↓j25, j155, j163, reduceCtorEq, ↓reduceIte, Nat.reduceEqDiff, j166, j167, j168, j186, j187, j188, j193, j207] <;> simp)
  rintro n st ⟨i, hi, rfl⟩
  refine ⟨rfl, ?_⟩
  have hrl : crcL 4294967295 (s.take i) < 4294967296 := crcL_lt (by decide)
  obtain ⟨r, hr⟩ : ∃ r, crcL 4294967295 (s.take i) = r := ⟨_, rfl⟩
  rw [hr] at hrl
  rcases Nat.lt_or_ge i s.length with hlt | hge
  · have hd : decide ((i : Int) < (s.length : Int)) = true := decide_eq_true (by omega)
    have hix : (i : Int) < (s.length : Int) := by omega
    obtain ⟨b, hb⟩ := list_get (xs := s) (i := i) (by omega)
    have hbt : byteAt ⟨s.toArray⟩ (i : Int) = (b.toNat : Int) := by
      unfold byteAt
      rw [Int.toNat_natCast, Array.getD_eq_getD_getElem?, List.getElem?_toArray, hb]; rfl
    have hbl := b.toNat_lt
    have hwb : IntKind.u32.wrap (b.toNat : Int) = (b.toNat : Int) := by rw [wrap_u32, Nat.mod_eq_of_lt (by omega)]
    have hxr : bXor .u32 (r : Int) (b.toNat : Int) = ((r ^^^ b.toNat : Nat) : Int) := bXor_u32 hrl (by omega)
    have hw : IntKind.i64.wrap ((i : Int) + 1) = ((i + 1 : Nat) : Int) := by rw [wrap_i64 (by omega) (by omega)]; omega
    have hnext := crcL_take hb 4294967295
    rw [hr] at hnext
    have hql := xor_byte_lt b hrl
    obtain ⟨q, hq⟩ : ∃ q, r ^^^ b.toNat = q := ⟨_, rfl⟩
    rw [hq] at hnext hql hxr
    simp -dsimp -implicitDefEqProofs only [↓j0, ↓j1, ↓j7, ↓j9, ↓j12, ↓j13, ↓j14, ↓j15, ↓j16, j17, j18, j20, ↓j25, ↓j29, ↓j30, j33, ↓j38, ↓j39, ↓j47, ↓j48, ↓j50, ↓j58, ↓j76, ↓j82, j99, j125, ↓j129, ↓j130, ↓j131, ↓j133, j143, j155, j156, ↓reduceIte, Nat.reduceEqDiff, j166, j169, j175, j192, ↓j209, j239, j242, j388, mrSt, hr, hix, hbt, hwb, hxr, str_bytes]
    refine AWp.loopR (Z := Z) mixed hZ (by kernel_rfl) (fun m st => ∃ j, j + m = 8 ∧ st = mrSt 30 0 s i (crcBits j q) [(7, .int .i64 j)]) (n0 := 8) (s0 := mrSt 30 0 s i q [(7, .int .i64 ((0 : Nat) : Int))]) ?_ ⟨0, by omega, rfl⟩ ?_ rfl
    · exact Wk.sub (by simp -dsimp -implicitDefEqProofs only [↓j25, j154, j155, j163, ↓reduceIte, Nat.reduceEqDiff, j166, j167, j168, j186, j187, j188, j193, j207] <;> simp)
    rintro m st ⟨j, hj, rfl⟩
    refine ⟨rfl, ?_⟩
    rcases Nat.lt_or_ge j 8 with hj8 | hj8
    · have hd2 : decide ((j : Int) < 8) = true := decide_eq_true (by omega)
      have hw2 : IntKind.i64.wrap ((j : Int) + 1) = ((j + 1 : Nat) : Int) := by rw [wrap_i64 (by omega) (by omega)]; omega
      have hst := turned_spec (crcBits j q) (crcBits_lt hql j)
      simp -dsimp -implicitDefEqProofs only [↓j0, ↓j1, ↓j7, ↓j9, ↓j12, ↓j13, ↓j14, ↓j15, j17, j18, j20, ↓j25, ↓j29, ↓j30, j33, ↓j38, ↓j48, ↓j53, ↓j76, ↓j129, ↓j130, ↓j131, ↓j133, j143, j154, j155, j156, ↓reduceIte, Nat.reduceEqDiff, j169, mrSt, hd2]
      refine CallTo.pure (args := [.int .u32 (crcBits j q : Nat)]) rfl fok43 (by simp -dsimp -implicitDefEqProofs only [↓j25, ↓j29, j157, j158, ↓reduceIte]) (fun x hx => (args_i x hx).2) hst ?_
      simp -dsimp -implicitDefEqProofs only [↓j0, ↓j1, ↓j7, ↓j15, j17, j18, j20, ↓j25, ↓j29, ↓j30, j33, ↓j38, ↓j39, ↓j48, ↓j76, ↓j129, ↓j130, j138, j156, ↓reduceIte, Nat.reduceEqDiff, j169]
      exact ⟨m - 1, mrSt 30 0 s i (crcBits (j + 1) q) [(7, .int .i64 ((j + 1 : Nat) : Int))], by omega, ⟨j + 1, by omega, rfl⟩, Wk.sub (by simp -dsimp -implicitDefEqProofs only [↓j25, j154, j155, ↓reduceIte, Nat.reduceEqDiff, j166, j186, j187, j188, j207, hw2, crcBits] <;> simp)⟩
    · have hj' : j = 8 := by omega
      subst hj'
      have hd2 : decide (((8 : Nat) : Int) < 8) = false := rfl
      simp -dsimp -implicitDefEqProofs only [↓j0, ↓j1, ↓j7, ↓j11, ↓j12, ↓j13, ↓j15, j17, j18, j20, ↓j25, ↓j29, ↓j30, j33, ↓j38, ↓j39, ↓j48, ↓j76, ↓j129, ↓j130, ↓j132, ↓j133, j138, j143, j154, j155, j156, ↓reduceIte, Nat.reduceEqDiff, j169, mrSt, hd2]
      exact ⟨n - 1, mrSt 30 0 s (i + 1) (crcL 4294967295 (s.take (i + 1))) [], by omega, ⟨i + 1, by omega, rfl⟩, Wk.sub (by rw [hnext]; simp -dsimp -implicitDefEqProofs only [↓j25, j155, ↓reduceIte, Nat.reduceEqDiff, j166, j186, j187, j188, j207, hw] <;> simp)⟩
  · have hd : decide ((i : Int) < (s.length : Int)) = false := decide_eq_false (by omega)
    have hT : s.take i = s := List.take_of_length_le hge
    rw [hT] at hr
    have hfin : IntKind.u32.wrap (4294967295 - (r : Int)) = ((crcSum s : Nat) : Int) := by
      rw [crcSum, hr, show (4294967295 : Int) - (r : Int) = ((4294967295 - r : Nat) : Int) by omega, wrap_u32, Nat.mod_eq_of_lt (by omega)]
    simp -dsimp -implicitDefEqProofs only [↓j0, ↓j1, ↓j7, ↓j10, ↓j11, ↓j12, ↓j13, ↓j15, j17, j18, j20, ↓j25, ↓j29, ↓j30, j33, ↓j38, ↓j39, ↓j48, ↓j58, ↓j76, j125, ↓j129, ↓j130, ↓j132, ↓j133, j139, j143, j155, j156, ↓reduceIte, Nat.reduceEqDiff, j169, j239, mrSt, hT, hr, hd, hfin, str_bytes]
    exact Final.one (.inr rfl) (r := .tmp 4) rfl ⟨rfl, fun vs h => by cases h⟩ (fun vs h => by cases h) (fun vs h => by cases h) (.same _ trivial)
theorem rsum_spec (s : List UInt8) (hl : s.length ≤ 9223372036854775807) : ACall Try.prog 37 [.str ⟨s.toArray⟩] [] (.int .u32 (crcSum s : Nat)) [] := by
  refine ACall.run (Z := Z) (N := 5) mixed hZ Try.func37 rfl rfl (by kernel_rfl) (by simp) args_s 0 ?_
  simp -dsimp -implicitDefEqProofs only [↓j0, ↓j1, ↓j7, ↓j12, ↓j15, j17, j18, j20, ↓j25, ↓j29, ↓j30, j33, ↓j38, ↓j39, ↓j53, ↓j129, argEnv, j156, reduceCtorEq, ↓reduceIte]
  refine CallTo.pure (args := [.int .u32 0, .str ⟨s.toArray⟩]) rfl fok40 (by simp -dsimp -implicitDefEqProofs only [↓j25, ↓j29, ↓j30, j33, j157, j158, ↓reduceIte]) (fun x hx => (args_is x hx).2) (rmore_spec s hl) ?_
  simp -dsimp -implicitDefEqProofs only [↓j0, ↓j1, ↓j10, j17, j18, j20, ↓j25, ↓j29, ↓j39, ↓j129, j156, ↓reduceIte]
  exact Final.one (.inr rfl) (r := .tmp 2) rfl ⟨rfl, fun vs h => by cases h⟩ (fun vs h => by cases h) (fun vs h => by cases h) (.same _ trivial)

theorem fok30 : fnOk Try.prog 30 = true := by kernel_rfl
theorem fok20 : fnOk Try.prog 20 = true := by kernel_rfl
theorem fok21 : fnOk Try.prog 21 = true := by kernel_rfl
def rpSt (v n i c : Nat) : St := ⟨28, [(6, .int .i64 i), (5, .str ⟨(putL v i).toArray⟩), (0, .int .u64 (v / 2 ^ (8 * i) : Nat)), (1, .int .i64 n), (4, .str ⟨#[]⟩)], [], c⟩
theorem rput_spec (v n : Nat) (hv : v < 18446744073709551616) (hn : n ≤ 8) : ACall Try.prog 30 [.int .u64 v, .int .i64 n] [] (.str ⟨(putL v n).toArray⟩) [] := by
  refine ACall.run (Z := Z) (N := 28) mixed hZ Try.func30 rfl rfl (by kernel_rfl) (by simp) args_ii 0 ?_
  have d1 : decide ((n : Int) < 0) = false := decide_eq_false (by omega)
  have d2 : decide (8 < (n : Int)) = false := decide_eq_false (by omega)
  simp -dsimp -implicitDefEqProofs only [↓j0, ↓j1, ↓j2, ↓j7, ↓j9, ↓j12, ↓j13, ↓j14, ↓j15, ↓j16, j17, j18, j20, ↓j25, ↓j29, ↓j30, j32, j33, j34, ↓j38, ↓j39, ↓j40, ↓j48, j70, ↓j76, ↓j129, ↓j130, ↓j132, ↓j133, ↓j135, j143, j145, argEnv, j147, j148, j156, j159, reduceCtorEq, ↓reduceIte, Nat.reduceEqDiff, j169, j179, j180, d1, d2]
  refine AWp.loopR (Z := Z) mixed hZ (by kernel_rfl) (fun k s => ∃ i c, i + k = n ∧ s = rpSt v n i c) (n0 := n) (s0 := rpSt v n 0 0) ?_ ⟨0, 0, by omega, rfl⟩ ?_ rfl
  · exact Wk.sub (by simp -dsimp -implicitDefEqProofs only [↓j25, j163, reduceCtorEq, ↓reduceIte, Nat.reduceMul, Nat.reduceEqDiff, j166, j167, j168, j186, j187, j188, j193, j207, Nat.reducePow] <;> simp [putL])
  rintro k s ⟨i, c, hi, rfl⟩
  refine ⟨rfl, ?_⟩
  have hql : v / 2 ^ (8 * i) < 18446744073709551616 := Nat.lt_of_le_of_lt (Nat.div_le_self _ _) hv
  have hqn : v / 2 ^ (8 * (i + 1)) = v / 2 ^ (8 * i) / 256 := by
    rw [Nat.div_div_eq_div_mul, show 8 * (i + 1) = 8 * i + 8 by omega, Nat.pow_add]
  have hpt := putL_take v i
  obtain ⟨q, hq⟩ : ∃ q, v / 2 ^ (8 * i) = q := ⟨_, rfl⟩
  obtain ⟨l, hl⟩ : ∃ l, putL v i = l := ⟨_, rfl⟩
  have hll : l.length = i := by rw [← hl, putL_len]
  rw [hq] at hql hqn hpt
  rw [hl] at hpt
  rcases Nat.lt_or_ge i n with hlt | hge
  · have hd : decide ((i : Int) < (n : Int)) = true := decide_eq_true (by omega)
    have hw : IntKind.i64.wrap ((i : Int) + 1) = ((i + 1 : Nat) : Int) := by rw [wrap_i64 (by omega) (by omega)]; omega
    have e1 : (q : Int).tmod 256 = ((q % 256 : Nat) : Int) := by rw [Int.tmod_eq_emod_of_nonneg (by omega)]; omega
    have e2 : IntKind.u64.wrap ((q : Int).tdiv 256) = ((q / 256 : Nat) : Int) := by
      rw [Int.tdiv_eq_ediv_of_nonneg (by omega), show (q : Int) / 256 = ((q / 256 : Nat) : Int) by omega, wrap_u64, Nat.mod_eq_of_lt (by omega)]
    have hby : IntKind.u8.wrap ((q % 256 : Nat) : Int) = ((q % 256 : Nat) : Int) := by rw [wrap_u8, Nat.mod_mod]
    have hbo : bytesOf [AV.int .u8 ((q % 256 : Nat) : Int)] = some [UInt8.ofNat q] := by
      simp only [bytesOf, Option.map_some]
      congr 2
      apply UInt8.toNat_inj.1
      simp
      omega
    have hu : Unif 1 [AV.int .u8 ((q % 256 : Nat) : Int)] := fun x hx => by
      simp only [List.mem_singleton] at hx; subst hx; rfl
    have hlim : i + 1 ≤ 9223372036854775807 := by omega
    have hs1 : (ByteArray.mk #[UInt8.ofNat q]).size = 1 := rfl
    have ha : (ByteArray.mk l.toArray) ++ (ByteArray.mk #[UInt8.ofNat q]) = ByteArray.mk (l ++ [UInt8.ofNat q]).toArray := str_append l [UInt8.ofNat q]
    simp -dsimp -implicitDefEqProofs only [↓j0, ↓j1, ↓j7, ↓j9, ↓j12, ↓j13, ↓j14, ↓j15, j17, j18, j20, ↓j25, ↓j27, ↓j29, ↓j30, j33, ↓j38, ↓j39, ↓j48, ↓j50, ↓j61, ↓j76, ↓j93, j94, j95, j96, j104, ↓j107, ↓j108, j112, j113, j114, j115, ↓j129, ↓j130, ↓j131, ↓j133, ↓j137, j138, j143, partsAV, AV.proj, AV.offOf, AV.size, AV.sizeL, AV.layable, j147, j150, j151, j153, j155, j156, j163, j164, reduceCtorEq, ↓reduceIte, Nat.reduceMul, Nat.reduceEqDiff, Nat.reduceLeDiff, Int.reduceEq, j166, j167, j169, j180, j181, j197, j198, j199, j201, j207, ↓j209, Nat.reducePow, j211, List.replicate, j212, j214, j215, j218, j236, j239, j338, j382, j391, rpSt, hq, hl, hd, e1, e2, hby, hbo, hu, str_bytes, hll, hs1, hlim, ha]
    exact ⟨k - 1, rpSt v n (i + 1) (c + 1), by omega, ⟨i + 1, c + 1, by omega, rfl⟩, Wk.sub (by simp -dsimp -implicitDefEqProofs only [↓j25, reduceCtorEq, ↓reduceIte, Nat.reduceEqDiff, j166, j186, j187, j188, j207, hw, hpt, hqn] <;> simp)⟩
  · have hin : i = n := by omega
    subst hin
    have hd : decide ((i : Int) < (i : Int)) = false := decide_eq_false (by omega)
    simp -dsimp -implicitDefEqProofs only [↓j0, ↓j1, ↓j7, ↓j10, ↓j11, ↓j12, ↓j13, ↓j15, j17, j18, j20, ↓j25, ↓j29, ↓j38, ↓j39, ↓j48, ↓j76, ↓j129, ↓j130, ↓j132, ↓j133, j143, j156, reduceCtorEq, ↓reduceIte, Nat.reduceEqDiff, j169, rpSt, hl, hd]
    exact Final.one (.inr rfl) (r := .tmp 4) rfl ⟨rfl, fun vs h => by cases h⟩ (fun vs h => by cases h) (fun vs h => by cases h) (.same _ trivial)

def frameL (s : List UInt8) : List UInt8 := if 1 ≤ s.length ∧ s.length ≤ 400 then putL s.length 2 ++ putL (crcSum s) 4 ++ s else []
theorem frame_spec (s : List UInt8) (hl : s.length ≤ 9223372036854775807) : ACall Try.prog 20 [.str ⟨s.toArray⟩] [] (.str ⟨(frameL s).toArray⟩) [] := by
  refine ACall.run (Z := Z) (N := 22) mixed hZ Try.func20 rfl rfl (by kernel_rfl) (by simp) args_s 0 ?_
  have ret : ∀ (l : List UInt8) (t : Env) (H : Heap) (m : Nat), l = frameL s → look t 2 = some (.str ⟨l.toArray⟩) → Final Try.prog Try.f20 (.str ⟨(frameL s).toArray⟩) [] .ret ⟨22, t, H, m⟩ := fun l t H m hv h =>
    Final.one (.inr rfl) (r := .tmp 2) rfl ⟨hv ▸ h, fun vs h => by cases h⟩ (fun vs h => by cases h) (fun vs h => by cases h) (.same _ trivial)
  simp -dsimp -implicitDefEqProofs only [↓j0, ↓j1, ↓j2, ↓j7, ↓j12, ↓j15, j17, j18, j20, ↓j25, ↓j29, ↓j30, j33, j34, ↓j38, ↓j39, ↓j48, ↓j58, ↓j76, j125, ↓j129, ↓j130, ↓j135, j143, argEnv, j147, j148, j156, j159, reduceCtorEq, ↓reduceIte, j169, j239, str_bytes]
  refine ⟨fun h1 => ?_, fun h1 => ?_⟩
  · have h1' := of_decide_eq_true h1
    simp -dsimp -implicitDefEqProofs only [↓j0, ↓j1, ↓j2, ↓j7, ↓j10, ↓j12, ↓j13, ↓j15, j17, j18, j20, ↓j25, ↓j29, ↓j30, j32, j34, ↓j39, ↓j40, j68, ↓j129, ↓j131, ↓j133, ↓j135, j147, j148, j156, j159, ↓reduceIte, Nat.reduceEqDiff, h1]
    exact ret [] _ _ _ (by rw [frameL, if_neg (by omega)]) rfl
  have h1' := of_decide_eq_false h1
  simp -dsimp -implicitDefEqProofs only [↓j0, ↓j1, ↓j2, ↓j13, j17, j18, j20, ↓j25, ↓j29, ↓j30, j32, j33, ↓j38, ↓j40, ↓j48, ↓j58, j70, ↓j76, j125, ↓j129, ↓j130, ↓j132, ↓j133, ↓j135, j145, j147, j148, j156, j159, reduceCtorEq, ↓reduceIte, Nat.reduceEqDiff, j169, j179, j239, h1, str_bytes]
  refine ⟨fun h2 => ?_, fun h2 => ?_⟩
  · have h2' := of_decide_eq_true h2
    simp -dsimp -implicitDefEqProofs only [↓j0, ↓j1, ↓j7, ↓j10, ↓j12, ↓j15, j17, j18, j20, ↓j30, j34, ↓j39, ↓j129, j156, h2]
    exact ret [] _ _ _ (by rw [frameL, if_neg (by omega)]) rfl
  have h2' := of_decide_eq_false h2
  have w1 : IntKind.u64.wrap (s.length : Int) = (s.length : Int) := by rw [wrap_u64, Nat.mod_eq_of_lt (by omega)]
  have hcl := crcSum_lt s
  have w2 : IntKind.u64.wrap (crcSum s : Int) = (crcSum s : Int) := by rw [wrap_u64, Nat.mod_eq_of_lt (by omega)]
  have hp1 := put_spec s.length 2 (by omega)
  have hp2 := put_spec (crcSum s) 4 (by omega)
  simp -dsimp -implicitDefEqProofs only [↓j1, ↓j7, ↓j9, ↓j12, ↓j15, j17, j18, j20, ↓j25, ↓j29, ↓j38, ↓j50, ↓j53, ↓j58, j125, ↓j129, j156, reduceCtorEq, ↓reduceIte, ↓j209, j239, j245, j386, h2, str_bytes, w1]
  refine CallTo.pure (args := [.int .u64 s.length, .int .i64 ((2 : Nat) : Int)]) rfl fok28 (by simp -dsimp -implicitDefEqProofs only [↓j25, ↓j29, ↓j30, j33, j157, j158, ↓reduceIte]; rfl) (notup (fun vs h => by cases h) fun vs h => by cases h) hp1 ?_
  simp -dsimp -implicitDefEqProofs only [↓j1, j17, j18, j20, ↓j25, ↓j29, ↓j38, ↓j53, ↓j129, j156, reduceCtorEq, ↓reduceIte]
  refine CallTo.pure (args := [.str ⟨s.toArray⟩]) rfl fok36 (by simp -dsimp -implicitDefEqProofs only [↓j25, ↓j29, j157, j158, ↓reduceIte]) (fun x hx => (args_s x hx).2) (sum_spec s hl) ?_
  simp -dsimp -implicitDefEqProofs only [↓j1, j17, j18, j20, ↓j25, ↓j29, ↓j50, ↓j53, ↓j129, j156, ↓reduceIte, ↓j209, j245, j390, w2]
  refine CallTo.pure (args := [.int .u64 (crcSum s : Nat), .int .i64 ((4 : Nat) : Int)]) rfl fok28 (by simp -dsimp -implicitDefEqProofs only [↓j25, ↓j29, ↓j30, j33, j157, j158, ↓reduceIte]; rfl) (notup (fun vs h => by cases h) fun vs h => by cases h) hp2 ?_
  have q1 := putL_len s.length 2
  have q2 := putL_len (crcSum s) 4
  have hlim : 6 + s.length ≤ 9223372036854775807 := by omega
  simp -dsimp -implicitDefEqProofs only [↓j0, ↓j1, ↓j10, j17, j18, j20, ↓j25, ↓j29, ↓j38, ↓j39, ↓j48, j104, ↓j107, ↓j129, j156, reduceCtorEq, ↓reduceIte, Nat.reduceAdd, Nat.reduceEqDiff, Nat.reduceLeDiff, j226, str_bytes, str_append, q1, q2, hlim]
  exact ret _ _ _ _ (by rw [frameL, if_pos (by omega)]) rfl
theorem str_nil (s : List UInt8) : strEq ⟨s.toArray⟩ ⟨#[]⟩ = decide (s.length = 0) := by
  rw [Bool.eq_iff_iff, strEq_iff, decide_eq_true_eq]
  constructor
  · intro h
    have := congrArg ByteArray.size h
    simpa [ByteArray.size] using this
  · intro h
    rw [List.length_eq_zero_iff.1 h]
theorem rframe_spec (s : List UInt8) (hl : s.length ≤ 9223372036854775807) : ACall Try.prog 21 [.str ⟨s.toArray⟩] [] (.str ⟨(frameL s).toArray⟩) [] := by
  refine ACall.run (Z := Z) (N := 21) mixed hZ Try.func21 rfl rfl (by kernel_rfl) (by simp) args_s 0 ?_
  have ret : ∀ (l : List UInt8) (t : Env) (H : Heap) (m : Nat), l = frameL s → look t 2 = some (.str ⟨l.toArray⟩) → Final Try.prog Try.f21 (.str ⟨(frameL s).toArray⟩) [] .ret ⟨21, t, H, m⟩ := fun l t H m hv h =>
    Final.one (.inr rfl) (r := .tmp 2) rfl ⟨hv ▸ h, fun vs h => by cases h⟩ (fun vs h => by cases h) (fun vs h => by cases h) (.same _ trivial)
  have hsn := str_nil s
  simp -dsimp -implicitDefEqProofs only [↓j0, ↓j1, ↓j2, ↓j7, ↓j12, ↓j15, j17, j18, j20, ↓j25, ↓j29, ↓j30, j34, ↓j38, ↓j39, ↓j48, j102, ↓j107, ↓j129, ↓j135, argEnv, j147, j148, j156, j159, reduceCtorEq, ↓reduceIte, hsn]
  refine ⟨fun h1 => ?_, fun h1 => ?_⟩
  · have h1' := of_decide_eq_true h1
    simp -dsimp -implicitDefEqProofs only [↓j0, ↓j1, ↓j2, ↓j7, ↓j10, ↓j12, ↓j13, ↓j15, j17, j18, j20, ↓j25, ↓j29, ↓j30, j32, j34, ↓j39, ↓j40, j68, ↓j129, ↓j131, ↓j133, ↓j135, j147, j148, j156, j159, ↓reduceIte, Nat.reduceEqDiff, h1]
    exact ret [] _ _ _ (by rw [frameL, if_neg (by omega)]) rfl
  have h1' := of_decide_eq_false h1
  simp -dsimp -implicitDefEqProofs only [↓j0, ↓j1, ↓j2, ↓j13, j17, j18, j20, ↓j25, ↓j29, ↓j30, j32, j33, ↓j38, ↓j40, ↓j48, ↓j58, j70, ↓j76, j125, ↓j129, ↓j130, ↓j132, ↓j133, ↓j135, j145, j147, j148, j156, j159, reduceCtorEq, ↓reduceIte, Nat.reduceEqDiff, j169, j179, j239, h1, str_bytes]
  refine ⟨fun h2 => ?_, fun h2 => ?_⟩
  · have h2' := of_decide_eq_true h2
    simp -dsimp -implicitDefEqProofs only [↓j0, ↓j1, ↓j7, ↓j10, ↓j12, ↓j15, j17, j18, j20, ↓j30, j34, ↓j39, ↓j129, j156, h2]
    exact ret [] _ _ _ (by rw [frameL, if_neg (by omega)]) rfl
  have h2' := of_decide_eq_false h2
  have w1 : IntKind.u64.wrap (s.length : Int) = (s.length : Int) := by rw [wrap_u64, Nat.mod_eq_of_lt (by omega)]
  have hcl := crcSum_lt s
  have w2 : IntKind.u64.wrap (crcSum s : Int) = (crcSum s : Int) := by rw [wrap_u64, Nat.mod_eq_of_lt (by omega)]
  have hp1 := rput_spec s.length 2 (by omega) (by omega)
  have hp2 := rput_spec (crcSum s) 4 (by omega) (by omega)
  simp -dsimp -implicitDefEqProofs only [↓j1, ↓j7, ↓j9, ↓j12, ↓j15, j17, j18, j20, ↓j25, ↓j29, ↓j38, ↓j50, ↓j53, ↓j58, j125, ↓j129, j156, reduceCtorEq, ↓reduceIte, ↓j209, j239, j245, j386, h2, str_bytes, w1]
  refine CallTo.pure (args := [.int .u64 s.length, .int .i64 ((2 : Nat) : Int)]) rfl fok30 (by simp -dsimp -implicitDefEqProofs only [↓j25, ↓j29, ↓j30, j33, j157, j158, ↓reduceIte]; rfl) (notup (fun vs h => by cases h) fun vs h => by cases h) hp1 ?_
  simp -dsimp -implicitDefEqProofs only [↓j1, j17, j18, j20, ↓j25, ↓j29, ↓j38, ↓j53, ↓j129, j156, reduceCtorEq, ↓reduceIte]
  refine CallTo.pure (args := [.str ⟨s.toArray⟩]) rfl fok37 (by simp -dsimp -implicitDefEqProofs only [↓j25, ↓j29, j157, j158, ↓reduceIte]) (fun x hx => (args_s x hx).2) (rsum_spec s hl) ?_
  simp -dsimp -implicitDefEqProofs only [↓j1, j17, j18, j20, ↓j25, ↓j29, ↓j50, ↓j53, ↓j129, j156, ↓reduceIte, ↓j209, j245, j390, w2]
  refine CallTo.pure (args := [.int .u64 (crcSum s : Nat), .int .i64 ((4 : Nat) : Int)]) rfl fok30 (by simp -dsimp -implicitDefEqProofs only [↓j25, ↓j29, ↓j30, j33, j157, j158, ↓reduceIte]; rfl) (notup (fun vs h => by cases h) fun vs h => by cases h) hp2 ?_
  have q1 := putL_len s.length 2
  have q2 := putL_len (crcSum s) 4
  have hlim : 6 + s.length ≤ 9223372036854775807 := by omega
  simp -dsimp -implicitDefEqProofs only [↓j0, ↓j1, ↓j10, j17, j18, j20, ↓j25, ↓j29, ↓j38, ↓j39, ↓j48, j104, ↓j107, ↓j129, j156, reduceCtorEq, ↓reduceIte, Nat.reduceAdd, Nat.reduceEqDiff, Nat.reduceLeDiff, j226, str_bytes, str_append, q1, q2, hlim]
  exact ret _ _ _ _ (by rw [frameL, if_pos (by omega)]) rfl

theorem ringFrames_spec (s : List UInt8) (hl : s.length ≤ 9223372036854775807) : ACall Try.prog 6 [.str ⟨s.toArray⟩] [] (.bool true) [] := by
  refine ACall.run (Z := Z) (N := 11) mixed hZ Try.func6 rfl rfl (by kernel_rfl) (by simp) args_s 0 ?_
  have he : strEq ⟨(frameL s).toArray⟩ ⟨(frameL s).toArray⟩ = true := strEq_iff.2 rfl
  simp -dsimp -implicitDefEqProofs only [↓j0, ↓j1, ↓j7, ↓j12, ↓j15, j17, j18, j20, ↓j25, ↓j29, ↓j30, j32, ↓j38, ↓j39, ↓j53, ↓j129, argEnv, j156, reduceCtorEq, ↓reduceIte]
  refine CallTo.pure (args := [.str ⟨s.toArray⟩]) rfl fok20 (by simp -dsimp -implicitDefEqProofs only [↓j25, ↓j29, j157, j158, ↓reduceIte]) (fun x hx => (args_s x hx).2) (frame_spec s hl) ?_
  simp -dsimp -implicitDefEqProofs only [↓j1, j17, j18, j20, ↓j25, ↓j29, ↓j38, ↓j53, ↓j129, j156, reduceCtorEq, ↓reduceIte]
  refine CallTo.pure (args := [.str ⟨s.toArray⟩]) rfl fok21 (by simp -dsimp -implicitDefEqProofs only [↓j25, ↓j29, j157, j158, ↓reduceIte]) (fun x hx => (args_s x hx).2) (rframe_spec s hl) ?_
  simp -dsimp -implicitDefEqProofs only [↓j1, ↓j2, j17, j18, j20, ↓j25, ↓j29, ↓j38, ↓j48, ↓j53, j102, ↓j107, ↓j129, ↓j131, ↓j134, j147, j148, j156, j159, ↓reduceIte, Nat.reduceEqDiff, he]
  refine CallTo.pure (args := []) rfl fok14 rfl (fun x hx => by simp at hx) awake_spec ?_
  simp -dsimp -implicitDefEqProofs only [↓j0, ↓j1, ↓j10, j17, j18, j20, ↓j25, ↓j29, ↓j30, j32, ↓j39, ↓j40, j70, ↓j129, j156, ↓reduceIte, Nat.reduceEqDiff]
  exact Final.one (.inr rfl) (r := .tmp 2) rfl ⟨rfl, fun vs h => by cases h⟩ (fun vs h => by cases h) (fun vs h => by cases h) (.same _ trivial)
end Go.Proofs.Ytbhhbadeabhfcaa
