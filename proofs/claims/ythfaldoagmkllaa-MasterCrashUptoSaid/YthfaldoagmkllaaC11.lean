/- The sum CRC-32, by both. -/
import Derived.Test.YthfaldoagmkllaaC3
import Derived.Test.YthfaldoagmkllaaM4
set_option linter.unusedVariables false
set_option linter.unusedSimpArgs false
namespace Go.Proofs.Ythfaldoagmkllaa
open Go Go.RowKit

theorem args_i {a : Int} {k : IntKind} : ∀ x, x ∈ [AV.int k a] → AV.on (fun _ => False) x ∧ ∀ vs, x ≠ .tuple vs := fun x hx => by
  simp only [List.mem_singleton] at hx; subst hx; exact ⟨trivial, fun vs h => by cases h⟩
theorem args_is {a : Int} {k : IntKind} {s : ByteArray} : ∀ x, x ∈ [AV.int k a, AV.str s] → AV.on (fun _ => False) x ∧ ∀ vs, x ≠ .tuple vs := fun x hx => by
  simp only [List.mem_cons, List.not_mem_nil, or_false] at hx
  rcases hx with rfl | rfl
  · exact ⟨trivial, fun vs h => by cases h⟩
  · exact ⟨trivial, fun vs h => by cases h⟩
theorem args_s {s : ByteArray} : ∀ x, x ∈ [AV.str s] → AV.on (fun _ => False) x ∧ ∀ vs, x ≠ .tuple vs := fun x hx => by
  simp only [List.mem_singleton] at hx; subst hx; exact ⟨trivial, fun vs h => by cases h⟩
theorem fok25 : fnOk Try.prog 25 = true := by kernel_rfl
theorem fok28 : fnOk Try.prog 28 = true := by kernel_rfl
theorem fok40 : fnOk Try.prog 40 = true := by kernel_rfl
theorem fok41 : fnOk Try.prog 41 = true := by kernel_rfl
theorem fok44 : fnOk Try.prog 44 = true := by kernel_rfl
theorem fok45 : fnOk Try.prog 45 = true := by kernel_rfl

theorem turned_spec (r : Nat) (h : r < 4294967296) : ACall Try.prog 45 [.int .u32 r] [] (.int .u32 (crcStep r : Nat)) [] := by
  refine ACall.run (Z := Z) (N := 11) mixed hZ Try.func45 rfl rfl (by kernel_rfl) (by simp) args_i 0 ?_
  have ret : ∀ (v : Nat) (t : Env) (H : Heap) (m : Nat), v = crcStep r → look t 2 = some (.int .u32 (v : Int)) → Final Try.prog Try.f45 (.int .u32 (crcStep r : Nat)) [] .ret ⟨11, t, H, m⟩ := fun v t H m hv h =>
    Final.one (.inr rfl) (r := .tmp 2) rfl ⟨hv ▸ h, fun vs h => by cases h⟩ (fun vs h => by cases h) (fun vs h => by cases h) (.same _ trivial)
  have e1 : (r : Int).tmod 2 = ((r % 2 : Nat) : Int) := by rw [Int.tmod_eq_emod_of_nonneg (by omega)]; omega
  have e2 : IntKind.u32.wrap ((r : Int).tdiv 2) = ((r / 2 : Nat) : Int) := by
    rw [Int.tdiv_eq_ediv_of_nonneg (by omega), show (r : Int) / 2 = ((r / 2 : Nat) : Int) by omega, wrap_u32, Nat.mod_eq_of_lt (by omega)]
  have e3 : bXor .u32 ((r / 2 : Nat) : Int) 3988292384 = (((r / 2) ^^^ poly : Nat) : Int) := bXor_u32 (b := poly) (by omega) (by decide)
  simp -dsimp -implicitDefEqProofs only [↓j0, ↓j1, ↓j7, ↓j12, ↓j13, ↓j15, j17, j18, j20, ↓j25, ↓j29, ↓j30, j33, ↓j38, ↓j39, ↓j48, ↓j89, j109, ↓j145, ↓j146, ↓j149, j157, argEnv, j172, reduceCtorEq, ↓reduceIte, Int.reduceEq, j185, e1]
  refine ⟨fun hb => ?_, fun hb => ?_⟩
  · have hb' : r % 2 = 1 := by
      have : ((r % 2 : Nat) : Int) = 1 := by simpa using hb
      omega
    simp -dsimp -implicitDefEqProofs only [↓j0, ↓j1, ↓j7, ↓j10, ↓j12, ↓j15, j17, j18, j20, ↓j25, ↓j29, ↓j30, j33, ↓j38, ↓j39, ↓j48, ↓j89, j108, j112, ↓j145, ↓j146, j172, reduceCtorEq, ↓reduceIte, Int.reduceEq, j185, hb, e2, e3]
    exact ret _ _ _ _ (by rw [crcStep, if_pos hb']) rfl
  · have hb' : ¬ r % 2 = 1 := by
      intro h1; rw [h1] at hb; simp at hb
    simp -dsimp -implicitDefEqProofs only [↓j0, ↓j1, ↓j7, ↓j9, ↓j10, ↓j12, ↓j15, j17, j18, j20, ↓j25, ↓j29, ↓j30, j33, ↓j38, ↓j39, ↓j48, ↓j89, j108, ↓j145, ↓j146, j172, reduceCtorEq, ↓reduceIte, Int.reduceEq, j185, hb, e2]
    exact ret _ _ _ _ (by rw [crcStep, if_neg hb']) rfl

theorem step_spec (r : Nat) (h : r < 4294967296) : ACall Try.prog 44 [.int .u32 r] [] (.int .u32 (crcStep r : Nat)) [] := by
  refine ACall.run (Z := Z) (N := 10) mixed hZ Try.func44 rfl rfl (by kernel_rfl) (by simp) args_i 0 ?_
  have e1 : bShr .u32 (r : Int) 1 = ((r / 2 : Nat) : Int) := by
    have := bShr_nat .u32 r 1
    rw [show min 1 IntKind.u32.bits = 1 from rfl] at this
    exact this
  have e2 : bAnd .u32 (r : Int) 1 = ((r % 2 : Nat) : Int) := by
    have := bAnd_u32 (a := r) (b := 1) h (by decide)
    rw [Nat.and_one_is_mod] at this
    exact this
  have n1 : ((1 : Int) < 0) = False := by simp
  have e3 : bXor .u32 ((r / 2 : Nat) : Int) (bAnd .u32 3988292384 (IntKind.u32.wrap (0 - ((r % 2 : Nat) : Int)))) = ((crcStep r : Nat) : Int) := by
    rcases Nat.mod_two_eq_zero_or_one r with h0 | h0
    · rw [h0]
      have w : IntKind.u32.wrap (0 - ((0 : Nat) : Int)) = ((0 : Nat) : Int) := by decide
      have a := bAnd_u32 (a := poly) (b := 0) (by decide) (by decide)
      have a' : bAnd .u32 3988292384 ((0 : Nat) : Int) = ((0 : Nat) : Int) := by rw [Nat.and_zero] at a; exact a
      rw [w, a', bXor_u32 (by omega) (by decide), Nat.xor_zero, crcStep, if_neg (by omega)]
    · rw [h0]
      have w : IntKind.u32.wrap (0 - ((1 : Nat) : Int)) = ((4294967295 : Nat) : Int) := by decide
      have a := bAnd_u32 (a := poly) (b := 4294967295) (by decide) (by decide)
      have a' : bAnd .u32 3988292384 ((4294967295 : Nat) : Int) = ((poly : Nat) : Int) := by
        have e : poly &&& 4294967295 = poly := by decide
        rw [e] at a; exact a
      rw [w, a', bXor_u32 (by omega) (by decide), crcStep, if_pos h0]
  simp -dsimp -implicitDefEqProofs only [↓j0, ↓j1, ↓j7, ↓j10, ↓j12, ↓j15, j17, j18, j20, ↓j25, ↓j29, ↓j30, j33, ↓j38, ↓j39, ↓j48, ↓j55, ↓j89, j110, j112, j114, j119, ↓j145, ↓j146, argEnv, j172, reduceCtorEq, ↓reduceIte, Nat.reduceEqDiff, j185, j186, n1, unAV_neg, e1, e2, e3]
  exact Final.one (.inr rfl) (r := .tmp 2) rfl ⟨rfl, fun vs h => by cases h⟩ (fun vs h => by cases h) (fun vs h => by cases h) (.same _ trivial)

def mrSt (n : Nat) (i0 : Nat) (s : List UInt8) (i r : Nat) (x : List (Nat × AV)) : St := ⟨n, x ++ [(6, .int .i64 i), (5, .int .u32 r), (1, .str ⟨s.toArray⟩), (4, .int .u32 0)], [], 0⟩
theorem more_spec (s : List UInt8) (hl : s.length ≤ 9223372036854775807) : ACall Try.prog 40 [.int .u32 0, .str ⟨s.toArray⟩] [] (.int .u32 (crcSum s : Nat)) [] := by
  refine ACall.run (Z := Z) (N := 28) mixed hZ Try.func40 rfl rfl (by kernel_rfl) (by simp) args_is 0 ?_
  have x0 : bXor .u32 (if IntKind.u32.signed then -1 else IntKind.u32.max) 0 = ((4294967295 : Nat) : Int) := by decide
  simp -dsimp -implicitDefEqProofs only [↓j0, ↓j1, ↓j7, ↓j12, ↓j14, ↓j15, ↓j16, j17, j18, j20, ↓j25, ↓j29, ↓j30, j33, ↓j38, ↓j39, ↓j55, ↓j145, argEnv, j172, reduceCtorEq, ↓reduceIte, j196, Int.reduceNeg, unAV_xor, x0]
  refine AWp.loopR (Z := Z) mixed hZ (by kernel_rfl) (fun n st => ∃ i, i + n = s.length ∧ st = mrSt 28 0 s i (crcL 4294967295 (s.take i)) []) (n0 := s.length) (s0 := mrSt 28 0 s 0 4294967295 []) ?_ ⟨0, by omega, rfl⟩ ?_ rfl
  · exact Wk.sub (by simp -dsimp -implicitDefEqProofs only [↓j25, j171, j179, reduceCtorEq, ↓reduceIte, Nat.reduceEqDiff, j182, j183, j184, j202, j203, j204, j209, j223] <;> simp)
  rintro n st ⟨i, hi, rfl⟩
  refine ⟨rfl, ?_⟩
  have hrl : crcL 4294967295 (s.take i) < 4294967296 := crcL_lt (by decide)
  obtain ⟨r, hr⟩ : ∃ r, crcL 4294967295 (s.take i) = r := ⟨_, rfl⟩
  rw [hr] at hrl
  rcases Nat.lt_or_ge i s.length with hlt | hge
  · have hd : decide ((i : Int) < (s.length : Int)) = true := decide_eq_true (by omega)
    have hix : (i : Int) < (s.length : Int) := by omega
    obtain ⟨b, hb⟩ := list_get (xs := s) (i := i) (by omega)
    have hbt : byteAt ⟨s.toArray⟩ (i : Int) = (b.toNat : Int) := by
      unfold byteAt
      rw [Int.toNat_natCast, Array.getD_eq_getD_getElem?, List.getElem?_toArray, hb]; rfl
    have hbl := b.toNat_lt
    have hwb : IntKind.u32.wrap (b.toNat : Int) = (b.toNat : Int) := by rw [wrap_u32, Nat.mod_eq_of_lt (by omega)]
    have hxr : bXor .u32 (r : Int) (b.toNat : Int) = ((r ^^^ b.toNat : Nat) : Int) := bXor_u32 hrl (by omega)
    have hw : IntKind.i64.wrap ((i : Int) + 1) = ((i + 1 : Nat) : Int) := by rw [wrap_i64 (by omega) (by omega)]; omega
    have hnext := crcL_take hb 4294967295
    rw [hr] at hnext
    have hql := xor_byte_lt b hrl
    obtain ⟨q, hq⟩ : ∃ q, r ^^^ b.toNat = q := ⟨_, rfl⟩
    rw [hq] at hnext hql hxr
    simp -dsimp -implicitDefEqProofs only [↓j0, ↓j1, ↓j7, ↓j9, ↓j12, ↓j13, ↓j14, ↓j15, ↓j16, j17, j18, j20, ↓j25, ↓j29, ↓j30, j33, ↓j38, ↓j39, ↓j47, ↓j48, ↓j50, ↓j58, ↓j59, ↓j89, ↓j95, j112, j141, ↓j145, ↓j146, ↓j147, ↓j149, j159, j171, j172, ↓reduceIte, Nat.reduceEqDiff, j182, j185, j191, j208, ↓j225, j259, j265, j459, mrSt, hr, hix, hbt, hwb, hxr, str_bytes]
    refine AWp.loopR (Z := Z) mixed hZ (by kernel_rfl) (fun m st => ∃ j, j + m = 8 ∧ st = mrSt 28 0 s i (crcBits j q) [(21, .int .i64 j)]) (n0 := 8) (s0 := mrSt 28 0 s i q [(21, .int .i64 ((0 : Nat) : Int))]) ?_ ⟨0, by omega, rfl⟩ ?_ rfl
    · exact Wk.sub (by simp -dsimp -implicitDefEqProofs only [↓j25, j170, j171, j179, ↓reduceIte, Nat.reduceEqDiff, j182, j183, j184, j202, j203, j204, j209, j223] <;> simp)
    rintro m st ⟨j, hj, rfl⟩
    refine ⟨rfl, ?_⟩
    rcases Nat.lt_or_ge j 8 with hj8 | hj8
    · have hd2 : decide ((j : Int) < 8) = true := decide_eq_true (by omega)
      have hw2 : IntKind.i64.wrap ((j : Int) + 1) = ((j + 1 : Nat) : Int) := by rw [wrap_i64 (by omega) (by omega)]; omega
      have hst := step_spec (crcBits j q) (crcBits_lt hql j)
      simp -dsimp -implicitDefEqProofs only [↓j0, ↓j1, ↓j7, ↓j9, ↓j12, ↓j13, ↓j14, ↓j15, j17, j18, j20, ↓j25, ↓j29, ↓j30, j33, ↓j38, ↓j48, ↓j53, ↓j89, ↓j145, ↓j146, ↓j147, ↓j149, j159, j170, j171, j172, ↓reduceIte, Nat.reduceEqDiff, j185, mrSt, hd2]
      refine CallTo.pure (args := [.int .u32 (crcBits j q : Nat)]) rfl fok44 (by simp -dsimp -implicitDefEqProofs only [↓j25, ↓j29, j173, j174, ↓reduceIte]) (fun x hx => (args_i x hx).2) hst ?_
      simp -dsimp -implicitDefEqProofs only [↓j0, ↓j1, ↓j7, ↓j15, j17, j18, j20, ↓j25, ↓j29, ↓j30, j33, ↓j38, ↓j39, ↓j48, ↓j89, ↓j145, ↓j146, j154, j172, ↓reduceIte, Nat.reduceEqDiff, j185]
      exact ⟨m - 1, mrSt 28 0 s i (crcBits (j + 1) q) [(21, .int .i64 ((j + 1 : Nat) : Int))], by omega, ⟨j + 1, by omega, rfl⟩, Wk.sub (by simp -dsimp -implicitDefEqProofs only [↓j25, j170, j171, ↓reduceIte, Nat.reduceEqDiff, j182, j202, j203, j204, j223, hw2, crcBits] <;> simp)⟩
    · have hj' : j = 8 := by omega
      subst hj'
      have hd2 : decide (((8 : Nat) : Int) < 8) = false := rfl
      simp -dsimp -implicitDefEqProofs only [↓j0, ↓j1, ↓j7, ↓j11, ↓j12, ↓j13, ↓j15, j17, j18, j20, ↓j25, ↓j29, ↓j30, j33, ↓j38, ↓j39, ↓j48, ↓j89, ↓j145, ↓j146, ↓j148, ↓j149, j154, j159, j170, j171, j172, ↓reduceIte, Nat.reduceEqDiff, j185, mrSt, hd2]
      exact ⟨n - 1, mrSt 28 0 s (i + 1) (crcL 4294967295 (s.take (i + 1))) [], by omega, ⟨i + 1, by omega, rfl⟩, Wk.sub (by rw [hnext]; simp -dsimp -implicitDefEqProofs only [↓j25, j171, ↓reduceIte, Nat.reduceEqDiff, j182, j202, j203, j204, j223, hw] <;> simp)⟩
  · have hd : decide ((i : Int) < (s.length : Int)) = false := decide_eq_false (by omega)
    have hT : s.take i = s := List.take_of_length_le hge
    rw [hT] at hr
    have hfin : bXor .u32 (if IntKind.u32.signed then -1 else IntKind.u32.max) (r : Int) = ((crcSum s : Nat) : Int) := by
      have := bXor_u32 (a := 4294967295) (b := r) (by decide) hrl
      rw [xor_all hrl] at this
      rw [crcSum, hr]
      exact this
    simp -dsimp -implicitDefEqProofs only [↓j0, ↓j1, ↓j7, ↓j10, ↓j11, ↓j12, ↓j13, ↓j15, j17, j18, j20, ↓j25, ↓j29, ↓j38, ↓j39, ↓j48, ↓j55, ↓j58, ↓j59, ↓j89, j141, ↓j145, ↓j146, ↓j148, ↓j149, j159, j171, j172, ↓reduceIte, Nat.reduceEqDiff, j185, Int.reduceNeg, j259, mrSt, hT, hr, hd, unAV_xor, hfin, str_bytes]
    exact Final.one (.inr rfl) (r := .tmp 4) rfl ⟨rfl, fun vs h => by cases h⟩ (fun vs h => by cases h) (fun vs h => by cases h) (.same _ trivial)
theorem sum_spec (s : List UInt8) (hl : s.length ≤ 9223372036854775807) : ACall Try.prog 25 [.str ⟨s.toArray⟩] [] (.int .u32 (crcSum s : Nat)) [] := by
  refine ACall.run (Z := Z) (N := 5) mixed hZ Try.func25 rfl rfl (by kernel_rfl) (by simp) args_s 0 ?_
  simp -dsimp -implicitDefEqProofs only [↓j0, ↓j1, ↓j7, ↓j12, ↓j15, j17, j18, j20, ↓j25, ↓j29, ↓j30, j33, ↓j38, ↓j39, ↓j53, ↓j145, argEnv, j172, reduceCtorEq, ↓reduceIte]
  refine CallTo.pure (args := [.int .u32 0, .str ⟨s.toArray⟩]) rfl fok40 (by simp -dsimp -implicitDefEqProofs only [↓j25, ↓j29, ↓j30, j33, j173, j174, ↓reduceIte]) (fun x hx => (args_is x hx).2) (more_spec s hl) ?_
  simp -dsimp -implicitDefEqProofs only [↓j0, ↓j1, ↓j10, j17, j18, j20, ↓j25, ↓j29, ↓j39, ↓j145, j172, ↓reduceIte]
  exact Final.one (.inr rfl) (r := .tmp 2) rfl ⟨rfl, fun vs h => by cases h⟩ (fun vs h => by cases h) (fun vs h => by cases h) (.same _ trivial)
end Go.Proofs.Ythfaldoagmkllaa
