/- The sum CRC-32, by both. -/
import Derived.Test.YtbellkdglifahaaP1
import Derived.Test.YtbellkdglifahaaM4
set_option linter.unusedVariables false
set_option linter.unusedSimpArgs false
namespace Go.Proofs.Ytbellkdglifahaa
open Go Go.RowKit

theorem args_i {a : Int} {k : IntKind} : ∀ x, x ∈ [AV.int k a] → AV.on (fun _ => False) x ∧ ∀ vs, x ≠ .tuple vs := fun x hx => by
  simp only [List.mem_singleton] at hx; subst hx; exact ⟨trivial, fun vs h => by cases h⟩
theorem args_is {a : Int} {k : IntKind} {s : ByteArray} : ∀ x, x ∈ [AV.int k a, AV.str s] → AV.on (fun _ => False) x ∧ ∀ vs, x ≠ .tuple vs := fun x hx => by
  simp only [List.mem_cons, List.not_mem_nil, or_false] at hx
  rcases hx with rfl | rfl
  · exact ⟨trivial, fun vs h => by cases h⟩
  · exact ⟨trivial, fun vs h => by cases h⟩
theorem args_s {s : ByteArray} : ∀ x, x ∈ [AV.str s] → AV.on (fun _ => False) x ∧ ∀ vs, x ≠ .tuple vs := fun x hx => by
  simp only [List.mem_singleton] at hx; subst hx; exact ⟨trivial, fun vs h => by cases h⟩

theorem fok40 : fnOk Try.prog 40 = true := by kernel_rfl
theorem fok41 : fnOk Try.prog 41 = true := by kernel_rfl
theorem fok42 : fnOk Try.prog 42 = true := by kernel_rfl
theorem fok43 : fnOk Try.prog 43 = true := by kernel_rfl
theorem fok44 : fnOk Try.prog 44 = true := by kernel_rfl
theorem fok45 : fnOk Try.prog 45 = true := by kernel_rfl
theorem turned_spec (r : Nat) (h : r < 4294967296) : ACall Try.prog 44 [.int .u32 r] [] (.int .u32 (crcStep r : Nat)) [] := by
  refine ACall.run (Z := Z) (N := 11) mixed hZ Try.func44 rfl rfl (by kernel_rfl) (by simp) args_i 0 ?_
  have ret : ∀ (v : Nat) (t : Env) (H : Heap) (m : Nat), v = crcStep r → look t 2 = some (.int .u32 (v : Int)) → Final Try.prog Try.f44 (.int .u32 (crcStep r : Nat)) [] .ret ⟨11, t, H, m⟩ := fun v t H m hv h =>
    Final.one (.inr rfl) (r := .tmp 2) rfl ⟨hv ▸ h, fun vs h => by cases h⟩ (fun vs h => by cases h) (fun vs h => by cases h) (.same _ trivial)
  have e1 : (r : Int).tmod 2 = ((r % 2 : Nat) : Int) := by rw [Int.tmod_eq_emod_of_nonneg (by omega)]; omega
  have e2 : IntKind.u32.wrap ((r : Int).tdiv 2) = ((r / 2 : Nat) : Int) := by
    rw [Int.tdiv_eq_ediv_of_nonneg (by omega), show (r : Int) / 2 = ((r / 2 : Nat) : Int) by omega, wrap_u32, Nat.mod_eq_of_lt (by omega)]
  have e3 : bXor .u32 ((r / 2 : Nat) : Int) 3988292384 = (((r / 2) ^^^ poly : Nat) : Int) := bXor_u32 (b := poly) (by omega) (by decide)
  simp -dsimp -implicitDefEqProofs only [↓j0, ↓j1, ↓j7, ↓j12, ↓j13, ↓j15, j17, j18, j20, ↓j25, ↓j29, ↓j30, j33, ↓j38, ↓j39, ↓j48, ↓j89, j109, ↓j145, ↓j146, ↓j149, j157, argEnv, j172, reduceCtorEq, ↓reduceIte, Int.reduceEq, j185, e1]
  refine ⟨fun hb => ?_, fun hb => ?_⟩
  · have hb' : r % 2 = 1 := by
      have : ((r % 2 : Nat) : Int) = 1 := by simpa using hb
      omega
    simp -dsimp -implicitDefEqProofs only [↓j0, ↓j1, ↓j7, ↓j10, ↓j12, ↓j15, j17, j18, j20, ↓j25, ↓j29, ↓j30, j33, ↓j38, ↓j39, ↓j48, ↓j89, j108, j112, ↓j145, ↓j146, j172, reduceCtorEq, ↓reduceIte, Int.reduceEq, j185, hb, e2, e3]
    exact ret _ _ _ _ (by rw [crcStep, if_pos hb']) rfl
  · have hb' : ¬ r % 2 = 1 := by
      intro h1; rw [h1] at hb; simp at hb
    simp -dsimp -implicitDefEqProofs only [↓j0, ↓j1, ↓j7, ↓j9, ↓j10, ↓j12, ↓j15, j17, j18, j20, ↓j25, ↓j29, ↓j30, j33, ↓j38, ↓j39, ↓j48, ↓j89, j108, ↓j145, ↓j146, j172, reduceCtorEq, ↓reduceIte, Int.reduceEq, j185, hb, e2]
    exact ret _ _ _ _ (by rw [crcStep, if_neg hb']) rfl

theorem step_spec (r : Nat) (h : r < 4294967296) : ACall Try.prog 45 [.int .u32 r] [] (.int .u32 (crcStep r : Nat)) [] := by
  refine ACall.run (Z := Z) (N := 10) mixed hZ Try.func45 rfl rfl (by kernel_rfl) (by simp) args_i 0 ?_
  have e1 : bShr .u32 (r : Int) 1 = ((r / 2 : Nat) : Int) := by
    have := bShr_nat .u32 r 1
    rw [show min 1 IntKind.u32.bits = 1 from rfl] at this
    exact this
  have e2 : bAnd .u32 (r : Int) 1 = ((r % 2 : Nat) : Int) := by
    have := bAnd_u32 (a := r) (b := 1) h (by decide)
    rw [Nat.and_one_is_mod] at this
    exact this
  have n1 : ((1 : Int) < 0) = False := by simp
  have e3 : bXor .u32 ((r / 2 : Nat) : Int) (bAnd .u32 3988292384 (IntKind.u32.wrap (0 - ((r % 2 : Nat) : Int)))) = ((crcStep r : Nat) : Int) := by
    rcases Nat.mod_two_eq_zero_or_one r with h0 | h0
    · rw [h0]
      have w : IntKind.u32.wrap (0 - ((0 : Nat) : Int)) = ((0 : Nat) : Int) := by decide
      have a := bAnd_u32 (a := poly) (b := 0) (by decide) (by decide)
      have a' : bAnd .u32 3988292384 ((0 : Nat) : Int) = ((0 : Nat) : Int) := by rw [Nat.and_zero] at a; exact a
      rw [w, a', bXor_u32 (by omega) (by decide), Nat.xor_zero, crcStep, if_neg (by omega)]
    · rw [h0]
      have w : IntKind.u32.wrap (0 - ((1 : Nat) : Int)) = ((4294967295 : Nat) : Int) := by decide
      have a := bAnd_u32 (a := poly) (b := 4294967295) (by decide) (by decide)
      have a' : bAnd .u32 3988292384 ((4294967295 : Nat) : Int) = ((poly : Nat) : Int) := by
        have e : poly &&& 4294967295 = poly := by decide
        rw [e] at a; exact a
      rw [w, a', bXor_u32 (by omega) (by decide), crcStep, if_pos h0]
  simp -dsimp -implicitDefEqProofs only [↓j0, ↓j1, ↓j7, ↓j10, ↓j12, ↓j15, j17, j18, j20, ↓j25, ↓j29, ↓j30, j33, ↓j38, ↓j39, ↓j48, ↓j55, ↓j89, j110, j112, j114, j119, ↓j145, ↓j146, argEnv, j172, reduceCtorEq, ↓reduceIte, Nat.reduceEqDiff, j185, j186, n1, unAV_neg, e1, e2, e3]
  exact Final.one (.inr rfl) (r := .tmp 2) rfl ⟨rfl, fun vs h => by cases h⟩ (fun vs h => by cases h) (fun vs h => by cases h) (.same _ trivial)

def mrSt (n : Nat) (i0 : Nat) (s : List UInt8) (i r : Nat) (x : List (Nat × AV)) : St := ⟨n, x ++ [(6, .int .i64 i), (5, .int .u32 r), (1, .str ⟨s.toArray⟩), (4, .int .u32 0)], [], 0⟩
theorem more_spec (s : List UInt8) (hl : s.length ≤ 9223372036854775807) : ACall Try.prog 43 [.int .u32 0, .str ⟨s.toArray⟩] [] (.int .u32 (crcSum s : Nat)) [] := by
  refine ACall.run (Z := Z) (N := 28) mixed hZ Try.func43 rfl rfl (by kernel_rfl) (by simp) args_is 0 ?_
  have x0 : bXor .u32 (if IntKind.u32.signed then -1 else IntKind.u32.max) 0 = ((4294967295 : Nat) : Int) := by decide
  simp -dsimp -implicitDefEqProofs only [↓j0, ↓j1, ↓j7, ↓j12, ↓j14, ↓j15, ↓j16, j17, j18, j20, ↓j25, ↓j29, ↓j30, j33, ↓j38, ↓j39, ↓j55, ↓j145, argEnv, j172, reduceCtorEq, ↓reduceIte, j196, Int.reduceNeg, unAV_xor, x0]
  refine AWp.loopR (Z := Z) mixed hZ (by kernel_rfl) (fun n st => ∃ i, i + n = s.length ∧ st = mrSt 28 0 s i (crcL 4294967295 (s.take i)) []) (n0 := s.length) (s0 := mrSt 28 0 s 0 4294967295 []) ?_ ⟨0, by omega, rfl⟩ ?_ rfl
  · exact Wk.sub (by simp -dsimp -implicitDefEqProofs only [↓j25, j171, j179, reduceCtorEq, ↓reduceIte, Nat.reduceEqDiff, j182, j183, j184, j202, j203, j204, j209, j223] <;> simp)
  rintro n st ⟨i, hi, rfl⟩
  refine ⟨rfl, ?_⟩
  have hrl : crcL 4294967295 (s.take i) < 4294967296 := crcL_lt (by decide)
  obtain ⟨r, hr⟩ : ∃ r, crcL 4294967295 (s.take i) = r := ⟨_, rfl⟩
  rw [hr] at hrl
  rcases Nat.lt_or_ge i s.length with hlt | hge
  · have hd : decide ((i : Int) < (s.length : Int)) = true := decide_eq_true (by omega)
    have hix : (i : Int) < (s.length : Int) := by omega
    obtain ⟨b, hb⟩ := list_get (xs := s) (i := i) (by omega)
    have hbt : byteAt ⟨s.toArray⟩ (i : Int) = (b.toNat : Int) := by
      unfold byteAt
      rw [Int.toNat_natCast, Array.getD_eq_getD_getElem?, List.getElem?_toArray, hb]; rfl
    have hbl := b.toNat_lt
    have hwb : IntKind.u32.wrap (b.toNat : Int) = (b.toNat : Int) := by rw [wrap_u32, Nat.mod_eq_of_lt (by omega)]
    have hxr : bXor .u32 (r : Int) (b.toNat : Int) = ((r ^^^ b.toNat : Nat) : Int) := bXor_u32 hrl (by omega)
    have hw : IntKind.i64.wrap ((i : Int) + 1) = ((i + 1 : Nat) : Int) := by rw [wrap_i64 (by omega) (by omega)]; omega
    have hnext := crcL_take hb 4294967295
    rw [hr] at hnext
    have hql := xor_byte_lt b hrl
    obtain ⟨q, hq⟩ : ∃ q, r ^^^ b.toNat = q := ⟨_, rfl⟩
    rw [hq] at hnext hql hxr
    simp -dsimp -implicitDefEqProofs only [↓j0, ↓j1, ↓j7, ↓j9, ↓j12, ↓j13, ↓j14, ↓j15, ↓j16, j17, j18, j20, ↓j25, ↓j29, ↓j30, j33, ↓j38, ↓j39, ↓j47, ↓j48, ↓j50, ↓j58, ↓j59, ↓j89, ↓j95, j112, j141, ↓j145, ↓j146, ↓j147, ↓j149, j159, j171, j172, ↓reduceIte, Nat.reduceEqDiff, j182, j185, j191, j208, ↓j225, j259, j268, j391, mrSt, hr, hix, hbt, hwb, hxr, str_bytes]
    refine AWp.loopR (Z := Z) mixed hZ (by kernel_rfl) (fun m st => ∃ j, j + m = 8 ∧ st = mrSt 28 0 s i (crcBits j q) [(21, .int .i64 j)]) (n0 := 8) (s0 := mrSt 28 0 s i q [(21, .int .i64 ((0 : Nat) : Int))]) ?_ ⟨0, by omega, rfl⟩ ?_ rfl
    · exact Wk.sub (by simp -dsimp -implicitDefEqProofs only [↓j25, j170, j171, j179, ↓reduceIte, Nat.reduceEqDiff, j182, j183, j184, j202, j203, j204, j209, j223] <;> simp)
    rintro m st ⟨j, hj, rfl⟩
    refine ⟨rfl, ?_⟩
    rcases Nat.lt_or_ge j 8 with hj8 | hj8
    · have hd2 : decide ((j : Int) < 8) = true := decide_eq_true (by omega)
      have hw2 : IntKind.i64.wrap ((j : Int) + 1) = ((j + 1 : Nat) : Int) := by rw [wrap_i64 (by omega) (by omega)]; omega
      have hst := step_spec (crcBits j q) (crcBits_lt hql j)
      simp -dsimp -implicitDefEqProofs only [↓j0, ↓j1, ↓j7, ↓j9, ↓j12, ↓j13, ↓j14, ↓j15, j17, j18, j20, ↓j25, ↓j29, ↓j30, j33, ↓j38, ↓j48, ↓j53, ↓j89, ↓j145, ↓j146, ↓j147, ↓j149, j159, j170, j171, j172, ↓reduceIte, Nat.reduceEqDiff, j185, mrSt, hd2]
      refine CallTo.pure (args := [.int .u32 (crcBits j q : Nat)]) rfl fok45 (by simp -dsimp -implicitDefEqProofs only [↓j25, ↓j29, j173, j174, ↓reduceIte]) (fun x hx => (args_i x hx).2) hst ?_
      simp -dsimp -implicitDefEqProofs only [↓j0, ↓j1, ↓j7, ↓j15, j17, j18, j20, ↓j25, ↓j29, ↓j30, j33, ↓j38, ↓j39, ↓j48, ↓j89, ↓j145, ↓j146, j154, j172, ↓reduceIte, Nat.reduceEqDiff, j185]
      exact ⟨m - 1, mrSt 28 0 s i (crcBits (j + 1) q) [(21, .int .i64 ((j + 1 : Nat) : Int))], by omega, ⟨j + 1, by omega, rfl⟩, Wk.sub (by simp -dsimp -implicitDefEqProofs only [↓j25, j170, j171, ↓reduceIte, Nat.reduceEqDiff, j182, j202, j203, j204, j223, hw2, crcBits] <;> simp)⟩
    · have hj' : j = 8 := by omega
      subst hj'
      have hd2 : decide (((8 : Nat) : Int) < 8) = false := rfl
      simp -dsimp -implicitDefEqProofs only [↓j0, ↓j1, ↓j7, ↓j11, ↓j12, ↓j13, ↓j15, j17, j18, j20, ↓j25, ↓j29, ↓j30, j33, ↓j38, ↓j39, ↓j48, ↓j89, ↓j145, ↓j146, ↓j148, ↓j149, j154, j159, j170, j171, j172, ↓reduceIte, Nat.reduceEqDiff, j185, mrSt, hd2]
      exact ⟨n - 1, mrSt 28 0 s (i + 1) (crcL 4294967295 (s.take (i + 1))) [], by omega, ⟨i + 1, by omega, rfl⟩, Wk.sub (by rw [hnext]; simp -dsimp -implicitDefEqProofs only [↓j25, j171, ↓reduceIte, Nat.reduceEqDiff, j182, j202, j203, j204, j223, hw] <;> simp)⟩
  · have hd : decide ((i : Int) < (s.length : Int)) = false := decide_eq_false (by omega)
    have hT : s.take i = s := List.take_of_length_le hge
    rw [hT] at hr
    have hfin : bXor .u32 (if IntKind.u32.signed then -1 else IntKind.u32.max) (r : Int) = ((crcSum s : Nat) : Int) := by
      have := bXor_u32 (a := 4294967295) (b := r) (by decide) hrl
      rw [xor_all hrl] at this
      rw [crcSum, hr]
      exact this
    simp -dsimp -implicitDefEqProofs only [↓j0, ↓j1, ↓j7, ↓j10, ↓j11, ↓j12, ↓j13, ↓j15, j17, j18, j20, ↓j25, ↓j29, ↓j38, ↓j39, ↓j48, ↓j55, ↓j58, ↓j59, ↓j89, j141, ↓j145, ↓j146, ↓j148, ↓j149, j159, j171, j172, ↓reduceIte, Nat.reduceEqDiff, j185, Int.reduceNeg, j259, mrSt, hT, hr, hd, unAV_xor, hfin, str_bytes]
    exact Final.one (.inr rfl) (r := .tmp 4) rfl ⟨rfl, fun vs h => by cases h⟩ (fun vs h => by cases h) (fun vs h => by cases h) (.same _ trivial)
theorem sum_spec (s : List UInt8) (hl : s.length ≤ 9223372036854775807) : ACall Try.prog 41 [.str ⟨s.toArray⟩] [] (.int .u32 (crcSum s : Nat)) [] := by
  refine ACall.run (Z := Z) (N := 5) mixed hZ Try.func41 rfl rfl (by kernel_rfl) (by simp) args_s 0 ?_
  simp -dsimp -implicitDefEqProofs only [↓j0, ↓j1, ↓j7, ↓j12, ↓j15, j17, j18, j20, ↓j25, ↓j29, ↓j30, j33, ↓j38, ↓j39, ↓j53, ↓j145, argEnv, j172, reduceCtorEq, ↓reduceIte]
  refine CallTo.pure (args := [.int .u32 0, .str ⟨s.toArray⟩]) rfl fok43 (by simp -dsimp -implicitDefEqProofs only [↓j25, ↓j29, ↓j30, j33, j173, j174, ↓reduceIte]) (fun x hx => (args_is x hx).2) (more_spec s hl) ?_
  simp -dsimp -implicitDefEqProofs only [↓j0, ↓j1, ↓j10, j17, j18, j20, ↓j25, ↓j29, ↓j39, ↓j145, j172, ↓reduceIte]
  exact Final.one (.inr rfl) (r := .tmp 2) rfl ⟨rfl, fun vs h => by cases h⟩ (fun vs h => by cases h) (fun vs h => by cases h) (.same _ trivial)
theorem rmore_spec (s : List UInt8) (hl : s.length ≤ 9223372036854775807) : ACall Try.prog 42 [.int .u32 0, .str ⟨s.toArray⟩] [] (.int .u32 (crcSum s : Nat)) [] := by
  refine ACall.run (Z := Z) (N := 30) mixed hZ Try.func42 rfl rfl (by kernel_rfl) (by simp) args_is 0 ?_
  have x0 : IntKind.u32.wrap (4294967295 - 0) = ((4294967295 : Nat) : Int) := by decide
  simp -dsimp -implicitDefEqProofs only [↓j0, ↓j1, ↓j7, ↓j12, ↓j14, ↓j15, ↓j16, j17, j18, j20, ↓j25, ↓j29, ↓j30, j33, ↓j38, ↓j39, ↓j48, ↓j89, ↓j145, ↓j146, j155, argEnv, j172, reduceCtorEq, ↓reduceIte, j185, j196, x0]
  refine AWp.loopR (Z := Z) mixed hZ (by kernel_rfl) (fun n st => ∃ i, i + n = s.length ∧ st = mrSt 30 0 s i (crcL 4294967295 (s.take i)) []) (n0 := s.length) (s0 := mrSt 30 0 s 0 4294967295 []) ?_ ⟨0, by omega, rfl⟩ ?_ rfl
  · exact Wk.sub (by simp -dsimp -implicitDefEqProofs only [↓j25, j171, j179, reduceCtorEq, ↓reduceIte, Nat.reduceEqDiff, j182, j183, j184, j202, j203, j204, j209, j223] <;> simp)
  rintro n st ⟨i, hi, rfl⟩
  refine ⟨rfl, ?_⟩
  have hrl : crcL 4294967295 (s.take i) < 4294967296 := crcL_lt (by decide)
  obtain ⟨r, hr⟩ : ∃ r, crcL 4294967295 (s.take i) = r := ⟨_, rfl⟩
  rw [hr] at hrl
  rcases Nat.lt_or_ge i s.length with hlt | hge
  · have hd : decide ((i : Int) < (s.length : Int)) = true := decide_eq_true (by omega)
    have hix : (i : Int) < (s.length : Int) := by omega
    obtain ⟨b, hb⟩ := list_get (xs := s) (i := i) (by omega)
    have hbt : byteAt ⟨s.toArray⟩ (i : Int) = (b.toNat : Int) := by
      unfold byteAt
      rw [Int.toNat_natCast, Array.getD_eq_getD_getElem?, List.getElem?_toArray, hb]; rfl
    have hbl := b.toNat_lt
    have hwb : IntKind.u32.wrap (b.toNat : Int) = (b.toNat : Int) := by rw [wrap_u32, Nat.mod_eq_of_lt (by omega)]
    have hxr : bXor .u32 (r : Int) (b.toNat : Int) = ((r ^^^ b.toNat : Nat) : Int) := bXor_u32 hrl (by omega)
    have hw : IntKind.i64.wrap ((i : Int) + 1) = ((i + 1 : Nat) : Int) := by rw [wrap_i64 (by omega) (by omega)]; omega
    have hnext := crcL_take hb 4294967295
    rw [hr] at hnext
    have hql := xor_byte_lt b hrl
    obtain ⟨q, hq⟩ : ∃ q, r ^^^ b.toNat = q := ⟨_, rfl⟩
    rw [hq] at hnext hql hxr
    simp -dsimp -implicitDefEqProofs only [↓j0, ↓j1, ↓j7, ↓j9, ↓j12, ↓j13, ↓j14, ↓j15, ↓j16, j17, j18, j20, ↓j25, ↓j29, ↓j30, j33, ↓j38, ↓j39, ↓j47, ↓j48, ↓j50, ↓j58, ↓j59, ↓j89, ↓j95, j112, j141, ↓j145, ↓j146, ↓j147, ↓j149, j159, j171, j172, ↓reduceIte, Nat.reduceEqDiff, j182, j185, j191, j208, ↓j225, j259, j268, j391, mrSt, hr, hix, hbt, hwb, hxr, str_bytes]
    refine AWp.loopR (Z := Z) mixed hZ (by kernel_rfl) (fun m st => ∃ j, j + m = 8 ∧ st = mrSt 30 0 s i (crcBits j q) [(7, .int .i64 j)]) (n0 := 8) (s0 := mrSt 30 0 s i q [(7, .int .i64 ((0 : Nat) : Int))]) ?_ ⟨0, by omega, rfl⟩ ?_ rfl
    · exact Wk.sub (by simp -dsimp -implicitDefEqProofs only [↓j25, j170, j171, j179, ↓reduceIte, Nat.reduceEqDiff, j182, j183, j184, j202, j203, j204, j209, j223] <;> simp)
    rintro m st ⟨j, hj, rfl⟩
    refine ⟨rfl, ?_⟩
    rcases Nat.lt_or_ge j 8 with hj8 | hj8
    · have hd2 : decide ((j : Int) < 8) = true := decide_eq_true (by omega)
      have hw2 : IntKind.i64.wrap ((j : Int) + 1) = ((j + 1 : Nat) : Int) := by rw [wrap_i64 (by omega) (by omega)]; omega
      have hst := turned_spec (crcBits j q) (crcBits_lt hql j)
      simp -dsimp -implicitDefEqProofs only [↓j0, ↓j1, ↓j7, ↓j9, ↓j12, ↓j13, ↓j14, ↓j15, j17, j18, j20, ↓j25, ↓j29, ↓j30, j33, ↓j38, ↓j48, ↓j53, ↓j89, ↓j145, ↓j146, ↓j147, ↓j149, j159, j170, j171, j172, ↓reduceIte, Nat.reduceEqDiff, j185, mrSt, hd2]
      refine CallTo.pure (args := [.int .u32 (crcBits j q : Nat)]) rfl fok44 (by simp -dsimp -implicitDefEqProofs only [↓j25, ↓j29, j173, j174, ↓reduceIte]) (fun x hx => (args_i x hx).2) hst ?_
      simp -dsimp -implicitDefEqProofs only [↓j0, ↓j1, ↓j7, ↓j15, j17, j18, j20, ↓j25, ↓j29, ↓j30, j33, ↓j38, ↓j39, ↓j48, ↓j89, ↓j145, ↓j146, j154, j172, ↓reduceIte, Nat.reduceEqDiff, j185]
      exact ⟨m - 1, mrSt 30 0 s i (crcBits (j + 1) q) [(7, .int .i64 ((j + 1 : Nat) : Int))], by omega, ⟨j + 1, by omega, rfl⟩, Wk.sub (by simp -dsimp -implicitDefEqProofs only [↓j25, j170, j171, ↓reduceIte, Nat.reduceEqDiff, j182, j202, j203, j204, j223, hw2, crcBits] <;> simp)⟩
    · have hj' : j = 8 := by omega
      subst hj'
      have hd2 : decide (((8 : Nat) : Int) < 8) = false := rfl
      simp -dsimp -implicitDefEqProofs only [↓j0, ↓j1, ↓j7, ↓j11, ↓j12, ↓j13, ↓j15, j17, j18, j20, ↓j25, ↓j29, ↓j30, j33, ↓j38, ↓j39, ↓j48, ↓j89, ↓j145, ↓j146, ↓j148, ↓j149, j154, j159, j170, j171, j172, ↓reduceIte, Nat.reduceEqDiff, j185, mrSt, hd2]
      exact ⟨n - 1, mrSt 30 0 s (i + 1) (crcL 4294967295 (s.take (i + 1))) [], by omega, ⟨i + 1, by omega, rfl⟩, Wk.sub (by rw [hnext]; simp -dsimp -implicitDefEqProofs only [↓j25, j171, ↓reduceIte, Nat.reduceEqDiff, j182, j202, j203, j204, j223, hw] <;> simp)⟩
  · have hd : decide ((i : Int) < (s.length : Int)) = false := decide_eq_false (by omega)
    have hT : s.take i = s := List.take_of_length_le hge
    rw [hT] at hr
    have hfin : IntKind.u32.wrap (4294967295 - (r : Int)) = ((crcSum s : Nat) : Int) := by
      rw [crcSum, hr, show (4294967295 : Int) - (r : Int) = ((4294967295 - r : Nat) : Int) by omega, wrap_u32, Nat.mod_eq_of_lt (by omega)]
    simp -dsimp -implicitDefEqProofs only [↓j0, ↓j1, ↓j7, ↓j10, ↓j11, ↓j12, ↓j13, ↓j15, j17, j18, j20, ↓j25, ↓j29, ↓j30, j33, ↓j38, ↓j39, ↓j48, ↓j58, ↓j59, ↓j89, j141, ↓j145, ↓j146, ↓j148, ↓j149, j155, j159, j171, j172, ↓reduceIte, Nat.reduceEqDiff, j185, j259, mrSt, hT, hr, hd, hfin, str_bytes]
    exact Final.one (.inr rfl) (r := .tmp 4) rfl ⟨rfl, fun vs h => by cases h⟩ (fun vs h => by cases h) (fun vs h => by cases h) (.same _ trivial)
theorem rsum_spec (s : List UInt8) (hl : s.length ≤ 9223372036854775807) : ACall Try.prog 40 [.str ⟨s.toArray⟩] [] (.int .u32 (crcSum s : Nat)) [] := by
  refine ACall.run (Z := Z) (N := 5) mixed hZ Try.func40 rfl rfl (by kernel_rfl) (by simp) args_s 0 ?_
  simp -dsimp -implicitDefEqProofs only [↓j0, ↓j1, ↓j7, ↓j12, ↓j15, j17, j18, j20, ↓j25, ↓j29, ↓j30, j33, ↓j38, ↓j39, ↓j53, ↓j145, argEnv, j172, reduceCtorEq, ↓reduceIte]
  refine CallTo.pure (args := [.int .u32 0, .str ⟨s.toArray⟩]) rfl fok42 (by simp -dsimp -implicitDefEqProofs only [↓j25, ↓j29, ↓j30, j33, j173, j174, ↓reduceIte]) (fun x hx => (args_is x hx).2) (rmore_spec s hl) ?_
  simp -dsimp -implicitDefEqProofs only [↓j0, ↓j1, ↓j10, j17, j18, j20, ↓j25, ↓j29, ↓j39, ↓j145, j172, ↓reduceIte]
  exact Final.one (.inr rfl) (r := .tmp 2) rfl ⟨rfl, fun vs h => by cases h⟩ (fun vs h => by cases h) (fun vs h => by cases h) (.same _ trivial)

def rpSt (v n i c : Nat) : St := ⟨28, [(6, .int .i64 i), (5, .str ⟨(putL v i).toArray⟩), (0, .int .u64 (v / 2 ^ (8 * i) : Nat)), (1, .int .i64 n), (4, .str ⟨#[]⟩)], [], c⟩
theorem rput_spec (v n : Nat) (hv : v < 18446744073709551616) (hn : n ≤ 8) : ACall Try.prog 35 [.int .u64 v, .int .i64 n] [] (.str ⟨(putL v n).toArray⟩) [] := by
  refine ACall.run (Z := Z) (N := 28) mixed hZ Try.func35 rfl rfl (by kernel_rfl) (by simp) args_ii 0 ?_
  have d1 : decide ((n : Int) < 0) = false := decide_eq_false (by omega)
  have d2 : decide (8 < (n : Int)) = false := decide_eq_false (by omega)
  simp -dsimp -implicitDefEqProofs only [↓j0, ↓j1, ↓j2, ↓j7, ↓j9, ↓j12, ↓j13, ↓j14, ↓j15, ↓j16, j17, j18, j20, ↓j25, ↓j29, ↓j30, j32, j33, j34, ↓j38, ↓j39, ↓j40, ↓j48, j83, ↓j89, ↓j145, ↓j146, ↓j148, ↓j149, ↓j151, j159, j161, argEnv, j163, j164, j172, j175, reduceCtorEq, ↓reduceIte, Nat.reduceEqDiff, j185, j195, j196, d1, d2]
  refine AWp.loopR (Z := Z) mixed hZ (by kernel_rfl) (fun k s => ∃ i c, i + k = n ∧ s = rpSt v n i c) (n0 := n) (s0 := rpSt v n 0 0) ?_ ⟨0, 0, by omega, rfl⟩ ?_ rfl
  · exact Wk.sub (by simp -dsimp -implicitDefEqProofs only [↓j25, j179, reduceCtorEq, ↓reduceIte, Nat.reduceMul, Nat.reduceEqDiff, j182, j183, j184, j202, j203, j204, j209, j223, Nat.reducePow] <;> simp [putL])
  rintro k s ⟨i, c, hi, rfl⟩
  refine ⟨rfl, ?_⟩
  have hql : v / 2 ^ (8 * i) < 18446744073709551616 := Nat.lt_of_le_of_lt (Nat.div_le_self _ _) hv
  have hqn : v / 2 ^ (8 * (i + 1)) = v / 2 ^ (8 * i) / 256 := by
    rw [Nat.div_div_eq_div_mul, show 8 * (i + 1) = 8 * i + 8 by omega, Nat.pow_add]
  have hpt := putL_take v i
  obtain ⟨q, hq⟩ : ∃ q, v / 2 ^ (8 * i) = q := ⟨_, rfl⟩
  obtain ⟨l, hl⟩ : ∃ l, putL v i = l := ⟨_, rfl⟩
  have hll : l.length = i := by rw [← hl, putL_len]
  rw [hq] at hql hqn hpt
  rw [hl] at hpt
  rcases Nat.lt_or_ge i n with hlt | hge
  · have hd : decide ((i : Int) < (n : Int)) = true := decide_eq_true (by omega)
    have hw : IntKind.i64.wrap ((i : Int) + 1) = ((i + 1 : Nat) : Int) := by rw [wrap_i64 (by omega) (by omega)]; omega
    have e1 : (q : Int).tmod 256 = ((q % 256 : Nat) : Int) := by rw [Int.tmod_eq_emod_of_nonneg (by omega)]; omega
    have e2 : IntKind.u64.wrap ((q : Int).tdiv 256) = ((q / 256 : Nat) : Int) := by
      rw [Int.tdiv_eq_ediv_of_nonneg (by omega), show (q : Int) / 256 = ((q / 256 : Nat) : Int) by omega, wrap_u64, Nat.mod_eq_of_lt (by omega)]
    have hby : IntKind.u8.wrap ((q % 256 : Nat) : Int) = ((q % 256 : Nat) : Int) := by rw [wrap_u8, Nat.mod_mod]
    have hbo : bytesOf [AV.int .u8 ((q % 256 : Nat) : Int)] = some [UInt8.ofNat q] := by
      simp only [bytesOf, Option.map_some]
      congr 2
      apply UInt8.toNat_inj.1
      simp
      omega
    have hu : Unif 1 [AV.int .u8 ((q % 256 : Nat) : Int)] := fun x hx => by
      simp only [List.mem_singleton] at hx; subst hx; rfl
    have hlim : i + 1 ≤ 9223372036854775807 := by omega
    have hs1 : (ByteArray.mk #[UInt8.ofNat q]).size = 1 := rfl
    have ha : (ByteArray.mk l.toArray) ++ (ByteArray.mk #[UInt8.ofNat q]) = ByteArray.mk (l ++ [UInt8.ofNat q]).toArray := str_append l [UInt8.ofNat q]
    simp -dsimp -implicitDefEqProofs only [↓j0, ↓j1, ↓j7, ↓j9, ↓j12, ↓j13, ↓j14, ↓j15, j17, j18, j20, ↓j25, ↓j27, ↓j29, ↓j30, j33, ↓j38, ↓j39, ↓j48, ↓j50, ↓j74, ↓j89, ↓j106, j107, j108, j109, j117, ↓j120, ↓j121, j125, j126, j127, j128, ↓j145, ↓j146, ↓j147, ↓j149, ↓j153, j154, j159, partsAV, AV.proj, AV.offOf, AV.size, AV.sizeL, AV.layable, j163, j166, j167, j169, j171, j172, j179, j180, reduceCtorEq, ↓reduceIte, Nat.reduceMul, Nat.reduceEqDiff, Nat.reduceLeDiff, Int.reduceEq, j182, j183, j185, j196, j197, j213, j214, j215, j217, j223, ↓j225, Nat.reducePow, j227, List.replicate, j228, j230, j231, j234, j256, j259, j337, j384, j394, rpSt, hq, hl, hd, e1, e2, hby, hbo, hu, str_bytes, hll, hs1, hlim, ha]
    exact ⟨k - 1, rpSt v n (i + 1) (c + 1), by omega, ⟨i + 1, c + 1, by omega, rfl⟩, Wk.sub (by simp -dsimp -implicitDefEqProofs only [↓j25, reduceCtorEq, ↓reduceIte, Nat.reduceEqDiff, j182, j202, j203, j204, j223, hw, hpt, hqn] <;> simp)⟩
  · have hin : i = n := by omega
    subst hin
    have hd : decide ((i : Int) < (i : Int)) = false := decide_eq_false (by omega)
    simp -dsimp -implicitDefEqProofs only [↓j0, ↓j1, ↓j7, ↓j10, ↓j11, ↓j12, ↓j13, ↓j15, j17, j18, j20, ↓j25, ↓j29, ↓j38, ↓j39, ↓j48, ↓j89, ↓j145, ↓j146, ↓j148, ↓j149, j159, j172, reduceCtorEq, ↓reduceIte, Nat.reduceEqDiff, j185, rpSt, hl, hd]
    exact Final.one (.inr rfl) (r := .tmp 4) rfl ⟨rfl, fun vs h => by cases h⟩ (fun vs h => by cases h) (fun vs h => by cases h) (.same _ trivial)

def rgSt (s : List UInt8) (o n i : Nat) : St := ⟨53, [(10, .int .i64 i), (9, .int .u64 (2 ^ (8 * i) % 18446744073709551616 : Nat)), (8, .int .u64 (getL ((s.drop o).take i))), (0, .str ⟨s.toArray⟩), (1, .int .i64 o), (2, .int .i64 n), (6, .int .u64 0), (7, .bool false)], [], 0⟩
theorem rget_spec (s : List UInt8) (o n : Nat) (hn : n ≤ 8) (h : o + n ≤ s.length) (hl : s.length ≤ 9223372036854775807) : ACall Try.prog 39 [.str ⟨s.toArray⟩, .int .i64 o, .int .i64 n] [] (.tuple [.int .u64 (getL ((s.drop o).take n)), .bool true]) [] := by
  refine ACall.run (Z := Z) (N := 53) mixed hZ Try.func39 rfl rfl (by kernel_rfl) (by simp) args_sii 0 ?_
  have d1 : decide ((n : Int) < 0) = false := decide_eq_false (by omega)
  have d2 : decide (8 < (n : Int)) = false := decide_eq_false (by omega)
  have d3 : decide ((o : Int) < 0) = false := decide_eq_false (by omega)
  have d4 : decide ((s.length : Int) < (o : Int)) = false := decide_eq_false (by omega)
  have d5 : IntKind.i64.wrap ((s.length : Int) - (o : Int)) = ((s.length - o : Nat) : Int) := by rw [wrap_i64 (by omega) (by omega)]; omega
  have d6 : decide (((s.length - o : Nat) : Int) < (n : Int)) = false := decide_eq_false (by omega)
  simp -dsimp -implicitDefEqProofs only [↓j0, ↓j1, ↓j2, ↓j7, ↓j9, ↓j12, ↓j13, ↓j14, ↓j15, ↓j16, j17, j18, j20, ↓j25, ↓j29, ↓j30, j32, j33, ↓j38, ↓j39, ↓j40, ↓j48, ↓j58, ↓j59, j83, ↓j89, j141, ↓j145, ↓j146, ↓j148, ↓j149, ↓j151, j155, j159, j161, argEnv, j163, j164, j172, j175, reduceCtorEq, ↓reduceIte, Nat.reduceAdd, Nat.reduceEqDiff, j185, j195, j196, j259, d1, d2, d3, d4, d5, d6, str_bytes]
  refine AWp.loopR (Z := Z) mixed hZ (by kernel_rfl) (fun k st => ∃ i, i + k = n ∧ st = rgSt s o n i) (n0 := n) (s0 := rgSt s o n 0) ?_ ⟨0, by omega, rfl⟩ ?_ rfl
  · exact Wk.sub (by simp -dsimp -implicitDefEqProofs only [↓j25, j167, j179, reduceCtorEq, ↓reduceIte, Nat.reduceMul, Nat.reduceEqDiff, j182, j183, j184, j202, j203, j204, j209, j223, Nat.reducePow] <;> simp [getL])
  rintro k st ⟨i, hi, rfl⟩
  refine ⟨rfl, ?_⟩
  rcases Nat.lt_or_ge i n with hlt | hge
  · have hd : decide ((i : Int) < (n : Int)) = true := decide_eq_true (by omega)
    obtain ⟨b, hb⟩ := list_get (xs := s) (i := o + i) (by omega)
    obtain ⟨m1, m2⟩ := get_more (s := s) (o := o) (show i < 8 by omega) hb
    have hw1 : IntKind.i64.wrap ((o : Int) + (i : Int)) = ((o + i : Nat) : Int) := by rw [wrap_i64 (by omega) (by omega)]; omega
    have hw2 : IntKind.i64.wrap ((i : Int) + 1) = ((i + 1 : Nat) : Int) := by rw [wrap_i64 (by omega) (by omega)]; omega
    have hbt : byteAt ⟨s.toArray⟩ ((o + i : Nat) : Int) = (b.toNat : Int) := by
      unfold byteAt
      rw [Int.toNat_natCast, Array.getD_eq_getD_getElem?, List.getElem?_toArray, hb]; rfl
    have hbl := b.toNat_lt
    have hwb : IntKind.u64.wrap (b.toNat : Int) = (b.toNat : Int) := by rw [wrap_u64, Nat.mod_eq_of_lt (by omega)]
    have hix : ((o + i : Nat) : Int) < (s.length : Int) := by omega
    simp -dsimp -implicitDefEqProofs only [↓j0, ↓j1, ↓j7, ↓j9, ↓j12, ↓j13, ↓j14, ↓j15, j17, j18, j20, ↓j25, ↓j29, ↓j30, j33, ↓j38, ↓j39, ↓j47, ↓j48, ↓j50, ↓j89, ↓j95, ↓j145, ↓j146, ↓j147, ↓j149, j154, j156, j159, j172, reduceCtorEq, ↓reduceIte, Nat.reduceEqDiff, j182, j185, j208, ↓j225, j259, j265, j391, rgSt, hd, hw1, hbt, hwb, hix, str_bytes, m1, m2]
    exact ⟨k - 1, rgSt s o n (i + 1), by omega, ⟨i + 1, by omega, rfl⟩, Wk.sub (by simp -dsimp -implicitDefEqProofs only [↓j25, reduceCtorEq, ↓reduceIte, Nat.reduceEqDiff, j182, j202, j203, j204, j223, hw2] <;> simp)⟩
  · have hin : i = n := by omega
    subst hin
    have hd : decide ((i : Int) < (i : Int)) = false := decide_eq_false (by omega)
    simp -dsimp -implicitDefEqProofs only [↓j0, ↓j1, ↓j7, ↓j10, ↓j11, ↓j12, ↓j13, ↓j15, j17, j18, j20, ↓j25, ↓j29, ↓j30, j32, ↓j38, ↓j39, ↓j48, ↓j89, ↓j145, ↓j146, ↓j148, ↓j149, j159, j172, reduceCtorEq, ↓reduceIte, Nat.reduceEqDiff, j185, rgSt, hd]
    exact Final.many (.inr rfl) (rs := [.tmp 6, .tmp 7]) (us := [.int .u64 (getL ((s.drop o).take i)), .bool true]) rfl ⟨⟨rfl, fun vs h => by cases h⟩, ⟨rfl, fun vs h => by cases h⟩, trivial⟩ (by simp) ⟨.same _ trivial, .same _ trivial, trivial⟩

end Go.Proofs.Ytbellkdglifahaa
