/- The document's pieces: runs of touched bytes. -/
import Derived.Test.YtipbgaahpchhbaaX6
set_option maxRecDepth 8000
set_option linter.unusedVariables false
set_option linter.unusedSimpArgs false
namespace Go.Proofs.Ytipbgaahpchhbaa
open Go Go.RowKit

theorem str_append (a b : List UInt8) : (ByteArray.mk a.toArray) ++ (ByteArray.mk b.toArray) = ByteArray.mk (a ++ b).toArray := by
  apply ByteArray.ext; simp [ByteArray.data_append]
def runE (T : List Bool) : Nat → Nat → Nat
  | 0, k => k
  | f + 1, k => if k < 64 ∧ T.getD k false = true then runE T f (k + 1) else k
theorem runE_ge (T : List Bool) : ∀ (f k : Nat), k ≤ runE T f k ∧ (k ≤ 64 → runE T f k ≤ 64)
  | 0, k => ⟨Nat.le_refl _, fun h => h⟩
  | f + 1, k => by
    unfold runE
    split
    · have := runE_ge T f (k + 1)
      exact ⟨by omega, fun h => this.2 (by omega)⟩
    · exact ⟨Nat.le_refl _, fun h => h⟩
def goP (T : List Bool) (i : Nat) : Prop := T.getD i false = true ∧ ¬ (0 < i ∧ T.getD (i - 1) false = true)
instance (T : List Bool) (i : Nat) : Decidable (goP T i) := inferInstanceAs (Decidable (_ ∧ _))
def pcL (b : Bo) (T : List Bool) : Nat → Nat → Bo
  | 0, _ => []
  | f + 1, i => if i < 64 then
      if goP T i then UInt8.ofNat i :: UInt8.ofNat (runE T 64 i - i) :: ((b.take (runE T 64 i)).drop i ++ pcL b T f (i + 1)) else pcL b T f (i + 1)
    else []
def pcH (b : Bo) (T : List Bool) : Heap := [(98, .cells (arrAV b)), (99, .cells (blAV T))]
def pcSt (b : Bo) (T : List Bool) (i : Nat) (acc : Bo) : St := ⟨58, [(6, .int .i64 i), (5, .str ⟨acc.toArray⟩), (2, .ptr 98 0 []), (3, .ptr 99 0 []), (4, .str ⟨#[]⟩)], pcH b T, 100⟩
def piT (i k : Nat) (s acc : Bo) : Env := [(9, .int .i64 k), (8, .str ⟨s.toArray⟩), (7, .int .i64 ((k - i : Nat) : Int)), (6, .int .i64 i), (5, .str ⟨acc.toArray⟩), (2, .ptr 98 0 []), (3, .ptr 99 0 []), (4, .str ⟨#[]⟩)]
def piSt (b : Bo) (T : List Bool) (i : Nat) (acc : Bo) (k : Nat) : St := ⟨58, piT i k ((b.take k).drop i) acc, pcH b T, 100⟩
theorem pcH_on {b : Bo} {T : List Bool} : onHL (fun m => m < 100) (pcH b T) := onHL_cons (show (98 : Nat) < 100 by decide) (on_bytes _ _) (onHL_cons (show (99 : Nat) < 100 by decide) (on_bools _ _) onHL_nil)
theorem pi_gc {b : Bo} {T : List Bool} {i k m : Nat} {s acc : Bo} : Wk ⟨58, piT i k s acc, pcH b T, m⟩ ⟨58, piT i k s acc, pcH b T, 100⟩ :=
  Wk.gc (by decide) (onTL.onT (onTL_cons trivial (onTL_cons trivial (onTL_cons trivial (onTL_cons trivial (onTL_cons trivial (onTL_cons (show (98 : Nat) < 100 by decide) (onTL_cons (show (99 : Nat) < 100 by decide) (onTL_cons trivial onTL_nil))))))))) pcH_on.onH
theorem pc_gc {b : Bo} {T : List Bool} {i m : Nat} {acc : Bo} : Wk ⟨58, [(6, .int .i64 i), (5, .str ⟨acc.toArray⟩), (2, .ptr 98 0 []), (3, .ptr 99 0 []), (4, .str ⟨#[]⟩)], pcH b T, m⟩ (pcSt b T i acc) :=
  Wk.gc (by decide) (onTL.onT (onTL_cons trivial (onTL_cons trivial (onTL_cons (show (98 : Nat) < 100 by decide) (onTL_cons (show (99 : Nat) < 100 by decide) (onTL_cons trivial onTL_nil)))))) pcH_on.onH
theorem take_drop_step {b : Bo} {i k : Nat} {x : UInt8} (hik : i ≤ k) (h : b[k]? = some x) : (b.take k).drop i ++ [x] = (b.take (k + 1)).drop i := by
  have hl : k < b.length := by
    rcases Nat.lt_or_ge k b.length with h1 | h1
    · exact h1
    · rw [List.getElem?_eq_none h1] at h; cases h
  rw [take_succ h, List.drop_append_of_le_length (by rw [List.length_take]; omega)]
set_option maxHeartbeats 6400000 in
theorem pieces_spec (b : Bo) (T : List Bool) (hb : b.length = 64) (hT : T.length = 64) : ACall Try.prog 21 [arrAV b, blAV T] [] (.str ⟨(pcL b T 64 0).toArray⟩) [] := by
  refine ACall.run (Z := Z) (N := 58) mixed hZ Try.func21 rfl rfl (by kernel_rfl) (by simp) args_pc 98 ?_
  have ub := unif_bytes b
  have ut := unif_bools T
  obtain ⟨R, hR⟩ : ∃ R, pcL b T 64 0 = R := ⟨_, rfl⟩
  rw [hR]
  simp -dsimp -implicitDefEqProofs only [↓j0, ↓j1, ↓j7, ↓j12, ↓j14, ↓j15, ↓j16, j17, j18, j20, ↓j25, ↓j29, ↓j30, j33, j34, ↓j39, ↓j42, ↓j145, ↓j146, AV.layable, argEnv, j170, j171, j172, reduceCtorEq, ↓reduceIte, Nat.reduceAdd, Nat.reduceEqDiff, j196]
  refine AWp.loopR (Z := Z) mixed hZ (by kernel_rfl) (fun n s => ∃ i acc, i + n = 64 ∧ acc.length ≤ 70 * i ∧ acc ++ pcL b T n i = R ∧ s = pcSt b T i acc) (n0 := 64) (s0 := pcSt b T 0 []) ?_ ⟨0, [], by omega, by simp, hR, rfl⟩ ?_ rfl
  · exact Wk.sub (by simp -dsimp -implicitDefEqProofs only [↓j25, ↓j27, j179, ↓reduceIte, Nat.reduceEqDiff, j182, j183, j184, j202, j203, j204, j205, j209, j223, pcH] <;> simp)
  rintro n s ⟨i, acc, hi, hal, hE, rfl⟩
  refine ⟨rfl, ?_⟩
  rcases Nat.lt_or_ge i 64 with hlt | hge
  · have e1 : decide ((i : Int) < 64) = true := decide_eq_true (by omega)
    obtain ⟨n, rfl⟩ : ∃ k, n = k + 1 := ⟨n - 1, by omega⟩
    unfold pcL at hE
    rw [if_pos hlt] at hE
    obtain ⟨t, ht⟩ := list_get (xs := T) (i := i) (by omega)
    have gt : T.getD i false = t := by rw [List.getD_eq_getElem?_getD, ht]; rfl
    have zt : AV.sizeL ((T.map boolAV).take i) = i * 1 := ut.sizeL_take (by simp; omega)
    have i1 : (i : Int) < ((64 : Nat) : Int) := by omega
    have w1 : IntKind.i64.wrap ((i : Int) + 1) = ((i + 1 : Nat) : Int) := by rw [wrap_i64 (by omega) (by omega)]; omega
    have nf : (!false) = true := rfl
    have nt : (!true) = false := rfl
    cases htv : t
    · rw [htv] at ht gt
      rw [if_neg (fun h => by rw [goP, gt] at h; exact Bool.false_ne_true h.1)] at hE
      simp -dsimp -implicitDefEqProofs only [↓j0, ↓j1, ↓j2, ↓j7, ↓j9, ↓j11, ↓j12, ↓j13, ↓j14, ↓j15, j17, j18, j20, ↓j25, ↓j27, ↓j29, ↓j30, j32, j33, ↓j38, ↓j39, ↓j40, ↓j43, ↓j46, ↓j48, ↓j55, ↓j76, j81, j84, ↓j89, ↓j94, j131, ↓j145, ↓j146, ↓j147, ↓j149, ↓j151, ↓j152, ↓j153, j154, j159, AV.proj, AV.offOf, j163, j164, j171, j175, j177, ↓reduceIte, Nat.reduceEqDiff, j182, j185, j196, j197, j206, j207, j208, j253, j361, pcSt, pcH, e1, ht, zt, i1, boolAV, nf]
      exact ⟨n, pcSt b T (i + 1) acc, by omega, ⟨i + 1, acc, by omega, by omega, hE, rfl⟩, Wk.sub (by simp -dsimp -implicitDefEqProofs only [↓j25, ↓j27, ↓reduceIte, Nat.reduceEqDiff, j182, j202, j203, j204, j205, j223, pcH, w1] <;> simp)⟩
    rw [htv] at ht gt
    by_cases h0 : i = 0
    · have e2 : decide ((0 : Int) < (i : Int)) = false := decide_eq_false (by omega)
      have hgo : goP T i := ⟨gt, fun h => by omega⟩
      have hE := by
        rw [if_pos hgo] at hE
        exact hE
      obtain ⟨E, hEE⟩ : ∃ E, runE T 64 i = E := ⟨_, rfl⟩
      have hge := runE_ge T 64 i
      rw [hEE] at hE hge
      have hE64 := hge.2 (by omega)
      simp -dsimp -implicitDefEqProofs only [↓j0, ↓j1, ↓j2, ↓j7, ↓j9, ↓j12, ↓j13, ↓j14, ↓j15, ↓j16, j17, j18, j20, ↓j25, ↓j27, ↓j29, ↓j30, j32, j33, j34, ↓j38, ↓j39, ↓j40, ↓j43, ↓j46, ↓j48, ↓j55, ↓j76, j82, j83, j84, ↓j89, ↓j94, j131, ↓j145, ↓j146, ↓j147, ↓j148, ↓j149, ↓j150, ↓j151, ↓j153, j159, j161, AV.proj, AV.offOf, j163, j164, j171, j175, j177, ↓reduceIte, Nat.reduceEqDiff, j182, j185, j195, j196, j197, j206, j207, j208, j253, j361, pcSt, pcH, e1, ht, zt, i1, boolAV, nt, e2]
      refine AWp.loopR (Z := Z) mixed hZ (by kernel_rfl) (fun f s => ∃ k, i ≤ k ∧ k ≤ 64 ∧ 64 ≤ k + f ∧ runE T f k = E ∧ s = piSt b T i acc k) (n0 := 64) (s0 := piSt b T i acc i) ?_ ⟨i, Nat.le_refl _, by omega, by omega, hEE, rfl⟩ ?_ rfl
      · have hd0 : (b.take i).drop i = [] := List.drop_of_length_le (by rw [List.length_take]; omega)
        exact Wk.sub (by simp -dsimp -implicitDefEqProofs only [↓j25, ↓j27, j179, ↓reduceIte, Nat.reduceEqDiff, j182, j183, j184, j202, j203, j204, j205, j209, j223, piT, pcH, hd0, Nat.sub_self] <;> simp)
      rintro f s ⟨k, hik, hk64, hkf, hEk, rfl⟩
      refine ⟨rfl, ?_⟩
      have hsl : ((b.take k).drop i).length = k - i := by rw [List.length_drop, List.length_take]; omega
      by_cases hkc : k < 64 ∧ T.getD k false = true
      · obtain ⟨hk, htk⟩ := hkc
        obtain ⟨f, rfl⟩ : ∃ q, f = q + 1 := ⟨f - 1, by omega⟩
        unfold runE at hEk
        rw [if_pos ⟨hk, htk⟩] at hEk
        have g1 : decide ((k : Int) < 64) = true := decide_eq_true (by omega)
        obtain ⟨u, hu⟩ := list_get (xs := T) (i := k) (by omega)
        have hu : T[k]? = some true := by rw [List.getD_eq_getElem?_getD, hu] at htk; rw [hu]; exact congrArg some htk
        obtain ⟨x, hx⟩ := list_get (xs := b) (i := k) (by omega)
        have zk : AV.sizeL ((T.map boolAV).take k) = k * 1 := ut.sizeL_take (by simp; omega)
        have zb : AV.sizeL ((b.map byteAV).take k) = k * 1 := ub.sizeL_take (by simp; omega)
        have kk1 : (k : Int) < ((64 : Nat) : Int) := by omega
        have w2 : IntKind.i64.wrap ((k : Int) + 1) = ((k + 1 : Nat) : Int) := by rw [wrap_i64 (by omega) (by omega)]; omega
        have w3 : IntKind.i64.wrap (((k - i : Nat) : Int) + 1) = ((k + 1 - i : Nat) : Int) := by rw [wrap_i64 (by omega) (by omega)]; omega
        have ux : Unif 1 [AV.int .u8 (x.toNat : Int)] := unif_bytes [x]
        have qx : bytesOf (List.take 1 (List.drop 0 [AV.int .u8 (x.toNat : Int)])) = some [x] := bytesOf_bytes [x]
        have qx2 : bytesOf [AV.int .u8 (x.toNat : Int)] = some [x] := bytesOf_bytes [x]
        have hst := take_drop_step hik hx
        obtain ⟨S, hS⟩ : ∃ S, (b.take k).drop i = S := ⟨_, rfl⟩
        rw [hS] at hst hsl
        have sa : (ByteArray.mk S.toArray) ++ (ByteArray.mk #[x]) = ByteArray.mk ((b.take (k + 1)).drop i).toArray := by rw [← hst]; exact str_append S [x]
        have s1 : (ByteArray.mk #[x]).size = 1 := rfl
        simp -dsimp -implicitDefEqProofs only [↓j0, ↓j1, ↓j2, ↓j7, ↓j9, ↓j12, ↓j13, ↓j14, ↓j15, j17, j18, j20, ↓j25, ↓j27, ↓j29, ↓j30, j32, j33, ↓j38, ↓j39, ↓j40, ↓j43, ↓j46, ↓j48, ↓j50, ↓j74, ↓j76, j83, ↓j89, ↓j94, ↓j106, j107, ↓j121, j125, j126, j127, j128, j130, j131, ↓j145, ↓j146, ↓j147, ↓j149, ↓j150, ↓j153, j154, j159, partsAV, AV.proj, AV.offOf, AV.size, AV.sizeL, AV.layable, j163, j164, j167, j169, j170, j171, j175, j177, j179, j180, ↓reduceIte, Nat.reduceAdd, Nat.reduceMul, Nat.reduceEqDiff, Nat.reduceLeDiff, j182, j183, j184, j185, j196, j197, j206, j207, j208, j213, j214, j215, j217, j223, Nat.reducePow, List.replicate, j230, j231, j234, j253, j255, j259, j271, j358, j361, j412, piSt, piT, pcH, hS, g1, hu, zk, kk1, boolAV, hx, zb, byteAV]
        refine ⟨ux, ?_⟩
        simp -dsimp -implicitDefEqProofs only [↓j1, j17, j18, j20, ↓j25, ↓j29, ↓j48, j117, ↓j120, ↓j145, j166, j171, ↓reduceIte, Nat.reduceEqDiff, j227, j228, qx2]
        have h1 : (ByteArray.mk #[x]).size = 1 := rfl
        have hs : (S.length ≤ 9223372036854775806) = True := eq_true (by omega)
        simp -dsimp -implicitDefEqProofs only [↓j0, ↓j1, ↓j7, ↓j15, j17, j18, j20, ↓j25, ↓j29, ↓j30, j33, ↓j38, ↓j39, ↓j48, ↓j89, ↓j145, ↓j146, j154, j171, ↓reduceIte, Nat.reduceEqDiff, Nat.reduceLeDiff, j185, str_bytes, h1, sa, hs]
        exact ⟨f, piSt b T i acc (k + 1), by omega, ⟨k + 1, by omega, by omega, by omega, hEk, rfl⟩, Wk.trans (Wk.mk (s' := ⟨58, piT i (k + 1) ((b.take (k + 1)).drop i) acc, pcH b T, 101⟩) (SubT.spec (by simp -dsimp -implicitDefEqProofs only [↓j25, ↓reduceIte, Nat.reduceEqDiff, j182, j202, j203, piT, w2, w3] <;> simp)) (SubH.spec (by simp -dsimp -implicitDefEqProofs only [↓j27, ↓reduceIte, Nat.reduceEqDiff, j182, j204, j205, pcH] <;> simp)) (Nat.le_refl _) rfl) pi_gc⟩
      · have hEk2 : k = E := by
          rw [← hEk]
          cases f with
          | zero => rfl
          | succ f => unfold runE; rw [if_neg hkc]
        subst hEk2
        obtain ⟨S, hS⟩ : ∃ S, (b.take k).drop i = S := ⟨_, rfl⟩
        rw [hS] at hsl hE
        have wi : IntKind.u8.wrap (i : Int) = ((UInt8.ofNat i).toNat : Int) := by
          rw [wrap_u8, Nat.mod_eq_of_lt (by omega)]
          simp; omega
        have wn : IntKind.u8.wrap ((k - i : Nat) : Int) = ((UInt8.ofNat (k - i)).toNat : Int) := by
          rw [wrap_u8, Nat.mod_eq_of_lt (by omega)]
          simp; omega
        obtain ⟨p, hp⟩ : ∃ p, UInt8.ofNat i = p := ⟨_, rfl⟩
        obtain ⟨q, hq⟩ : ∃ q, UInt8.ofNat (k - i) = q := ⟨_, rfl⟩
        rw [hp, hq] at hE
        rw [hp] at wi
        rw [hq] at wn
        have u2 : Unif 1 [AV.int .u8 (p.toNat : Int), AV.int .u8 (q.toNat : Int)] := unif_bytes [p, q]
        have q2 : bytesOf (List.take 2 (List.drop 0 [AV.int .u8 (p.toNat : Int), AV.int .u8 (q.toNat : Int)])) = some [p, q] := bytesOf_bytes [p, q]
        have q3 : bytesOf [AV.int .u8 (p.toNat : Int), AV.int .u8 (q.toNat : Int)] = some [p, q] := bytesOf_bytes [p, q]
        have h2 : (ByteArray.mk #[p, q]).size = 2 := rfl
        obtain ⟨Q, hQ⟩ : ∃ Q, p :: q :: S = Q := ⟨_, rfl⟩
        have sa1 : (ByteArray.mk #[p, q]) ++ (ByteArray.mk S.toArray) = ByteArray.mk Q.toArray := by rw [← hQ]; exact str_append [p, q] S
        have sa2 : (ByteArray.mk acc.toArray) ++ (ByteArray.mk Q.toArray) = ByteArray.mk (acc ++ Q).toArray := str_append acc Q
        have hQl : Q.length = S.length + 2 := by rw [← hQ]; rfl
        have hE : (acc ++ Q) ++ pcL b T n (i + 1) = R := by rw [← hE, ← hQ]; simp
        have hs1 : (2 + S.length ≤ 9223372036854775807) = True := eq_true (by omega)
        have hs2 : (acc.length + Q.length ≤ 9223372036854775807) = True := eq_true (by omega)
        rcases Nat.lt_or_ge k 64 with hk | hk
        · have g1 : decide ((k : Int) < 64) = true := decide_eq_true (by omega)
          obtain ⟨u, hu⟩ := list_get (xs := T) (i := k) (by omega)
          have hu : T[k]? = some false := by
            have : T.getD k false = u := by rw [List.getD_eq_getElem?_getD, hu]; rfl
            cases u
            · exact hu
            · exact absurd ⟨hk, this⟩ hkc
          have zk : AV.sizeL ((T.map boolAV).take k) = k * 1 := ut.sizeL_take (by simp; omega)
          have kk1 : (k : Int) < ((64 : Nat) : Int) := by omega
          simp -dsimp -implicitDefEqProofs only [↓j0, ↓j1, ↓j2, ↓j7, ↓j11, ↓j12, ↓j13, ↓j15, j17, j18, j20, ↓j25, ↓j27, ↓j29, ↓j30, j32, j33, ↓j38, ↓j40, ↓j43, ↓j46, ↓j48, ↓j50, ↓j74, ↓j76, j83, ↓j89, ↓j94, ↓j106, j107, ↓j121, j125, j126, j127, j128, j131, ↓j145, ↓j146, ↓j147, ↓j148, ↓j149, ↓j150, ↓j153, j159, partsAV, AV.proj, AV.offOf, AV.size, AV.sizeL, AV.layable, j163, j164, j166, j167, j168, j169, j170, j171, j175, j177, j179, j180, ↓reduceIte, Nat.reduceAdd, Nat.reduceMul, Nat.reduceEqDiff, Nat.reduceLeDiff, j182, j183, j184, j185, j196, j197, j206, j207, j208, j213, j214, j215, j216, j217, j223, ↓j225, Nat.reducePow, List.replicate, j230, j231, j234, j253, j256, j259, j358, j361, j412, j417, piSt, piT, pcH, hS, g1, hu, zk, kk1, boolAV, wi, wn]
          refine ⟨u2, ?_⟩
          simp -dsimp -implicitDefEqProofs only [↓j1, j17, j18, j20, ↓j25, ↓j29, ↓j38, ↓j48, j117, ↓j120, ↓j145, j166, j171, ↓reduceIte, Nat.reduceEqDiff, j227, j228, q3]
          simp -dsimp -implicitDefEqProofs only [↓j0, ↓j1, ↓j7, ↓j15, j17, j18, j20, ↓j25, ↓j29, ↓j30, j33, ↓j38, ↓j39, ↓j48, ↓j89, j117, ↓j120, ↓j145, ↓j146, j154, j171, ↓reduceIte, Nat.reduceEqDiff, j185, str_bytes, h2, sa1, sa2, hs1, hs2]
      
          exact ⟨n, pcSt b T (i + 1) (acc ++ Q), by omega, ⟨i + 1, acc ++ Q, by omega, by rw [List.length_append]; omega, hE, rfl⟩, Wk.trans (Wk.mk (s' := ⟨58, [(6, .int .i64 (i + 1 : Nat)), (5, .str ⟨(acc ++ Q).toArray⟩), (2, .ptr 98 0 []), (3, .ptr 99 0 []), (4, .str ⟨#[]⟩)], pcH b T, 101⟩) (SubT.spec (by simp -dsimp -implicitDefEqProofs only [↓j25, ↓reduceIte, Nat.reduceEqDiff, j182, j202, j203, w1] <;> simp)) (SubH.spec (by simp -dsimp -implicitDefEqProofs only [↓j27, ↓reduceIte, Nat.reduceEqDiff, j182, j204, j205, pcH] <;> simp)) (Nat.le_refl _) rfl) pc_gc⟩
        · have g1 : decide ((k : Int) < 64) = false := decide_eq_false (by omega)
          simp -dsimp -implicitDefEqProofs only [↓j0, ↓j1, ↓j2, ↓j7, ↓j11, ↓j12, ↓j13, ↓j15, j17, j18, j20, ↓j25, ↓j27, ↓j29, ↓j30, j32, j33, ↓j38, ↓j40, ↓j48, ↓j50, ↓j74, j82, ↓j89, ↓j106, j107, ↓j121, j125, j126, j127, j128, ↓j145, ↓j146, ↓j148, ↓j149, ↓j150, ↓j153, j159, partsAV, AV.proj, AV.offOf, AV.size, AV.sizeL, AV.layable, j163, j164, j166, j167, j168, j169, j170, j171, j175, j179, j180, ↓reduceIte, Nat.reduceAdd, Nat.reduceMul, Nat.reduceEqDiff, Nat.reduceLeDiff, j182, j183, j184, j185, j196, j197, j213, j214, j215, j216, j217, j223, ↓j225, Nat.reducePow, List.replicate, j230, j231, j234, j256, j259, j358, j412, j417, piSt, piT, pcH, hS, g1, wi, wn]
          refine ⟨u2, ?_⟩
          simp -dsimp -implicitDefEqProofs only [↓j1, j17, j18, j20, ↓j25, ↓j29, ↓j38, ↓j48, j117, ↓j120, ↓j145, j166, j171, ↓reduceIte, Nat.reduceEqDiff, j227, j228, q3]
          simp -dsimp -implicitDefEqProofs only [↓j0, ↓j1, ↓j7, ↓j15, j17, j18, j20, ↓j25, ↓j29, ↓j30, j33, ↓j38, ↓j39, ↓j48, ↓j89, j117, ↓j120, ↓j145, ↓j146, j154, j171, ↓reduceIte, Nat.reduceEqDiff, j185, str_bytes, h2, sa1, sa2, hs1, hs2]
      
          exact ⟨n, pcSt b T (i + 1) (acc ++ Q), by omega, ⟨i + 1, acc ++ Q, by omega, by rw [List.length_append]; omega, hE, rfl⟩, Wk.trans (Wk.mk (s' := ⟨58, [(6, .int .i64 (i + 1 : Nat)), (5, .str ⟨(acc ++ Q).toArray⟩), (2, .ptr 98 0 []), (3, .ptr 99 0 []), (4, .str ⟨#[]⟩)], pcH b T, 101⟩) (SubT.spec (by simp -dsimp -implicitDefEqProofs only [↓j25, ↓reduceIte, Nat.reduceEqDiff, j182, j202, j203, w1] <;> simp)) (SubH.spec (by simp -dsimp -implicitDefEqProofs only [↓j27, ↓reduceIte, Nat.reduceEqDiff, j182, j204, j205, pcH] <;> simp)) (Nat.le_refl _) rfl) pc_gc⟩
    have e2 : decide ((0 : Int) < (i : Int)) = true := decide_eq_true (by omega)
    obtain ⟨v, hv⟩ := list_get (xs := T) (i := i - 1) (by omega)
    have gv : T.getD (i - 1) false = v := by rw [List.getD_eq_getElem?_getD, hv]; rfl
    have wv : IntKind.i64.wrap ((i : Int) - 1) = ((i - 1 : Nat) : Int) := by rw [wrap_i64 (by omega) (by omega)]; omega
    have zv : AV.sizeL ((T.map boolAV).take (i - 1)) = (i - 1) * 1 := ut.sizeL_take (by simp; omega)
    have iv : ((i - 1 : Nat) : Int) < ((64 : Nat) : Int) := by omega
    cases hvv : v
    case true =>
      rw [hvv] at hv gv
      rw [if_neg (fun h => h.2 ⟨by omega, gv⟩)] at hE
      simp -dsimp -implicitDefEqProofs only [↓j0, ↓j1, ↓j2, ↓j7, ↓j9, ↓j11, ↓j12, ↓j13, ↓j14, ↓j15, j17, j18, j20, ↓j25, ↓j27, ↓j29, ↓j30, j32, j33, ↓j38, ↓j39, ↓j40, ↓j43, ↓j46, ↓j48, ↓j55, ↓j76, j83, j84, ↓j89, ↓j94, j131, ↓j145, ↓j146, ↓j147, ↓j148, ↓j149, ↓j150, ↓j151, ↓j153, j154, j155, j159, j161, AV.proj, AV.offOf, j163, j164, j171, j175, j177, ↓reduceIte, Nat.reduceEqDiff, j182, j185, j195, j196, j197, j206, j207, j208, j253, j361, pcSt, pcH, e1, ht, zt, i1, boolAV, nt, e2, wv, hv, zv, iv]
      exact ⟨n, pcSt b T (i + 1) acc, by omega, ⟨i + 1, acc, by omega, by omega, hE, rfl⟩, Wk.sub (by simp -dsimp -implicitDefEqProofs only [↓j25, ↓j27, ↓reduceIte, Nat.reduceEqDiff, j182, j202, j203, j204, j205, j223, pcH, w1] <;> simp)⟩
    rw [hvv] at hv gv
    have hgo : goP T i := ⟨gt, fun h => by rw [gv] at h; exact Bool.false_ne_true h.2⟩
    have hE := by
      rw [if_pos hgo] at hE
      exact hE
    obtain ⟨E, hEE⟩ : ∃ E, runE T 64 i = E := ⟨_, rfl⟩
    have hge := runE_ge T 64 i
    rw [hEE] at hE hge
    have hE64 := hge.2 (by omega)
    simp -dsimp -implicitDefEqProofs only [↓j0, ↓j1, ↓j2, ↓j7, ↓j9, ↓j12, ↓j13, ↓j14, ↓j15, ↓j16, j17, j18, j20, ↓j25, ↓j27, ↓j29, ↓j30, j32, j33, j34, ↓j38, ↓j39, ↓j40, ↓j43, ↓j46, ↓j48, ↓j55, ↓j76, j83, j84, ↓j89, ↓j94, j131, ↓j145, ↓j146, ↓j147, ↓j148, ↓j149, ↓j150, ↓j151, ↓j153, j155, j159, j161, AV.proj, AV.offOf, j163, j164, j171, j175, j177, ↓reduceIte, Nat.reduceEqDiff, j182, j185, j195, j196, j197, j206, j207, j208, j253, j361, pcSt, pcH, e1, ht, zt, i1, boolAV, nt, e2, wv, hv, zv, iv]
    refine AWp.loopR (Z := Z) mixed hZ (by kernel_rfl) (fun f s => ∃ k, i ≤ k ∧ k ≤ 64 ∧ 64 ≤ k + f ∧ runE T f k = E ∧ s = piSt b T i acc k) (n0 := 64) (s0 := piSt b T i acc i) ?_ ⟨i, Nat.le_refl _, by omega, by omega, hEE, rfl⟩ ?_ rfl
    · have hd0 : (b.take i).drop i = [] := List.drop_of_length_le (by rw [List.length_take]; omega)
      exact Wk.sub (by simp -dsimp -implicitDefEqProofs only [↓j25, ↓j27, j179, ↓reduceIte, Nat.reduceEqDiff, j182, j183, j184, j202, j203, j204, j205, j209, j223, piT, pcH, hd0, Nat.sub_self] <;> simp)
    rintro f s ⟨k, hik, hk64, hkf, hEk, rfl⟩
    refine ⟨rfl, ?_⟩
    have hsl : ((b.take k).drop i).length = k - i := by rw [List.length_drop, List.length_take]; omega
    by_cases hkc : k < 64 ∧ T.getD k false = true
    · obtain ⟨hk, htk⟩ := hkc
      obtain ⟨f, rfl⟩ : ∃ q, f = q + 1 := ⟨f - 1, by omega⟩
      unfold runE at hEk
      rw [if_pos ⟨hk, htk⟩] at hEk
      have g1 : decide ((k : Int) < 64) = true := decide_eq_true (by omega)
      obtain ⟨u, hu⟩ := list_get (xs := T) (i := k) (by omega)
      have hu : T[k]? = some true := by rw [List.getD_eq_getElem?_getD, hu] at htk; rw [hu]; exact congrArg some htk
      obtain ⟨x, hx⟩ := list_get (xs := b) (i := k) (by omega)
      have zk : AV.sizeL ((T.map boolAV).take k) = k * 1 := ut.sizeL_take (by simp; omega)
      have zb : AV.sizeL ((b.map byteAV).take k) = k * 1 := ub.sizeL_take (by simp; omega)
      have kk1 : (k : Int) < ((64 : Nat) : Int) := by omega
      have w2 : IntKind.i64.wrap ((k : Int) + 1) = ((k + 1 : Nat) : Int) := by rw [wrap_i64 (by omega) (by omega)]; omega
      have w3 : IntKind.i64.wrap (((k - i : Nat) : Int) + 1) = ((k + 1 - i : Nat) : Int) := by rw [wrap_i64 (by omega) (by omega)]; omega
      have ux : Unif 1 [AV.int .u8 (x.toNat : Int)] := unif_bytes [x]
      have qx : bytesOf (List.take 1 (List.drop 0 [AV.int .u8 (x.toNat : Int)])) = some [x] := bytesOf_bytes [x]
      have qx2 : bytesOf [AV.int .u8 (x.toNat : Int)] = some [x] := bytesOf_bytes [x]
      have hst := take_drop_step hik hx
      obtain ⟨S, hS⟩ : ∃ S, (b.take k).drop i = S := ⟨_, rfl⟩
      rw [hS] at hst hsl
      have sa : (ByteArray.mk S.toArray) ++ (ByteArray.mk #[x]) = ByteArray.mk ((b.take (k + 1)).drop i).toArray := by rw [← hst]; exact str_append S [x]
      have s1 : (ByteArray.mk #[x]).size = 1 := rfl
      simp -dsimp -implicitDefEqProofs only [↓j0, ↓j1, ↓j2, ↓j7, ↓j9, ↓j12, ↓j13, ↓j14, ↓j15, j17, j18, j20, ↓j25, ↓j27, ↓j29, ↓j30, j32, j33, ↓j38, ↓j39, ↓j40, ↓j43, ↓j46, ↓j48, ↓j50, ↓j74, ↓j76, j83, ↓j89, ↓j94, ↓j106, j107, ↓j121, j125, j126, j127, j128, j130, j131, ↓j145, ↓j146, ↓j147, ↓j149, ↓j150, ↓j153, j154, j159, partsAV, AV.proj, AV.offOf, AV.size, AV.sizeL, AV.layable, j163, j164, j167, j169, j170, j171, j175, j177, j179, j180, ↓reduceIte, Nat.reduceAdd, Nat.reduceMul, Nat.reduceEqDiff, Nat.reduceLeDiff, j182, j183, j184, j185, j196, j197, j206, j207, j208, j213, j214, j215, j217, j223, Nat.reducePow, List.replicate, j230, j231, j234, j253, j255, j259, j271, j358, j361, j412, piSt, piT, pcH, hS, g1, hu, zk, kk1, boolAV, hx, zb, byteAV]
      refine ⟨ux, ?_⟩
      simp -dsimp -implicitDefEqProofs only [↓j1, j17, j18, j20, ↓j25, ↓j29, ↓j48, j117, ↓j120, ↓j145, j166, j171, ↓reduceIte, Nat.reduceEqDiff, j227, j228, qx2]
      have h1 : (ByteArray.mk #[x]).size = 1 := rfl
      have hs : (S.length ≤ 9223372036854775806) = True := eq_true (by omega)
      simp -dsimp -implicitDefEqProofs only [↓j0, ↓j1, ↓j7, ↓j15, j17, j18, j20, ↓j25, ↓j29, ↓j30, j33, ↓j38, ↓j39, ↓j48, ↓j89, ↓j145, ↓j146, j154, j171, ↓reduceIte, Nat.reduceEqDiff, Nat.reduceLeDiff, j185, str_bytes, h1, sa, hs]
      exact ⟨f, piSt b T i acc (k + 1), by omega, ⟨k + 1, by omega, by omega, by omega, hEk, rfl⟩, Wk.trans (Wk.mk (s' := ⟨58, piT i (k + 1) ((b.take (k + 1)).drop i) acc, pcH b T, 101⟩) (SubT.spec (by simp -dsimp -implicitDefEqProofs only [↓j25, ↓reduceIte, Nat.reduceEqDiff, j182, j202, j203, piT, w2, w3] <;> simp)) (SubH.spec (by simp -dsimp -implicitDefEqProofs only [↓j27, ↓reduceIte, Nat.reduceEqDiff, j182, j204, j205, pcH] <;> simp)) (Nat.le_refl _) rfl) pi_gc⟩
    · have hEk2 : k = E := by
        rw [← hEk]
        cases f with
        | zero => rfl
        | succ f => unfold runE; rw [if_neg hkc]
      subst hEk2
      obtain ⟨S, hS⟩ : ∃ S, (b.take k).drop i = S := ⟨_, rfl⟩
      rw [hS] at hsl hE
      have wi : IntKind.u8.wrap (i : Int) = ((UInt8.ofNat i).toNat : Int) := by
        rw [wrap_u8, Nat.mod_eq_of_lt (by omega)]
        simp; omega
      have wn : IntKind.u8.wrap ((k - i : Nat) : Int) = ((UInt8.ofNat (k - i)).toNat : Int) := by
        rw [wrap_u8, Nat.mod_eq_of_lt (by omega)]
        simp; omega
      obtain ⟨p, hp⟩ : ∃ p, UInt8.ofNat i = p := ⟨_, rfl⟩
      obtain ⟨q, hq⟩ : ∃ q, UInt8.ofNat (k - i) = q := ⟨_, rfl⟩
      rw [hp, hq] at hE
      rw [hp] at wi
      rw [hq] at wn
      have u2 : Unif 1 [AV.int .u8 (p.toNat : Int), AV.int .u8 (q.toNat : Int)] := unif_bytes [p, q]
      have q2 : bytesOf (List.take 2 (List.drop 0 [AV.int .u8 (p.toNat : Int), AV.int .u8 (q.toNat : Int)])) = some [p, q] := bytesOf_bytes [p, q]
      have q3 : bytesOf [AV.int .u8 (p.toNat : Int), AV.int .u8 (q.toNat : Int)] = some [p, q] := bytesOf_bytes [p, q]
      have h2 : (ByteArray.mk #[p, q]).size = 2 := rfl
      obtain ⟨Q, hQ⟩ : ∃ Q, p :: q :: S = Q := ⟨_, rfl⟩
      have sa1 : (ByteArray.mk #[p, q]) ++ (ByteArray.mk S.toArray) = ByteArray.mk Q.toArray := by rw [← hQ]; exact str_append [p, q] S
      have sa2 : (ByteArray.mk acc.toArray) ++ (ByteArray.mk Q.toArray) = ByteArray.mk (acc ++ Q).toArray := str_append acc Q
      have hQl : Q.length = S.length + 2 := by rw [← hQ]; rfl
      have hE : (acc ++ Q) ++ pcL b T n (i + 1) = R := by rw [← hE, ← hQ]; simp
      have hs1 : (2 + S.length ≤ 9223372036854775807) = True := eq_true (by omega)
      have hs2 : (acc.length + Q.length ≤ 9223372036854775807) = True := eq_true (by omega)
      rcases Nat.lt_or_ge k 64 with hk | hk
      · have g1 : decide ((k : Int) < 64) = true := decide_eq_true (by omega)
        obtain ⟨u, hu⟩ := list_get (xs := T) (i := k) (by omega)
        have hu : T[k]? = some false := by
          have : T.getD k false = u := by rw [List.getD_eq_getElem?_getD, hu]; rfl
          cases u
          · exact hu
          · exact absurd ⟨hk, this⟩ hkc
        have zk : AV.sizeL ((T.map boolAV).take k) = k * 1 := ut.sizeL_take (by simp; omega)
        have kk1 : (k : Int) < ((64 : Nat) : Int) := by omega
        simp -dsimp -implicitDefEqProofs only [↓j0, ↓j1, ↓j2, ↓j7, ↓j11, ↓j12, ↓j13, ↓j15, j17, j18, j20, ↓j25, ↓j27, ↓j29, ↓j30, j32, j33, ↓j38, ↓j40, ↓j43, ↓j46, ↓j48, ↓j50, ↓j74, ↓j76, j83, ↓j89, ↓j94, ↓j106, j107, ↓j121, j125, j126, j127, j128, j131, ↓j145, ↓j146, ↓j147, ↓j148, ↓j149, ↓j150, ↓j153, j159, partsAV, AV.proj, AV.offOf, AV.size, AV.sizeL, AV.layable, j163, j164, j166, j167, j168, j169, j170, j171, j175, j177, j179, j180, ↓reduceIte, Nat.reduceAdd, Nat.reduceMul, Nat.reduceEqDiff, Nat.reduceLeDiff, j182, j183, j184, j185, j196, j197, j206, j207, j208, j213, j214, j215, j216, j217, j223, ↓j225, Nat.reducePow, List.replicate, j230, j231, j234, j253, j256, j259, j358, j361, j412, j417, piSt, piT, pcH, hS, g1, hu, zk, kk1, boolAV, wi, wn]
        refine ⟨u2, ?_⟩
        simp -dsimp -implicitDefEqProofs only [↓j1, j17, j18, j20, ↓j25, ↓j29, ↓j38, ↓j48, j117, ↓j120, ↓j145, j166, j171, ↓reduceIte, Nat.reduceEqDiff, j227, j228, q3]
        simp -dsimp -implicitDefEqProofs only [↓j0, ↓j1, ↓j7, ↓j15, j17, j18, j20, ↓j25, ↓j29, ↓j30, j33, ↓j38, ↓j39, ↓j48, ↓j89, j117, ↓j120, ↓j145, ↓j146, j154, j171, ↓reduceIte, Nat.reduceEqDiff, j185, str_bytes, h2, sa1, sa2, hs1, hs2]
    
        exact ⟨n, pcSt b T (i + 1) (acc ++ Q), by omega, ⟨i + 1, acc ++ Q, by omega, by rw [List.length_append]; omega, hE, rfl⟩, Wk.trans (Wk.mk (s' := ⟨58, [(6, .int .i64 (i + 1 : Nat)), (5, .str ⟨(acc ++ Q).toArray⟩), (2, .ptr 98 0 []), (3, .ptr 99 0 []), (4, .str ⟨#[]⟩)], pcH b T, 101⟩) (SubT.spec (by simp -dsimp -implicitDefEqProofs only [↓j25, ↓reduceIte, Nat.reduceEqDiff, j182, j202, j203, w1] <;> simp)) (SubH.spec (by simp -dsimp -implicitDefEqProofs only [↓j27, ↓reduceIte, Nat.reduceEqDiff, j182, j204, j205, pcH] <;> simp)) (Nat.le_refl _) rfl) pc_gc⟩
      · have g1 : decide ((k : Int) < 64) = false := decide_eq_false (by omega)
        simp -dsimp -implicitDefEqProofs only [↓j0, ↓j1, ↓j2, ↓j7, ↓j11, ↓j12, ↓j13, ↓j15, j17, j18, j20, ↓j25, ↓j27, ↓j29, ↓j30, j32, j33, ↓j38, ↓j40, ↓j48, ↓j50, ↓j74, j82, ↓j89, ↓j106, j107, ↓j121, j125, j126, j127, j128, ↓j145, ↓j146, ↓j148, ↓j149, ↓j150, ↓j153, j159, partsAV, AV.proj, AV.offOf, AV.size, AV.sizeL, AV.layable, j163, j164, j166, j167, j168, j169, j170, j171, j175, j179, j180, ↓reduceIte, Nat.reduceAdd, Nat.reduceMul, Nat.reduceEqDiff, Nat.reduceLeDiff, j182, j183, j184, j185, j196, j197, j213, j214, j215, j216, j217, j223, ↓j225, Nat.reducePow, List.replicate, j230, j231, j234, j256, j259, j358, j412, j417, piSt, piT, pcH, hS, g1, wi, wn]
        refine ⟨u2, ?_⟩
        simp -dsimp -implicitDefEqProofs only [↓j1, j17, j18, j20, ↓j25, ↓j29, ↓j38, ↓j48, j117, ↓j120, ↓j145, j166, j171, ↓reduceIte, Nat.reduceEqDiff, j227, j228, q3]
        simp -dsimp -implicitDefEqProofs only [↓j0, ↓j1, ↓j7, ↓j15, j17, j18, j20, ↓j25, ↓j29, ↓j30, j33, ↓j38, ↓j39, ↓j48, ↓j89, j117, ↓j120, ↓j145, ↓j146, j154, j171, ↓reduceIte, Nat.reduceEqDiff, j185, str_bytes, h2, sa1, sa2, hs1, hs2]
    
        exact ⟨n, pcSt b T (i + 1) (acc ++ Q), by omega, ⟨i + 1, acc ++ Q, by omega, by rw [List.length_append]; omega, hE, rfl⟩, Wk.trans (Wk.mk (s' := ⟨58, [(6, .int .i64 (i + 1 : Nat)), (5, .str ⟨(acc ++ Q).toArray⟩), (2, .ptr 98 0 []), (3, .ptr 99 0 []), (4, .str ⟨#[]⟩)], pcH b T, 101⟩) (SubT.spec (by simp -dsimp -implicitDefEqProofs only [↓j25, ↓reduceIte, Nat.reduceEqDiff, j182, j202, j203, w1] <;> simp)) (SubH.spec (by simp -dsimp -implicitDefEqProofs only [↓j27, ↓reduceIte, Nat.reduceEqDiff, j182, j204, j205, pcH] <;> simp)) (Nat.le_refl _) rfl) pc_gc⟩
  · have hi2 : i = 64 := by omega
    subst hi2
    have e1 : decide (((64 : Nat) : Int) < 64) = false := rfl
    have hacc : acc = R := by
      rw [← hE]
      cases n <;> simp [pcL]
    subst hacc
    simp -dsimp -implicitDefEqProofs only [↓j0, ↓j1, ↓j7, ↓j10, ↓j11, ↓j12, ↓j13, ↓j15, j17, j18, j20, ↓j25, ↓j29, ↓j30, j33, ↓j38, ↓j39, ↓j48, ↓j89, ↓j145, ↓j146, ↓j148, ↓j149, j159, j171, ↓reduceIte, Nat.reduceEqDiff, j185, pcSt, pcH, e1]
    exact Final.one (.inr rfl) (r := .tmp 4) rfl ⟨rfl, fun vs h => by cases h⟩ (fun vs h => by cases h) (fun vs h => by cases h) (.same _ trivial)
end Go.Proofs.Ytipbgaahpchhbaa
