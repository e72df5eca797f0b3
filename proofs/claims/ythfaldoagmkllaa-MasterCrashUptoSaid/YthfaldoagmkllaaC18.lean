/- The document's Seal. -/
import Derived.Test.YthfaldoagmkllaaC17
set_option linter.unusedVariables false
set_option linter.unusedSimpArgs false
namespace Go.Proofs.Ythfaldoagmkllaa
open Go Go.RowKit

def rsT (stamp : Nat) (o : Nat) : Env := [(6, .int .i64 o), (0, .int .u64 stamp), (3, .ptr 0 0 []), (4, .ptr 1 0 []), (5, .ptr 2 0 [])]
def rsH (p l : List UInt8) : Heap := [(2, .cells (arrAV l)), (0, .cells (arrAV p)), (1, .cells (arrAV (zb 256)))]
def rsSt (stamp : Nat) (p l : List UInt8) (o : Nat) : St := ⟨43, rsT stamp o, rsH p l, 3⟩
def rsIn (stamp : Nat) (p l : List UInt8) (o k j : Nat) : St := ⟨43, [(10, .int .i64 (56 + j : Nat)), (9, .int .u64 (stamp / 2 ^ (8 * j) : Nat)), (8, .int .i64 k)] ++ rsT stamp o, rsH p l, 3⟩
theorem rseal_spec (stamp : Nat) (p : List UInt8) (hs : stamp < 18446744073709551616) (hp : p.length = 224) : ACall Try.prog 29 [.int .u64 stamp, arrAV p] [] (arrAV (sealL stamp p 4)) [] := by
  refine ACall.run (Z := Z) (N := 43) mixed hZ Try.func29 rfl rfl (by kernel_rfl) (by simp) args_seal 0 ?_
  have hz := zb_len 256
  simp -dsimp -implicitDefEqProofs only [↓j0, ↓j1, ↓j7, ↓j12, ↓j14, ↓j15, ↓j16, j17, j18, j20, ↓j25, ↓j29, ↓j30, j33, ↓j39, ↓j41, ↓j42, ↓j145, ↓j146, AV.layable, argEnv, j170, j171, j172, reduceCtorEq, ↓reduceIte, Nat.reduceAdd, j196, j413]
  refine AWp.loopR (Z := Z) mixed hZ (by kernel_rfl) (fun n s => ∃ o, o + n = 256 ∧ s = rsSt stamp p ((sealL stamp p 4).take o ++ zb (256 - o)) o) (n0 := 256) (s0 := rsSt stamp p (zb 256) 0) ?_ ⟨0, by omega, rfl⟩ ?_ rfl
  · exact Wk.sub (by simp -dsimp -implicitDefEqProofs only [↓j25, ↓j27, j179, reduceCtorEq, ↓reduceIte, Nat.reduceEqDiff, j182, j183, j184, j202, j203, j204, j205, j209, j223, rsT, rsH] <;> simp)
  rintro n s ⟨o, ho, rfl⟩
  refine ⟨rfl, ?_⟩
  have hsl := sealL_len stamp hp 4 (Nat.le_refl _)
  have hll := fillB_len (l := sealL stamp p 4) (n := 256) (i := o) (by omega) (by omega)
  obtain ⟨l, hl⟩ : ∃ l, (sealL stamp p 4).take o ++ zb (256 - o) = l := ⟨_, rfl⟩
  rcases Nat.lt_or_ge o 256 with hlt | hge
  · have hd : decide ((o : Int) < 256) = true := decide_eq_true (by omega)
    have w1 : IntKind.i64.wrap ((o : Int).tdiv 64) = ((o / 64 : Nat) : Int) := by
      rw [Int.tdiv_eq_ediv_of_nonneg (by omega), wrap_i64 (by omega) (by omega)]; omega
    have w2 : (o : Int).tmod 64 = ((o % 64 : Nat) : Int) := by rw [Int.tmod_eq_emod_of_nonneg (by omega)]; omega
    have w3 : IntKind.i64.wrap ((o : Int) + 1) = ((o + 1 : Nat) : Int) := by rw [wrap_i64 (by omega) (by omega)]; omega
    obtain ⟨g1, g2⟩ := seal_get (st := stamp) hp hlt
    have hix : (o : Int) < ((256 : Nat) : Int) := by omega
    rw [hl] at hll
    obtain ⟨y, hy⟩ := list_get (xs := l) (i := o) (by omega)
    have hsz : AV.sizeL ((l.map byteAV).take o) = o * 1 := (unif_bytes l).sizeL_take (by simp; omega)
    have next : ∀ x, (sealL stamp p 4)[o]? = some x → (l.map byteAV).set o (byteAV x) = ((sealL stamp p 4).take (o + 1) ++ zb (256 - (o + 1))).map byteAV := fun x hx => by
      rw [← List.map_set, ← hl, fillB_step hx hlt]
    obtain ⟨k, hk⟩ : ∃ k, o % 64 = k := ⟨_, rfl⟩
    rw [hk] at w2 g1 g2
    simp -dsimp -implicitDefEqProofs only [↓j0, ↓j1, ↓j7, ↓j9, ↓j12, ↓j13, ↓j14, ↓j15, j17, j18, j20, ↓j25, ↓j29, ↓j30, j33, ↓j38, ↓j39, ↓j48, ↓j89, j108, j109, ↓j145, ↓j146, ↓j147, ↓j149, j159, j171, ↓reduceIte, Nat.reduceEqDiff, Int.reduceEq, j185, rsSt, rsT, rsH, hl, hd, w1, w2]
    refine ⟨fun hc => ?_, fun hc => ?_⟩
    · have hc' : k < 56 := by have := of_decide_eq_true hc; omega
      have v1 : IntKind.i64.wrap (56 * ((o / 64 : Nat) : Int)) = ((56 * (o / 64) : Nat) : Int) := by rw [wrap_i64 (by omega) (by omega)]; omega
      obtain ⟨j, hj⟩ : ∃ j, 56 * (o / 64) + k = j := ⟨_, rfl⟩
      have v2 : IntKind.i64.wrap (((56 * (o / 64) : Nat) : Int) + (k : Int)) = (j : Int) := by rw [wrap_i64 (by omega) (by omega)]; omega
      obtain ⟨x, hx⟩ := list_get (xs := p) (i := j) (by omega)
      have hg := g1 hc'
      rw [hj, hx] at hg
      have hset := next x hg
      have hjx : (j : Int) < ((224 : Nat) : Int) := by omega
      have hsz2 : AV.sizeL ((p.map byteAV).take j) = j * 1 := (unif_bytes p).sizeL_take (by simp; omega)
      have hby : byteAV x = .int .u8 (x.toNat : Int) := rfl
      rw [hby] at hset
      simp -dsimp -implicitDefEqProofs only [↓j0, ↓j1, ↓j7, ↓j11, ↓j12, ↓j15, j17, j18, j19, j20, j21, j22, j23, ↓j25, ↓j27, ↓j29, ↓j30, j33, ↓j38, ↓j39, ↓j43, ↓j44, ↓j46, ↓j48, ↓j76, ↓j78, ↓j89, ↓j94, j130, ↓j145, ↓j146, ↓j153, j154, j156, AV.proj, AV.offOf, AV.upd, AV.size, AV.layable, j170, j171, j177, reduceCtorEq, ↓reduceIte, Nat.reduceEqDiff, j182, j185, j196, j197, j206, j207, j208, j254, j255, j306, j330, hc, v1, v2, hx, hjx, hsz2, hix, hy, hsz, byteAV, hset]
      exact ⟨n - 1, rsSt stamp p ((sealL stamp p 4).take (o + 1) ++ zb (256 - (o + 1))) (o + 1), by omega, ⟨o + 1, by omega, rfl⟩, Wk.sub (by simp -dsimp -implicitDefEqProofs only [↓j25, ↓j27, reduceCtorEq, ↓reduceIte, Nat.reduceEqDiff, j182, j202, j203, j204, j205, j223, rsT, rsH, w3] <;> simp)⟩
    · have hc' : ¬ k < 56 := by have := of_decide_eq_false hc; omega
      simp -dsimp -implicitDefEqProofs only [↓j0, ↓j1, ↓j7, ↓j9, ↓j12, ↓j14, ↓j15, ↓j16, j17, j18, j20, ↓j25, ↓j29, ↓j30, j33, ↓j38, ↓j39, ↓j145, j171, reduceCtorEq, ↓reduceIte, hc]
      refine AWp.loopR (Z := Z) mixed hZ (by kernel_rfl) (fun q s => ∃ j, j + q = k - 56 ∧ s = rsIn stamp p l o k j) (n0 := k - 56) (s0 := rsIn stamp p l o k 0) ?_ ⟨0, by omega, rfl⟩ ?_ rfl
      · exact Wk.sub (by simp -dsimp -implicitDefEqProofs only [↓j25, ↓j27, j170, j171, j179, reduceCtorEq, ↓reduceIte, Nat.reduceMul, Nat.reduceEqDiff, j182, j183, j184, j197, j202, j203, j204, j205, j209, j223, Nat.reducePow, rsT, rsH] <;> simp)
      rintro q s ⟨j, hj, rfl⟩
      refine ⟨rfl, ?_⟩
      have hvl : stamp / 2 ^ (8 * j) < 18446744073709551616 := Nat.lt_of_le_of_lt (Nat.div_le_self _ _) hs
      have hvn : stamp / 2 ^ (8 * (j + 1)) = stamp / 2 ^ (8 * j) / 256 := by rw [Nat.div_div_eq_div_mul, pow_256]
      obtain ⟨v, hv⟩ : ∃ v, stamp / 2 ^ (8 * j) = v := ⟨_, rfl⟩
      rw [hv] at hvl hvn
      rcases Nat.lt_or_ge j (k - 56) with hjl | hjg
      · have hd2 : decide (((56 + j : Nat) : Int) < (k : Int)) = true := decide_eq_true (by omega)
        have u1 : IntKind.u64.wrap ((v : Int).tdiv 256) = ((v / 256 : Nat) : Int) := by
          rw [Int.tdiv_eq_ediv_of_nonneg (by omega), show (v : Int) / 256 = ((v / 256 : Nat) : Int) by omega, wrap_u64, Nat.mod_eq_of_lt (by omega)]
        have u2 : IntKind.i64.wrap (((56 + j : Nat) : Int) + 1) = ((56 + (j + 1) : Nat) : Int) := by rw [wrap_i64 (by omega) (by omega)]; omega
        simp -dsimp -implicitDefEqProofs only [↓j0, ↓j1, ↓j7, ↓j9, ↓j12, ↓j13, ↓j14, ↓j15, j17, j18, j20, ↓j25, ↓j29, ↓j30, j33, ↓j38, ↓j39, ↓j48, ↓j89, j108, ↓j145, ↓j146, ↓j147, ↓j149, j154, j159, j170, j171, ↓reduceIte, Nat.reduceEqDiff, Int.reduceEq, j185, rsIn, rsT, rsH, hv, hd2, u1]
        exact ⟨q - 1, rsIn stamp p l o k (j + 1), by omega, ⟨j + 1, by omega, rfl⟩, Wk.sub (by simp -dsimp -implicitDefEqProofs only [↓j25, ↓j27, j170, j171, reduceCtorEq, ↓reduceIte, Nat.reduceEqDiff, j182, j202, j203, j204, j205, j223, rsT, rsH, u2, hvn] <;> simp)⟩
      · have hd2 : decide (((56 + j : Nat) : Int) < (k : Int)) = false := decide_eq_false (by omega)
        have hje : j = k - 56 := by omega
        have hg := g2 hc'
        rw [← hje, hv] at hg
        have hset := next _ hg
        have u1 : (v : Int).tmod 256 = ((v % 256 : Nat) : Int) := by rw [Int.tmod_eq_emod_of_nonneg (by omega)]; omega
        have hby : AV.int .u8 (IntKind.u8.wrap ((v % 256 : Nat) : Int)) = byteAV (UInt8.ofNat v) := by
          rw [wrap_u8, byteAV_of _ (Nat.mod_lt _ (by decide))]
          exact congrArg byteAV (UInt8.toNat_inj.1 (by rw [UInt8.toNat_ofNat', UInt8.toNat_ofNat']; omega))
        simp -dsimp -implicitDefEqProofs only [↓j0, ↓j1, ↓j7, ↓j11, ↓j12, ↓j13, ↓j15, j17, j18, j19, j20, j21, j22, j23, ↓j25, ↓j27, ↓j29, ↓j30, j33, ↓j38, ↓j39, ↓j44, ↓j46, ↓j48, ↓j50, ↓j78, ↓j89, ↓j94, j109, ↓j145, ↓j146, ↓j148, ↓j149, ↓j153, j154, j159, AV.proj, AV.offOf, AV.upd, j170, j171, j177, reduceCtorEq, ↓reduceIte, Nat.reduceEqDiff, Int.reduceEq, j182, j185, j196, j197, j206, j207, j208, ↓j225, ↓j244, ↓j245, j254, j256, j306, j461, rsIn, rsT, rsH, hv, hd2, u1, hby, hix, hy, hsz, hset]
        exact ⟨n - 1, rsSt stamp p ((sealL stamp p 4).take (o + 1) ++ zb (256 - (o + 1))) (o + 1), by omega, ⟨o + 1, by omega, rfl⟩, Wk.sub (by simp -dsimp -implicitDefEqProofs only [↓j25, ↓j27, reduceCtorEq, ↓reduceIte, Nat.reduceEqDiff, j182, j202, j203, j204, j205, j223, rsT, rsH, w3] <;> simp)⟩
  · have ho' : o = 256 := by omega
    subst ho'
    have hd : decide (((256 : Nat) : Int) < 256) = false := rfl
    have e : (sealL stamp p 4).take 256 ++ zb (256 - 256) = sealL stamp p 4 := by
      rw [List.take_of_length_le (by omega)]; simp [zb]
    rw [e]
    have hsl' : (sealL stamp p 4).length = 256 := hsl
    simp -dsimp -implicitDefEqProofs only [↓j0, ↓j1, ↓j7, ↓j10, ↓j11, ↓j12, ↓j13, ↓j15, j17, j18, j19, j20, j21, j22, j23, ↓j25, ↓j27, ↓j29, ↓j30, j33, ↓j38, ↓j43, ↓j44, ↓j48, ↓j76, ↓j78, ↓j89, j129, ↓j145, ↓j146, ↓j148, ↓j149, ↓j153, j159, AV.proj, AV.offOf, AV.upd, AV.size, AV.layable, j170, j171, reduceCtorEq, ↓reduceIte, Nat.reduceEqDiff, j182, j185, j240, j304, j305, rsSt, rsT, rsH, hd, hsl', hz]
    exact Final.one (.inr rfl) (r := .cell 4 28) rfl ⟨1, 0, [], _, rfl, rfl, rfl, rfl, by simp -dsimp -implicitDefEqProofs only [j129, j182, j240, j304, j305, hsl']⟩ (fun vs h => by cases h) (fun vs h => by cases h) (.same _ (on_bytes _ _))
end Go.Proofs.Ythfaldoagmkllaa
