/- Blocks that are sealed. -/
import Derived.Test.YthfaldoagmkllaaC1
set_option linter.unusedVariables false
set_option linter.unusedSimpArgs false
namespace Go.Proofs.Ythfaldoagmkllaa
open Go Go.RowKit

abbrev arrAV (l : List UInt8) : AV := .agg (l.map byteAV)
def sealPart (stamp : Nat) (p : List UInt8) (i : Nat) : List UInt8 := (p.drop (56 * i)).take 56 ++ putL stamp 8
def sealL (stamp : Nat) (p : List UInt8) : Nat → List UInt8
  | 0 => []
  | n + 1 => sealL stamp p n ++ sealPart stamp p n
theorem sealPart_len (stamp : Nat) {p : List UInt8} {i : Nat} (hp : p.length = 224) (hi : i < 4) : (sealPart stamp p i).length = 64 := by
  simp only [sealPart, List.length_append, List.length_take, List.length_drop, putL_len]; omega
theorem sealL_len (stamp : Nat) {p : List UInt8} (hp : p.length = 224) : ∀ i, i ≤ 4 → (sealL stamp p i).length = 64 * i
  | 0, _ => rfl
  | i + 1, h => by
    simp only [sealL, List.length_append, sealL_len stamp hp i (by omega), sealPart_len stamp hp (show i < 4 by omega)]; omega
theorem putL_take (v k : Nat) : putL v (k + 1) = putL v k ++ [UInt8.ofNat (v / 2 ^ (8 * k))] := by simp [putL, List.range_succ]
theorem zb_add (a b : Nat) : zb (a + b) = zb a ++ zb b := by simp [zb, List.replicate_append_replicate]
theorem copy_list {a c x : List UInt8} {b : List UInt8} (hx : x.length = b.length) : (a ++ (b ++ c)).take a.length ++ x ++ (a ++ (b ++ c)).drop (a.length + x.length) = a ++ (x ++ c) := by
  rw [List.take_left, hx, List.drop_append, List.drop_eq_nil_of_le (by omega), List.nil_append, Nat.add_sub_cancel_left, List.drop_left, List.append_assoc]

def inL (stamp : Nat) (p : List UInt8) (i k : Nat) : List UInt8 := sealL stamp p i ++ ((p.drop (56 * i)).take 56 ++ (putL stamp k ++ zb (200 - 64 * i - k)))
theorem inL_len (stamp : Nat) {p : List UInt8} {i k : Nat} (hp : p.length = 224) (hi : i < 4) (hk : k ≤ 8) : (inL stamp p i k).length = 256 := by
  simp only [inL, List.length_append, sealL_len stamp hp i (by omega), List.length_take, List.length_drop, putL_len, zb_len]; omega
theorem inL_step (stamp : Nat) {p : List UInt8} {i k : Nat} (hp : p.length = 224) (hi : i < 4) (hk : k < 8) : (inL stamp p i k).set (64 * i + 56 + k) (UInt8.ofNat (stamp / 2 ^ (8 * k))) = inL stamp p i (k + 1) := by
  have h1 := sealL_len stamp hp i (by omega)
  have h2 : ((p.drop (56 * i)).take 56).length = 56 := by simp only [List.length_take, List.length_drop]; omega
  have e : zb (200 - 64 * i - k) = 0 :: zb (200 - 64 * i - (k + 1)) := by
    rw [zb, show 200 - 64 * i - k = (200 - 64 * i - (k + 1)) + 1 by omega, List.replicate_succ]; rfl
  unfold inL
  rw [List.set_append_right _ _ (by omega), h1, List.set_append_right _ _ (by omega), h2, List.set_append_right _ _ (by rw [putL_len]; omega), putL_len, e, putL_take]
  have e3 : 64 * i + 56 + k - 64 * i - 56 - k = 0 := by omega
  rw [e3]
  simp
theorem inL_end (stamp : Nat) (p : List UInt8) {i : Nat} (hi : i < 4) : inL stamp p i 8 = sealL stamp p (i + 1) ++ zb (256 - 64 * (i + 1)) := by
  have : 200 - 64 * i - 8 = 256 - 64 * (i + 1) := by omega
  simp only [inL, sealL, sealPart, this, List.append_assoc]
theorem inL_copy (stamp : Nat) {p : List UInt8} {i : Nat} (hp : p.length = 224) (hi : i < 4) : (sealL stamp p i ++ zb (256 - 64 * i)).take (64 * i) ++ (p.drop (56 * i)).take 56 ++ (sealL stamp p i ++ zb (256 - 64 * i)).drop (64 * i + 56) = inL stamp p i 0 := by
  have h1 := sealL_len stamp hp i (by omega)
  have h2 : ((p.drop (56 * i)).take 56).length = 56 := by simp only [List.length_take, List.length_drop]; omega
  have e : zb (256 - 64 * i) = zb 56 ++ zb (200 - 64 * i - 0) := by rw [← zb_add]; congr 1; omega
  have := copy_list (a := sealL stamp p i) (b := zb 56) (c := zb (200 - 64 * i - 0)) (x := (p.drop (56 * i)).take 56) (by rw [h2, zb_len])
  rw [h1, h2] at this
  rw [e, this]
  rfl
def sealSt (stamp : Nat) (p l : List UInt8) (i : Nat) : St := ⟨38, [(9, .int .i64 i), (5, .ptr 2 0 []), (3, .ptr 0 0 []), (4, .ptr 1 0 []), (0, .int .u64 stamp)], [(2, .cells (arrAV l)), (0, .cells (arrAV p)), (1, .cells (arrAV (zb 256)))], 3⟩
def sealIn (stamp : Nat) (p l : List UInt8) (i k : Nat) : St := ⟨38, [(22, .int .i64 k), (7, .int .i64 ((64 * i : Nat) : Int)), (6, .int .i64 i), (9, .int .i64 i), (5, .ptr 2 0 []), (3, .ptr 0 0 []), (4, .ptr 1 0 []), (0, .int .u64 stamp)], [(2, .cells (arrAV l)), (0, .cells (arrAV p)), (1, .cells (arrAV (zb 256)))], 3⟩
theorem args_seal {stamp : Int} {p : List UInt8} : ∀ x, x ∈ [AV.int .u64 stamp, arrAV p] → AV.on (fun _ => False) x ∧ ∀ vs, x ≠ .tuple vs := fun x hx => by
  simp only [List.mem_cons, List.not_mem_nil, or_false] at hx
  rcases hx with rfl | rfl
  · exact ⟨trivial, fun vs h => by cases h⟩
  · exact ⟨on_bytes _ _, fun vs h => by cases h⟩

theorem seal_spec (stamp : Nat) (p : List UInt8) (hp : p.length = 224) : ACall Try.prog 26 [.int .u64 stamp, arrAV p] [] (arrAV (sealL stamp p 4)) [] := by
  refine ACall.run (Z := Z) (N := 38) mixed hZ Try.func26 rfl rfl (by kernel_rfl) (by simp) args_seal 0 ?_
  have hpz := zb_len 256
  simp -dsimp -implicitDefEqProofs only [↓j0, ↓j1, ↓j7, ↓j12, ↓j14, ↓j15, ↓j16, j17, j18, j20, ↓j25, ↓j29, ↓j30, j33, ↓j38, ↓j41, ↓j42, ↓j145, ↓j146, AV.layable, argEnv, j170, j171, j172, reduceCtorEq, ↓reduceIte, Nat.reduceAdd, j196, j414]
  refine AWp.loopR (Z := Z) mixed hZ (by kernel_rfl) (fun n s => ∃ i, i + n = 4 ∧ s = sealSt stamp p (sealL stamp p i ++ zb (256 - 64 * i)) i) (n0 := 4) (s0 := sealSt stamp p (zb 256) 0) ?_ ⟨0, by omega, rfl⟩ ?_ rfl
  · exact Wk.sub (by simp -dsimp -implicitDefEqProofs only [↓j25, ↓j27, j179, reduceCtorEq, ↓reduceIte, Nat.reduceEqDiff, j182, j183, j184, j202, j203, j204, j205, j209, j223] <;> simp)
  rintro n s ⟨i, hi, rfl⟩
  refine ⟨rfl, ?_⟩
  have hll : (sealL stamp p i ++ zb (256 - 64 * i)).length = 256 := by
    rw [List.length_append, sealL_len stamp hp i (by omega), zb_len]; omega
  obtain ⟨l, hl⟩ : ∃ l, sealL stamp p i ++ zb (256 - 64 * i) = l := ⟨_, rfl⟩
  rw [hl] at hll
  rcases Nat.lt_or_ge i 4 with hlt | hge
  · have hd : decide ((i : Int) < 4) = true := decide_eq_true (by omega)
    have w1 : IntKind.i64.wrap ((i : Int) * 64) = ((64 * i : Nat) : Int) := by rw [wrap_i64 (by omega) (by omega)]; omega
    have w2 : IntKind.i64.wrap (((64 * i : Nat) : Int) + 56) = ((64 * i + 56 : Nat) : Int) := by rw [wrap_i64 (by omega) (by omega)]; omega
    have w3 : IntKind.i64.wrap ((i : Int) * 56) = ((56 * i : Nat) : Int) := by rw [wrap_i64 (by omega) (by omega)]; omega
    have w4 : IntKind.i64.wrap ((i : Int) + 1) = ((i + 1 : Nat) : Int) := by rw [wrap_i64 (by omega) (by omega)]; omega
    have b1 : ((64 * i : Nat) : Int) ≤ ((64 * i + 56 : Nat) : Int) := by omega
    have b2 : ((64 * i + 56 : Nat) : Int) ≤ ((256 : Nat) : Int) := by omega
    have b3 : ((56 * i : Nat) : Int) ≤ ((224 : Nat) : Int) := by omega
    have ul := unif_bytes l
    have up := unif_bytes p
    have n1 : 64 * i + 56 - 64 * i = 56 := by omega
    have b4 : 64 * i + 56 ≤ 256 := by omega
    have b5 : 56 * i + (224 - 56 * i) ≤ 224 := by omega
    have hxs : List.take (224 - 56 * i) (List.drop (56 * i) (p.map byteAV)) = (p.drop (56 * i)).map byteAV := by
      rw [← List.map_drop, List.take_of_length_le (by simp; omega)]
    have hdl : (p.drop (56 * i)).length = 224 - 56 * i := by rw [List.length_drop, hp]
    have hmn : Nat.min (224 - 56 * i) 56 = 56 := by
      show min (224 - 56 * i) 56 = 56
      omega
    have hcp : List.take (64 * i) (l.map byteAV) ++ List.take 56 ((p.drop (56 * i)).map byteAV) ++ List.drop (64 * i + 56) (l.map byteAV) = (inL stamp p i 0).map byteAV := by
      rw [← List.map_take, ← List.map_take, ← List.map_drop, ← List.map_append, ← List.map_append, ← hl, inL_copy stamp hp hlt]
    simp -dsimp -implicitDefEqProofs only [↓j0, ↓j1, ↓j3, ↓j4, ↓j7, ↓j8, ↓j9, ↓j12, ↓j13, ↓j14, ↓j15, j17, j18, j20, j21, j22, j23, j24, ↓j25, ↓j27, ↓j29, ↓j30, j33, ↓j38, ↓j39, ↓j48, ↓j49, ↓j52, ↓j89, ↓j106, j107, ↓j145, ↓j146, ↓j147, ↓j149, ↓j153, j154, j156, j159, AV.proj, AV.offOf, AV.upd, j170, j171, j172, j173, j174, reduceCtorEq, ↓reduceIte, Nat.reduceMul, Nat.reduceEqDiff, j182, j185, j189, j196, j207, j208, j213, j214, j215, j222, bndAV, j232, ↓j238, ↓j239, j240, j311, j335, j340, sealSt, hl, hll, hp, hd, w1, w2, w3, b1, b2, b3, ul, up, n1, b4, b5, hxs, hdl, hmn, hcp]
    refine ⟨by kernel_rfl, ?_⟩
    simp -dsimp -implicitDefEqProofs only [↓j0, ↓j1, ↓j7, ↓j12, ↓j14, ↓j15, ↓j16, j17, j18, j20, ↓j30, j33, ↓j38, ↓j145, j171]
    refine AWp.loopR (Z := Z) mixed hZ (by kernel_rfl) (fun q s => ∃ k, k + q = 8 ∧ s = sealIn stamp p (inL stamp p i k) i k) (n0 := 8) (s0 := sealIn stamp p (inL stamp p i 0) i 0) ?_ ⟨0, by omega, rfl⟩ ?_ rfl
    · exact Wk.sub (by simp -dsimp -implicitDefEqProofs only [↓j25, ↓j27, j179, reduceCtorEq, ↓reduceIte, Nat.reduceEqDiff, j182, j183, j184, j202, j203, j204, j205, j209, j223] <;> simp)
    rintro q s ⟨k, hk, rfl⟩
    refine ⟨rfl, ?_⟩
    have hil := inL_len stamp hp hlt (show k ≤ 8 by omega)
    rcases Nat.lt_or_ge k 8 with hk8 | hk8
    · have hd2 : decide ((k : Int) < 8) = true := decide_eq_true (by omega)
      obtain ⟨j, hj⟩ : ∃ j, 64 * i + 56 + k = j := ⟨_, rfl⟩
      have v1 : IntKind.i64.wrap (((64 * i + 56 : Nat) : Int) + (k : Int)) = (j : Int) := by rw [wrap_i64 (by omega) (by omega)]; omega
      have v2 : IntKind.i64.wrap (8 * (k : Int)) = ((8 * k : Nat) : Int) := by rw [wrap_i64 (by omega) (by omega)]; omega
      have v3 : IntKind.i64.wrap ((k : Int) + 1) = ((k + 1 : Nat) : Int) := by rw [wrap_i64 (by omega) (by omega)]; omega
      have hneg : (((8 * k : Nat) : Int) < 0) = False := by simp; omega
      have hsh : bShr .u64 (stamp : Int) ((8 * k : Nat) : Int) = ((stamp / 2 ^ (8 * k) : Nat) : Int) := by
        rw [bShr_nat, show IntKind.u64.bits = 64 from rfl, Nat.min_eq_left (by omega)]
      have hby : AV.int .u8 (IntKind.u8.wrap ((stamp / 2 ^ (8 * k) : Nat) : Int)) = byteAV (UInt8.ofNat (stamp / 2 ^ (8 * k))) := by
        rw [wrap_u8, byteAV_of _ (Nat.mod_lt _ (by decide))]
        congr 1
        apply UInt8.toNat_inj.1
        simp
      have hstep := inL_step stamp hp hlt hk8
      obtain ⟨y, hy⟩ : ∃ y, inL stamp p i k = y := ⟨_, rfl⟩
      rw [hy, hj] at hstep
      rw [hy] at hil
      obtain ⟨b, hb⟩ := list_get (xs := y) (i := j) (by omega)
      have hsz : AV.sizeL ((y.map byteAV).take (j)) = (j) * 1 := (unif_bytes y).sizeL_take (by simp; omega)
      have hix : (j : Int) < ((256 : Nat) : Int) := by omega
      have hset : (y.map byteAV).set (j) (byteAV (UInt8.ofNat (stamp / 2 ^ (8 * k)))) = (inL stamp p i (k + 1)).map byteAV := by rw [← List.map_set, hstep]
      simp -dsimp -implicitDefEqProofs only [↓j0, ↓j1, ↓j7, ↓j9, ↓j12, ↓j13, ↓j14, ↓j15, j17, j18, j19, j20, j21, j22, j23, ↓j25, ↓j27, ↓j29, ↓j30, j33, ↓j38, ↓j39, ↓j44, ↓j46, ↓j48, ↓j50, ↓j78, ↓j89, ↓j94, j114, j119, ↓j145, ↓j146, ↓j147, ↓j149, ↓j153, j154, j156, j159, AV.proj, AV.offOf, AV.upd, j170, j171, j177, reduceCtorEq, ↓reduceIte, Nat.reduceEqDiff, j182, j185, j186, j196, j197, j206, j207, j208, ↓j225, ↓j244, ↓j245, j254, j256, j311, j461, sealIn, hy, hd2, w2, v1, v2, hneg, hsh, hby, hb, hsz, hix, hset]
      exact ⟨q - 1, sealIn stamp p (inL stamp p i (k + 1)) i (k + 1), by omega, ⟨k + 1, by omega, rfl⟩, Wk.sub (by simp -dsimp -implicitDefEqProofs only [↓j25, ↓j27, reduceCtorEq, ↓reduceIte, Nat.reduceEqDiff, j182, j202, j203, j204, j205, j223, v3] <;> simp)⟩
    · have hk8' : k = 8 := by omega
      subst hk8'
      have hd2 : decide (((8 : Nat) : Int) < 8) = false := rfl
      simp -dsimp -implicitDefEqProofs only [↓j0, ↓j1, ↓j7, ↓j11, ↓j12, ↓j13, ↓j15, j17, j18, j20, ↓j25, ↓j29, ↓j30, j33, ↓j38, ↓j48, ↓j89, ↓j145, ↓j146, ↓j148, ↓j149, j154, j159, j171, ↓reduceIte, Nat.reduceEqDiff, j185, sealIn, hd2]
      exact ⟨n - 1, sealSt stamp p (sealL stamp p (i + 1) ++ zb (256 - 64 * (i + 1))) (i + 1), by omega, ⟨i + 1, by omega, rfl⟩, Wk.sub (by rw [← inL_end stamp p hlt]; simp -dsimp -implicitDefEqProofs only [↓j25, ↓j27, reduceCtorEq, ↓reduceIte, Nat.reduceEqDiff, j182, j202, j203, j204, j205, j223, w4] <;> simp)⟩
  · have hi4 : i = 4 := by omega
    subst hi4
    have hd : decide (((4 : Nat) : Int) < 4) = false := rfl
    have hz0 : zb (256 - 64 * 4) = [] := rfl
    rw [hz0, List.append_nil] at hl
    subst hl
    simp -dsimp -implicitDefEqProofs only [↓j0, ↓j1, ↓j7, ↓j10, ↓j11, ↓j12, ↓j13, ↓j15, j17, j18, j19, j20, j21, j22, j23, ↓j25, ↓j27, ↓j29, ↓j30, j33, ↓j43, ↓j44, ↓j48, ↓j76, ↓j78, ↓j89, j129, ↓j145, ↓j146, ↓j148, ↓j149, ↓j153, j159, AV.proj, AV.offOf, AV.upd, AV.size, AV.layable, j170, j171, j172, reduceCtorEq, ↓reduceIte, Nat.reduceMul, Nat.reduceEqDiff, Nat.reduceSub, j182, j185, j240, j309, j310, sealSt, hz0, hd, hll, hpz]
    exact Final.one (.inr rfl) (r := .cell 4 29) rfl ⟨1, 0, [], _, rfl, rfl, rfl, rfl, by simp -dsimp -implicitDefEqProofs only [j129, j182, j240, j309, j310, hll]⟩ (fun vs h => by cases h) (fun vs h => by cases h) (.same _ (on_bytes _ _))
end Go.Proofs.Ythfaldoagmkllaa
