/- Blocks that are opened. -/
import Derived.Test.YthfaldoagmkllaaC2
set_option linter.unusedVariables false
set_option linter.unusedSimpArgs false
namespace Go.Proofs.Ythfaldoagmkllaa
open Go Go.RowKit

def stampAt (b : List UInt8) (i : Nat) : Nat := getL ((b.drop (64 * i + 56)).take 8)
def partsL (b : List UInt8) : Nat → List UInt8
  | 0 => []
  | n + 1 => partsL b n ++ (b.drop (64 * n)).take 56
theorem partsL_len {b : List UInt8} (hb : b.length = 256) : ∀ i, i ≤ 4 → (partsL b i).length = 56 * i
  | 0, _ => rfl
  | i + 1, h => by
    simp only [partsL, List.length_append, partsL_len hb i (by omega), List.length_take, List.length_drop]; omega
def openOk (b : List UInt8) : Bool := stampAt b 1 == stampAt b 0 && stampAt b 2 == stampAt b 0 && stampAt b 3 == stampAt b 0
def openP (b : List UInt8) : Nat × List UInt8 × Bool := if openOk b then (stampAt b 0, partsL b 4, true) else (0, zb 224, false)
abbrev openAV (r : Nat × List UInt8 × Bool) : AV := .tuple [.int .u64 r.1, arrAV r.2.1, .bool r.2.2]
theorem stampAt_lt (b : List UInt8) (i : Nat) : stampAt b i < 18446744073709551616 := by
  have h := getL_lt ((b.drop (64 * i + 56)).take 8)
  have h2 := List.length_take_le 8 (b.drop (64 * i + 56))
  refine Nat.lt_of_lt_of_le h ?_
  exact Nat.pow_le_pow_right (i := 8 * ((b.drop (64 * i + 56)).take 8).length) (j := 64) (show 0 < 2 by decide) (by omega)
theorem parts_copy {b : List UInt8} {i : Nat} (hb : b.length = 256) (hi : i < 4) : (partsL b i ++ zb (224 - 56 * i)).take (56 * i) ++ (b.drop (64 * i)).take 56 ++ (partsL b i ++ zb (224 - 56 * i)).drop (56 * i + 56) = partsL b (i + 1) ++ zb (224 - 56 * (i + 1)) := by
  have h1 := partsL_len hb i (by omega)
  have h2 : ((b.drop (64 * i)).take 56).length = 56 := by simp only [List.length_take, List.length_drop]; omega
  have e : zb (224 - 56 * i) = zb 56 ++ zb (224 - 56 * (i + 1)) := by rw [← zb_add]; congr 1; omega
  have := copy_list (a := partsL b i) (b := zb 56) (c := zb (224 - 56 * (i + 1))) (x := (b.drop (64 * i)).take 56) (by rw [h2, zb_len])
  rw [h1, h2] at this
  rw [e, this, partsL, List.append_assoc]

def openSt (b : List UInt8) (i f : Nat) : St := ⟨49, [(11, .int .i64 i), (1, .ptr 0 0 []), (3, .ptr 1 0 []), (5, .ptr 2 0 []), (6, .int .u64 f), (2, .int .u64 0), (4, .bool false)], [(2, .cells (arrAV (partsL b i ++ zb (224 - 56 * i)))), (0, .cells (arrAV b)), (1, .cells (arrAV (zb 224)))], 3⟩
def openIn (b : List UInt8) (i f k : Nat) : St := ⟨49, [(10, .int .i64 ((k : Int) - 1)), (9, .int .u64 (getL ((b.drop (64 * i + (56 + k))).take (8 - k)))), (8, .int .i64 ((64 * i : Nat) : Int)), (7, .int .i64 i), (11, .int .i64 i), (1, .ptr 0 0 []), (3, .ptr 1 0 []), (5, .ptr 2 0 []), (6, .int .u64 f), (2, .int .u64 0), (4, .bool false)], [(2, .cells (arrAV (partsL b i ++ zb (224 - 56 * i)))), (0, .cells (arrAV b)), (1, .cells (arrAV (zb 224)))], 3⟩
theorem args_arr {p : List UInt8} : ∀ x, x ∈ [arrAV p] → AV.on (fun _ => False) x ∧ ∀ vs, x ≠ .tuple vs := fun x hx => by
  simp only [List.mem_singleton] at hx
  subst hx
  exact ⟨on_bytes _ _, fun vs h => by cases h⟩
theorem stamp_or {g : Nat} {b : UInt8} (hg : g < 2 ^ 56) : bShl .u64 (g : Int) 8 = ((g * 256 : Nat) : Int) ∧ bOr .u64 ((g * 256 : Nat) : Int) (b.toNat : Int) = ((b.toNat + 256 * g : Nat) : Int) := by
  have hbl := b.toNat_lt
  constructor
  · have := bShl_u64 g 8
    rw [show min 8 64 = 8 from rfl, Nat.mod_eq_of_lt (by omega)] at this
    exact this
  · rw [bOr_u64 (by omega) (by omega), or_add (by omega)]; congr 1; omega

theorem open_spec (b : List UInt8) (hb : b.length = 256) : ACall Try.prog 30 [arrAV b] [] (openAV (openP b)) [] := by
  refine ACall.run (Z := Z) (N := 49) mixed hZ Try.func30 rfl rfl (by kernel_rfl) (by simp) args_arr 0 ?_
  have hpz := zb_len 224
  have fin0 : ∀ (t : Env) (H : Heap) (m : Nat), openOk b = false → look t 2 = some (.int .u64 0) → look t 3 = some (.ptr 1 0 []) → look t 4 = some (.bool false) → Heap.get H 1 = some (.cells (arrAV (zb 224))) →
      Final Try.prog Try.f30 (openAV (openP b)) [] .ret ⟨49, t, H, m⟩ := by
    intro t H m hk h2 h3 h4 h1
    have e : openP b = (0, zb 224, false) := by rw [openP, hk]; rfl
    rw [e]
    exact Final.many (.inr rfl) (rs := [.tmp 2, .cell 3 58, .tmp 4]) (us := [.int .u64 0, arrAV (zb 224), .bool false]) rfl ⟨⟨h2, fun vs h => by cases h⟩, ⟨1, 0, [], _, h3, h1, rfl, rfl, by simp -dsimp -implicitDefEqProofs only [j129, j182, j240, j333, j334, hpz]⟩, ⟨h4, fun vs h => by cases h⟩, trivial⟩ (by simp) ⟨.same _ trivial, .same _ (on_bytes _ _), .same _ trivial, trivial⟩
  simp -dsimp -implicitDefEqProofs only [↓j0, ↓j1, ↓j7, ↓j12, ↓j14, ↓j15, ↓j16, j17, j18, j20, ↓j25, ↓j29, ↓j30, j32, j33, ↓j38, ↓j39, ↓j41, ↓j42, ↓j145, ↓j146, AV.layable, argEnv, j170, j171, j172, ↓reduceIte, Nat.reduceAdd, j196, j420]
  refine AWp.loopR (Z := Z) mixed hZ (by kernel_rfl) (fun n s => ∃ i, i + n = 4 ∧ (∀ j, j < i → stampAt b j = stampAt b 0) ∧ s = openSt b i (if i = 0 then 0 else stampAt b 0)) (n0 := 4) (s0 := openSt b 0 0) ?_ ⟨0, by omega, fun j h => by omega, rfl⟩ ?_ rfl
  · exact Wk.sub (by simp -dsimp -implicitDefEqProofs only [↓j25, ↓j27, j179, reduceCtorEq, ↓reduceIte, Nat.reduceMul, Nat.reduceEqDiff, j182, j183, j184, j202, j203, j204, j205, j209, j223, j233] <;> simp [partsL])
  rintro n s ⟨i, hi, hst, rfl⟩
  refine ⟨rfl, ?_⟩
  obtain ⟨f, hf⟩ : ∃ f, (if i = 0 then 0 else stampAt b 0) = f := ⟨_, rfl⟩
  rw [hf]
  have hql : (partsL b i ++ zb (224 - 56 * i)).length = 224 := by
    rw [List.length_append, partsL_len hb i (by omega), zb_len]; omega
  rcases Nat.lt_or_ge i 4 with hlt | hge
  · have hd : decide ((i : Int) < 4) = true := decide_eq_true (by omega)
    have w1 : IntKind.i64.wrap ((i : Int) * 64) = ((64 * i : Nat) : Int) := by rw [wrap_i64 (by omega) (by omega)]; omega
    have w4 : IntKind.i64.wrap ((i : Int) + 1) = ((i + 1 : Nat) : Int) := by rw [wrap_i64 (by omega) (by omega)]; omega
    have w5 : IntKind.i64.wrap (((64 * i : Nat) : Int) + 56) = ((64 * i + 56 : Nat) : Int) := by rw [wrap_i64 (by omega) (by omega)]; omega
    simp -dsimp -implicitDefEqProofs only [↓j0, ↓j1, ↓j7, ↓j9, ↓j12, ↓j13, ↓j14, ↓j15, ↓j16, j17, j18, j20, ↓j25, ↓j29, ↓j30, j33, ↓j38, ↓j39, ↓j48, ↓j89, ↓j145, ↓j146, ↓j147, ↓j149, j156, j159, j171, ↓reduceIte, Nat.reduceEqDiff, j185, openSt, hd, w1]
    refine AWp.loopR (Z := Z) mixed hZ (by kernel_rfl) (fun q s => q ≤ 8 ∧ s = openIn b i f q) (n0 := 8) (s0 := openIn b i f 8) ?_ ⟨by omega, rfl⟩ ?_ rfl
    · exact Wk.sub (by simp -dsimp -implicitDefEqProofs only [↓j25, ↓j27, j167, j179, reduceCtorEq, ↓reduceIte, Nat.reduceAdd, Nat.reduceEqDiff, Nat.reduceSub, j182, j183, j184, j202, j203, j204, j205, j209, j223] <;> simp [getL])
    rintro q s ⟨hq, rfl⟩
    refine ⟨rfl, ?_⟩
    cases q with
    | succ k =>
      have hd2 : decide ((0 : Int) ≤ ((k + 1 : Nat) : Int) - 1) = true := decide_eq_true (by omega)
      obtain ⟨c, hc⟩ := list_get (xs := b) (i := 64 * i + 56 + k) (by omega)
      have hstep := get_step (n := 8) hc (by omega)
      have hx : ((k + 1 : Nat) : Int) - 1 = (k : Int) := by omega
      obtain ⟨j, hj⟩ : ∃ j, 64 * i + 56 + k = j := ⟨_, rfl⟩
      have hw1 : IntKind.i64.wrap (((64 * i + 56 : Nat) : Int) + (k : Int)) = (j : Int) := by rw [wrap_i64 (by omega) (by omega)]; omega
      have hw2 : IntKind.i64.wrap ((k : Int) - 1) = (k : Int) - 1 := wrap_i64 (by omega) (by omega)
      have hlt2 := getL_lt ((b.drop (64 * i + 56 + (k + 1))).take (8 - (k + 1)))
      obtain ⟨g, hg⟩ : ∃ g, getL ((b.drop (64 * i + 56 + (k + 1))).take (8 - (k + 1))) = g := ⟨_, rfl⟩
      rw [hg] at hlt2 hstep
      have hg56 : g < 2 ^ 56 := by
        refine Nat.lt_of_lt_of_le hlt2 (Nat.pow_le_pow_right (by decide) ?_)
        have := List.length_take_le (8 - (k + 1)) (b.drop (64 * i + 56 + (k + 1)))
        omega
      have hneg : ((8 : Int) < 0) = False := by simp
      obtain ⟨hsh, hor⟩ := stamp_or (b := c) hg56
      have hcl := c.toNat_lt
      have hwb : IntKind.u64.wrap (c.toNat : Int) = (c.toNat : Int) := by rw [wrap_u64, Nat.mod_eq_of_lt (by omega)]
      have hix : (j : Int) < ((256 : Nat) : Int) := by omega
      have hsz : AV.sizeL ((b.map byteAV).take j) = j * 1 := (unif_bytes b).sizeL_take (by simp; omega)
      rw [hj] at hc
      have hg2 : getL (List.take (8 - (k + 1)) (List.drop (64 * i + (56 + (k + 1))) b)) = g := by rw [← Nat.add_assoc]; exact hg
      rw [Nat.add_assoc] at hstep
      simp -dsimp -implicitDefEqProofs only [↓j0, ↓j1, ↓j7, ↓j9, ↓j12, ↓j13, ↓j14, ↓j15, j17, j18, j20, ↓j25, ↓j27, ↓j29, ↓j30, j33, ↓j38, ↓j39, ↓j43, ↓j46, ↓j48, ↓j50, ↓j76, ↓j89, ↓j94, j111, j113, j118, j130, ↓j145, ↓j146, ↓j147, ↓j149, ↓j153, j154, j155, j162, AV.proj, AV.offOf, j171, j177, reduceCtorEq, ↓reduceIte, Nat.reduceEqDiff, j182, j185, j186, j191, j196, j197, j206, j207, j208, ↓j225, j255, j262, j311, j459, openIn, hg2, hx, w5, hw1, hw2, hneg, hsh, hor, hwb, hix, hc, hsz, byteAV]
      exact ⟨k, openIn b i f k, by omega, ⟨by omega, rfl⟩, Wk.sub (by simp -dsimp -implicitDefEqProofs only [↓j25, ↓j27, reduceCtorEq, ↓reduceIte, Nat.reduceEqDiff, j182, j202, j203, j204, j205, j223, hstep] <;> simp)⟩
    | zero =>
      have hd2 : decide ((0 : Int) ≤ ((0 : Nat) : Int) - 1) = false := rfl
      have hsa : getL (List.take (8 - 0) (List.drop (64 * i + (56 + 0)) b)) = stampAt b i := rfl
      have w3 : IntKind.i64.wrap ((i : Int) * 56) = ((56 * i : Nat) : Int) := by rw [wrap_i64 (by omega) (by omega)]; omega
      have w6 : IntKind.i64.wrap (((i + 1 : Nat) : Int) * 56) = ((56 * i + 56 : Nat) : Int) := by rw [wrap_i64 (by omega) (by omega)]; omega
      have b1 : ((56 * i : Nat) : Int) ≤ ((56 * i + 56 : Nat) : Int) := by omega
      have b2 : ((56 * i + 56 : Nat) : Int) ≤ ((224 : Nat) : Int) := by omega
      have b3 : ((64 * i : Nat) : Int) ≤ ((256 : Nat) : Int) := by omega
      obtain ⟨l, hl⟩ : ∃ l, partsL b i ++ zb (224 - 56 * i) = l := ⟨_, rfl⟩
      rw [hl] at hql
      have ul := unif_bytes l
      have ub := unif_bytes b
      have n1 : 56 * i + 56 - 56 * i = 56 := by omega
      have b4 : 56 * i + 56 ≤ 224 := by omega
      have b5 : 64 * i + (256 - 64 * i) ≤ 256 := by omega
      have hxs : List.take (256 - 64 * i) (List.drop (64 * i) (b.map byteAV)) = (b.drop (64 * i)).map byteAV := by
        rw [← List.map_drop, List.take_of_length_le (by simp; omega)]
      have hdl : (b.drop (64 * i)).length = 256 - 64 * i := by rw [List.length_drop, hb]
      have hmn : Nat.min (256 - 64 * i) 56 = 56 := by
        show min (256 - 64 * i) 56 = 56
        omega
      have hcp : List.take (56 * i) (l.map byteAV) ++ List.take 56 ((b.drop (64 * i)).map byteAV) ++ List.drop (56 * i + 56) (l.map byteAV) = (partsL b (i + 1) ++ zb (224 - 56 * (i + 1))).map byteAV := by
        rw [← List.map_take, ← List.map_take, ← List.map_drop, ← List.map_append, ← List.map_append, ← hl, parts_copy hb hlt]
      have bad : stampAt b i ≠ stampAt b 0 → openOk b = false := by
        intro h
        have : i = 0 ∨ i = 1 ∨ i = 2 ∨ i = 3 := by omega
        rcases this with rfl | rfl | rfl | rfl
        · exact absurd rfl h
        all_goals simp [openOk, h]
      have next : stampAt b i = stampAt b 0 → ∀ j, j < i + 1 → stampAt b j = stampAt b 0 := fun h j hj => by
        by_cases hji : j = i
        · subst hji; exact h
        · exact hst j (by omega)
      have fi : (if i + 1 = 0 then 0 else stampAt b 0) = stampAt b 0 := by simp
      simp -dsimp -implicitDefEqProofs only [↓j0, ↓j1, ↓j7, ↓j11, ↓j12, ↓j13, ↓j15, j17, j18, j20, ↓j25, ↓j29, ↓j30, j33, ↓j38, ↓j48, ↓j89, ↓j145, ↓j146, ↓j148, ↓j149, j157, j162, j171, ↓reduceIte, Nat.reduceEqDiff, j185, j197, j233, openIn, hd2, hsa, hl]
      refine ⟨fun hz => ?_, fun hz => ?_⟩
      · have hz0 : i = 0 := by simpa using hz
        have hne : (((stampAt b i : Nat) : Int) != ((stampAt b i : Nat) : Int)) = false := by simp
        simp -dsimp -implicitDefEqProofs only [↓j0, ↓j1, ↓j3, ↓j4, ↓j7, ↓j8, ↓j9, ↓j12, ↓j13, ↓j15, j17, j18, j20, j21, j22, j23, j24, ↓j25, ↓j27, ↓j29, ↓j30, j33, ↓j38, ↓j39, ↓j48, ↓j49, ↓j52, ↓j89, ↓j106, j107, ↓j145, ↓j146, ↓j148, ↓j149, ↓j153, j154, j156, j158, AV.proj, AV.offOf, AV.upd, j170, j171, j172, j173, j174, reduceCtorEq, ↓reduceIte, Nat.reduceMul, Nat.reduceEqDiff, j182, j185, j189, j196, j207, j208, j213, j214, j215, j222, bndAV, j232, ↓j238, ↓j239, j240, j311, j335, j340, hz, hne, hql, hb, w3, w4, w6, b1, b2, b3, ul, ub, n1, b4, b5, hxs, hdl, hmn, hcp]
        refine ⟨by kernel_rfl, ?_⟩
        simp -dsimp -implicitDefEqProofs only [↓j0, ↓j1, ↓j7, ↓j15, j17, j18, j20, ↓j25, ↓j29, ↓j30, j33, ↓j38, ↓j48, ↓j89, ↓j145, ↓j146, j154, j171, ↓reduceIte, Nat.reduceEqDiff, j185]
        have h00 : stampAt b i = stampAt b 0 := by rw [hz0]
        exact ⟨n - 1, openSt b (i + 1) (stampAt b 0), by omega, ⟨i + 1, by omega, next h00, rfl⟩, Wk.sub (by simp -dsimp -implicitDefEqProofs only [↓j25, ↓j27, reduceCtorEq, ↓reduceIte, Nat.reduceEqDiff, j182, j202, j203, j204, j205, j223, w4, h00] <;> simp)⟩
      · have hz0 : i ≠ 0 := by simpa using hz
        have hf0 : f = stampAt b 0 := by rw [← hf, if_neg hz0]
        subst hf0
        simp -dsimp -implicitDefEqProofs only [↓j0, ↓j1, ↓j7, ↓j9, ↓j12, ↓j13, ↓j15, j17, j18, j20, ↓j25, ↓j29, ↓j38, ↓j48, ↓j89, ↓j145, ↓j146, ↓j149, j158, j171, ↓reduceIte, Nat.reduceEqDiff, j185, hz]
        refine ⟨fun hne => ?_, fun hne => ?_⟩
        · have hne' : stampAt b i ≠ stampAt b 0 := by
            intro h; rw [h] at hne; simp at hne
          simp -dsimp -implicitDefEqProofs only [↓j0, ↓j1, ↓j7, ↓j10, ↓j12, ↓j15, j17, j18, j19, j20, j21, j22, j23, ↓j25, ↓j27, ↓j29, ↓j30, j32, j33, ↓j39, ↓j44, ↓j54, ↓j78, ↓j124, j125, j127, ↓j145, ↓j146, ↓j153, partsAV, AV.proj, AV.offOf, AV.upd, AV.size, AV.layable, j170, j171, reduceCtorEq, ↓reduceIte, Nat.reduceEqDiff, j182, j214, j218, j219, j240, j333, j442, hne, hpz]
          refine fin0 _ _ _ (bad hne') ?_ ?_ ?_ ?_
          · rfl
          · rfl
          · rfl
          · rfl
        · have heq : stampAt b i = stampAt b 0 := by
            have := hne; simp at this; omega
          simp -dsimp -implicitDefEqProofs only [↓j3, ↓j4, ↓j8, ↓j9, ↓j15, j17, j18, j20, j21, j22, j23, j24, ↓j25, ↓j27, ↓j29, ↓j30, j33, ↓j38, ↓j48, ↓j49, ↓j52, ↓j89, ↓j106, j107, ↓j145, ↓j146, ↓j153, j154, j156, AV.proj, AV.offOf, AV.upd, j170, j171, j172, j173, j174, reduceCtorEq, ↓reduceIte, Nat.reduceMul, Nat.reduceEqDiff, j182, j185, j189, j196, j207, j208, j213, j214, j215, j222, bndAV, j232, ↓j238, ↓j239, j240, j311, j335, j340, hne, hql, hb, w3, w4, w6, b1, b2, b3, ul, ub, n1, b4, b5, hxs, hdl, hmn, hcp]
          refine ⟨by kernel_rfl, ?_⟩
          simp -dsimp -implicitDefEqProofs only [↓j0, ↓j1, ↓j7, ↓j15, j17, j18, j20, ↓j25, ↓j29, ↓j30, j33, ↓j38, ↓j48, ↓j89, ↓j145, ↓j146, j154, j171, ↓reduceIte, Nat.reduceEqDiff, j185]
          exact ⟨n - 1, openSt b (i + 1) (stampAt b 0), by omega, ⟨i + 1, by omega, next heq, rfl⟩, Wk.sub (by simp -dsimp -implicitDefEqProofs only [↓j25, ↓j27, reduceCtorEq, ↓reduceIte, Nat.reduceEqDiff, j182, j202, j203, j204, j205, j223, w4] <;> simp)⟩
  · have hi4 : i = 4 := by omega
    subst hi4
    have hd : decide (((4 : Nat) : Int) < 4) = false := rfl
    have hz0 : zb (224 - 56 * 4) = [] := rfl
    have hpl := partsL_len hb 4 (by omega)
    have hok : openOk b = true := by
      simp [openOk, hst 1 (by omega), hst 2 (by omega), hst 3 (by omega)]
    have e : openP b = (stampAt b 0, partsL b 4, true) := by rw [openP, hok]; rfl
    have hf0 : f = stampAt b 0 := by rw [← hf]; rfl
    subst hf0
    simp -dsimp -implicitDefEqProofs only [↓j0, ↓j1, ↓j3, ↓j4, ↓j7, ↓j8, ↓j11, ↓j12, ↓j13, ↓j15, j17, j18, j19, j20, j21, j22, j23, j24, ↓j25, ↓j27, ↓j29, ↓j30, j32, j33, ↓j38, ↓j39, ↓j43, ↓j44, ↓j48, ↓j76, ↓j78, ↓j89, j129, ↓j145, ↓j146, ↓j148, ↓j149, ↓j153, j159, AV.proj, AV.offOf, AV.upd, AV.size, AV.layable, j170, j171, j172, j173, j174, reduceCtorEq, ↓reduceIte, Nat.reduceMul, Nat.reduceEqDiff, Nat.reduceSub, j182, j185, j240, j333, j334, openSt, hz0, hd, hpl, hpz]
    refine ⟨by kernel_rfl, ?_⟩
    simp -dsimp -implicitDefEqProofs only [↓j10]
    rw [e]
    exact Final.many (.inr rfl) (rs := [.tmp 2, .cell 3 58, .tmp 4]) (us := [.int .u64 (stampAt b 0), arrAV (partsL b 4), .bool true]) rfl ⟨⟨rfl, fun vs h => by cases h⟩, ⟨1, 0, [], _, rfl, rfl, rfl, rfl, by simp -dsimp -implicitDefEqProofs only [j129, Nat.reduceMul, j182, j240, j333, j334, hpl]⟩, ⟨rfl, fun vs h => by cases h⟩, trivial⟩ (by simp) ⟨.same _ trivial, .same _ (on_bytes _ _), .same _ trivial, trivial⟩
end Go.Proofs.Ythfaldoagmkllaa
