/- The document's Open. -/
import Derived.Test.YthfaldoagmkllaaC18
set_option linter.unusedVariables false
set_option linter.unusedSimpArgs false
namespace Go.Proofs.Ythfaldoagmkllaa
open Go Go.RowKit

/-- A byte more of a number that is read of an array. -/
theorem parts_get {b : List UInt8} (hb : b.length = 256) : ∀ n, n ≤ 4 → ∀ i, i < 56 * n → (partsL b n)[i]? = b[i / 56 * 64 + i % 56]?
  | 0, _, i, h => by omega
  | n + 1, hn, i, h => by
    have hl := partsL_len hb n (by omega)
    rcases Nat.lt_or_ge i (56 * n) with h1 | h1
    · rw [partsL, List.getElem?_append_left (by omega)]
      exact parts_get hb n (by omega) i h1
    · rw [partsL, List.getElem?_append_right (by omega), List.getElem?_take, if_pos (by omega), List.getElem?_drop]
      congr 1
      omega
/-- An octet's number put again. -/
theorem put_get : ∀ {l : List UInt8}, putL (getL l) l.length = l := by
  intro l
  apply List.ext_getElem?
  intro i
  rcases Nat.lt_or_ge i l.length with h | h
  · obtain ⟨x, hx⟩ := list_get h
    have e : getL l / 2 ^ (8 * i) % 256 = x.toNat := by
      clear h
      induction l generalizing i with
      | nil => simp at hx
      | cons a l ih =>
        have ha := a.toNat_lt
        cases i with
        | zero => simp at hx; subst hx; simp only [getL, Nat.mul_zero, Nat.pow_zero, Nat.div_one]; omega
        | succ i =>
          have := ih i (by simpa using hx)
          rw [pow_256, Nat.mul_comm, ← Nat.div_div_eq_div_mul, getL]
          rw [show (a.toNat + 256 * getL l) / 256 = getL l by omega]
          exact this
    have h1 : (putL (getL l) l.length)[i]? = some (UInt8.ofNat (getL l / 2 ^ (8 * i))) := by simp [putL, h]
    rw [h1, hx]
    congr 1
    apply UInt8.toNat_inj.1
    rw [UInt8.toNat_ofNat']
    exact e
  · rw [List.getElem?_eq_none (by rw [putL_len]; exact h), List.getElem?_eq_none h]
theorem sec_all {b c : List UInt8} (hb : b.length = 256) (hc : c.length = 256) (h : ∀ j, j < 4 → sec b j = sec c j) : b = c := by
  apply List.ext_getElem?
  intro i
  rcases Nat.lt_or_ge i 256 with hi | hi
  · have e : i = 64 * (i / 64) + i % 64 := by omega
    rw [e, ← sec_get (by omega), ← sec_get (by omega), h _ (by omega)]
  · rw [List.getElem?_eq_none (by omega), List.getElem?_eq_none (by omega)]
theorem openP_eq {b : List UInt8} (hb : b.length = 256) : (sealL (stampAt b 0) (partsL b 4) 4 == b) = openOk b := by
  have hpl := partsL_len hb 4 (Nat.le_refl _)
  rw [Bool.eq_iff_iff, beq_iff_eq]
  constructor
  · intro h
    have := open_seal (st := stampAt b 0) (stampAt_lt b 0) hpl
    rw [h] at this
    unfold openP at this
    split at this
    · assumption
    · have h2 := congrArg (fun r => r.2.2) this
      cases h2
  · intro h
    simp only [openOk, Bool.and_eq_true, beq_iff_eq] at h
    have hst : ∀ j, j < 4 → stampAt b j = stampAt b 0 := fun j hj => by
      match j, hj with
      | 0, _ => rfl
      | 1, _ => exact h.1.1
      | 2, _ => exact h.1.2
      | 3, _ => exact h.2
    refine sec_all (sealL_len _ hpl 4 (Nat.le_refl _)) hb fun j hj => ?_
    rw [sec_seal _ hpl 4 (Nat.le_refl _) j hj]
    have h8 : ((sec b j).drop 56).length = 8 := by rw [List.length_drop, sec_len hb hj]
    have hp8 : putL (stampAt b 0) 8 = (sec b j).drop 56 := by
      rw [← hst j hj, stamp_sec, ← h8, put_get]
    have hp56 : ((partsL b 4).drop (56 * j)).take 56 = (sec b j).take 56 := by
      apply List.ext_getElem?
      intro i
      rcases Nat.lt_or_ge i 56 with hi | hi
      · rw [List.getElem?_take, if_pos hi, List.getElem?_drop, parts_get hb 4 (Nat.le_refl _) _ (by omega), List.getElem?_take, if_pos hi, sec_get (by omega)]
        congr 1; omega
      · have hsl := sec_len hb hj
        rw [List.getElem?_eq_none (by simp; omega), List.getElem?_eq_none (by simp; omega)]
    rw [sealPart, hp8, hp56, List.take_append_drop]

def roIn (b : List UInt8) (i : Nat) : St := ⟨47, [(7, .int .i64 i), (6, .int .u64 (2 ^ (8 * i) % 18446744073709551616 : Nat)), (5, .int .u64 (getL ((b.drop 56).take i))), (1, .ptr 0 0 []), (3, .ptr 1 0 []), (2, .int .u64 0), (4, .bool false)], [(0, .cells (arrAV b)), (1, .cells (arrAV (zb 224)))], 2⟩
def roSt (b : List UInt8) (i : Nat) : St := ⟨47, [(9, .int .i64 i), (8, .ptr 2 0 []), (5, .int .u64 (stampAt b 0)), (1, .ptr 0 0 []), (3, .ptr 1 0 []), (2, .int .u64 0), (4, .bool false)], [(2, .cells (arrAV ((partsL b 4).take i ++ zb (224 - i)))), (0, .cells (arrAV b)), (1, .cells (arrAV (zb 224)))], 3⟩
theorem fok29 : fnOk Try.prog 29 = true := by kernel_rfl
theorem ropen_spec (b : List UInt8) (hb : b.length = 256) : ACall Try.prog 33 [arrAV b] [] (openAV (openP b)) [] := by
  refine ACall.run (Z := Z) (N := 47) mixed hZ Try.func33 rfl rfl (by kernel_rfl) (by simp) args_arr 0 ?_
  have hpz := zb_len 224
  have hpl := partsL_len hb 4 (Nat.le_refl _)
  have hoe := openP_eq hb
  simp -dsimp -implicitDefEqProofs only [↓j0, ↓j1, ↓j7, ↓j12, ↓j14, ↓j15, ↓j16, j17, j18, j20, ↓j25, ↓j29, ↓j30, j32, j33, ↓j39, ↓j41, ↓j42, ↓j145, ↓j146, AV.layable, argEnv, j170, j171, j172, ↓reduceIte, Nat.reduceAdd, j196, j419]
  refine AWp.loopR (Z := Z) mixed hZ (by kernel_rfl) (fun n s => ∃ i, i + n = 8 ∧ s = roIn b i) (n0 := 8) (s0 := roIn b 0) ?_ ⟨0, by omega, rfl⟩ ?_ rfl
  · exact Wk.sub (by simp -dsimp -implicitDefEqProofs only [↓j25, ↓j27, j167, j179, reduceCtorEq, ↓reduceIte, Nat.reduceMul, Nat.reduceEqDiff, j182, j183, j184, j202, j203, j204, j205, j209, j223, Nat.reducePow] <;> simp [getL])
  rintro n s ⟨i, hi, rfl⟩
  refine ⟨rfl, ?_⟩
  rcases Nat.lt_or_ge i 8 with hlt | hge
  · have hd : decide ((i : Int) < 8) = true := decide_eq_true (by omega)
    obtain ⟨c, hc⟩ := list_get (xs := b) (i := 56 + i) (by omega)
    obtain ⟨m1, m2⟩ := get_more (s := b) (o := 56) hlt hc
    have hw1 : IntKind.i64.wrap (56 + (i : Int)) = ((56 + i : Nat) : Int) := by rw [wrap_i64 (by omega) (by omega)]; omega
    have hw2 : IntKind.i64.wrap ((i : Int) + 1) = ((i + 1 : Nat) : Int) := by rw [wrap_i64 (by omega) (by omega)]; omega
    have hcl := c.toNat_lt
    have hwb : IntKind.u64.wrap (c.toNat : Int) = (c.toNat : Int) := by rw [wrap_u64, Nat.mod_eq_of_lt (by omega)]
    have hix : ((56 + i : Nat) : Int) < ((256 : Nat) : Int) := by omega
    have hsz : AV.sizeL ((b.map byteAV).take (56 + i)) = (56 + i) * 1 := (unif_bytes b).sizeL_take (by simp; omega)
    obtain ⟨j, hj⟩ : ∃ j, 56 + i = j := ⟨_, rfl⟩
    rw [hj] at hc hw1 hix hsz
    simp -dsimp -implicitDefEqProofs only [↓j0, ↓j1, ↓j7, ↓j9, ↓j12, ↓j13, ↓j14, ↓j15, j17, j18, j20, ↓j25, ↓j27, ↓j29, ↓j30, j33, ↓j38, ↓j39, ↓j43, ↓j46, ↓j48, ↓j50, ↓j76, ↓j89, ↓j94, j130, ↓j145, ↓j146, ↓j147, ↓j149, ↓j153, j154, j156, j159, AV.proj, AV.offOf, j171, j177, ↓reduceIte, Nat.reduceEqDiff, j182, j185, j196, j197, j206, j207, j208, ↓j225, j255, j262, j306, j459, roIn, hd, hw1, hix, hc, hsz, byteAV, hwb, m1, m2]
    exact ⟨n - 1, roIn b (i + 1), by omega, ⟨i + 1, by omega, rfl⟩, Wk.sub (by simp -dsimp -implicitDefEqProofs only [↓j25, ↓j27, reduceCtorEq, ↓reduceIte, Nat.reduceEqDiff, j182, j202, j203, j204, j205, j223, hw2] <;> simp)⟩
  have hi8 : i = 8 := by omega
  subst hi8
  have hd : decide (((8 : Nat) : Int) < 8) = false := rfl
  have hst : getL ((b.drop 56).take 8) = stampAt b 0 := rfl
  simp -dsimp -implicitDefEqProofs only [↓j0, ↓j1, ↓j7, ↓j11, ↓j12, ↓j13, ↓j14, ↓j15, ↓j16, j17, j18, j20, ↓j25, ↓j29, ↓j30, j33, ↓j38, ↓j39, ↓j41, ↓j48, ↓j89, ↓j145, ↓j146, ↓j148, ↓j149, j159, j170, j171, ↓reduceIte, Nat.reduceAdd, Nat.reduceMul, j185, Nat.reducePow, j419, roIn, hd, hst]
  refine AWp.loopR (Z := Z) mixed hZ (by kernel_rfl) (fun n s => ∃ i, i + n = 224 ∧ s = roSt b i) (n0 := 224) (s0 := roSt b 0) ?_ ⟨0, by omega, rfl⟩ ?_ rfl
  · exact Wk.sub (by simp -dsimp -implicitDefEqProofs only [↓j25, ↓j27, j167, j171, j179, reduceCtorEq, ↓reduceIte, Nat.reduceEqDiff, j182, j183, j184, j202, j203, j204, j205, j209, j223, j233] <;> simp)
  clear hi hge n
  rintro n s ⟨i, hi, rfl⟩
  refine ⟨rfl, ?_⟩
  have hll := fillB_len (l := partsL b 4) (n := 224) (i := i) (by omega) (by omega)
  obtain ⟨l, hl⟩ : ∃ l, (partsL b 4).take i ++ zb (224 - i) = l := ⟨_, rfl⟩
  rcases Nat.lt_or_ge i 224 with hlt | hge
  · have hd : decide ((i : Int) < 224) = true := decide_eq_true (by omega)
    have w1 : IntKind.i64.wrap ((i : Int).tdiv 56) = ((i / 56 : Nat) : Int) := by
      rw [Int.tdiv_eq_ediv_of_nonneg (by omega), wrap_i64 (by omega) (by omega)]; omega
    have w2 : (i : Int).tmod 56 = ((i % 56 : Nat) : Int) := by rw [Int.tmod_eq_emod_of_nonneg (by omega)]; omega
    have w3 : IntKind.i64.wrap (((i / 56 : Nat) : Int) * 64) = ((i / 56 * 64 : Nat) : Int) := by rw [wrap_i64 (by omega) (by omega)]; omega
    have w5 : IntKind.i64.wrap ((i : Int) + 1) = ((i + 1 : Nat) : Int) := by rw [wrap_i64 (by omega) (by omega)]; omega
    have hg := parts_get hb 4 (Nat.le_refl _) i (by omega)
    obtain ⟨j, hj⟩ : ∃ j, i / 56 * 64 + i % 56 = j := ⟨_, rfl⟩
    have w4 : IntKind.i64.wrap (((i / 56 * 64 : Nat) : Int) + ((i % 56 : Nat) : Int)) = (j : Int) := by rw [wrap_i64 (by omega) (by omega)]; omega
    obtain ⟨x, hx⟩ := list_get (xs := b) (i := j) (by omega)
    rw [hj, hx] at hg
    have hjx : (j : Int) < ((256 : Nat) : Int) := by omega
    have hix : (i : Int) < ((224 : Nat) : Int) := by omega
    have hsz : AV.sizeL ((b.map byteAV).take j) = j * 1 := (unif_bytes b).sizeL_take (by simp; omega)
    rw [hl] at hll
    have hsz2 : AV.sizeL ((l.map byteAV).take i) = i * 1 := (unif_bytes l).sizeL_take (by simp; omega)
    obtain ⟨y, hy⟩ := list_get (xs := l) (i := i) (by omega)
    have hset : (l.map byteAV).set i (.int .u8 (x.toNat : Int)) = ((partsL b 4).take (i + 1) ++ zb (224 - (i + 1))).map byteAV := by
      have : AV.int .u8 (x.toNat : Int) = byteAV x := rfl
      rw [this, ← List.map_set, ← hl, fillB_step hg hlt]
    simp -dsimp -implicitDefEqProofs only [↓j0, ↓j1, ↓j7, ↓j9, ↓j12, ↓j13, ↓j14, ↓j15, j17, j18, j19, j20, j21, j22, j23, ↓j25, ↓j27, ↓j29, ↓j30, j33, ↓j38, ↓j39, ↓j43, ↓j44, ↓j46, ↓j48, ↓j76, ↓j78, ↓j89, ↓j94, j108, j109, j130, ↓j145, ↓j146, ↓j147, ↓j149, ↓j153, j154, j156, j159, AV.proj, AV.offOf, AV.upd, AV.size, AV.layable, j170, j171, j177, reduceCtorEq, ↓reduceIte, Nat.reduceEqDiff, Int.reduceEq, j182, j185, j196, j197, j206, j207, j208, j254, j255, j306, j330, roSt, hl, hd, w1, w2, w3, w4, hx, hjx, hsz, hix, hy, hsz2, byteAV, hset]
    exact ⟨n - 1, roSt b (i + 1), by omega, ⟨i + 1, by omega, rfl⟩, Wk.sub (by simp -dsimp -implicitDefEqProofs only [↓j25, ↓j27, reduceCtorEq, ↓reduceIte, Nat.reduceEqDiff, j182, j202, j203, j204, j205, j223, w5] <;> simp)⟩
  have hi' : i = 224 := by omega
  subst hi'
  have hd : decide (((224 : Nat) : Int) < 224) = false := rfl
  have e : (partsL b 4).take 224 ++ zb (224 - 224) = partsL b 4 := by
    rw [List.take_of_length_le (by omega)]; simp [zb]
  rw [e] at hl
  have hpl' : (partsL b 4).length = 224 := hpl
  have hse := rseal_spec (stampAt b 0) (partsL b 4) (stampAt_lt b 0) hpl'
  have hsl : (sealL (stampAt b 0) (partsL b 4) 4).length = 256 := sealL_len _ hpl 4 (Nat.le_refl _)
  have hce := cellsEq_bytes (l := sealL (stampAt b 0) (partsL b 4) 4) (k := b) (by omega)
  have hkb := kinds_bytes hsl
  rw [hoe] at hce
  simp -dsimp -implicitDefEqProofs only [↓j0, ↓j1, ↓j4, ↓j7, ↓j8, ↓j11, ↓j12, ↓j13, ↓j15, j17, j18, j20, j24, ↓j25, ↓j27, ↓j29, ↓j30, j33, ↓j38, ↓j43, ↓j48, ↓j53, ↓j76, ↓j89, j129, ↓j145, ↓j146, ↓j148, ↓j149, ↓j153, j159, AV.proj, AV.offOf, j170, j171, j172, j174, ↓reduceIte, Nat.reduceEqDiff, Nat.reduceSub, j182, j185, j240, j328, j329, roSt, e, hd, hpl']
  refine CallTo.pure (args := [.int .u64 (stampAt b 0), arrAV (partsL b 4)]) rfl fok29 (by simp -dsimp -implicitDefEqProofs only [↓j25, ↓j29, j173, j174, ↓reduceIte, Nat.reduceEqDiff]) (notup (fun vs h => by cases h) fun vs h => by cases h) hse ?_
  simp -dsimp -implicitDefEqProofs only [↓j3, ↓j4, j17, j18, j20, j24, ↓j25, ↓j27, ↓j29, ↓j43, ↓j48, ↓j76, ↓j91, j129, ↓j145, ↓j146, ↓j153, AV.proj, AV.offOf, j170, j171, j172, j174, reduceCtorEq, ↓reduceIte, Nat.reduceEqDiff, j182, j212, j240, j241, j304, j305, j307, j308, hb, hce, hkb]
  obtain ⟨k, hk⟩ : ∃ k, openOk b = k := ⟨_, rfl⟩
  have fin : ∀ (st : Nat) (q : List UInt8) (t : Env) (H : Heap) (m : Nat), openP b = (st, q, k) → q.length = 224 → look t 2 = some (.int .u64 st) → look t 3 = some (.ptr 1 0 []) → look t 4 = some (.bool k) → Heap.get H 1 = some (.cells (arrAV q)) →
      Final Try.prog Try.f33 (openAV (openP b)) [] .ret ⟨47, t, H, m⟩ := by
    intro st q t H m he hq h2 h3 h4 h1
    rw [he]
    exact Final.many (.inr rfl) (rs := [.tmp 2, .cell 3 57, .tmp 4]) (us := [.int .u64 st, arrAV q, .bool k]) rfl ⟨⟨h2, fun vs h => by cases h⟩, ⟨1, 0, [], _, h3, h1, rfl, rfl, by simp -dsimp -implicitDefEqProofs only [j129, j182, j240, j328, j329, hq]⟩, ⟨h4, fun vs h => by cases h⟩, trivial⟩ (by simp) ⟨.same _ trivial, .same _ (on_bytes _ _), .same _ trivial, trivial⟩
  rw [hk]
  refine ⟨by kernel_rfl, ?_⟩
  cases k
  · simp -dsimp -implicitDefEqProofs only [↓j0, ↓j1, ↓j7, ↓j10, ↓j12, ↓j13, ↓j15, j17, j18, j19, j20, j21, j22, j23, ↓j25, ↓j27, ↓j29, ↓j30, j32, j33, ↓j39, ↓j44, ↓j54, ↓j78, ↓j124, j125, j127, ↓j145, ↓j146, ↓j147, ↓j149, ↓j153, partsAV, AV.proj, AV.offOf, AV.upd, AV.size, AV.layable, j170, j171, reduceCtorEq, ↓reduceIte, Nat.reduceEqDiff, j182, j194, j214, j218, j219, j240, j328, j441, hpz]
    exact fin 0 (zb 224) _ _ _ (by rw [openP, hk]; rfl) hpz rfl rfl rfl rfl
  · simp -dsimp -implicitDefEqProofs only [↓j3, ↓j4, ↓j8, ↓j9, ↓j12, ↓j13, ↓j15, j17, j18, j19, j20, j21, j22, j23, j24, ↓j25, ↓j27, ↓j29, ↓j30, j32, ↓j38, ↓j39, ↓j43, ↓j44, ↓j76, ↓j78, j129, ↓j145, ↓j146, ↓j148, ↓j149, ↓j153, AV.proj, AV.offOf, AV.upd, AV.size, AV.layable, j170, j171, j172, j173, j174, reduceCtorEq, ↓reduceIte, Nat.reduceEqDiff, j182, j193, j240, j328, j329, hpl', hpz]
    refine ⟨by kernel_rfl, ?_⟩
    exact fin (stampAt b 0) (partsL b 4) _ _ _ (by rw [openP, hk]; rfl) hpl' rfl rfl rfl rfl
end Go.Proofs.Ythfaldoagmkllaa
