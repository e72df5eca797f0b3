import Derived.Test.YtimdepgenefkmaaQ21
set_option maxRecDepth 8000
set_option linter.unusedVariables false
set_option linter.unusedSimpArgs false
namespace Go.Proofs.Ytimdepgenefkmaa.Slot
open Go Go.RowKit

def rgSt (lsn k : Int) (xs : List Old) (i : Nat) : St := ⟨32, [(6, .int .i64 i), (1, .int .u8 k), (2, .ptr 0 0 []), (4, .ptr 1 0 []), (5, .bool false)], [(0, .cells (undoAV lsn xs)), (1, .cells Old.zero.av)], 2⟩
theorem fok51 : fnOk Try.prog 51 = true := by kernel_rfl
theorem rget_spec (lsn k : Int) (xs : List Old) (h0 : 0 ≤ k) (h1 : k ≤ 255) (hl : xs.length ≤ 9223372036854775807) : ACall Try.prog 51 [undoAV lsn xs, .int .u8 k] [] (.tuple [(getP xs k).1.av, .bool (getP xs k).2]) [] := by
  refine ACall.run (Z := Z) (N := 32) mixed hZ Try.func51 rfl rfl (by kernel_rfl) (by simp) args5 0 ?_
  have hwk : IntKind.i64.wrap k = k := wrap_i64 (by omega) (by omega)
  have fin : ∀ (a : Old) (b : Bool) (t : Env) (H : Heap) (m : Nat), look t 4 = some (.ptr 1 0 []) → look t 5 = some (.bool b) → Heap.get H 1 = some (.cells a.av) → (a, b) = getP xs k →
      Final Try.prog Try.f51 (.tuple [(getP xs k).1.av, .bool (getP xs k).2]) [] .ret ⟨32, t, H, m⟩ := by
    intro a b t H m h1 h2 h3 h4
    rw [← h4]
    refine Final.many (.inr rfl) (rs := [.cell 4 32, .tmp 5]) (us := [a.av, .bool b]) rfl ⟨⟨1, 0, [], _, h1, h3, rfl, rfl, by simp -dsimp -implicitDefEqProofs only [j129, AV.size, AV.sizeL, Nat.reduceAdd, j182, j197, j294, j295]⟩, ⟨h2, fun vs h => by cases h⟩, trivial⟩ (by simp) ⟨.same _ (by simp [AV.on, AV.onL]), .same _ trivial, trivial⟩
  simp -dsimp -implicitDefEqProofs only [↓j0, ↓j1, ↓j7, ↓j12, ↓j14, ↓j15, ↓j16, j17, j18, j20, ↓j25, ↓j29, ↓j30, j32, j33, ↓j39, ↓j41, ↓j42, ↓j145, ↓j146, AV.layable, argEnv, j170, j171, j172, ↓reduceIte, Nat.reduceAdd, j196, j423]
  refine AWp.loopR (Z := Z) mixed hZ (by kernel_rfl) (fun n s => ∃ i, i + n = xs.length ∧ (k.toNat < i → (getP xs k) = (.zero, false)) ∧ s = rgSt lsn k xs i) (n0 := xs.length) (s0 := rgSt lsn k xs 0) ?_ ⟨0, by omega, fun h => by omega, rfl⟩ ?_ rfl
  · exact Wk.sub (by simp -dsimp -implicitDefEqProofs only [↓j25, ↓j27, j179, reduceCtorEq, ↓reduceIte, Nat.reduceEqDiff, j182, j183, j184, j202, j203, j204, j205, j209, j223] <;> simp [Old.zero])
  rintro n s ⟨i, hi, hg, rfl⟩
  refine ⟨rfl, ?_⟩
  rcases Nat.lt_or_ge i xs.length with hlt | hge
  · have e1 : decide ((i : Int) < (xs.length : Int)) = true := decide_eq_true (by omega)
    obtain ⟨o, ho⟩ := list_get (xs := xs) (i := i) hlt
    have hsz := sizeL_olds xs i (by omega)
    have hlt2 : (i : Int) < (xs.length : Int) := by omega
    have hw : IntKind.i64.wrap ((i : Int) + 1) = ((i + 1 : Nat) : Int) := by rw [wrap_i64 (by omega) (by omega)]; omega
    by_cases hk : (i : Int) = k
    · have e2 : ((i : Int) == k) = true := by rw [beq_iff_eq]; exact hk
      have hkt : k.toNat = i := by omega
      cases hv : o.live
      · have hgz : getP xs k = (.zero, false) := by simp [getP, hkt, ho, hv]
        simp -dsimp -implicitDefEqProofs only [rgSt, ↓j0, ↓j1, ↓j2, ↓j7, ↓j9, ↓j12, ↓j13, ↓j14, ↓j15, j17, j18, j20, ↓j25, ↓j27, ↓j29, ↓j30, j32, j33, ↓j38, ↓j39, ↓j40, ↓j43, ↓j45, ↓j46, ↓j48, ↓j50, ↓j58, ↓j62, ↓j76, ↓j77, ↓j79, ↓j80, j83, ↓j89, ↓j92, j131, j133, j142, ↓j145, ↓j146, ↓j147, ↓j148, ↓j149, ↓j150, ↓j153, j154, j157, j159, AV.proj, AV.offOf, AV.size, AV.sizeL, j163, j164, j166, j167, j170, j171, j175, j177, ↓reduceIte, Nat.reduceEqDiff, j182, j185, j191, j196, j197, j206, j207, j208, ↓j225, j251, j253, j297, j388, j389, j397, j461, j478, e2, hwk, ho, hsz, hlt2, hv]
        exact ⟨n - 1, rgSt lsn k xs (i + 1), by omega, ⟨i + 1, by omega, fun _ => hgz, rfl⟩, Wk.sub (by simp -dsimp -implicitDefEqProofs only [↓j25, ↓j27, reduceCtorEq, ↓reduceIte, Nat.reduceEqDiff, j182, j202, j203, j204, j205, j223, hw] <;> simp)⟩
      · have hgo : getP xs k = (o, true) := by simp [getP, hkt, ho, hv]
        simp -dsimp -implicitDefEqProofs only [rgSt, ↓j0, ↓j1, ↓j2, ↓j7, ↓j9, ↓j10, ↓j12, ↓j13, ↓j14, ↓j15, j17, j18, j19, j20, j21, j22, j23, ↓j25, ↓j27, ↓j29, ↓j30, j32, ↓j38, ↓j39, ↓j40, ↓j43, ↓j44, ↓j45, ↓j46, ↓j48, ↓j50, ↓j58, ↓j62, ↓j76, ↓j77, ↓j78, ↓j79, ↓j80, j83, ↓j89, ↓j92, j129, j131, j133, j142, ↓j145, ↓j146, ↓j147, ↓j149, ↓j150, ↓j153, j157, j159, AV.proj, AV.offOf, AV.upd, AV.size, AV.sizeL, AV.layable, j163, j164, j166, j167, j170, j171, j175, j177, reduceCtorEq, ↓reduceIte, Nat.reduceAdd, Nat.reduceEqDiff, j182, j185, j191, j196, j197, j206, j207, j208, ↓j225, j251, j253, j294, j295, j297, j388, j389, j397, j461, j478, e2, hwk, ho, hsz, hlt2, hv]
        refine fin o true _ _ _ ?_ ?_ ?_ hgo.symm
        · rfl
        · rfl
        · simp -dsimp -implicitDefEqProofs only [↓j27, ↓reduceIte]
    · have e2 : ((i : Int) == k) = false := by rw [beq_eq_false_iff_ne]; exact hk
      simp -dsimp -implicitDefEqProofs only [rgSt, ↓j0, ↓j1, ↓j2, ↓j7, ↓j9, ↓j12, ↓j13, ↓j14, ↓j15, j17, j18, j20, ↓j25, ↓j27, ↓j29, ↓j30, j32, j33, ↓j38, ↓j39, ↓j40, ↓j43, ↓j45, ↓j48, ↓j50, ↓j58, ↓j62, ↓j76, ↓j79, j82, ↓j89, j133, j142, ↓j145, ↓j146, ↓j147, ↓j148, ↓j149, ↓j150, ↓j153, j154, j157, j159, AV.proj, AV.offOf, AV.size, AV.sizeL, j163, j164, j166, j167, j171, j175, ↓reduceIte, Nat.reduceEqDiff, j182, j185, j191, j196, j197, ↓j225, j251, j388, j397, j461, j478, e2, hwk, hlt2]
      exact ⟨n - 1, rgSt lsn k xs (i + 1), by omega, ⟨i + 1, by omega, fun h => hg (by omega), rfl⟩, Wk.sub (by simp -dsimp -implicitDefEqProofs only [↓j25, ↓j27, reduceCtorEq, ↓reduceIte, Nat.reduceEqDiff, j182, j202, j203, j204, j205, j223, hw] <;> simp)⟩
  · have e1 : decide ((i : Int) < (xs.length : Int)) = false := decide_eq_false (by omega)
    simp -dsimp -implicitDefEqProofs only [rgSt, ↓j0, ↓j1, ↓j7, ↓j10, ↓j11, ↓j12, ↓j13, ↓j15, j17, j18, j19, j20, j21, j22, j23, ↓j25, ↓j27, ↓j29, ↓j30, j32, ↓j38, ↓j39, ↓j43, ↓j44, ↓j45, ↓j48, ↓j54, ↓j58, ↓j62, ↓j76, ↓j78, ↓j79, ↓j89, ↓j124, j125, j127, j133, j142, ↓j145, ↓j146, ↓j148, ↓j149, ↓j153, j159, partsAV, AV.proj, AV.offOf, AV.upd, AV.size, AV.sizeL, AV.layable, j163, j164, j166, j167, j170, j171, reduceCtorEq, ↓reduceIte, Nat.reduceAdd, Nat.reduceEqDiff, j182, j185, j196, j197, j214, j218, j219, j294, j388, j397, j441, j478, e1]
    refine fin .zero false _ _ _ ?_ ?_ ?_ ?_
    · rfl
    · rfl
    · rfl
    · by_cases hk : k.toNat < i
      · exact (hg hk).symm
      · have : xs[k.toNat]? = none := List.getElem?_eq_none (by omega)
        simp [getP, this]
abbrev freeRAV (r : Int × List Old × Int) : AV := .tuple [undoAV r.1 r.2.1, .bool (decide (r.2.2 = 0))]
def rfSt (lsn : Int) (ys : List Old) (n L : Nat) : St := ⟨54, [(9, .int .i64 n), (8, .ptr 6 0 []), (4, .ptr 1 0 []), (5, .bool false)], [(1, .cells zeroU), (6, .cells (.agg [.int .u64 lsn, .sl 5 0 [] 0 L L 6])), (5, .cells (.agg (ys.map Old.av)))], 7⟩
theorem rfree_spec (lsn k : Int) (xs : List Old) (h0 : 0 ≤ k) (h1 : k ≤ 255) (hl : xs.length ≤ 9223372036854775807) : ACall Try.prog 27 [undoAV lsn xs, .int .u8 k] [] (freeRAV (freeP lsn xs k)) [] := by
  refine ACall.run (Z := Z) (N := 54) mixed hZ Try.func27 rfl rfl (by kernel_rfl) (by simp) args5 0 ?_
  have fin0 : ∀ (t : Env) (H : Heap) (m : Nat), look t 4 = some (.ptr 1 0 []) → look t 5 = some (.bool false) → Heap.get H 1 = some (.cells zeroU) → (0, [], 1) = freeP lsn xs k →
      Final Try.prog Try.f27 (freeRAV (freeP lsn xs k)) [] .ret ⟨54, t, H, m⟩ := by
    intro t H m h1 h2 h3 h4
    rw [← h4]
    exact Final.many (.inr rfl) (rs := [.cell 4 71, .tmp 5]) (us := [zeroU, .bool false]) rfl ⟨⟨1, 0, [], _, h1, h3, rfl, rfl, by simp -dsimp -implicitDefEqProofs only [j129, AV.size, AV.sizeL, Nat.reduceAdd, j182, j197, j391, j392]⟩, ⟨h2, fun vs h => by cases h⟩, trivial⟩ (by simp) ⟨frz0, .same _ trivial, trivial⟩
  simp -dsimp -implicitDefEqProofs only [↓j0, ↓j1, ↓j7, ↓j12, ↓j15, j17, j18, j20, ↓j25, ↓j27, ↓j29, ↓j30, j32, ↓j38, ↓j39, ↓j41, ↓j42, ↓j43, ↓j53, ↓j76, j129, ↓j145, ↓j146, ↓j153, AV.proj, AV.offOf, AV.size, AV.sizeL, AV.layable, argEnv, j170, j171, j172, reduceCtorEq, ↓reduceIte, Nat.reduceAdd, Nat.reduceEqDiff, j182, j196, j197, j391, j392, j433]
  refine CallTo.pure (args := [undoAV lsn xs, .int .u8 k]) rfl fok51 (by simp -dsimp -implicitDefEqProofs only [↓j25, ↓j29, j173, j174, ↓reduceIte, Nat.reduceEqDiff]) (fun x hx => (args5 x hx).2) (rget_spec lsn k xs h0 h1 hl) ?_
  cases hg : (getP xs k).2
  · simp -dsimp -implicitDefEqProofs only [↓j0, ↓j1, ↓j2, ↓j7, ↓j10, ↓j12, ↓j13, ↓j15, j17, j18, j19, j20, j21, j22, j23, ↓j25, ↓j27, ↓j29, ↓j30, j32, ↓j38, ↓j39, ↓j40, ↓j41, ↓j44, ↓j54, ↓j55, ↓j57, ↓j78, j81, j84, j85, ↓j124, j125, j127, ↓j145, ↓j146, ↓j147, ↓j149, ↓j151, ↓j153, partsAV, AV.proj, AV.offOf, AV.upd, AV.size, AV.sizeL, AV.layable, j163, j164, j170, j171, j175, reduceCtorEq, ↓reduceIte, Nat.reduceAdd, Nat.reduceEqDiff, j182, j194, j197, j214, j218, j219, j294, j391, j423, j453]
    refine fin0 _ _ _ ?_ ?_ ?_ ?_
    · rfl
    · rfl
    · rfl
    · rw [freeP, if_pos (.inl hg)]
  simp -dsimp -implicitDefEqProofs only [↓j0, ↓j1, ↓j2, ↓j7, ↓j12, ↓j15, j17, j18, j19, j20, j21, j22, j23, ↓j25, ↓j27, ↓j29, ↓j38, ↓j39, ↓j41, ↓j43, ↓j44, ↓j53, ↓j55, ↓j57, ↓j76, ↓j78, j84, j85, j129, ↓j145, ↓j146, ↓j148, ↓j151, ↓j153, AV.proj, AV.offOf, AV.upd, AV.size, AV.sizeL, AV.layable, j163, j164, j170, j171, j175, reduceCtorEq, ↓reduceIte, Nat.reduceAdd, Nat.reduceEqDiff, j182, j193, j197, j294, j391, j392, j423]
  refine CallTo.pure (args := [undoAV lsn xs]) rfl fok49 (by simp -dsimp -implicitDefEqProofs only [↓j25, ↓j29, j173, j174, ↓reduceIte]) (fun x hx => (args1 x hx).2) (rmay_spec lsn xs hl) ?_
  cases hm : may xs
  · simp -dsimp -implicitDefEqProofs only [↓j0, ↓j1, ↓j2, ↓j7, ↓j10, ↓j12, ↓j13, ↓j15, j17, j18, j19, j20, j21, j22, j23, ↓j25, ↓j27, ↓j29, ↓j30, j32, ↓j39, ↓j40, ↓j44, ↓j54, ↓j55, ↓j78, j83, j84, ↓j124, j125, j127, ↓j145, ↓j146, ↓j147, ↓j148, ↓j149, ↓j151, ↓j153, partsAV, AV.proj, AV.offOf, AV.upd, AV.size, AV.sizeL, AV.layable, j163, j164, j170, j171, j175, reduceCtorEq, ↓reduceIte, Nat.reduceAdd, Nat.reduceEqDiff, j182, j194, j195, j197, j214, j218, j219, j391, j453]
    refine fin0 _ _ _ ?_ ?_ ?_ ?_
    · rfl
    · rfl
    · rfl
    · rw [freeP, if_pos (.inr hm)]
  have hlen := may_len hm
  obtain ⟨x0, hx0⟩ : ∃ x0, xs[k.toNat]? = some x0 := by
    cases hx : xs[k.toNat]? with
    | none => simp [getP, hx] at hg
    | some x0 => exact ⟨x0, rfl⟩
  have hkl : k.toNat < xs.length := by
    rcases Nat.lt_or_ge k.toNat xs.length with h | h
    · exact h
    · rw [List.getElem?_eq_none h] at hx0; cases hx0
  have hf : freeP lsn xs k = (lsn, (xs.set k.toNat .zero).take (trimTo (xs.set k.toNat .zero) xs.length), 0) := by
    rw [freeP, if_neg (by simp [hg, hm])]
    simp
  have hsz := sizeL_olds xs k.toNat (by omega)
  have hlt : k < (xs.length : Int) := by omega
  simp -dsimp -implicitDefEqProofs only [↓j0, ↓j1, ↓j2, ↓j7, ↓j9, ↓j12, ↓j13, ↓j15, j17, j18, j20, ↓j25, ↓j27, ↓j29, ↓j30, j32, ↓j40, ↓j43, ↓j53, ↓j55, ↓j76, j83, j84, j129, ↓j145, ↓j146, ↓j148, ↓j149, ↓j151, ↓j153, AV.proj, AV.offOf, AV.size, AV.sizeL, j163, j164, j171, j175, reduceCtorEq, ↓reduceIte, Nat.reduceAdd, Nat.reduceEqDiff, j182, j193, j195, j197, j391, j392]
  refine CallTo.newAt 5 (args := [undoAV lsn xs]) rfl fok50 (by simp -dsimp -implicitDefEqProofs only [↓j25, ↓j29, j173, j174, ↓reduceIte]) (fun x hx => (args1 x hx).2) (show (3 : Nat) ≤ 5 by decide) (kept_own lsn xs (by omega)) ?_
  have hset : (xs.map Old.av).set k.toNat Old.zero.av = (xs.set k.toNat .zero).map Old.av := by rw [List.map_set]
  have hset' : (xs.map Old.av).set k.toNat (AV.agg [AV.bool false, AV.int IntKind.u16 0, AV.int IntKind.u32 0, AV.agg [AV.int IntKind.u16 0, AV.int IntKind.u8 0], AV.str { data := #[] }]) = (xs.set k.toNat .zero).map Old.av := hset
  have hyl : (xs.set k.toNat .zero).length = xs.length := List.length_set
  obtain ⟨ys, hys⟩ : ∃ ys, xs.set k.toNat .zero = ys := ⟨_, rfl⟩
  rw [hys] at hset' hyl hf
  simp -dsimp -implicitDefEqProofs only [↓j0, ↓j1, ↓j7, ↓j12, ↓j14, ↓j15, ↓j16, j17, j18, j19, j20, j21, j22, j23, ↓j25, ↓j27, ↓j29, ↓j38, ↓j39, ↓j41, ↓j43, ↓j44, ↓j45, ↓j46, ↓j54, ↓j58, ↓j61, ↓j76, ↓j78, ↓j79, ↓j93, ↓j124, j125, j127, j135, j143, ↓j145, ↓j146, ↓j153, partsAV, AV.proj, AV.offOf, AV.upd, AV.size, AV.sizeL, AV.layable, j163, j164, j166, j167, j170, j171, j177, reduceCtorEq, ↓reduceIte, Nat.reduceAdd, Nat.reduceEqDiff, j182, j196, j197, j206, j214, j218, j219, j294, j388, j389, j391, j397, j433, j441, j478, h0, hlt, hx0, hsz, hset']
  refine AWp.loopR (Z := Z) mixed hZ (by kernel_rfl) (fun n s => n ≤ xs.length ∧ trimTo ys n = trimTo ys xs.length ∧ s = rfSt lsn ys n xs.length) (n0 := xs.length) (s0 := rfSt lsn ys xs.length xs.length) ?_ ⟨Nat.le_refl _, rfl, rfl⟩ ?_ rfl
  · exact Wk.sub (by simp -dsimp -implicitDefEqProofs only [↓j25, ↓j27, ↓reduceIte, Nat.reduceEqDiff, j182, j202, j203, j204, j205, j223] <;> simp)
  · rintro n s ⟨hn, ht, rfl⟩
    refine ⟨rfl, ?_⟩
    have fin1 : ∀ (t : Env) (H : Heap) (nx : Nat), look t 4 = some (.ptr 1 0 []) → look t 5 = some (.bool true) → Heap.get H 1 = some (.cells (.agg [.int .u64 lsn, .sl 5 0 [] 0 n xs.length 6])) → Heap.get H 5 = some (.cells (.agg (ys.map Old.av))) → trimTo ys n = n →
        Final Try.prog Try.f27 (freeRAV (freeP lsn xs k)) [] .ret ⟨54, t, H, nx⟩ := by
      intro t H nx h1 h2 h3 h5 h4
      rw [hf, ← ht, h4]
      exact Final.many (.inr rfl) (rs := [.cell 4 71, .tmp 5]) (us := [.agg [.int .u64 lsn, .sl 5 0 [] 0 n xs.length 6], .bool true]) rfl ⟨⟨1, 0, [], _, h1, h3, rfl, rfl, by simp -dsimp -implicitDefEqProofs only [j129, AV.size, AV.sizeL, Nat.reduceAdd, j182, j197, j391, j392]⟩, ⟨h2, fun vs h => by cases h⟩, trivial⟩ (by simp) ⟨frz_take (by omega) h5, .same _ trivial, trivial⟩
    have h0n : (0 : Int) ≤ (n : Int) := by omega
    have hnle2 : (n : Int) ≤ (xs.length : Int) := by omega
    cases n with
    | zero =>
      have hd : decide ((0 : Int) < ((0 : Nat) : Int)) = false := rfl
      simp -dsimp -implicitDefEqProofs only [rfSt, ↓j0, ↓j1, ↓j2, ↓j7, ↓j10, ↓j11, ↓j12, ↓j13, ↓j15, j17, j18, j19, j20, j21, j22, j23, ↓j25, ↓j27, ↓j29, ↓j30, j32, j33, ↓j38, ↓j39, ↓j40, ↓j43, ↓j44, ↓j45, ↓j48, ↓j49, ↓j76, ↓j78, ↓j79, j82, ↓j89, ↓j99, j129, j135, ↓j145, ↓j146, ↓j148, ↓j149, ↓j150, ↓j153, j161, AV.proj, AV.offOf, AV.upd, AV.size, AV.sizeL, AV.layable, j163, j164, j166, j167, j168, j169, j170, j171, j175, ↓reduceIte, Nat.reduceAdd, Nat.reduceEqDiff, Int.reduceToNat, j182, j185, j196, j197, j207, bndAV, j232, j233, j234, j387, j388, j389, j391, j392, j397, hd, h0n, hnle2]
      refine fin1 _ _ _ ?_ ?_ ?_ ?_ ?_
      · rfl
      · rfl
      · rfl
      · rfl
      · rfl
    | succ n =>
      have hd : decide ((0 : Int) < ((n + 1 : Nat) : Int)) = true := decide_eq_true (by omega)
      obtain ⟨o, ho⟩ := list_get (xs := ys) (i := n) (by omega)
      have hw : IntKind.i64.wrap (((n + 1 : Nat) : Int) - 1) = (n : Int) := by rw [wrap_i64 (by omega) (by omega)]; omega
      have hnlt : (n : Int) < (xs.length : Int) := by omega
      have hsz2 := sizeL_olds ys n (by omega)
      have hle2 : n ≤ xs.length := by omega
      have hle3 : n + 1 ≤ xs.length := by omega
      simp -dsimp -implicitDefEqProofs only [rfSt, ↓j0, ↓j1, ↓j2, ↓j7, ↓j12, ↓j13, ↓j15, j17, j18, j20, ↓j25, ↓j27, ↓j29, ↓j30, j32, j33, ↓j38, ↓j40, ↓j43, ↓j45, ↓j46, ↓j48, ↓j55, ↓j76, ↓j79, j83, j84, ↓j89, ↓j93, j131, j135, ↓j145, ↓j146, ↓j147, ↓j149, ↓j150, ↓j153, j155, j161, AV.proj, AV.offOf, AV.size, AV.sizeL, j163, j164, j166, j167, j170, j171, j175, j177, ↓reduceIte, Nat.reduceEqDiff, j182, j185, j196, j197, j206, j207, j208, j253, j297, j388, j389, j397, hd, hw, ho, hnlt, hsz2]
      cases hl' : o.live
      · simp -dsimp -implicitDefEqProofs only [↓j0, ↓j1, ↓j7, ↓j9, ↓j14, ↓j15, j17, j18, j20, ↓j25, ↓j29, ↓j30, j33, ↓j38, ↓j39, ↓j48, ↓j89, ↓j145, ↓j146, ↓j147, j155, j171, ↓reduceIte, Nat.reduceEqDiff, j185, j194, hw]
        refine ⟨n, rfSt lsn ys n xs.length, by omega, ⟨hle2, ?_, rfl⟩, Wk.sub (by simp -dsimp -implicitDefEqProofs only [↓j25, ↓j27, ↓reduceIte, Nat.reduceEqDiff, j182, j202, j203, j204, j205, j223] <;> simp)⟩
        rw [← ht, trimTo]
        simp [ho, hl']
      · simp -dsimp -implicitDefEqProofs only [↓j0, ↓j1, ↓j7, ↓j10, ↓j11, ↓j12, ↓j15, j17, j18, j19, j20, j21, j22, j23, ↓j25, ↓j27, ↓j29, ↓j30, j32, ↓j38, ↓j39, ↓j43, ↓j44, ↓j45, ↓j49, ↓j76, ↓j78, ↓j79, ↓j99, j129, j135, ↓j145, ↓j146, ↓j148, ↓j153, AV.proj, AV.offOf, AV.upd, AV.size, AV.sizeL, AV.layable, j163, j164, j166, j167, j168, j169, j170, j171, ↓reduceIte, Nat.reduceAdd, Nat.reduceEqDiff, Int.reduceToNat, j182, j193, j196, j197, j207, bndAV, j232, j233, j234, j387, j388, j389, j391, j392, j397, h0n, hnle2]
        refine fin1 _ _ _ ?_ ?_ ?_ ?_ ?_
        · rfl
        · rfl
        · rfl
        · rfl
        · rw [trimTo]; simp [ho, hl']
theorem rcut_spec (lsn k : Int) (xs : List Old) (h0 : 0 ≤ k) (h1 : k ≤ 255) (hl : xs.length ≤ 9223372036854775807) : ACall Try.prog 28 [undoAV lsn xs, .int .u8 k] [] (freeRAV (cutP lsn xs k)) [] := by
  refine ACall.run (Z := Z) (N := 32) mixed hZ Try.func28 rfl rfl (by kernel_rfl) (by simp) args5 0 ?_
  have fin0 : ∀ (t : Env) (H : Heap) (m : Nat), look t 4 = some (.ptr 1 0 []) → look t 5 = some (.bool false) → Heap.get H 1 = some (.cells zeroU) → (0, [], 1) = cutP lsn xs k →
      Final Try.prog Try.f28 (freeRAV (cutP lsn xs k)) [] .ret ⟨32, t, H, m⟩ := by
    intro t H m h1 h2 h3 h4
    rw [← h4]
    exact Final.many (.inr rfl) (rs := [.cell 4 71, .tmp 5]) (us := [zeroU, .bool false]) rfl ⟨⟨1, 0, [], _, h1, h3, rfl, rfl, by simp -dsimp -implicitDefEqProofs only [j129, AV.size, AV.sizeL, Nat.reduceAdd, j182, j197, j391, j392]⟩, ⟨h2, fun vs h => by cases h⟩, trivial⟩ (by simp) ⟨frz0, .same _ trivial, trivial⟩
  simp -dsimp -implicitDefEqProofs only [↓j0, ↓j1, ↓j7, ↓j12, ↓j15, j17, j18, j20, ↓j25, ↓j27, ↓j29, ↓j30, j32, ↓j38, ↓j39, ↓j41, ↓j42, ↓j43, ↓j53, ↓j76, j129, ↓j145, ↓j146, ↓j153, AV.proj, AV.offOf, AV.size, AV.sizeL, AV.layable, argEnv, j170, j171, j172, reduceCtorEq, ↓reduceIte, Nat.reduceAdd, Nat.reduceEqDiff, j182, j196, j197, j391, j392, j433]
  refine CallTo.pure (args := [undoAV lsn xs, .int .u8 k]) rfl fok51 (by simp -dsimp -implicitDefEqProofs only [↓j25, ↓j29, j173, j174, ↓reduceIte, Nat.reduceEqDiff]) (fun x hx => (args5 x hx).2) (rget_spec lsn k xs h0 h1 hl) ?_
  cases hg : (getP xs k).2
  · simp -dsimp -implicitDefEqProofs only [↓j0, ↓j1, ↓j2, ↓j7, ↓j10, ↓j12, ↓j13, ↓j15, j17, j18, j19, j20, j21, j22, j23, ↓j25, ↓j27, ↓j29, ↓j30, j32, ↓j38, ↓j39, ↓j40, ↓j41, ↓j44, ↓j54, ↓j55, ↓j57, ↓j78, j81, j84, j85, ↓j124, j125, j127, ↓j145, ↓j146, ↓j147, ↓j149, ↓j151, ↓j153, partsAV, AV.proj, AV.offOf, AV.upd, AV.size, AV.sizeL, AV.layable, j163, j164, j170, j171, j175, reduceCtorEq, ↓reduceIte, Nat.reduceAdd, Nat.reduceEqDiff, j182, j194, j197, j214, j218, j219, j294, j391, j423, j453]
    refine fin0 _ _ _ ?_ ?_ ?_ ?_
    · rfl
    · rfl
    · rfl
    · rw [cutP, if_pos (.inl hg)]
  simp -dsimp -implicitDefEqProofs only [↓j0, ↓j1, ↓j2, ↓j7, ↓j12, ↓j15, j17, j18, j19, j20, j21, j22, j23, ↓j25, ↓j27, ↓j29, ↓j38, ↓j39, ↓j41, ↓j43, ↓j44, ↓j53, ↓j55, ↓j57, ↓j76, ↓j78, j84, j85, j129, ↓j145, ↓j146, ↓j148, ↓j151, ↓j153, AV.proj, AV.offOf, AV.upd, AV.size, AV.sizeL, AV.layable, j163, j164, j170, j171, j175, reduceCtorEq, ↓reduceIte, Nat.reduceAdd, Nat.reduceEqDiff, j182, j193, j197, j294, j391, j392, j423]
  refine CallTo.pure (args := [undoAV lsn xs]) rfl fok49 (by simp -dsimp -implicitDefEqProofs only [↓j25, ↓j29, j173, j174, ↓reduceIte]) (fun x hx => (args1 x hx).2) (rmay_spec lsn xs hl) ?_
  cases hm : may xs
  · simp -dsimp -implicitDefEqProofs only [↓j0, ↓j1, ↓j2, ↓j7, ↓j10, ↓j12, ↓j13, ↓j15, j17, j18, j19, j20, j21, j22, j23, ↓j25, ↓j27, ↓j29, ↓j30, j32, ↓j39, ↓j40, ↓j44, ↓j54, ↓j55, ↓j78, j83, j84, ↓j124, j125, j127, ↓j145, ↓j146, ↓j147, ↓j148, ↓j149, ↓j151, ↓j153, partsAV, AV.proj, AV.offOf, AV.upd, AV.size, AV.sizeL, AV.layable, j163, j164, j170, j171, j175, reduceCtorEq, ↓reduceIte, Nat.reduceAdd, Nat.reduceEqDiff, j182, j194, j195, j197, j214, j218, j219, j391, j453]
    refine fin0 _ _ _ ?_ ?_ ?_ ?_
    · rfl
    · rfl
    · rfl
    · rw [cutP, if_pos (.inr hm)]
  have hlen := may_len hm
  obtain ⟨x0, hx0⟩ : ∃ x0, xs[k.toNat]? = some x0 := by
    cases hx : xs[k.toNat]? with
    | none => simp [getP, hx] at hg
    | some x0 => exact ⟨x0, rfl⟩
  have hkl : k.toNat < xs.length := by
    rcases Nat.lt_or_ge k.toNat xs.length with h | h
    · exact h
    · rw [List.getElem?_eq_none h] at hx0; cases hx0
  have hgx : (getP xs k).1 = x0 := by
    simp only [getP, hx0] at hg ⊢
    cases hl : x0.live
    · rw [hl] at hg; simp at hg
    · simp
  have hf : cutP lsn xs k = (lsn, xs.set k.toNat x0.cut, 0) := by
    rw [cutP, if_neg (by simp [hg, hm]), hgx]
  have hsz := sizeL_olds xs k.toNat (by omega)
  have hlt : k < (xs.length : Int) := by omega
  simp -dsimp -implicitDefEqProofs only [↓j0, ↓j1, ↓j2, ↓j7, ↓j9, ↓j12, ↓j13, ↓j15, j17, j18, j20, ↓j25, ↓j27, ↓j29, ↓j30, j32, ↓j40, ↓j43, ↓j53, ↓j55, ↓j76, j83, j84, j129, ↓j145, ↓j146, ↓j148, ↓j149, ↓j151, ↓j153, AV.proj, AV.offOf, AV.size, AV.sizeL, j163, j164, j171, j175, reduceCtorEq, ↓reduceIte, Nat.reduceAdd, Nat.reduceEqDiff, j182, j193, j195, j197, j391, j392]
  refine CallTo.newAt 5 (args := [undoAV lsn xs]) rfl fok50 (by simp -dsimp -implicitDefEqProofs only [↓j25, ↓j29, j173, j174, ↓reduceIte]) (fun x hx => (args1 x hx).2) (show (3 : Nat) ≤ 5 by decide) (kept_own lsn xs (by omega)) ?_
  have hset : (xs.map Old.av).set k.toNat (AV.agg [AV.bool x0.live, AV.int IntKind.u16 x0.page, AV.int IntKind.u32 x0.ts, AV.agg [AV.int IntKind.u16 0, AV.int IntKind.u8 0], AV.str x0.delta]) = (xs.set k.toNat x0.cut).map Old.av := by rw [List.map_set]; rfl
  have hyl : (xs.set k.toNat x0.cut).length = xs.length := List.length_set
  obtain ⟨ys, hys⟩ : ∃ ys, xs.set k.toNat x0.cut = ys := ⟨_, rfl⟩
  rw [hys] at hset hyl hf
  simp -dsimp -implicitDefEqProofs only [↓j0, ↓j1, ↓j7, ↓j10, ↓j12, ↓j15, j17, j18, j19, j20, j21, j22, j23, ↓j25, ↓j27, ↓j29, ↓j30, j32, ↓j38, ↓j39, ↓j41, ↓j43, ↓j44, ↓j45, ↓j46, ↓j54, ↓j76, ↓j78, ↓j79, ↓j93, ↓j124, j125, j127, j129, j135, ↓j145, ↓j146, ↓j153, partsAV, AV.proj, AV.offOf, AV.upd, AV.size, AV.sizeL, AV.layable, j163, j164, j166, j167, j168, j169, j170, j171, j177, reduceCtorEq, ↓reduceIte, Nat.reduceAdd, Nat.reduceEqDiff, j182, j196, j197, j206, j214, j218, j219, j284, j306, j388, j389, j391, j392, j397, j433, j440, h0, hlt, hx0, hsz, hset]
  rw [hf]
  have hfz : ∀ H : Heap, Heap.get H 5 = some (.cells (.agg (ys.map Old.av))) → Frz (fun _ => False) H (.agg [.int .u64 lsn, .sl 5 0 [] 0 xs.length xs.length 6]) (undoAV lsn ys) := fun H h => by
    rw [← hyl]; exact frz_row h
  exact Final.many (.inr rfl) (rs := [.cell 4 71, .tmp 5]) (us := [.agg [.int .u64 lsn, .sl 5 0 [] 0 xs.length xs.length 6], .bool true]) rfl ⟨⟨1, 0, [], _, rfl, rfl, rfl, rfl, by simp -dsimp -implicitDefEqProofs only [j129, AV.size, AV.sizeL, Nat.reduceAdd, j182, j197, j391, j392]⟩, ⟨rfl, fun vs h => by cases h⟩, trivial⟩ (by simp) ⟨hfz _ rfl, .same _ trivial, trivial⟩
end Go.Proofs.Ytimdepgenefkmaa.Slot
