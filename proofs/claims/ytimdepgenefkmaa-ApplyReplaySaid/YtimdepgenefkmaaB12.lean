import Derived.Test.YtimdepgenefkmaaB11
set_option maxRecDepth 8000
set_option linter.unusedVariables false
set_option linter.unusedSimpArgs false
namespace Go.Proofs.Ytimdepgenefkmaa.Slot
open Go Go.RowKit

theorem fok60 : fnOk Try.prog 60 = true := by kernel_rfl
theorem fok49 : fnOk Try.prog 49 = true := by kernel_rfl
def rmT (xs : List Old) (i : Nat) : Env := [(4, .int .i64 i), (3, .int .i64 xs.length), (1, .ptr 0 0 []), (2, .bool false)]
def rmSt (lsn : Int) (xs : List Old) (i c : Nat) : St := ⟨44, rmT xs i, [(0, .cells (undoAV lsn xs))], c + 1⟩
theorem rmay_spec (lsn : Int) (xs : List Old) (hl : xs.length ≤ 9223372036854775807) : ACall Try.prog 49 [undoAV lsn xs] [] (.bool (may xs)) [] := by
  refine ACall.run (Z := Z) (N := 44) mixed hZ Try.func49 rfl rfl (by kernel_rfl) (by simp) args1 0 ?_
  have fin : ∀ (r : Bool) (t : Env) (H : Heap) (m : Nat), r = may xs → look t 2 = some (.bool r) → Final Try.prog Try.f49 (.bool (may xs)) [] .ret ⟨44, t, H, m⟩ := fun r t H m hr h =>
    Final.one (.inr rfl) (r := .tmp 2) rfl ⟨hr ▸ h, fun vs h => by cases h⟩ (fun vs h => by cases h) (fun vs h => by cases h) (.same _ trivial)
  by_cases h15 : 15 < xs.length
  · have e1 : decide (15 < (xs.length : Int)) = true := decide_eq_true (by omega)
    simp -dsimp -implicitDefEqProofs only [↓j0, ↓j1, ↓j7, ↓j10, ↓j12, ↓j13, ↓j15, j17, j18, j20, ↓j25, ↓j27, ↓j29, ↓j30, j32, j33, ↓j38, ↓j39, ↓j42, ↓j43, ↓j45, ↓j48, ↓j58, ↓j62, ↓j76, ↓j79, ↓j89, j133, j142, ↓j145, ↓j146, ↓j147, ↓j149, ↓j153, j161, AV.proj, AV.offOf, AV.size, AV.sizeL, AV.layable, argEnv, j163, j164, j166, j167, j171, j172, ↓reduceIte, Nat.reduceEqDiff, j182, j185, j196, j197, j388, j397, j478, e1]
    exact fin false _ _ _ (by unfold may; rw [decide_eq_false (show ¬ xs.length ≤ 15 by omega)]; rfl) rfl
  have e1 : decide (15 < (xs.length : Int)) = false := decide_eq_false (by omega)
  have m1 : decide (xs.length ≤ 15) = true := decide_eq_true (by omega)
  have hll : ∀ o, xs[xs.length - 1]? = some o → lastOk xs = o.live := fun o h => by
    unfold lastOk; rw [h]
  simp -dsimp -implicitDefEqProofs only [↓j0, ↓j1, ↓j7, ↓j9, ↓j12, ↓j13, ↓j14, ↓j15, ↓j16, j17, j18, j20, ↓j25, ↓j27, ↓j29, ↓j30, j32, j33, ↓j38, ↓j39, ↓j42, ↓j43, ↓j45, ↓j48, ↓j58, ↓j62, ↓j76, ↓j79, ↓j89, j133, j142, ↓j145, ↓j146, ↓j148, ↓j149, ↓j153, j161, AV.proj, AV.offOf, AV.size, AV.sizeL, AV.layable, argEnv, j163, j164, j166, j167, j171, j172, ↓reduceIte, Nat.reduceEqDiff, j182, j185, j196, j197, j388, j397, j478, e1]
  refine AWp.loopR (Z := Z) mixed hZ (by kernel_rfl) (fun n s => ∃ i c, i + n = xs.length ∧ (xs.take i).all okOld = true ∧ (n = 0 → lastOk xs = true) ∧ s = rmSt lsn xs i c) (n0 := xs.length) (s0 := rmSt lsn xs 0 0) ?_ ⟨0, 0, by omega, rfl, fun h => by rw [List.length_eq_zero_iff.1 h]; rfl, rfl⟩ ?_ rfl
  · exact Wk.sub (by simp -dsimp -implicitDefEqProofs only [↓j25, ↓j27, j179, ↓reduceIte, Nat.reduceEqDiff, j182, j183, j184, j196, j202, j203, j204, j205, j209, j223, rmT] <;> simp)
  rintro n s ⟨i, c, hi, ha, hlast, rfl⟩
  refine ⟨rfl, ?_⟩
  cases n with
  | succ n =>
    have hd : decide ((i : Int) < (xs.length : Int)) = true := decide_eq_true (by omega)
    have hlt2 : (i : Int) < (xs.length : Int) := by omega
    obtain ⟨x, hx⟩ := list_get (xs := xs) (i := i) (by omega)
    have hsz2 : AV.sizeL ((xs.map Old.av).take i) = i * 6 := (unif_olds xs).sizeL_take (by simp; omega)
    have hw : IntKind.i64.wrap ((i : Int) + 1) = ((i + 1 : Nat) : Int) := by rw [wrap_i64 (by omega) (by omega)]; omega
    have hn1 : IntKind.i64.wrap ((xs.length : Int) - 1) = ((xs.length - 1 : Nat) : Int) := by rw [wrap_i64 (by omega) (by omega)]; omega
    have hce := cellsEq_old x .zero
    have bad : okOld x = false → may xs = false := fun h => by
      have : xs.all okOld = false := by
        rw [List.all_eq_false]; exact ⟨x, List.mem_of_getElem? hx, by rw [h]; simp⟩
      unfold may; rw [this, Bool.and_false, Bool.false_and]
    have nxt : okOld x = true → (xs.take (i + 1)).all okOld = true := fun h => by
      rw [take_succ hx, List.all_append, ha]; simp [h]
    obtain ⟨z, hz⟩ : ∃ z, x.same .zero = z := ⟨_, rfl⟩
    rw [hz] at hce
    have hce : cellsEq [AV.bool x.live, .int .u16 x.page, .int .u32 x.ts, .int .u16 x.rpage, .int .u8 x.rslot, .str x.delta] [AV.bool false, .int .u16 0, .int .u32 0, .int .u16 0, .int .u8 0, .str ⟨#[]⟩] = some z := hce
    have step : ∀ (t : Env) (H : Heap), okOld x = true → (n = 0 → x.live = true) → SubT (rmT xs (i + 1)) t → Heap.get H 0 = some (.cells (undoAV lsn xs)) → ∃ m s'', m < n + 1 ∧ (∃ i c, i + m = xs.length ∧ (xs.take i).all okOld = true ∧ (m = 0 → lastOk xs = true) ∧ s'' = rmSt lsn xs i c) ∧ Wk ⟨44, t, H, c + 2⟩ s'' := fun t H hf hll2 ht hH =>
      ⟨n, rmSt lsn xs (i + 1) (c + 1), by omega, ⟨i + 1, c + 1, by omega, nxt hf, fun h0 => by rw [hll x (by rw [show xs.length - 1 = i by omega]; exact hx), hll2 h0], rfl⟩, Wk.sub ⟨ht, ⟨hH, trivial⟩, Nat.le_refl _⟩⟩
    cases hxl : x.live
    · by_cases hn : n = 0
      · have e2 : ((i : Int) == ((xs.length - 1 : Nat) : Int)) = true := by rw [beq_iff_eq]; omega
        simp -dsimp -implicitDefEqProofs only [↓j0, ↓j1, ↓j2, ↓j7, ↓j9, ↓j10, ↓j12, ↓j13, ↓j14, ↓j15, j17, j18, j19, j20, j21, j22, j23, ↓j25, ↓j27, ↓j29, ↓j30, j32, j33, ↓j38, ↓j39, ↓j40, ↓j41, ↓j43, ↓j44, ↓j45, ↓j46, ↓j48, ↓j55, ↓j76, ↓j77, ↓j78, ↓j79, j81, j83, j84, ↓j89, ↓j92, j129, j131, j133, ↓j145, ↓j146, ↓j147, ↓j149, ↓j150, ↓j151, ↓j153, j155, j157, j159, AV.proj, AV.offOf, AV.upd, AV.size, AV.sizeL, AV.layable, j163, j164, j166, j167, j170, j171, j175, j177, reduceCtorEq, ↓reduceIte, Nat.reduceAdd, Nat.reduceEqDiff, j182, j185, j191, j194, j196, j197, j206, j207, j208, j224, j253, j294, j295, j297, j388, j389, j397, j423, rmSt, rmT, hlt2, hx, hsz2, hxl, hn1, e2]
        exact fin false _ _ _ (by
          unfold may
          rw [hll x (by rw [show xs.length - 1 = i by omega]; exact hx), hxl, m1]; rfl) rfl
      · have e2 : ((i : Int) == ((xs.length - 1 : Nat) : Int)) = false := by rw [beq_eq_false_iff_ne]; omega
        rw [hxl] at hce
        cases z
        · have hfit : okOld x = false := by unfold okOld; rw [hxl, hz]; rfl
          simp -dsimp -implicitDefEqProofs only [↓j0, ↓j1, ↓j2, ↓j7, ↓j9, ↓j10, ↓j12, ↓j13, ↓j14, ↓j15, j17, j18, j19, j20, j21, j22, j23, ↓j25, ↓j27, ↓j29, ↓j30, j32, j33, ↓j38, ↓j39, ↓j40, ↓j41, ↓j43, ↓j44, ↓j45, ↓j46, ↓j48, ↓j54, ↓j55, ↓j76, ↓j77, ↓j78, ↓j79, j81, j83, j84, ↓j89, ↓j91, ↓j92, ↓j124, j125, j127, j129, j131, j133, ↓j145, ↓j146, ↓j147, ↓j148, ↓j149, ↓j150, ↓j151, ↓j153, j155, j157, j159, partsAV, AV.proj, AV.offOf, AV.upd, AV.size, AV.sizeL, AV.layable, AV.flat, AV.flatL, j163, j164, j166, j167, j170, j171, j172, j173, j174, j175, j177, reduceCtorEq, ↓reduceIte, Nat.reduceAdd, Nat.reduceEqDiff, j182, j185, j191, j194, j195, j196, j197, j206, j207, j208, j212, kindOf, j214, j218, j219, j224, j253, j294, j295, j297, j311, j312, j388, j389, j397, j423, j441, rmSt, rmT, hlt2, hx, hsz2, hxl, hn1, e2, hce]
          exact fin false _ _ _ (bad hfit).symm rfl
        · have hxz := same_iff.1 hz
          have hdl : x.delta.size = 0 := by rw [hxz]; rfl
          have b66 : decide (66 < (x.delta.size : Int)) = false := decide_eq_false (by omega)
          have hfit : okOld x = true := by unfold okOld; rw [hxl, hz, decide_eq_true (show x.delta.size ≤ 66 by omega)]; rfl
          simp -dsimp -implicitDefEqProofs only [↓j0, ↓j1, ↓j2, ↓j7, ↓j9, ↓j12, ↓j13, ↓j14, ↓j15, j17, j18, j19, j20, j21, j22, j23, ↓j25, ↓j27, ↓j29, ↓j30, j32, j33, ↓j38, ↓j39, ↓j40, ↓j41, ↓j43, ↓j44, ↓j45, ↓j46, ↓j48, ↓j54, ↓j55, ↓j58, ↓j59, ↓j76, ↓j77, ↓j78, ↓j79, j83, j84, ↓j89, ↓j91, ↓j92, ↓j124, j125, j127, j129, j131, j132, j133, j141, ↓j145, ↓j146, ↓j147, ↓j148, ↓j149, ↓j150, ↓j151, ↓j153, j154, j155, j157, j159, j161, partsAV, AV.proj, AV.offOf, AV.upd, AV.size, AV.sizeL, AV.layable, AV.flat, AV.flatL, j163, j164, j166, j167, j170, j171, j172, j173, j174, j175, j177, reduceCtorEq, ↓reduceIte, Nat.reduceAdd, Nat.reduceEqDiff, j182, j185, j191, j193, j194, j195, j196, j197, j206, j207, j208, j212, kindOf, j214, j218, j219, j224, j253, j258, j259, j294, j295, j297, j309, j311, j312, j388, j389, j397, j423, j441, rmSt, rmT, hlt2, hx, hsz2, hxl, hn1, e2, hce, b66]
          exact step _ _ hfit (fun h => absurd h hn) (by simp -dsimp -implicitDefEqProofs only [↓j25, ↓reduceIte, Nat.reduceEqDiff, j182, j202, j203, rmT, hw] <;> simp) (by simp [Heap.get])
    · rcases Nat.lt_or_ge 66 x.delta.size with h66 | h66
      · have b66 : decide (66 < (x.delta.size : Int)) = true := decide_eq_true (by omega)
        have hfit : okOld x = false := by unfold okOld; rw [decide_eq_false (by omega), Bool.and_false]
        simp -dsimp -implicitDefEqProofs only [↓j0, ↓j1, ↓j2, ↓j7, ↓j9, ↓j10, ↓j12, ↓j13, ↓j14, ↓j15, j17, j18, j19, j20, j21, j22, j23, ↓j25, ↓j27, ↓j29, ↓j30, j32, j33, ↓j38, ↓j39, ↓j40, ↓j41, ↓j43, ↓j44, ↓j45, ↓j46, ↓j48, ↓j55, ↓j58, ↓j59, ↓j76, ↓j77, ↓j78, ↓j79, j82, j83, j84, ↓j89, ↓j92, j129, j131, j132, j133, j141, ↓j145, ↓j146, ↓j147, ↓j148, ↓j149, ↓j150, ↓j151, ↓j152, ↓j153, j159, j161, AV.proj, AV.offOf, AV.upd, AV.size, AV.sizeL, AV.layable, j163, j164, j166, j167, j170, j171, j175, j177, reduceCtorEq, ↓reduceIte, Nat.reduceAdd, Nat.reduceEqDiff, j182, j185, j191, j193, j195, j196, j197, j206, j207, j208, j224, j253, j258, j259, j294, j295, j297, j309, j388, j389, j397, j423, rmSt, rmT, hlt2, hx, hsz2, hxl, b66]
        exact fin false _ _ _ (bad hfit).symm rfl
      · have b66 : decide (66 < (x.delta.size : Int)) = false := decide_eq_false (by omega)
        have hfit : okOld x = true := by unfold okOld; rw [hxl, decide_eq_true h66]; rfl
        simp -dsimp -implicitDefEqProofs only [↓j0, ↓j1, ↓j2, ↓j7, ↓j9, ↓j12, ↓j13, ↓j14, ↓j15, j17, j18, j19, j20, j21, j22, j23, ↓j25, ↓j27, ↓j29, ↓j30, j32, j33, ↓j38, ↓j39, ↓j40, ↓j41, ↓j43, ↓j44, ↓j45, ↓j46, ↓j48, ↓j55, ↓j58, ↓j59, ↓j76, ↓j77, ↓j78, ↓j79, j82, j83, j84, ↓j89, ↓j92, j129, j131, j132, j133, j141, ↓j145, ↓j146, ↓j147, ↓j148, ↓j149, ↓j150, ↓j151, ↓j152, ↓j153, j154, j159, j161, AV.proj, AV.offOf, AV.upd, AV.size, AV.sizeL, AV.layable, j163, j164, j166, j167, j170, j171, j175, j177, reduceCtorEq, ↓reduceIte, Nat.reduceAdd, Nat.reduceEqDiff, j182, j185, j191, j193, j195, j196, j197, j206, j207, j208, j224, j253, j258, j259, j294, j295, j297, j309, j388, j389, j397, j423, rmSt, rmT, hlt2, hx, hsz2, hxl, b66]
        exact step _ _ hfit (fun _ => hxl) (by simp -dsimp -implicitDefEqProofs only [↓j25, ↓reduceIte, Nat.reduceEqDiff, j182, j202, j203, rmT, hw] <;> simp) (by simp [Heap.get])
  | zero =>
    have hi2 : i = xs.length := by omega
    subst hi2
    have hd : decide ((xs.length : Int) < (xs.length : Int)) = false := decide_eq_false (by omega)
    rw [List.take_of_length_le (Nat.le_refl _)] at ha
    have hsum := sizeOf_bound ha
    have hso := sizeOf_sum xs
    have hle : decide (((sizeOf' xs : Nat) : Int) ≤ 224) = decide (sizeOf' xs ≤ 224) := by
      rw [decide_eq_decide]; omega
    simp -dsimp -implicitDefEqProofs only [↓j0, ↓j1, ↓j7, ↓j11, ↓j12, ↓j13, ↓j15, j17, j18, j20, ↓j25, ↓j27, ↓j29, ↓j38, ↓j43, ↓j48, ↓j53, ↓j76, ↓j89, j129, ↓j145, ↓j146, ↓j148, ↓j149, ↓j153, j159, AV.proj, AV.offOf, AV.size, AV.sizeL, j171, ↓reduceIte, Nat.reduceAdd, Nat.reduceEqDiff, j182, j185, j197, j391, j392, rmSt, rmT, hd]
    refine CallTo.pure (args := [undoAV lsn xs]) rfl fok60 (by simp -dsimp -implicitDefEqProofs only [↓j25, ↓j29, j173, j174, ↓reduceIte]) (fun x hx => (args1 x hx).2) (rsize_spec lsn xs (by rw [hso] at hsum; omega)) ?_
    simp -dsimp -implicitDefEqProofs only [↓j0, ↓j1, ↓j10, j17, j18, j20, ↓j25, ↓j29, ↓j30, j33, ↓j39, ↓j48, ↓j89, ↓j145, ↓j146, j160, j171, ↓reduceIte, j185]
    exact fin _ _ _ _ (by rw [hle]; unfold may; rw [m1, hlast rfl, ha]; rfl) rfl
end Go.Proofs.Ytimdepgenefkmaa.Slot
