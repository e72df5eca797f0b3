import Derived.Test.YtimdepgenefkmaaP27
set_option maxRecDepth 8000
set_option linter.unusedVariables false
set_option linter.unusedSimpArgs false
namespace Go.Proofs.Ytimdepgenefkmaa
open Go Go.RowKit

def rmT (u : Ud) (i : Nat) : Env := [(4, .int .i64 i), (3, .int .i64 u.olds.length), (1, .ptr 0 0 []), (2, .bool false)]
def rmSt (u : Ud) (i c : Nat) : St := ⟨44, rmT u i, [(0, .cells u.av)], c + 1⟩
theorem rmay_spec (u : Ud) (hu : u.Ok) : ACall Try.prog 49 [u.av] [] (.bool (mayP u)) [] := by
  refine ACall.run (Z := Z) (N := 44) mixed hZ Try.func49 rfl rfl (by kernel_rfl) (by simp) args_ud 0 ?_
  have hl := hu.len
  have fin : ∀ (r : Bool) (t : Env) (H : Heap) (m : Nat), r = mayP u → look t 2 = some (.bool r) → Final Try.prog Try.f49 (.bool (mayP u)) [] .ret ⟨44, t, H, m⟩ := fun r t H m hr h =>
    Final.one (.inr rfl) (r := .tmp 2) rfl ⟨hr ▸ h, fun vs h => by cases h⟩ (fun vs h => by cases h) (fun vs h => by cases h) (.same _ trivial)
  by_cases h15 : 15 < u.olds.length
  · have e1 : decide (15 < (u.olds.length : Int)) = true := decide_eq_true (by omega)
    simp -dsimp -implicitDefEqProofs only [↓j0, ↓j1, ↓j7, ↓j10, ↓j12, ↓j13, ↓j15, j17, j18, j20, ↓j25, ↓j27, ↓j29, ↓j30, j32, j33, ↓j38, ↓j39, ↓j42, ↓j43, ↓j45, ↓j48, ↓j58, ↓j62, ↓j76, ↓j79, ↓j89, j133, j142, ↓j145, ↓j146, ↓j147, ↓j149, ↓j153, j161, AV.proj, AV.offOf, AV.size, AV.sizeL, AV.layable, argEnv, j163, j164, j166, j167, j171, j172, ↓reduceIte, Nat.reduceEqDiff, j182, j185, j196, j197, j388, j397, j478, e1]
    exact fin false _ _ _ (by unfold mayP; rw [decide_eq_false (show ¬ u.olds.length ≤ 15 by omega)]; rfl) rfl
  have e1 : decide (15 < (u.olds.length : Int)) = false := decide_eq_false (by omega)
  have m1 : decide (u.olds.length ≤ 15) = true := decide_eq_true (by omega)
  have hll : ∀ o, u.olds[u.olds.length - 1]? = some o → lastLive u.olds = o.live := fun o h => by
    unfold lastLive; rw [List.getLast?_eq_getElem?, h]
  simp -dsimp -implicitDefEqProofs only [↓j0, ↓j1, ↓j7, ↓j9, ↓j12, ↓j13, ↓j14, ↓j15, ↓j16, j17, j18, j20, ↓j25, ↓j27, ↓j29, ↓j30, j32, j33, ↓j38, ↓j39, ↓j42, ↓j43, ↓j45, ↓j48, ↓j58, ↓j62, ↓j76, ↓j79, ↓j89, j133, j142, ↓j145, ↓j146, ↓j148, ↓j149, ↓j153, j161, AV.proj, AV.offOf, AV.size, AV.sizeL, AV.layable, argEnv, j163, j164, j166, j167, j171, j172, ↓reduceIte, Nat.reduceEqDiff, j182, j185, j196, j197, j388, j397, j478, e1]
  refine AWp.loopR (Z := Z) mixed hZ (by kernel_rfl) (fun n s => ∃ i c, i + n = u.olds.length ∧ (u.olds.take i).all Od.fit = true ∧ (n = 0 → lastLive u.olds = true) ∧ s = rmSt u i c) (n0 := u.olds.length) (s0 := rmSt u 0 0) ?_ ⟨0, 0, by omega, rfl, fun h => by rw [List.length_eq_zero_iff.1 h]; rfl, rfl⟩ ?_ rfl
  · exact Wk.sub (by simp -dsimp -implicitDefEqProofs only [↓j25, ↓j27, j179, ↓reduceIte, Nat.reduceEqDiff, j182, j183, j184, j196, j202, j203, j204, j205, j209, j223, rmT] <;> simp)
  rintro n s ⟨i, c, hi, ha, hlast, rfl⟩
  refine ⟨rfl, ?_⟩
  cases n with
  | succ n =>
    have hd : decide ((i : Int) < (u.olds.length : Int)) = true := decide_eq_true (by omega)
    have hlt2 : (i : Int) < (u.olds.length : Int) := by omega
    obtain ⟨x, hx⟩ := list_get (xs := u.olds) (i := i) (by omega)
    have hsz2 : AV.sizeL ((u.olds.map Od.av).take i) = i * 6 := (unif_od u.olds).sizeL_take (by simp; omega)
    have hw : IntKind.i64.wrap ((i : Int) + 1) = ((i + 1 : Nat) : Int) := by rw [wrap_i64 (by omega) (by omega)]; omega
    have hn1 : IntKind.i64.wrap ((u.olds.length : Int) - 1) = ((u.olds.length - 1 : Nat) : Int) := by rw [wrap_i64 (by omega) (by omega)]; omega
    have hce := cellsEq_od x .zero
    have bad : x.fit = false → mayP u = false := fun h => by
      have : u.olds.all Od.fit = false := by
        rw [List.all_eq_false]; exact ⟨x, List.mem_of_getElem? hx, by rw [h]; simp⟩
      unfold mayP; rw [this, Bool.and_false, Bool.false_and]
    have nxt : x.fit = true → (u.olds.take (i + 1)).all Od.fit = true := fun h => by
      rw [take_succ hx, List.all_append, ha]; simp [h]
    obtain ⟨z, hz⟩ : ∃ z, x.eqb .zero = z := ⟨_, rfl⟩
    rw [hz] at hce
    have hce : cellsEq [AV.bool x.live, .int .u16 x.page, .int .u32 x.ts, .int .u16 x.npg, .int .u8 x.nsl.toNat, .str ⟨x.delta.toArray⟩] [AV.bool false, .int .u16 0, .int .u32 0, .int .u16 0, .int .u8 0, .str ⟨#[]⟩] = some z := hce
    have step : ∀ (t : Env) (H : Heap), x.fit = true → (n = 0 → x.live = true) → SubT (rmT u (i + 1)) t → Heap.get H 0 = some (.cells u.av) → ∃ m s'', m < n + 1 ∧ (∃ i c, i + m = u.olds.length ∧ (u.olds.take i).all Od.fit = true ∧ (m = 0 → lastLive u.olds = true) ∧ s'' = rmSt u i c) ∧ Wk ⟨44, t, H, c + 2⟩ s'' := fun t H hf hll2 ht hH =>
      ⟨n, rmSt u (i + 1) (c + 1), by omega, ⟨i + 1, c + 1, by omega, nxt hf, fun h0 => by rw [hll x (by rw [show u.olds.length - 1 = i by omega]; exact hx), hll2 h0], rfl⟩, Wk.sub ⟨ht, ⟨hH, trivial⟩, Nat.le_refl _⟩⟩
    cases hxl : x.live
    · by_cases hn : n = 0
      · have e2 : ((i : Int) == ((u.olds.length - 1 : Nat) : Int)) = true := by rw [beq_iff_eq]; omega
        simp -dsimp -implicitDefEqProofs only [↓j0, ↓j1, ↓j2, ↓j7, ↓j9, ↓j10, ↓j12, ↓j13, ↓j14, ↓j15, j17, j18, j19, j20, j21, j22, j23, ↓j25, ↓j27, ↓j29, ↓j30, j32, j33, ↓j38, ↓j39, ↓j40, ↓j41, ↓j43, ↓j44, ↓j45, ↓j46, ↓j48, ↓j55, ↓j76, ↓j77, ↓j78, ↓j79, j81, j83, j84, ↓j89, ↓j92, j129, j131, j133, ↓j145, ↓j146, ↓j147, ↓j149, ↓j150, ↓j151, ↓j153, j155, j157, j159, AV.proj, AV.offOf, AV.upd, AV.size, AV.sizeL, AV.layable, j163, j164, j166, j167, j170, j171, j175, j177, reduceCtorEq, ↓reduceIte, Nat.reduceAdd, Nat.reduceEqDiff, j182, j185, j191, j194, j196, j197, j206, j207, j208, j224, j253, j294, j295, j297, j388, j389, j397, j423, rmSt, rmT, hlt2, hx, hsz2, hxl, hn1, e2]
        exact fin false _ _ _ (by
          unfold mayP
          rw [hll x (by rw [show u.olds.length - 1 = i by omega]; exact hx), hxl, m1]; rfl) rfl
      · have e2 : ((i : Int) == ((u.olds.length - 1 : Nat) : Int)) = false := by rw [beq_eq_false_iff_ne]; omega
        rw [hxl] at hce
        cases z
        · have hfit : x.fit = false := by unfold Od.fit; rw [hxl, hz]; rfl
          simp -dsimp -implicitDefEqProofs only [↓j0, ↓j1, ↓j2, ↓j7, ↓j9, ↓j10, ↓j12, ↓j13, ↓j14, ↓j15, j17, j18, j19, j20, j21, j22, j23, ↓j25, ↓j27, ↓j29, ↓j30, j32, j33, ↓j38, ↓j39, ↓j40, ↓j41, ↓j43, ↓j44, ↓j45, ↓j46, ↓j48, ↓j54, ↓j55, ↓j76, ↓j77, ↓j78, ↓j79, j81, j83, j84, ↓j89, ↓j91, ↓j92, ↓j124, j125, j127, j129, j131, j133, ↓j145, ↓j146, ↓j147, ↓j148, ↓j149, ↓j150, ↓j151, ↓j153, j155, j157, j159, partsAV, AV.proj, AV.offOf, AV.upd, AV.size, AV.sizeL, AV.layable, AV.flat, AV.flatL, j163, j164, j166, j167, j170, j171, j172, j173, j174, j175, j177, reduceCtorEq, ↓reduceIte, Nat.reduceAdd, Nat.reduceEqDiff, j182, j185, j191, j194, j195, j196, j197, j206, j207, j208, j212, kindOf, j214, j218, j219, j224, j253, j294, j295, j297, j311, j312, j388, j389, j397, j423, j441, rmSt, rmT, hlt2, hx, hsz2, hxl, hn1, e2, hce]
          exact fin false _ _ _ (bad hfit).symm rfl
        · have hxz := Od.eqb_iff.1 hz
          have hdl : x.delta.length = 0 := by rw [hxz]; rfl
          have b66 : decide (66 < (x.delta.length : Int)) = false := decide_eq_false (by omega)
          have hfit : x.fit = true := by unfold Od.fit; rw [hxl, hz, decide_eq_true (show x.delta.length ≤ 66 by omega)]; rfl
          simp -dsimp -implicitDefEqProofs only [↓j0, ↓j1, ↓j2, ↓j7, ↓j9, ↓j12, ↓j13, ↓j14, ↓j15, j17, j18, j19, j20, j21, j22, j23, ↓j25, ↓j27, ↓j29, ↓j30, j32, j33, ↓j38, ↓j39, ↓j40, ↓j41, ↓j43, ↓j44, ↓j45, ↓j46, ↓j48, ↓j54, ↓j55, ↓j58, ↓j59, ↓j76, ↓j77, ↓j78, ↓j79, j83, j84, ↓j89, ↓j91, ↓j92, ↓j124, j125, j127, j129, j131, j132, j133, j141, ↓j145, ↓j146, ↓j147, ↓j148, ↓j149, ↓j150, ↓j151, ↓j153, j154, j155, j157, j159, j161, partsAV, AV.proj, AV.offOf, AV.upd, AV.size, AV.sizeL, AV.layable, AV.flat, AV.flatL, j163, j164, j166, j167, j170, j171, j172, j173, j174, j175, j177, reduceCtorEq, ↓reduceIte, Nat.reduceAdd, Nat.reduceEqDiff, j182, j185, j191, j193, j194, j195, j196, j197, j206, j207, j208, j212, kindOf, j214, j218, j219, j224, j253, j258, j259, j294, j295, j297, j309, j311, j312, j388, j389, j397, j423, j441, rmSt, rmT, hlt2, hx, hsz2, hxl, hn1, e2, hce, str_bytes, b66]
          exact step _ _ hfit (fun h => absurd h hn) (by simp -dsimp -implicitDefEqProofs only [↓j25, ↓reduceIte, Nat.reduceEqDiff, j182, j202, j203, rmT, hw] <;> simp) (by simp [Heap.get])
    · rcases Nat.lt_or_ge 66 x.delta.length with h66 | h66
      · have b66 : decide (66 < (x.delta.length : Int)) = true := decide_eq_true (by omega)
        have hfit : x.fit = false := by unfold Od.fit; rw [decide_eq_false (by omega), Bool.and_false]
        simp -dsimp -implicitDefEqProofs only [↓j0, ↓j1, ↓j2, ↓j7, ↓j9, ↓j10, ↓j12, ↓j13, ↓j14, ↓j15, j17, j18, j19, j20, j21, j22, j23, ↓j25, ↓j27, ↓j29, ↓j30, j32, j33, ↓j38, ↓j39, ↓j40, ↓j41, ↓j43, ↓j44, ↓j45, ↓j46, ↓j48, ↓j55, ↓j58, ↓j59, ↓j76, ↓j77, ↓j78, ↓j79, j82, j83, j84, ↓j89, ↓j92, j129, j131, j132, j133, j141, ↓j145, ↓j146, ↓j147, ↓j148, ↓j149, ↓j150, ↓j151, ↓j152, ↓j153, j159, j161, AV.proj, AV.offOf, AV.upd, AV.size, AV.sizeL, AV.layable, j163, j164, j166, j167, j170, j171, j175, j177, reduceCtorEq, ↓reduceIte, Nat.reduceAdd, Nat.reduceEqDiff, j182, j185, j191, j193, j195, j196, j197, j206, j207, j208, j224, j253, j258, j259, j294, j295, j297, j309, j388, j389, j397, j423, rmSt, rmT, hlt2, hx, hsz2, hxl, str_bytes, b66]
        exact fin false _ _ _ (bad hfit).symm rfl
      · have b66 : decide (66 < (x.delta.length : Int)) = false := decide_eq_false (by omega)
        have hfit : x.fit = true := by unfold Od.fit; rw [hxl, decide_eq_true h66]; rfl
        simp -dsimp -implicitDefEqProofs only [↓j0, ↓j1, ↓j2, ↓j7, ↓j9, ↓j12, ↓j13, ↓j14, ↓j15, j17, j18, j19, j20, j21, j22, j23, ↓j25, ↓j27, ↓j29, ↓j30, j32, j33, ↓j38, ↓j39, ↓j40, ↓j41, ↓j43, ↓j44, ↓j45, ↓j46, ↓j48, ↓j55, ↓j58, ↓j59, ↓j76, ↓j77, ↓j78, ↓j79, j82, j83, j84, ↓j89, ↓j92, j129, j131, j132, j133, j141, ↓j145, ↓j146, ↓j147, ↓j148, ↓j149, ↓j150, ↓j151, ↓j152, ↓j153, j154, j159, j161, AV.proj, AV.offOf, AV.upd, AV.size, AV.sizeL, AV.layable, j163, j164, j166, j167, j170, j171, j175, j177, reduceCtorEq, ↓reduceIte, Nat.reduceAdd, Nat.reduceEqDiff, j182, j185, j191, j193, j195, j196, j197, j206, j207, j208, j224, j253, j258, j259, j294, j295, j297, j309, j388, j389, j397, j423, rmSt, rmT, hlt2, hx, hsz2, hxl, str_bytes, b66]
        exact step _ _ hfit (fun _ => hxl) (by simp -dsimp -implicitDefEqProofs only [↓j25, ↓reduceIte, Nat.reduceEqDiff, j182, j202, j203, rmT, hw] <;> simp) (by simp [Heap.get])
  | zero =>
    have hi2 : i = u.olds.length := by omega
    subst hi2
    have hd : decide ((u.olds.length : Int) < (u.olds.length : Int)) = false := decide_eq_false (by omega)
    rw [List.take_of_length_le (Nat.le_refl _)] at ha
    have hsum := sum_fit u.olds ha
    have hle : decide (((16 + sumS u.olds : Nat) : Int) ≤ 224) = decide (16 + sumS u.olds ≤ 224) := by
      rw [decide_eq_decide]; omega
    simp -dsimp -implicitDefEqProofs only [↓j0, ↓j1, ↓j7, ↓j11, ↓j12, ↓j13, ↓j15, j17, j18, j20, ↓j25, ↓j27, ↓j29, ↓j38, ↓j43, ↓j48, ↓j53, ↓j76, ↓j89, j129, ↓j145, ↓j146, ↓j148, ↓j149, ↓j153, j159, AV.proj, AV.offOf, AV.size, AV.sizeL, j171, ↓reduceIte, Nat.reduceAdd, Nat.reduceEqDiff, j182, j185, j197, j391, j392, rmSt, rmT, hd]
    refine CallTo.pure (args := [u.av]) rfl fok60 (by simp -dsimp -implicitDefEqProofs only [↓j25, ↓j29, j173, j174, ↓reduceIte]) (fun x hx => (args_ud x hx).2) (rsize_spec u hu (by omega)) ?_
    simp -dsimp -implicitDefEqProofs only [↓j0, ↓j1, ↓j10, j17, j18, j20, ↓j25, ↓j29, ↓j30, j33, ↓j39, ↓j48, ↓j89, ↓j145, ↓j146, j160, j171, ↓reduceIte, j185]
    exact fin _ _ _ _ (by rw [hle]; unfold mayP; rw [m1, hlast rfl, ha]; rfl) rfl
theorem undoRest_len (u : Ud) : (undoRest u).length = 1 + sumS u.olds := by rw [undoRest, List.length_cons, textL_len]; omega
theorem rputUndo_spec (no : Nat) (hno : no < 65536) (u : Ud) (hu : u.Ok) : ACall Try.prog 29 [.int .u16 no, u.av] [] (.tuple [arrAV (putUndo no u), .bool (mayP u)]) [] := by
  refine ACall.run (Z := Z) (N := 16) mixed hZ Try.func29 rfl rfl (by kernel_rfl) (by simp) args_nu 0 ?_
  have hz := zb_len 224
  simp -dsimp -implicitDefEqProofs only [↓j0, ↓j1, ↓j7, ↓j12, ↓j15, j17, j18, j20, ↓j25, ↓j27, ↓j29, ↓j30, j32, ↓j39, ↓j41, ↓j42, ↓j43, ↓j53, ↓j76, j129, ↓j145, ↓j146, ↓j153, AV.proj, AV.offOf, AV.size, AV.sizeL, AV.layable, argEnv, j170, j171, j172, reduceCtorEq, ↓reduceIte, Nat.reduceAdd, Nat.reduceEqDiff, j182, j196, j197, j391, j392, j419]
  refine CallTo.pure (args := [u.av]) rfl fok49 (by simp -dsimp -implicitDefEqProofs only [↓j25, ↓j29, j173, j174, ↓reduceIte]) (fun x hx => (args_ud x hx).2) (rmay_spec u hu) ?_
  cases hm : mayP u
  · simp -dsimp -implicitDefEqProofs only [↓j0, ↓j1, ↓j7, ↓j10, ↓j12, ↓j13, ↓j15, j17, j18, j19, j20, j21, j22, j23, ↓j25, ↓j27, ↓j29, ↓j30, j32, ↓j39, ↓j44, ↓j54, ↓j55, ↓j78, j84, ↓j124, j125, j127, ↓j145, ↓j146, ↓j147, ↓j149, ↓j153, partsAV, AV.proj, AV.offOf, AV.upd, AV.size, AV.layable, j170, j171, reduceCtorEq, ↓reduceIte, Nat.reduceEqDiff, j182, j194, j214, j218, j219, j240, j273, j439, hz]
    have e1 : putUndo no u = zb 224 := by unfold putUndo; rw [hm]; rfl
    rw [e1]
    exact Final.many (.inr rfl) (rs := [.cell 4 26, .tmp 5]) (us := [arrAV (zb 224), .bool false]) rfl ⟨⟨1, 0, [], _, rfl, rfl, rfl, rfl, by simp -dsimp -implicitDefEqProofs only [j129, j182, j240, j273, j274, hz]⟩, ⟨rfl, fun vs h => by cases h⟩, trivial⟩ (by simp) ⟨.same _ (on_bytes _ _), .same _ trivial, trivial⟩
  have hm' := hm
  unfold mayP at hm'
  simp only [Bool.and_eq_true, decide_eq_true_eq] at hm'
  have hsum : 16 + sumS u.olds ≤ 224 := hm'.2
  have hrl := undoRest_len u
  have e1 : putUndo no u = sealP 2 no u.lsn (undoRest u ++ zb (209 - (undoRest u).length)) := by
    unfold putUndo
    rw [hm, if_pos rfl, show 209 - (undoRest u).length = 208 - sumS u.olds by omega]
  have hla := laid_spec 2 no u.lsn hno hu.lsn (undoRest u) (by omega)
  rw [← e1] at hla
  have hpl : (putUndo no u).length = 224 := by
    rw [e1]; exact sealP_len (by simp only [List.length_append, zb_len]; omega)
  simp -dsimp -implicitDefEqProofs only [↓j0, ↓j1, ↓j4, ↓j8, ↓j9, ↓j12, ↓j13, ↓j15, j17, j18, j20, j24, ↓j25, ↓j27, ↓j29, ↓j38, ↓j43, ↓j45, ↓j53, ↓j55, ↓j76, ↓j79, j84, j129, j130, ↓j145, ↓j146, ↓j148, ↓j149, ↓j153, AV.proj, AV.offOf, AV.size, AV.sizeL, j163, j167, j170, j171, j172, j174, reduceCtorEq, ↓reduceIte, Nat.reduceAdd, Nat.reduceEqDiff, j182, j193, j197, j279, j391, j392, j394]
  refine CallTo.pure (args := [u.av]) rfl fok52 (by simp -dsimp -implicitDefEqProofs only [↓j25, ↓j29, j173, j174, ↓reduceIte]) (fun x hx => (args_ud x hx).2) (rtext_spec u hu (by omega)) ?_
  simp -dsimp -implicitDefEqProofs only [↓j4, j17, j18, j20, j24, ↓j53, j170, j171, j172, j174]
  refine CallTo.pure (args := [.int .u8 ((2 : UInt8).toNat : Nat), .int .u16 no, .int .u64 u.lsn, .str ⟨(undoRest u).toArray⟩]) rfl fok47 (by simp -dsimp -implicitDefEqProofs only [↓j25, ↓j29, ↓j30, j33, j173, j174, ↓reduceIte, Nat.reduceEqDiff]; rfl) (fun x hx => (args_laid x hx).2) hla ?_
  simp -dsimp -implicitDefEqProofs only [↓j3, ↓j4, j17, j18, j19, j20, j21, j22, j23, j24, ↓j25, ↓j27, ↓j29, ↓j30, j32, ↓j39, ↓j44, ↓j78, ↓j145, ↓j146, ↓j153, AV.proj, AV.offOf, AV.upd, AV.size, AV.layable, j170, j171, j172, j173, j174, reduceCtorEq, ↓reduceIte, Nat.reduceEqDiff, j182, j240, j273, hz, hpl]
  refine ⟨by kernel_rfl, ?_⟩
  simp -dsimp -implicitDefEqProofs only [↓j10]
  exact Final.many (.inr rfl) (rs := [.cell 4 26, .tmp 5]) (us := [arrAV (putUndo no u), .bool true]) rfl ⟨⟨1, 0, [], _, rfl, rfl, rfl, rfl, by simp -dsimp -implicitDefEqProofs only [j129, j182, j240, j273, j274, hpl]⟩, ⟨rfl, fun vs h => by cases h⟩, trivial⟩ (by simp) ⟨.same _ (on_bytes _ _), .same _ trivial, trivial⟩
end Go.Proofs.Ytimdepgenefkmaa
