/- The laws OracleEnds, OracleNone, OracleHorizon. -/
import Derived.Test.YtiolhncfnoafeaaO5
set_option linter.unusedVariables false
set_option linter.unusedSimpArgs false
namespace Go.Proofs.Ytiolhncfnoafeaa
open Go Go.RowKit

theorem none_spec (n : Nat) : ACall Try.prog 7 [.int .u64 n] [] (.bool true) [] := by
  refine ACall.run (Z := Z) (N := 86) mixed hZ Try.func7 rfl rfl (by kernel_rfl) (by simp) arg_int 0 ?_
  have hw := wrap_u32 n
  obtain ⟨y, hy⟩ : ∃ y, n % 4294967296 = y := ⟨_, rfl⟩
  rw [hy] at hw
  simp -dsimp -implicitDefEqProofs only [↓j0, ↓j1, ↓j7, ↓j12, ↓j15, j17, j18, j20, ↓j25, ↓j29, ↓j30, j32, j35, ↓j38, ↓j39, ↓j53, ↓j145, argEnv, j172, ↓reduceIte]
  refine CallTo.pure (args := [.nilptr]) rfl fok15 (by simp -dsimp -implicitDefEqProofs only [↓j25, ↓j29, j173, j174, ↓reduceIte]) (notup1 fun vs h => by cases h) begin_nil ?_
  simp -dsimp -implicitDefEqProofs only [↓j0, ↓j1, ↓j7, ↓j12, ↓j15, j17, j18, j20, ↓j25, ↓j29, ↓j38, ↓j39, ↓j53, ↓j57, j85, ↓j145, j163, j164, j172, ↓reduceIte, Nat.reduceEqDiff]
  refine CallTo.pure (args := [.nilptr]) rfl fok10 (by simp -dsimp -implicitDefEqProofs only [↓j25, ↓j29, j173, j174, ↓reduceIte]) (notup1 fun vs h => by cases h) next_nil ?_
  simp -dsimp -implicitDefEqProofs only [↓j0, ↓j1, ↓j7, ↓j12, ↓j15, j17, j18, j20, ↓j25, ↓j29, ↓j38, ↓j39, ↓j53, ↓j57, j85, ↓j145, j163, j164, j172, reduceCtorEq, ↓reduceIte, Nat.reduceEqDiff]
  refine CallTo.pure (args := [.nilptr, .int .u64 n]) rfl fok14 (by simp -dsimp -implicitDefEqProofs only [↓j25, ↓j29, j173, j174, ↓reduceIte, Nat.reduceEqDiff]) (notup2 (fun vs h => by cases h) fun vs h => by cases h) (start_nil n) ?_
  simp -dsimp -implicitDefEqProofs only [↓j0, ↓j1, ↓j2, ↓j7, ↓j12, ↓j15, j17, j18, j20, ↓j25, ↓j29, ↓j30, j32, j33, ↓j38, ↓j39, ↓j40, ↓j48, ↓j53, ↓j55, ↓j57, j83, j84, j85, ↓j89, ↓j145, ↓j146, ↓j147, ↓j150, j157, j163, j164, j172, j175, reduceCtorEq, ↓reduceIte, Nat.reduceEqDiff, j185, j194, Int.reduceBEq]
  refine CallTo.pure (args := [.nilptr, .int .u64 n]) rfl fok17 (by simp -dsimp -implicitDefEqProofs only [↓j25, ↓j29, j173, j174, ↓reduceIte, Nat.reduceEqDiff]) (notup2 (fun vs h => by cases h) fun vs h => by cases h) (end_nil n) ?_
  simp -dsimp -implicitDefEqProofs only [↓j1, ↓j2, j17, j18, j20, ↓j25, ↓j29, ↓j30, j32, j33, ↓j38, ↓j40, ↓j48, ↓j50, ↓j53, j83, ↓j89, ↓j145, ↓j146, ↓j147, ↓j150, j157, j163, j164, j172, j175, reduceCtorEq, ↓reduceIte, Nat.reduceEqDiff, j185, ↓j225, Int.reduceBEq, j261, j380, hw]
  refine CallTo.pure (args := [.nilptr, .int .u32 y]) rfl fok11 (by simp -dsimp -implicitDefEqProofs only [↓j25, ↓j29, j173, j174, ↓reduceIte, Nat.reduceEqDiff]) (notup2 (fun vs h => by cases h) fun vs h => by cases h) (pub_nil y) ?_
  simp -dsimp -implicitDefEqProofs only [↓j1, ↓j2, j17, j18, j20, ↓j25, ↓j29, ↓j30, j32, j33, ↓j38, ↓j40, ↓j48, ↓j53, j83, ↓j89, ↓j145, ↓j146, ↓j147, ↓j150, j157, j163, j164, j172, j175, ↓reduceIte, Nat.reduceEqDiff, j185, Int.reduceBEq]
  refine CallTo.pure (args := [.nilptr]) rfl fok12 (by simp -dsimp -implicitDefEqProofs only [↓j25, ↓j29, j173, j174, ↓reduceIte]) (notup1 fun vs h => by cases h) last_nil ?_
  simp -dsimp -implicitDefEqProofs only [↓j1, ↓j2, j17, j18, j20, ↓j25, ↓j29, ↓j30, j32, j33, ↓j38, ↓j40, ↓j48, ↓j53, j83, ↓j89, ↓j145, ↓j146, ↓j147, ↓j150, j157, j163, j164, j172, j175, ↓reduceIte, Nat.reduceEqDiff, j185, Int.reduceBEq]
  refine CallTo.pure (args := [.nilptr]) rfl fok18 (by simp -dsimp -implicitDefEqProofs only [↓j25, ↓j29, j173, j174, ↓reduceIte]) (notup1 fun vs h => by cases h) hz_nil ?_
  simp -dsimp -implicitDefEqProofs only [↓j1, ↓j2, j17, j18, j20, ↓j25, ↓j29, ↓j30, j32, j33, ↓j38, ↓j40, ↓j48, ↓j53, j83, ↓j89, ↓j145, ↓j146, ↓j147, ↓j150, j157, j163, j164, j172, j175, ↓reduceIte, Nat.reduceEqDiff, j185, Int.reduceBEq]
  refine CallTo.pure (args := [.nilptr]) rfl fok21 (by simp -dsimp -implicitDefEqProofs only [↓j25, ↓j29, j173, j174, ↓reduceIte]) (notup1 fun vs h => by cases h) (show ACall Try.prog 21 [.nilptr] [] (.vsl [] 0) [] from live_nil) ?_
  have z0 : (((0 : Nat) : Int) == 0) = true := rfl
  simp -dsimp -implicitDefEqProofs only [↓j1, ↓j2, j17, j18, j20, ↓j25, ↓j29, ↓j30, j32, j33, ↓j38, ↓j40, ↓j48, ↓j53, ↓j58, ↓j62, j83, ↓j89, j142, ↓j145, ↓j146, ↓j147, ↓j150, j157, j163, j164, j172, j175, ↓reduceIte, Nat.reduceEqDiff, j185, j383, z0]
  refine CallTo.pure (args := []) rfl fok8 (by simp -dsimp -implicitDefEqProofs only [j174]) (fun x hx => by cases hx) awake_spec ?_
  simp -dsimp -implicitDefEqProofs only [↓j0, ↓j1, ↓j10, j17, j18, j20, ↓j25, ↓j29, ↓j30, j32, ↓j39, ↓j40, j83, ↓j145, j172, ↓reduceIte, Nat.reduceEqDiff]
  exact Final.one (.inr rfl) (r := .tmp 2) rfl ⟨rfl, fun vs h => by cases h⟩ (fun vs h => by cases h) (fun vs h => by cases h) (.same _ trivial)
theorem u32_add {a b : Nat} (h : a + b < 4294967296) : IntKind.u32.wrap ((a : Int) + (b : Int)) = ((a + b : Nat) : Int) := by
  have := wrap_u32 (a + b)
  rw [Nat.mod_eq_of_lt h] at this
  rw [← this]; rfl
theorem u32_sub {a b : Nat} (h : b ≤ a) (ha : a < 4294967296) : IntKind.u32.wrap ((a : Int) - (b : Int)) = ((a - b : Nat) : Int) := by
  have := wrap_u32 (a - b)
  rw [Nat.mod_eq_of_lt (by omega)] at this
  rw [← this]; congr 1; omega
def enO (max left i : Nat) : OS := ⟨max - left + i, max, 0, []⟩
def enSt (max left i : Nat) : St := ⟨87, [(6, .int .u32 i), (0, .int .u32 max), (1, .int .u8 left), (5, .ptr 2 0 []), (4, .bool false)], orH (enO max left i), 3⟩
set_option maxHeartbeats 3200000 in
theorem ends_spec (max left : Nat) (hm : max < 4294967296) (hl : left < 256) : ACall Try.prog 3 [.int .u32 max, .int .u8 left] [] (.bool true) [] := by
  refine ACall.run (Z := Z) (N := 87) mixed hZ Try.func3 rfl rfl (by kernel_rfl) (by simp) arg_int2 0 ?_
  have wl : IntKind.u32.wrap (left : Int) = (left : Int) := by rw [wrap_u32, Nat.mod_eq_of_lt (by omega)]
  have fin : ∀ (t : Env) (H : Heap) (m : Nat), look t 4 = some (.bool true) → Final Try.prog Try.f3 (.bool true) [] .ret ⟨87, t, H, m⟩ := fun t H m h =>
    Final.one (.inr rfl) (r := .tmp 4) rfl ⟨h, fun vs h => by cases h⟩ (fun vs h => by cases h) (fun vs h => by cases h) (.same _ trivial)
  by_cases hml : max < left
  · have e1 : decide ((max : Int) < (left : Int)) = true := decide_eq_true (by omega)
    simp -dsimp -implicitDefEqProofs only [↓j0, ↓j1, ↓j7, ↓j12, ↓j13, ↓j15, j17, j18, j20, ↓j25, ↓j29, ↓j30, j32, ↓j38, ↓j39, ↓j48, ↓j50, ↓j53, ↓j89, ↓j145, ↓j146, ↓j147, ↓j149, j161, argEnv, j172, reduceCtorEq, ↓reduceIte, Nat.reduceEqDiff, j185, j196, ↓j225, j261, j371, wl, e1]
    refine CallTo.pure (args := []) rfl fok8 (by simp -dsimp -implicitDefEqProofs only [j174]) (fun x hx => by cases hx) awake_spec ?_
    simp -dsimp -implicitDefEqProofs only [↓j0, ↓j1, ↓j10, j17, j18, j20, ↓j25, ↓j29, ↓j39, ↓j145, j172, ↓reduceIte]
    exact fin _ _ _ rfl
  have e1 : decide ((max : Int) < (left : Int)) = false := decide_eq_false (by omega)
  have ws := u32_sub (a := max) (b := left) (by omega) hm
  have okE : ∀ i, i ≤ left → (enO max left i).Ok := fun i hi => ⟨by show max - left + i ≤ max; omega, hm, by show (0 : Nat) ≤ 1000; decide, by show (0 : Nat) ≤ 8; decide, List.nodup_nil, fun e he => by cases he⟩
  have hns := new_spec (max - left) max (by omega)
  have hn0 : new0 (max - left) max = enO max left 0 := rfl
  rw [hn0] at hns
  simp -dsimp -implicitDefEqProofs only [↓j0, ↓j1, ↓j7, ↓j9, ↓j12, ↓j13, ↓j15, j17, j18, j20, ↓j25, ↓j29, ↓j30, j32, ↓j38, ↓j39, ↓j48, ↓j50, ↓j53, ↓j89, ↓j145, ↓j146, ↓j148, ↓j149, j155, j161, argEnv, j172, reduceCtorEq, ↓reduceIte, Nat.reduceEqDiff, j185, j196, ↓j225, j261, j371, wl, e1, ws]
  refine CallTo.gen (args := [.int .u32 ((max - left : Nat) : Int), .int .u32 max]) [] (orH (enO max left 0)) 3 rfl fok9 (by simp -dsimp -implicitDefEqProofs only [↓j25, ↓j29, j173, j174, ↓reduceIte, Nat.reduceEqDiff]) (notup2 (fun vs h => by cases h) fun vs h => by cases h) hns (fun n b h => by simp [Heap.get] at h) ⟨by simp, put_new (k := 0) (by decide)⟩ ?_
  simp -dsimp -implicitDefEqProofs only [↓j0, ↓j1, ↓j7, ↓j9, ↓j12, ↓j13, ↓j14, ↓j15, ↓j16, j17, j18, j20, ↓j25, ↓j29, ↓j30, j33, j35, ↓j38, ↓j39, ↓j48, ↓j145, ↓j146, ↓j148, ↓j149, j171, j172, j174, ↓reduceIte, j211, ↓j235, j264]
  refine AWp.loopR (Z := Z) mixed hZ (by kernel_rfl) (fun n s => ∃ i, i + n = left ∧ s = enSt max left i) (n0 := left) (s0 := enSt max left 0) ?_ ⟨0, by omega, rfl⟩ ?_ rfl
  · exact Wk.sub (by simp -dsimp -implicitDefEqProofs only [↓j25, ↓j27, j179, reduceCtorEq, ↓reduceIte, Nat.reduceEqDiff, j182, j183, j184, j202, j203, j204, j205, j209, j223] <;> simp)
  rintro n s ⟨i, hi, rfl⟩
  refine ⟨rfl, ?_⟩
  have hok := okE i (by omega)
  have hnx := next_spec _ hok
  rcases Nat.lt_or_ge i left with hlt | hge
  · have e2 : decide ((i : Int) < (left : Int)) = true := decide_eq_true (by omega)
    have hN : (enO max left i).nextP = (max - left + i + 1, 0) := by
      unfold OS.nextP; rw [if_neg (by show ¬ (max - left + i = max); omega)]; rfl
    have hP : (enO max left i).pubP (max - left + i + 1) = (0, enO max left (i + 1)) := by
      unfold OS.pubP; rw [hN]; simp only [ne_eq, not_true, or_self, if_false]; rfl
    have hpu := pub_spec _ hok (max - left + i + 1) (by omega)
    rw [hP] at hpu
    rw [hN] at hnx
    have w1 := u32_add (a := max - left) (b := i) (by omega)
    have w2 : IntKind.u32.wrap (((max - left + i : Nat) : Int) + 1) = ((max - left + i + 1 : Nat) : Int) := u32_add (a := max - left + i) (b := 1) (by omega)
    have w3 : IntKind.u32.wrap ((i : Int) + 1) = ((i + 1 : Nat) : Int) := u32_add (a := i) (b := 1) (by omega)
    obtain ⟨b, hb⟩ : ∃ b, max - left + i + 1 = b := ⟨_, rfl⟩
    rw [hb] at hnx hpu w2
    have n1 : ((b : Int) != (b : Int)) = false := by simp
    have n0 : (((0 : Nat) : Int) != 0) = false := rfl
    obtain ⟨E, hE⟩ : ∃ E, enO max left i = E := ⟨_, rfl⟩
    obtain ⟨F, hF⟩ : ∃ F, enO max left (i + 1) = F := ⟨_, rfl⟩
    rw [hE] at hnx hpu; rw [hF] at hpu
    simp -dsimp -implicitDefEqProofs only [↓j0, ↓j1, ↓j7, ↓j9, ↓j12, ↓j13, ↓j14, ↓j15, j17, j18, j20, ↓j25, ↓j29, ↓j38, ↓j48, ↓j50, ↓j53, ↓j89, ↓j145, ↓j146, ↓j147, ↓j149, j159, j171, reduceCtorEq, ↓reduceIte, Nat.reduceEqDiff, j185, ↓j225, j261, j371, enSt, hE, wl, e2]
    refine CallTo.gen (args := [.ptr 2 0 []]) (orH E) (orH E) 3 rfl fok10 (by simp -dsimp -implicitDefEqProofs only [↓j25, ↓j29, j173, j174, ↓reduceIte]) (notup1 fun vs h => by cases h) hnx (SubH.of (by simp -dsimp -implicitDefEqProofs only [↓j27, ↓reduceIte, Nat.reduceEqDiff, j182, j204, j205])) ⟨by simp, put_or⟩ ?_
    simp -dsimp -implicitDefEqProofs only [↓j0, ↓j1, ↓j2, ↓j7, ↓j12, ↓j15, j17, j18, j20, j21, j22, j23, ↓j25, ↓j29, ↓j30, j32, j33, ↓j38, ↓j39, ↓j40, ↓j48, ↓j50, ↓j53, ↓j57, j83, j85, ↓j89, ↓j145, ↓j146, ↓j148, ↓j151, j154, j155, j158, j163, j164, j171, j172, j173, j174, j175, reduceCtorEq, ↓reduceIte, Nat.reduceEqDiff, j185, j195, ↓j225, j261, j371, wl, ws, w1, w2, n0, n1]
    refine CallTo.gen (args := [.ptr 2 0 [], .int .u32 b]) (orH E) (orH F) 3 rfl fok11 (by simp -dsimp -implicitDefEqProofs only [↓j25, ↓j29, j173, j174, ↓reduceIte, Nat.reduceEqDiff]) (notup2 (fun vs h => by cases h) fun vs h => by cases h) hpu (SubH.of (by simp -dsimp -implicitDefEqProofs only [↓j27, ↓reduceIte, Nat.reduceEqDiff, j182, j204, j205])) ⟨by simp, put_or⟩ ?_
    simp -dsimp -implicitDefEqProofs only [↓j0, ↓j1, ↓j2, ↓j7, ↓j9, ↓j13, ↓j15, j17, j18, j20, j21, j22, j23, ↓j25, ↓j29, ↓j30, j32, j33, ↓j38, ↓j39, ↓j40, ↓j48, j83, ↓j89, ↓j145, ↓j146, ↓j148, ↓j149, ↓j151, j154, j158, j163, j164, j171, j172, j173, j174, j175, ↓reduceIte, Nat.reduceEqDiff, j185, j195, n0, w3]
    exact ⟨n - 1, enSt max left (i + 1), by omega, ⟨i + 1, by omega, rfl⟩, Wk.sub (by simp -dsimp -implicitDefEqProofs only [↓j25, ↓j27, reduceCtorEq, ↓reduceIte, Nat.reduceEqDiff, j182, j202, j203, j204, j205, j223, hF] <;> simp)⟩
  · have hi2 : i = left := by omega
    subst hi2
    have e2 : decide ((i : Int) < (i : Int)) = false := decide_eq_false (by omega)
    have hN : (enO max i i).nextP = (0, 8) := by
      unfold OS.nextP; rw [if_pos (by show max - i + i = max; omega)]
    have hP : ∀ t, (enO max i i).pubP t = (1, enO max i i) := fun t => by
      unfold OS.pubP; rw [hN]; simp
    have hp1 := pub_spec _ hok max hm
    have hp2 := pub_spec _ hok ((max + 1) % 4294967296) (Nat.mod_lt _ (by decide))
    have hls := last_spec (enO max i i)
    have hL : (enO max i i).last = max := by show max - i + i = max; omega
    rw [hL] at hls
    rw [hP] at hp1 hp2
    rw [hN] at hnx
    have w2 : IntKind.u32.wrap ((max : Int) + 1) = (((max + 1) % 4294967296 : Nat) : Int) := wrap_u32 (max + 1)
    obtain ⟨b, hb⟩ : ∃ b, (max + 1) % 4294967296 = b := ⟨_, rfl⟩
    rw [hb] at hp2 w2
    have n1 : ((max : Int) == (max : Int)) = true := by simp
    obtain ⟨E, hE⟩ : ∃ E, enO max i i = E := ⟨_, rfl⟩
    rw [hE] at hnx hp1 hp2 hls
    simp -dsimp -implicitDefEqProofs only [↓j0, ↓j1, ↓j7, ↓j11, ↓j12, ↓j13, ↓j15, j17, j18, j20, ↓j25, ↓j29, ↓j38, ↓j48, ↓j50, ↓j53, ↓j89, ↓j145, ↓j146, ↓j148, ↓j149, j159, j171, reduceCtorEq, ↓reduceIte, Nat.reduceEqDiff, j185, ↓j225, j261, j371, enSt, hE, wl, e2]
    refine CallTo.gen (args := [.ptr 2 0 []]) (orH E) (orH E) 3 rfl fok10 (by simp -dsimp -implicitDefEqProofs only [↓j25, ↓j29, j173, j174, ↓reduceIte]) (notup1 fun vs h => by cases h) hnx (SubH.of (by simp -dsimp -implicitDefEqProofs only [↓j27, ↓reduceIte, Nat.reduceEqDiff, j182, j204, j205])) ⟨by simp, put_or⟩ ?_
    have g8 : (((8 : Nat) : Int) == 8) = true := rfl
    have g0 : (((0 : Nat) : Int) == 0) = true := rfl
    have g1 : (((1 : Nat) : Int) == 1) = true := rfl
    simp -dsimp -implicitDefEqProofs only [↓j0, ↓j1, ↓j2, ↓j7, ↓j12, ↓j15, j17, j18, j20, j21, j22, j23, ↓j25, ↓j29, ↓j30, j32, j33, ↓j38, ↓j39, ↓j40, ↓j48, ↓j53, ↓j57, j83, j85, ↓j89, ↓j145, ↓j146, ↓j147, ↓j150, j157, j163, j164, j171, j172, j173, j174, j175, reduceCtorEq, ↓reduceIte, Nat.reduceEqDiff, j185, g8, g0]
    refine CallTo.gen (args := [.ptr 2 0 [], .int .u32 max]) (orH E) (orH E) 3 rfl fok11 (by simp -dsimp -implicitDefEqProofs only [↓j25, ↓j29, j173, j174, ↓reduceIte, Nat.reduceEqDiff]) (notup2 (fun vs h => by cases h) fun vs h => by cases h) hp1 (SubH.of (by simp -dsimp -implicitDefEqProofs only [↓j27, ↓reduceIte, Nat.reduceEqDiff, j182, j204, j205])) ⟨by simp, put_or⟩ ?_
    simp -dsimp -implicitDefEqProofs only [↓j1, ↓j2, j17, j18, j20, j21, j22, j23, ↓j25, ↓j29, ↓j30, j32, j33, ↓j38, ↓j40, ↓j48, ↓j53, j83, ↓j89, ↓j145, ↓j146, ↓j147, ↓j150, j154, j157, j163, j164, j171, j172, j173, j174, j175, reduceCtorEq, ↓reduceIte, Nat.reduceEqDiff, j185, g1, w2]
    refine CallTo.gen (args := [.ptr 2 0 [], .int .u32 b]) (orH E) (orH E) 3 rfl fok11 (by simp -dsimp -implicitDefEqProofs only [↓j25, ↓j29, j173, j174, ↓reduceIte, Nat.reduceEqDiff]) (notup2 (fun vs h => by cases h) fun vs h => by cases h) hp2 (SubH.of (by simp -dsimp -implicitDefEqProofs only [↓j27, ↓reduceIte, Nat.reduceEqDiff, j182, j204, j205])) ⟨by simp, put_or⟩ ?_
    simp -dsimp -implicitDefEqProofs only [↓j1, ↓j2, j17, j18, j20, j21, j22, j23, ↓j25, ↓j29, ↓j30, j32, j33, ↓j38, ↓j40, ↓j48, ↓j53, j83, ↓j89, ↓j145, ↓j146, ↓j147, ↓j150, j157, j163, j164, j171, j172, j173, j174, j175, reduceCtorEq, ↓reduceIte, Nat.reduceEqDiff, j185, g1]
    refine CallTo.gen (args := [.ptr 2 0 []]) (orH E) (orH E) 3 rfl fok12 (by simp -dsimp -implicitDefEqProofs only [↓j25, ↓j29, j173, j174, ↓reduceIte]) (notup1 fun vs h => by cases h) hls (SubH.of (by simp -dsimp -implicitDefEqProofs only [↓j27, ↓reduceIte, Nat.reduceEqDiff, j182, j204, j205])) ⟨by simp, put_or⟩ ?_
    simp -dsimp -implicitDefEqProofs only [↓j1, ↓j2, j17, j18, j20, j21, j22, j23, ↓j25, ↓j29, ↓j30, j32, ↓j38, ↓j40, ↓j48, ↓j53, j83, ↓j89, ↓j145, ↓j146, ↓j147, ↓j150, j157, j163, j164, j171, j172, j173, j174, j175, reduceCtorEq, ↓reduceIte, Nat.reduceEqDiff, j185, n1]
    refine CallTo.pure (args := []) rfl fok8 (by simp -dsimp -implicitDefEqProofs only [j174]) (fun x hx => by cases hx) awake_spec ?_
    simp -dsimp -implicitDefEqProofs only [↓j0, ↓j1, ↓j10, j17, j18, j20, ↓j25, ↓j29, ↓j30, j32, ↓j39, ↓j40, j83, ↓j145, j171, ↓reduceIte, Nat.reduceEqDiff]
    exact fin _ _ _ rfl
/-- The horizon never falls. -/
theorem hz_mono {o o' : OS} (ho' : o'.Ok) (h1 : o.hz ≤ o'.last) (h2 : ∀ e, e ∈ o'.live → o.hz ≤ e.2) : o.hz ≤ o'.hz := by
  rcases hz_in ho' with h | ⟨e, he, h⟩
  · omega
  · have := h2 e he; omega
theorem pub_last (o : OS) (t : Nat) : o.last ≤ (o.pubP t).2.last ∧ (o.pubP t).2.live = o.live ∧ (o.pubP t).2.max = o.max := by
  unfold OS.pubP
  split
  · exact ⟨Nat.le_refl _, rfl, rfl⟩
  · rename_i h
    rw [not_or] at h
    refine ⟨?_, rfl, rfl⟩
    show o.last ≤ t
    have h1 : o.nextP.2 = 0 := by omega
    have h2 : o.nextP.1 = t := by omega
    unfold OS.nextP at h1 h2
    by_cases hl : o.last = o.max
    · rw [if_pos hl] at h1; cases h1
    · rw [if_neg hl] at h2; simp only at h2; omega
theorem do_last (o : OS) (ho : o.Ok) (x : Op') : o.last ≤ (o.doP x).last ∧ (o.doP x).max = o.max ∧ ∀ e, e ∈ (o.doP x).live → e ∈ o.live ∨ e.2 = o.last := by
  unfold OS.doP
  split
  · unfold OS.beginP
    split
    · exact ⟨Nat.le_refl _, rfl, fun e he => .inl he⟩
    · refine ⟨Nat.le_refl _, rfl, fun e he => ?_⟩
      rcases aPut_mem he with rfl | he
      · exact .inr rfl
      · exact .inl he
  split
  · unfold OS.endP
    split
    · exact ⟨Nat.le_refl _, rfl, fun e he => .inl (((aDel_nodup x.2 ho.nodup).2 e).1 he).1⟩
    · exact ⟨Nat.le_refl _, rfl, fun e he => .inl he⟩
  split
  · obtain ⟨h1, h2, h3⟩ := pub_last o (x.2 % 4294967296)
    exact ⟨h1, h3, fun e he => .inl (by rw [h2] at he; exact he)⟩
  split
  · split
    · obtain ⟨h1, h2, h3⟩ := pub_last o o.nextP.1
      exact ⟨h1, h3, fun e he => .inl (by rw [h2] at he; exact he)⟩
    · exact ⟨Nat.le_refl _, rfl, fun e he => .inl he⟩
  · exact ⟨Nat.le_refl _, rfl, fun e he => .inl he⟩
theorem do_hz {o : OS} (ho : o.Ok) (hc : o.count < 1000) (x : Op') : o.hz ≤ (o.doP x).hz := by
  obtain ⟨h1, _, h3⟩ := do_last o ho x
  have := hz_le o
  refine hz_mono (do_ok ho hc x) (by omega) fun e he => ?_
  rcases h3 e he with h | h
  · exact hz_all ho h
  · omega
def hoSt (l : List Op') (a M : Nat) (o : OS) (i : Nat) : St := ⟨132, [(10, .int .i64 i), (8, .int .u32 o.hz), (9, .int .u32 o.last), (1, .int .u32 M), (2, opsAV l), (7, .ptr 2 0 []), (6, .bool false)], orH o, 3⟩
def hiSt (l : List Op') (a M : Nat) (o : OS) (i j : Nat) : St := ⟨132, [(79, .int .i64 j), (78, .int .i64 (keysIn o.live).length), (77, keysAV (keysIn o.live)), (10, .int .i64 i), (8, .int .u32 o.hz), (9, .int .u32 o.last), (1, .int .u32 M), (2, opsAV l), (7, .ptr 2 0 []), (6, .bool false)], orH o, 3⟩
theorem args_hz {a b : Nat} {l : List Op'} : ∀ x, x ∈ [AV.int .u32 a, .int .u32 b, opsAV l] → AV.on (fun _ => False) x ∧ ∀ vs, x ≠ .tuple vs := fun x hx => by
  simp only [List.mem_cons, List.not_mem_nil, or_false] at hx
  rcases hx with rfl | rfl | rfl
  · exact ⟨trivial, fun vs h => by cases h⟩
  · exact ⟨trivial, fun vs h => by cases h⟩
  · exact ⟨on_ops _ _, fun vs h => by cases h⟩
set_option maxHeartbeats 6400000 in
theorem horizon_spec (a M : Nat) (hM : M < 4294967296) (l : List Op') (hl : ∀ x, x ∈ l → opOk' x) (hn : l.length ≤ 9223372036854775807) : ACall Try.prog 5 [.int .u32 a, .int .u32 M, opsAV l] [] (.bool true) [] := by
  refine ACall.run (Z := Z) (N := 132) mixed hZ Try.func5 rfl rfl (by kernel_rfl) (by simp) args_hz 0 ?_
  have fin : ∀ (t : Env) (H : Heap) (m : Nat), look t 6 = some (.bool true) → Final Try.prog Try.f5 (.bool true) [] .ret ⟨132, t, H, m⟩ := fun t H m h =>
    Final.one (.inr rfl) (r := .tmp 6) rfl ⟨h, fun vs h => by cases h⟩ (fun vs h => by cases h) (fun vs h => by cases h) (.same _ trivial)
  by_cases haM : M < a
  · have e1 : decide ((M : Int) < (a : Int)) = true := decide_eq_true (by omega)
    simp -dsimp -implicitDefEqProofs only [↓j0, ↓j1, ↓j7, ↓j12, ↓j15, j17, j18, j20, ↓j25, ↓j29, ↓j30, j32, ↓j38, ↓j39, ↓j53, ↓j145, argEnv, j172, reduceCtorEq, ↓reduceIte, Nat.reduceAdd, Nat.reduceEqDiff, j196]
    refine CallTo.pure (args := [.int .u32 a, .int .u32 M]) rfl fok9 (by simp -dsimp -implicitDefEqProofs only [↓j25, ↓j29, j173, j174, ↓reduceIte, Nat.reduceEqDiff]) (notup2 (fun vs h => by cases h) fun vs h => by cases h) (new_none a M haM) ?_
    simp -dsimp -implicitDefEqProofs only [↓j0, ↓j1, ↓j2, ↓j7, ↓j12, ↓j13, ↓j15, j17, j18, j20, ↓j25, ↓j29, ↓j30, j35, ↓j38, ↓j39, ↓j48, ↓j53, ↓j89, ↓j145, ↓j146, ↓j147, ↓j149, ↓j150, j161, j163, j164, j172, j175, reduceCtorEq, ↓reduceIte, Nat.reduceEqDiff, j185, j194, j211, ↓j236, j264, e1]
    refine CallTo.pure (args := []) rfl fok8 (by simp -dsimp -implicitDefEqProofs only [j174]) (fun x hx => by cases hx) awake_spec ?_
    simp -dsimp -implicitDefEqProofs only [↓j0, ↓j1, ↓j10, j17, j18, j20, ↓j25, ↓j29, ↓j30, j32, ↓j39, ↓j40, j83, ↓j145, j172, ↓reduceIte, Nat.reduceEqDiff]
    exact fin _ _ _ rfl
  have o0 : (new0 a M).Ok := new_ok (by omega) hM
  have hns := new_spec a M (by omega)
  have hM0 : (new0 a M).max = M := rfl
  have hC0 : (new0 a M).count = 0 := rfl
  obtain ⟨c, hc⟩ : ∃ c, new0 a M = c := ⟨_, rfl⟩
  rw [hc] at o0 hns hM0 hC0
  simp -dsimp -implicitDefEqProofs only [↓j0, ↓j1, ↓j7, ↓j12, ↓j15, j17, j18, j20, ↓j25, ↓j29, ↓j30, j32, ↓j38, ↓j39, ↓j53, ↓j145, argEnv, j172, reduceCtorEq, ↓reduceIte, Nat.reduceAdd, Nat.reduceEqDiff, j196]
  refine CallTo.gen (args := [.int .u32 a, .int .u32 M]) [] (orH c) 3 rfl fok9 (by simp -dsimp -implicitDefEqProofs only [↓j25, ↓j29, j173, j174, ↓reduceIte, Nat.reduceEqDiff]) (notup2 (fun vs h => by cases h) fun vs h => by cases h) hns (fun n b h => by simp [Heap.get] at h) ⟨by simp, put_new (k := 0) (by decide)⟩ ?_
  simp -dsimp -implicitDefEqProofs only [↓j0, ↓j1, ↓j7, ↓j9, ↓j12, ↓j13, ↓j15, j17, j18, j20, ↓j25, ↓j29, ↓j30, j35, ↓j38, ↓j39, ↓j48, ↓j53, ↓j145, ↓j146, ↓j148, ↓j149, j171, j172, j174, ↓reduceIte, Nat.reduceEqDiff, j211, ↓j235, j264]
  refine CallTo.gen (args := [.ptr 2 0 []]) (orH c) (orH c) 3 rfl fok18 (by simp -dsimp -implicitDefEqProofs only [↓j25, ↓j29, j173, j174, ↓reduceIte]) (notup1 fun vs h => by cases h) (hz_spec c o0) (SubH.of (by simp -dsimp -implicitDefEqProofs only [↓j27, ↓reduceIte, Nat.reduceEqDiff, j182, j204, j205])) ⟨by simp, put_or⟩ ?_
  simp -dsimp -implicitDefEqProofs only [↓j1, j17, j18, j20, j21, j22, j23, ↓j25, ↓j29, ↓j38, ↓j53, ↓j145, j171, j172, j173, j174, ↓reduceIte, Nat.reduceEqDiff]
  refine CallTo.gen (args := [.ptr 2 0 []]) (orH c) (orH c) 3 rfl fok12 (by simp -dsimp -implicitDefEqProofs only [↓j25, ↓j29, j173, j174, ↓reduceIte]) (notup1 fun vs h => by cases h) (last_spec c) (SubH.of (by simp -dsimp -implicitDefEqProofs only [↓j27, ↓reduceIte, Nat.reduceEqDiff, j182, j204, j205])) ⟨by simp, put_or⟩ ?_
  simp -dsimp -implicitDefEqProofs only [↓j0, ↓j1, ↓j7, ↓j12, ↓j14, ↓j15, ↓j16, j17, j18, j20, j21, j22, j23, ↓j25, ↓j29, ↓j30, j33, ↓j39, ↓j145, j171, j172, j173, j174, ↓reduceIte, Nat.reduceEqDiff]
  refine AWp.loopR (Z := Z) mixed hZ (by kernel_rfl) (fun n s => ∃ o i, OS.Ok o ∧ o.max = M ∧ i + n = 60 ∧ o.count ≤ i ∧ s = hoSt l a M o i) (n0 := 60) (s0 := hoSt l a M c 0) ?_ ⟨c, 0, o0, hM0, by omega, by omega, rfl⟩ ?_ rfl
  · exact Wk.sub (by simp -dsimp -implicitDefEqProofs only [↓j25, ↓j27, j179, reduceCtorEq, ↓reduceIte, Nat.reduceEqDiff, j182, j183, j184, j202, j203, j204, j205, j209, j223] <;> simp)
  rintro n s ⟨o, i, ho, hoM, hi, hcn, rfl⟩
  refine ⟨rfl, ?_⟩
  by_cases hlt : i < l.length ∧ i < 60
  · obtain ⟨h1, h2⟩ := hlt
    have e1 : decide ((i : Int) < (l.length : Int)) = true := decide_eq_true (by omega)
    have e2 : decide ((i : Int) < 60) = true := decide_eq_true (by omega)
    obtain ⟨x, hx⟩ := list_get (xs := l) (i := i) h1
    have hxo := hl x (List.mem_of_getElem? hx)
    have hsz := (unif_ops l).sizeL_take (k := i) (by simp; omega)
    have hlt2 : (i : Int) < (l.length : Int) := by omega
    have hw : IntKind.i64.wrap ((i : Int) + 1) = ((i + 1 : Nat) : Int) := by rw [wrap_i64 (by omega) (by omega)]; omega
    have hd := do_spec o ho (by omega) x hxo
    have hdo := do_ok ho (by omega) x
    have hdc := do_count o x
    have hdz := do_hz ho (by omega) x
    obtain ⟨hdl, hdm, _⟩ := do_last o ho x
    obtain ⟨o', ho'⟩ : ∃ o', o.doP x = o' := ⟨_, rfl⟩
    rw [ho'] at hd hdo hdc hdz hdl hdm
    have hzl := hz_le o'
    have hlm := hdo.lm
    have f1 : decide ((o'.hz : Int) < (o.hz : Int)) = false := decide_eq_false (by omega)
    have f2 : decide ((o'.last : Int) < (o.last : Int)) = false := decide_eq_false (by omega)
    have f3 : decide ((o'.last : Int) < (o'.hz : Int)) = false := decide_eq_false (by omega)
    have f4 : decide ((M : Int) < (o'.last : Int)) = false := decide_eq_false (by omega)
    simp -dsimp -implicitDefEqProofs only [↓j0, ↓j1, ↓j2, ↓j7, ↓j9, ↓j12, ↓j13, ↓j14, ↓j15, j17, j18, j20, ↓j25, ↓j29, ↓j30, j32, j33, ↓j38, ↓j40, ↓j43, ↓j46, ↓j48, ↓j53, ↓j58, ↓j62, ↓j77, j83, ↓j89, ↓j92, j129, j142, ↓j145, ↓j146, ↓j147, ↓j149, ↓j150, j159, AV.proj, AV.offOf, AV.size, AV.sizeL, j163, j164, j171, j175, j177, ↓reduceIte, Nat.reduceAdd, Nat.reduceEqDiff, j182, j185, j191, j197, j206, j207, j208, j270, j293, j294, j376, hoSt, e2, hx, hsz, hlt2]
    refine CallTo.gen (args := [.ptr 2 0 [], opAV x]) (orH o) (orH o') 3 rfl fok22 (by simp -dsimp -implicitDefEqProofs only [↓j25, ↓j29, j173, j174, ↓reduceIte, Nat.reduceEqDiff]) (notup2 (fun vs h => by cases h) fun vs h => by cases h) hd (SubH.of (by simp -dsimp -implicitDefEqProofs only [↓j27, ↓reduceIte, Nat.reduceEqDiff, j182, j204, j205])) ⟨by simp, put_or⟩ ?_
    simp -dsimp -implicitDefEqProofs only [↓j0, ↓j1, ↓j7, ↓j12, ↓j15, j17, j18, j20, j21, j22, j23, ↓j25, ↓j29, ↓j38, ↓j53, ↓j145, j171, j172, j173, j174, ↓reduceIte, Nat.reduceEqDiff]
    refine CallTo.gen (args := [.ptr 2 0 []]) (orH o') (orH o') 3 rfl fok18 (by simp -dsimp -implicitDefEqProofs only [↓j25, ↓j29, j173, j174, ↓reduceIte]) (notup1 fun vs h => by cases h) (hz_spec o' hdo) (SubH.of (by simp -dsimp -implicitDefEqProofs only [↓j27, ↓reduceIte, Nat.reduceEqDiff, j182, j204, j205])) ⟨by simp, put_or⟩ ?_
    simp -dsimp -implicitDefEqProofs only [↓j1, ↓j2, j17, j18, j20, j21, j22, j23, ↓j25, ↓j29, ↓j38, ↓j48, ↓j53, ↓j89, ↓j145, ↓j146, ↓j148, ↓j151, j159, j163, j164, j171, j172, j173, j174, j175, ↓reduceIte, Nat.reduceEqDiff, j185, f1]
    refine CallTo.gen (args := [.ptr 2 0 []]) (orH o') (orH o') 3 rfl fok12 (by simp -dsimp -implicitDefEqProofs only [↓j25, ↓j29, j173, j174, ↓reduceIte]) (notup1 fun vs h => by cases h) (last_spec o') (SubH.of (by simp -dsimp -implicitDefEqProofs only [↓j27, ↓reduceIte, Nat.reduceEqDiff, j182, j204, j205])) ⟨by simp, put_or⟩ ?_
    simp -dsimp -implicitDefEqProofs only [↓j1, ↓j2, j17, j18, j20, j21, j22, j23, ↓j25, ↓j29, ↓j30, j32, ↓j38, ↓j40, ↓j48, ↓j53, j83, ↓j89, ↓j145, ↓j146, ↓j148, ↓j151, j159, j163, j164, j171, j172, j173, j174, j175, ↓reduceIte, Nat.reduceEqDiff, j185, j195, f2]
    refine CallTo.gen (args := [.ptr 2 0 []]) (orH o') (orH o') 3 rfl fok18 (by simp -dsimp -implicitDefEqProofs only [↓j25, ↓j29, j173, j174, ↓reduceIte]) (notup1 fun vs h => by cases h) (hz_spec o' hdo) (SubH.of (by simp -dsimp -implicitDefEqProofs only [↓j27, ↓reduceIte, Nat.reduceEqDiff, j182, j204, j205])) ⟨by simp, put_or⟩ ?_
    simp -dsimp -implicitDefEqProofs only [↓j2, j17, j18, j20, j21, j22, j23, ↓j25, ↓j29, ↓j38, ↓j53, ↓j145, ↓j148, ↓j151, j163, j164, j171, j172, j173, j174, j175, ↓reduceIte, Nat.reduceEqDiff]
    refine CallTo.gen (args := [.ptr 2 0 []]) (orH o') (orH o') 3 rfl fok12 (by simp -dsimp -implicitDefEqProofs only [↓j25, ↓j29, j173, j174, ↓reduceIte]) (notup1 fun vs h => by cases h) (last_spec o') (SubH.of (by simp -dsimp -implicitDefEqProofs only [↓j27, ↓reduceIte, Nat.reduceEqDiff, j182, j204, j205])) ⟨by simp, put_or⟩ ?_
    simp -dsimp -implicitDefEqProofs only [↓j1, ↓j2, j17, j18, j20, j21, j22, j23, ↓j25, ↓j29, ↓j30, j32, ↓j38, ↓j40, ↓j48, ↓j53, j83, ↓j89, ↓j145, ↓j146, ↓j148, ↓j151, j161, j163, j164, j171, j172, j173, j174, j175, ↓reduceIte, Nat.reduceEqDiff, j185, j195, f3]
    refine CallTo.gen (args := [.ptr 2 0 []]) (orH o') (orH o') 3 rfl fok12 (by simp -dsimp -implicitDefEqProofs only [↓j25, ↓j29, j173, j174, ↓reduceIte]) (notup1 fun vs h => by cases h) (last_spec o') (SubH.of (by simp -dsimp -implicitDefEqProofs only [↓j27, ↓reduceIte, Nat.reduceEqDiff, j182, j204, j205])) ⟨by simp, put_or⟩ ?_
    simp -dsimp -implicitDefEqProofs only [↓j0, ↓j1, ↓j2, ↓j7, ↓j9, ↓j12, ↓j13, ↓j15, j17, j18, j20, j21, j22, j23, ↓j25, ↓j29, ↓j30, j32, ↓j38, ↓j40, ↓j48, ↓j53, j83, ↓j89, ↓j145, ↓j146, ↓j148, ↓j149, ↓j151, j161, j163, j164, j171, j172, j173, j174, j175, ↓reduceIte, Nat.reduceEqDiff, j185, j195, f4]
    refine CallTo.gen (args := [.ptr 2 0 []]) (orH o') (orH o') 3 rfl fok18 (by simp -dsimp -implicitDefEqProofs only [↓j25, ↓j29, j173, j174, ↓reduceIte]) (notup1 fun vs h => by cases h) (hz_spec o' hdo) (SubH.of (by simp -dsimp -implicitDefEqProofs only [↓j27, ↓reduceIte, Nat.reduceEqDiff, j182, j204, j205])) ⟨by simp, put_or⟩ ?_
    simp -dsimp -implicitDefEqProofs only [↓j1, j17, j18, j20, j21, j22, j23, ↓j25, ↓j29, ↓j38, ↓j53, ↓j145, j171, j172, j173, j174, ↓reduceIte, Nat.reduceEqDiff]
    refine CallTo.gen (args := [.ptr 2 0 []]) (orH o') (orH o') 3 rfl fok12 (by simp -dsimp -implicitDefEqProofs only [↓j25, ↓j29, j173, j174, ↓reduceIte]) (notup1 fun vs h => by cases h) (last_spec o') (SubH.of (by simp -dsimp -implicitDefEqProofs only [↓j27, ↓reduceIte, Nat.reduceEqDiff, j182, j204, j205])) ⟨by simp, put_or⟩ ?_
    simp -dsimp -implicitDefEqProofs only [↓j0, ↓j1, ↓j7, ↓j12, ↓j15, j17, j18, j20, j21, j22, j23, ↓j25, ↓j29, ↓j38, ↓j39, ↓j53, ↓j145, j171, j172, j173, j174, ↓reduceIte, Nat.reduceEqDiff]
    refine CallTo.gen (args := [.ptr 2 0 []]) (orH o') (orH o') 3 rfl fok21 (by simp -dsimp -implicitDefEqProofs only [↓j25, ↓j29, j173, j174, ↓reduceIte]) (notup1 fun vs h => by cases h) (live_spec o' hdo) (SubH.of (by simp -dsimp -implicitDefEqProofs only [↓j27, ↓reduceIte, Nat.reduceEqDiff, j182, j204, j205])) ⟨by simp, put_or⟩ ?_
    simp -dsimp -implicitDefEqProofs only [↓j0, ↓j1, ↓j14, ↓j16, j17, j18, j20, j21, j22, j23, ↓j25, ↓j29, ↓j30, j33, ↓j38, ↓j58, ↓j62, j142, ↓j145, j171, j172, j173, j174, ↓reduceIte, Nat.reduceEqDiff, j383]
    refine AWp.loopR (Z := Z) mixed hZ (by kernel_rfl) (fun m s => ∃ j, j + m = (keysIn o'.live).length ∧ s = hiSt l a M o' i j) (n0 := (keysIn o'.live).length) (s0 := hiSt l a M o' i 0) ?_ ⟨0, by omega, rfl⟩ ?_ rfl
    · exact Wk.sub (by simp -dsimp -implicitDefEqProofs only [↓j25, ↓j27, j179, ↓reduceIte, Nat.reduceEqDiff, j182, j183, j184, j202, j203, j204, j205, j209, j223] <;> simp)
    rintro m s ⟨j, hj, rfl⟩
    refine ⟨rfl, ?_⟩
    rcases Nat.lt_or_ge j (keysIn o'.live).length with hjl | hjg
    · obtain ⟨k, hk⟩ := list_get (xs := keysIn o'.live) (i := j) hjl
      have hkm : k ∈ o'.live.map (·.1) := keysIn_mem.1 (List.mem_of_getElem? hk)
      obtain ⟨e, he, hek⟩ := List.mem_map.1 hkm
      have hko : kOk k := hek ▸ live_ok hdo e he
      have hsp : o'.startP k = (e.2, true) := by
        unfold OS.startP
        rw [← hek, aGet_of_mem hdo.nodup (show (e.1, e.2) ∈ o'.live from he)]
      have hst := start_spec o' hdo k hko
      rw [hsp] at hst
      have hez := hz_all hdo he
      have hel := (hdo.keys e he).2.2
      have g1 : decide ((e.2 : Int) < (o'.hz : Int)) = false := decide_eq_false (by omega)
      have g2 : decide ((o'.last : Int) < (e.2 : Int)) = false := decide_eq_false (by omega)
      have q1 : decide ((j : Int) < ((keysIn o'.live).length : Int)) = true := decide_eq_true (by omega)
      have q2 : (j : Int) < ((keysIn o'.live).length : Int) := by omega
      have q3 := (unif_keys (keysIn o'.live)).sizeL_take (k := j) (by simp; omega)
      have hl8 : (keysIn o'.live).length ≤ 8 := by rw [keysIn_len]; exact hdo.few
      have q4 : IntKind.i64.wrap ((j : Int) + 1) = ((j + 1 : Nat) : Int) := by rw [wrap_i64 (by omega) (by omega)]; omega
      obtain ⟨ks, hks⟩ : ∃ ks, keysIn o'.live = ks := ⟨_, rfl⟩
      rw [hks] at hk q1 q2 q3 hj hjl
      simp -dsimp -implicitDefEqProofs only [↓j0, ↓j1, ↓j7, ↓j9, ↓j12, ↓j13, ↓j14, ↓j15, j17, j18, j20, ↓j25, ↓j29, ↓j38, ↓j39, ↓j43, ↓j46, ↓j48, ↓j53, ↓j77, ↓j89, ↓j92, j130, ↓j145, ↓j146, ↓j147, ↓j149, j159, AV.proj, AV.offOf, j171, j177, ↓reduceIte, Nat.reduceEqDiff, j182, j185, j191, j197, j206, j207, j208, j291, j318, hiSt, hks, hk, q2, q3]
      refine CallTo.gen (args := [.ptr 2 0 [], .int .u64 k]) (orH o') (orH o') 3 rfl fok14 (by simp -dsimp -implicitDefEqProofs only [↓j25, ↓j29, j173, j174, ↓reduceIte, Nat.reduceEqDiff]) (notup2 (fun vs h => by cases h) fun vs h => by cases h) hst (SubH.of (by simp -dsimp -implicitDefEqProofs only [↓j27, ↓reduceIte, Nat.reduceEqDiff, j182, j204, j205])) ⟨by simp, put_or⟩ ?_
      simp -dsimp -implicitDefEqProofs only [↓j0, ↓j1, ↓j2, ↓j7, ↓j9, ↓j12, ↓j13, ↓j15, j17, j18, j20, j21, j22, j23, ↓j25, ↓j29, ↓j30, j32, j33, ↓j38, ↓j39, ↓j40, ↓j48, ↓j55, ↓j57, j83, j84, j85, ↓j89, ↓j145, ↓j146, ↓j148, ↓j149, ↓j151, j154, j159, j161, j163, j164, j171, j172, j173, j174, j175, ↓reduceIte, Nat.reduceEqDiff, j185, j193, j195, g1, g2]
      exact ⟨m - 1, hiSt l a M o' i (j + 1), by omega, ⟨j + 1, by omega, by simp only [hiSt, hks]⟩, Wk.sub (by simp -dsimp -implicitDefEqProofs only [↓j25, ↓j27, ↓reduceIte, Nat.reduceEqDiff, j182, j202, j203, j204, j205, j223, hks, q4] <;> simp)⟩
    · have q1 : decide ((j : Int) < ((keysIn o'.live).length : Int)) = false := decide_eq_false (by omega)
      obtain ⟨ks, hks⟩ : ∃ ks, keysIn o'.live = ks := ⟨_, rfl⟩
      rw [hks] at q1
      simp -dsimp -implicitDefEqProofs only [↓j0, ↓j1, ↓j7, ↓j11, ↓j12, ↓j13, ↓j15, j17, j18, j20, ↓j25, ↓j29, ↓j30, j33, ↓j38, ↓j39, ↓j48, ↓j89, ↓j145, ↓j146, ↓j148, ↓j149, j154, j159, j171, ↓reduceIte, Nat.reduceEqDiff, j185, hiSt, hks, q1]
      exact ⟨n - 1, hoSt l a M o' (i + 1), by omega, ⟨o', i + 1, hdo, by omega, by omega, by omega, rfl⟩, Wk.sub (by simp -dsimp -implicitDefEqProofs only [↓j25, ↓j27, ↓reduceIte, Nat.reduceEqDiff, j182, j202, j203, j204, j205, j223, hw] <;> simp)⟩
  · have hb := begin_spec o ho (by omega)
    have hB : o.beginP = if o.live.length = 8 then ((0, 0, 10), o) else ((o.count + 1, o.last, 0), { o with count := o.count + 1, live := aPut o.live (o.count + 1) o.last }) := rfl
    have tailp : ∀ (t : Env) (m : Nat), True := fun _ _ => trivial
    have hif : (decide ((i : Int) < (l.length : Int)) && decide ((i : Int) < 60)) = false := by
      rw [Bool.and_eq_false_iff, decide_eq_false_iff_not, decide_eq_false_iff_not]; omega
    by_cases h8 : o.live.length = 8
    · rw [if_pos h8] at hB
      rw [hB] at hb
      have hls := live_spec o ho
      have hkl : (keysIn o.live).length = 8 := by rw [keysIn_len, h8]
      have g0 : (((10 : Nat) : Int) == 0) = false := rfl
      have g1 : (((10 : Nat) : Int) == 10) = true := rfl
      have g2 : (((8 : Nat) : Int) == 8) = true := rfl
      obtain ⟨ks, hks⟩ : ∃ ks, keysIn o.live = ks := ⟨_, rfl⟩
      rw [hks] at hls hkl
      by_cases h1 : i < l.length
      · have e1 : decide ((i : Int) < (l.length : Int)) = true := decide_eq_true (by omega)
        have e2 : decide ((i : Int) < 60) = false := decide_eq_false (by omega)
        simp -dsimp -implicitDefEqProofs only [↓j0, ↓j1, ↓j2, ↓j7, ↓j11, ↓j12, ↓j13, ↓j15, j17, j18, j20, ↓j25, ↓j29, ↓j30, j32, j33, ↓j38, ↓j40, ↓j48, ↓j53, ↓j58, ↓j62, j83, ↓j89, j142, ↓j145, ↓j146, ↓j147, ↓j148, ↓j149, ↓j150, j159, j163, j164, j171, j175, ↓reduceIte, Nat.reduceEqDiff, j185, j376, hoSt, e1, e2]
        refine CallTo.gen (args := [.ptr 2 0 []]) (orH o) (orH o) 3 rfl fok15 (by simp -dsimp -implicitDefEqProofs only [↓j25, ↓j29, j173, j174, ↓reduceIte]) (notup1 fun vs h => by cases h) hb (SubH.of (by simp -dsimp -implicitDefEqProofs only [↓j27, ↓reduceIte, Nat.reduceEqDiff, j182, j204, j205])) ⟨by simp, put_or⟩ ?_
        simp -dsimp -implicitDefEqProofs only [↓j0, ↓j1, ↓j2, ↓j7, ↓j12, ↓j15, j17, j18, j20, j21, j22, j23, ↓j25, ↓j29, ↓j30, j32, j33, ↓j38, ↓j39, ↓j40, ↓j48, ↓j53, ↓j57, j82, j85, ↓j89, ↓j145, ↓j146, ↓j147, ↓j148, ↓j150, ↓j151, j157, j163, j164, j171, j172, j173, j174, j175, ↓reduceIte, Nat.reduceEqDiff, j185, g0, g1]
        refine CallTo.gen (args := [.ptr 2 0 []]) (orH o) (orH o) 3 rfl fok21 (by simp -dsimp -implicitDefEqProofs only [↓j25, ↓j29, j173, j174, ↓reduceIte]) (notup1 fun vs h => by cases h) hls (SubH.of (by simp -dsimp -implicitDefEqProofs only [↓j27, ↓reduceIte, Nat.reduceEqDiff, j182, j204, j205])) ⟨by simp, put_or⟩ ?_
        simp -dsimp -implicitDefEqProofs only [↓j1, ↓j2, j17, j18, j20, j21, j22, j23, ↓j25, ↓j29, ↓j30, j32, j33, ↓j38, ↓j40, ↓j48, ↓j53, ↓j58, ↓j62, j83, ↓j89, j142, ↓j145, ↓j146, ↓j147, ↓j148, ↓j150, ↓j151, j157, j163, j164, j171, j172, j173, j174, j175, ↓reduceIte, Nat.reduceEqDiff, j185, j195, j383, hkl, g2]
        refine CallTo.pure (args := []) rfl fok8 (by simp -dsimp -implicitDefEqProofs only [j174]) (fun x hx => by cases hx) awake_spec ?_
        simp -dsimp -implicitDefEqProofs only [↓j0, ↓j1, ↓j10, j17, j18, j20, ↓j25, ↓j29, ↓j30, j32, ↓j39, ↓j40, j83, ↓j145, j171, ↓reduceIte, Nat.reduceEqDiff]
        exact fin _ _ _ rfl
      · have e1 : decide ((i : Int) < (l.length : Int)) = false := decide_eq_false (by omega)
        simp -dsimp -implicitDefEqProofs only [↓j0, ↓j1, ↓j2, ↓j7, ↓j11, ↓j12, ↓j13, ↓j15, j17, j18, j20, ↓j25, ↓j29, ↓j30, j32, ↓j38, ↓j40, ↓j48, ↓j53, ↓j58, ↓j62, j82, ↓j89, j142, ↓j145, ↓j146, ↓j148, ↓j149, ↓j150, j159, j163, j164, j171, j175, ↓reduceIte, Nat.reduceEqDiff, j185, j376, hoSt, e1]
        refine CallTo.gen (args := [.ptr 2 0 []]) (orH o) (orH o) 3 rfl fok15 (by simp -dsimp -implicitDefEqProofs only [↓j25, ↓j29, j173, j174, ↓reduceIte]) (notup1 fun vs h => by cases h) hb (SubH.of (by simp -dsimp -implicitDefEqProofs only [↓j27, ↓reduceIte, Nat.reduceEqDiff, j182, j204, j205])) ⟨by simp, put_or⟩ ?_
        simp -dsimp -implicitDefEqProofs only [↓j0, ↓j1, ↓j2, ↓j7, ↓j12, ↓j15, j17, j18, j20, j21, j22, j23, ↓j25, ↓j29, ↓j30, j32, j33, ↓j38, ↓j39, ↓j40, ↓j48, ↓j53, ↓j57, j82, j85, ↓j89, ↓j145, ↓j146, ↓j147, ↓j148, ↓j150, ↓j151, j157, j163, j164, j171, j172, j173, j174, j175, ↓reduceIte, Nat.reduceEqDiff, j185, g0, g1]
        refine CallTo.gen (args := [.ptr 2 0 []]) (orH o) (orH o) 3 rfl fok21 (by simp -dsimp -implicitDefEqProofs only [↓j25, ↓j29, j173, j174, ↓reduceIte]) (notup1 fun vs h => by cases h) hls (SubH.of (by simp -dsimp -implicitDefEqProofs only [↓j27, ↓reduceIte, Nat.reduceEqDiff, j182, j204, j205])) ⟨by simp, put_or⟩ ?_
        simp -dsimp -implicitDefEqProofs only [↓j1, ↓j2, j17, j18, j20, j21, j22, j23, ↓j25, ↓j29, ↓j30, j32, j33, ↓j38, ↓j40, ↓j48, ↓j53, ↓j58, ↓j62, j83, ↓j89, j142, ↓j145, ↓j146, ↓j147, ↓j148, ↓j150, ↓j151, j157, j163, j164, j171, j172, j173, j174, j175, ↓reduceIte, Nat.reduceEqDiff, j185, j195, j383, hkl, g2]
        refine CallTo.pure (args := []) rfl fok8 (by simp -dsimp -implicitDefEqProofs only [j174]) (fun x hx => by cases hx) awake_spec ?_
        simp -dsimp -implicitDefEqProofs only [↓j0, ↓j1, ↓j10, j17, j18, j20, ↓j25, ↓j29, ↓j30, j32, ↓j39, ↓j40, j83, ↓j145, j171, ↓reduceIte, Nat.reduceEqDiff]
        exact fin _ _ _ rfl
    · rw [if_neg h8] at hB
      rw [hB] at hb
      have g0 : (((0 : Nat) : Int) == 0) = true := rfl
      have g1 : ((o.last : Int) == (o.last : Int)) = true := by simp
      have g2 : decide (0 < ((o.count + 1 : Nat) : Int)) = true := decide_eq_true (by omega)
      obtain ⟨o', ho'⟩ : ∃ o', ({ o with count := o.count + 1, live := aPut o.live (o.count + 1) o.last } : OS) = o' := ⟨_, rfl⟩
      rw [ho'] at hb
      by_cases h1 : i < l.length
      · have e1 : decide ((i : Int) < (l.length : Int)) = true := decide_eq_true (by omega)
        have e2 : decide ((i : Int) < 60) = false := decide_eq_false (by omega)
        simp -dsimp -implicitDefEqProofs only [↓j0, ↓j1, ↓j2, ↓j7, ↓j11, ↓j12, ↓j13, ↓j15, j17, j18, j20, ↓j25, ↓j29, ↓j30, j32, j33, ↓j38, ↓j40, ↓j48, ↓j53, ↓j58, ↓j62, j83, ↓j89, j142, ↓j145, ↓j146, ↓j147, ↓j148, ↓j149, ↓j150, j159, j163, j164, j171, j175, ↓reduceIte, Nat.reduceEqDiff, j185, j376, hoSt, e1, e2]
        refine CallTo.gen (args := [.ptr 2 0 []]) (orH o) (orH o') 3 rfl fok15 (by simp -dsimp -implicitDefEqProofs only [↓j25, ↓j29, j173, j174, ↓reduceIte]) (notup1 fun vs h => by cases h) hb (SubH.of (by simp -dsimp -implicitDefEqProofs only [↓j27, ↓reduceIte, Nat.reduceEqDiff, j182, j204, j205])) ⟨by simp, put_or⟩ ?_
        simp -dsimp -implicitDefEqProofs only [↓j0, ↓j1, ↓j2, ↓j7, ↓j12, ↓j15, j17, j18, j20, j21, j22, j23, ↓j25, ↓j29, ↓j30, j32, j33, ↓j38, ↓j39, ↓j40, ↓j48, ↓j53, ↓j57, j81, j83, j85, ↓j89, ↓j145, ↓j146, ↓j147, ↓j150, ↓j151, ↓j152, j157, j161, j163, j164, j171, j172, j173, j174, j175, ↓reduceIte, Nat.reduceEqDiff, j185, g0, g1, g2]
        refine CallTo.pure (args := []) rfl fok8 (by simp -dsimp -implicitDefEqProofs only [j174]) (fun x hx => by cases hx) awake_spec ?_
        simp -dsimp -implicitDefEqProofs only [↓j0, ↓j1, ↓j10, j17, j18, j20, ↓j25, ↓j29, ↓j30, j32, ↓j39, ↓j40, j83, ↓j145, j171, ↓reduceIte, Nat.reduceEqDiff]
        exact fin _ _ _ rfl
      · have e1 : decide ((i : Int) < (l.length : Int)) = false := decide_eq_false (by omega)
        simp -dsimp -implicitDefEqProofs only [↓j0, ↓j1, ↓j2, ↓j7, ↓j11, ↓j12, ↓j13, ↓j15, j17, j18, j20, ↓j25, ↓j29, ↓j30, j32, ↓j38, ↓j40, ↓j48, ↓j53, ↓j58, ↓j62, j82, ↓j89, j142, ↓j145, ↓j146, ↓j148, ↓j149, ↓j150, j159, j163, j164, j171, j175, ↓reduceIte, Nat.reduceEqDiff, j185, j376, hoSt, e1]
        refine CallTo.gen (args := [.ptr 2 0 []]) (orH o) (orH o') 3 rfl fok15 (by simp -dsimp -implicitDefEqProofs only [↓j25, ↓j29, j173, j174, ↓reduceIte]) (notup1 fun vs h => by cases h) hb (SubH.of (by simp -dsimp -implicitDefEqProofs only [↓j27, ↓reduceIte, Nat.reduceEqDiff, j182, j204, j205])) ⟨by simp, put_or⟩ ?_
        simp -dsimp -implicitDefEqProofs only [↓j0, ↓j1, ↓j2, ↓j7, ↓j12, ↓j15, j17, j18, j20, j21, j22, j23, ↓j25, ↓j29, ↓j30, j32, j33, ↓j38, ↓j39, ↓j40, ↓j48, ↓j53, ↓j57, j81, j83, j85, ↓j89, ↓j145, ↓j146, ↓j147, ↓j150, ↓j151, ↓j152, j157, j161, j163, j164, j171, j172, j173, j174, j175, ↓reduceIte, Nat.reduceEqDiff, j185, g0, g1, g2]
        refine CallTo.pure (args := []) rfl fok8 (by simp -dsimp -implicitDefEqProofs only [j174]) (fun x hx => by cases hx) awake_spec ?_
        simp -dsimp -implicitDefEqProofs only [↓j0, ↓j1, ↓j10, j17, j18, j20, ↓j25, ↓j29, ↓j30, j32, ↓j39, ↓j40, j83, ↓j145, j171, ↓reduceIte, Nat.reduceEqDiff]
        exact fin _ _ _ rfl
end Go.Proofs.Ytiolhncfnoafeaa
