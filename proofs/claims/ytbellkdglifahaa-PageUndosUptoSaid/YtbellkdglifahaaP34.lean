/- The law PageUndos. -/
import Derived.Test.YtbellkdglifahaaP31
set_option linter.unusedVariables false
set_option linter.unusedSimpArgs false
namespace Go.Proofs.Ytbellkdglifahaa
open Go Go.RowKit

theorem args_nup {no : Nat} {u : Ud} {p : List UInt8} : ∀ x, x ∈ [AV.int .u16 (no : Int), u.av, arrAV p] → AV.on (fun _ => False) x ∧ ∀ vs, x ≠ .tuple vs := fun x hx => by
  simp only [List.mem_cons, List.not_mem_nil, or_false] at hx
  rcases hx with rfl | rfl | rfl
  · exact ⟨trivial, fun vs h => by cases h⟩
  · exact ⟨on_ud _ _, fun vs h => by cases h⟩
  · exact ⟨on_bytes _ _, fun vs h => by cases h⟩
set_option maxHeartbeats 1600000 in
theorem pageUndos_spec (no : Nat) (hno : no < 65536) (u : Ud) (hu : u.Ok) (hs : sumS u.olds ≤ 1073741824) (p : List UInt8) (hp : p.length = 224) : ACall Try.prog 4 [.int .u16 no, u.av, arrAV p] [] (.bool true) [] := by
  refine ACall.run (Z := Z) (N := 96) mixed hZ Try.func4 rfl rfl (by kernel_rfl) (by simp) args_nup 0 ?_
  have nil0 : ∀ x : AV, x ∈ ([] : List AV) → ∀ vs, x ≠ .tuple vs := fun x hx => by simp at hx
  have ret : ∀ (t : Env) (H : Heap) (m : Nat), look t 6 = some (.bool true) → Final Try.prog Try.f4 (.bool true) [] .ret ⟨96, t, H, m⟩ := fun t H m h =>
    Final.one (.inr rfl) (r := .tmp 6) rfl ⟨h, fun vs h => by cases h⟩ (fun vs h => by cases h) (fun vs h => by cases h) (.same _ trivial)
  by_cases h1000 : 1000 < u.olds.length
  · have e : decide (1000 < (u.olds.length : Int)) = true := decide_eq_true (by omega)
    simp -dsimp -implicitDefEqProofs only [↓j0, ↓j1, ↓j7, ↓j12, ↓j13, ↓j15, j17, j18, j20, ↓j25, ↓j27, ↓j29, ↓j30, j32, j33, ↓j39, ↓j42, ↓j43, ↓j45, ↓j48, ↓j53, ↓j58, ↓j62, ↓j76, ↓j79, ↓j89, j133, j142, ↓j145, ↓j146, ↓j147, ↓j149, ↓j153, j161, AV.proj, AV.offOf, AV.size, AV.sizeL, AV.layable, argEnv, j163, j164, j166, j167, j170, j171, j172, reduceCtorEq, ↓reduceIte, Nat.reduceAdd, Nat.reduceEqDiff, j182, j185, j196, j197, j309, j318, j401, e]
    refine CallTo.pure (args := []) rfl fok15 rfl nil0 awake_spec ?_
    simp -dsimp -implicitDefEqProofs only [↓j0, ↓j1, ↓j10, j17, j18, j20, ↓j25, ↓j29, ↓j39, ↓j145, j171, ↓reduceIte]
    exact ret _ _ _ rfl
  have e : decide (1000 < (u.olds.length : Int)) = false := decide_eq_false (by omega)
  have hz := zb_len 224
  have hq : (putUndo no u).length = 224 := putUndo_len
  have hks := kept_spec u hu (by omega)
  have hpu : ACall Try.prog 16 [.int .u16 no, u.av] [] (.tuple [arrAV (putUndo no u), .int .i64 (if mayP u then 0 else 1)]) [] := putUndo_spec no hno u hu
  have hru := rputUndo_spec no hno u hu
  have hms := may_spec u hu
  have hss := size_spec u hu (by omega)
  have hrs := rsize_spec u hu (by omega)
  have hgu : ACall Try.prog 19 [.int .u16 no, arrAV p] [] (.tuple [((getUndo no p).getD ⟨0, []⟩).av, .int .i64 (if (getUndo no p).isSome then 0 else 2)]) [] := getUndo_spec no hno p hp
  have hrg : ACall Try.prog 20 [.int .u16 no, arrAV p] [] (.tuple [((getUndo no p).getD ⟨0, []⟩).av, .bool (getUndo no p).isSome]) [] := by
    have := rgetUndo_spec no hno p hp
    rw [rget_getU hno hp] at this
    exact this
  have hxo : ((getUndo no p).getD ⟨0, []⟩).Ok := by
    cases hg : getUndo no p with
    | none => exact uzero_ok
    | some x => exact (getUndo_some hno hp hg).2.2.1
  obtain ⟨x, hx⟩ : ∃ x, (getUndo no p).getD ⟨0, []⟩ = x := ⟨_, rfl⟩
  obtain ⟨b, hb⟩ : ∃ b, (getUndo no p).isSome = b := ⟨_, rfl⟩
  obtain ⟨q, hqe⟩ : ∃ q, putUndo no u = q := ⟨_, rfl⟩
  obtain ⟨m, hm⟩ : ∃ m, mayP u = m := ⟨_, rfl⟩
  rw [hx] at hxo
  rw [hx, hb] at hgu hrg
  rw [hqe] at hq hpu hru
  rw [hm] at hpu hru hms
  have hsu := same_spec x hxo
  have hce := cellsEq_bytes (l := q) (k := q) rfl
  rw [beq_self_eq_true] at hce
  have hk1 := kinds_bytes hq
  have aud : ∀ y, y ∈ [u.av] → ∀ vs, y ≠ .tuple vs := fun y hy => (args_ud y hy).2
  have anu : ∀ y, y ∈ [AV.int .u16 (no : Int), u.av] → ∀ vs, y ≠ .tuple vs := fun y hy => (args_nu y hy).2
  have anp : ∀ y, y ∈ [AV.int .u16 (no : Int), arrAV p] → ∀ vs, y ≠ .tuple vs := fun y hy => (args_np y hy).2
  have c1 : ((if m = true then (0 : Int) else 1) == 0) = m := by cases m <;> rfl
  have c2 : ((if m = true then (0 : Int) else 1) != 1) = m := by cases m <;> rfl
  have c3 : (m != m) = false := by cases m <;> rfl
  have c4 : (((16 + sumS u.olds : Nat) : Int) != ((16 + sumS u.olds : Nat) : Int)) = false := by simp
  have c5 : ((if b = true then (0 : Int) else 2) == 0) = b := by cases b <;> rfl
  have c6 : ((if b = true then (0 : Int) else 2) == 2) = !b := by cases b <;> rfl
  have c7 : (b == b) = true := by cases b <;> rfl
  have c8 : (true != true) = false := rfl
  simp -dsimp -implicitDefEqProofs only [↓j0, ↓j1, ↓j7, ↓j9, ↓j12, ↓j13, ↓j15, j17, j18, j20, ↓j25, ↓j27, ↓j29, ↓j30, j32, j33, ↓j38, ↓j39, ↓j42, ↓j43, ↓j45, ↓j48, ↓j53, ↓j58, ↓j62, ↓j76, ↓j79, ↓j89, j129, j133, j142, ↓j145, ↓j146, ↓j148, ↓j149, ↓j153, j161, AV.proj, AV.offOf, AV.size, AV.sizeL, AV.layable, argEnv, j163, j164, j166, j167, j170, j171, j172, reduceCtorEq, ↓reduceIte, Nat.reduceAdd, Nat.reduceEqDiff, j182, j185, j196, j197, j309, j312, j313, j318, j401, e]
  refine CallTo.pure (args := [u.av]) rfl fok17 (by simp -dsimp -implicitDefEqProofs only [↓j25, ↓j29, j173, j174, ↓reduceIte]) aud hks ?_
  simp -dsimp -implicitDefEqProofs only [↓j1, j17, j18, j20, ↓j53, j171]
  refine CallTo.pure (args := [.int .u16 no, u.av]) rfl fok16 (by simp -dsimp -implicitDefEqProofs only [↓j25, ↓j29, j173, j174, ↓reduceIte, Nat.reduceEqDiff]) anu hpu ?_
  simp -dsimp -implicitDefEqProofs only [↓j0, ↓j1, ↓j7, ↓j12, ↓j15, j17, j18, j19, j20, j21, j22, j23, ↓j25, ↓j27, ↓j29, ↓j38, ↓j39, ↓j41, ↓j43, ↓j44, ↓j53, ↓j57, ↓j76, ↓j78, j85, j129, ↓j145, ↓j146, ↓j153, AV.proj, AV.offOf, AV.upd, AV.size, AV.sizeL, AV.layable, j163, j164, j170, j171, reduceCtorEq, ↓reduceIte, Nat.reduceAdd, Nat.reduceEqDiff, j182, j197, j240, j243, j300, j312, j313, j367, hq]
  refine CallTo.pure (args := [.int .u16 no, u.av]) rfl fok18 (by simp -dsimp -implicitDefEqProofs only [↓j25, ↓j29, j173, j174, ↓reduceIte, Nat.reduceEqDiff]) anu hru ?_
  simp -dsimp -implicitDefEqProofs only [↓j0, ↓j1, ↓j7, ↓j12, ↓j15, j17, j18, j19, j20, j21, j22, j23, ↓j25, ↓j27, ↓j29, ↓j38, ↓j39, ↓j41, ↓j43, ↓j44, ↓j53, ↓j57, ↓j76, ↓j78, j85, j129, ↓j145, ↓j146, ↓j153, AV.proj, AV.offOf, AV.upd, AV.size, AV.layable, j163, j164, j170, j171, reduceCtorEq, ↓reduceIte, Nat.reduceAdd, Nat.reduceEqDiff, j182, j240, j243, j300, j301, j367, hp, hq]
  refine CallTo.pure (args := [.int .u16 no, arrAV p]) rfl fok19 (by simp -dsimp -implicitDefEqProofs only [↓j25, ↓j29, j173, j174, ↓reduceIte, Nat.reduceEqDiff]) anp hgu ?_
  simp -dsimp -implicitDefEqProofs only [↓j0, ↓j1, ↓j7, ↓j12, ↓j15, j17, j18, j19, j20, j21, j22, j23, ↓j25, ↓j27, ↓j29, ↓j38, ↓j39, ↓j41, ↓j43, ↓j44, ↓j53, ↓j57, ↓j76, ↓j78, j85, j129, ↓j145, ↓j146, ↓j153, AV.proj, AV.offOf, AV.upd, AV.size, AV.sizeL, AV.layable, j163, j164, j170, j171, reduceCtorEq, ↓reduceIte, Nat.reduceAdd, Nat.reduceEqDiff, j182, j197, j240, j300, j301, j312, j370, hp]
  refine CallTo.pure (args := [.int .u16 no, arrAV p]) rfl fok20 (by simp -dsimp -implicitDefEqProofs only [↓j25, ↓j29, j173, j174, ↓reduceIte, Nat.reduceEqDiff]) anp hrg ?_
  have y1 : ((1 : Int) == 0) = false := rfl
  have y2 : ((1 : Int) != 1) = false := rfl
  have y3 : ((0 : Int) == 0) = true := rfl
  have y4 : ((0 : Int) != 1) = true := rfl
  have y5 : ((2 : Int) == 0) = false := rfl
  have y6 : ((2 : Int) == 2) = true := rfl
  have y7 : (false != false) = false := rfl
  have y8 : (false == false) = true := rfl
  have y9 : (true == true) = true := rfl
  cases m
  all_goals
    simp -dsimp -implicitDefEqProofs only [↓j0, ↓j1, ↓j4, ↓j5, ↓j8, ↓j12, ↓j15, j17, j18, j19, j20, j21, j22, j23, j24, ↓j25, ↓j27, ↓j29, ↓j30, j32, j33, ↓j38, ↓j39, ↓j40, ↓j41, ↓j43, ↓j44, ↓j48, ↓j53, ↓j55, ↓j57, ↓j76, ↓j78, j82, j83, j84, j85, ↓j89, ↓j90, ↓j91, j129, ↓j145, ↓j146, ↓j147, ↓j148, ↓j150, ↓j151, ↓j153, j157, j158, AV.proj, AV.offOf, AV.upd, AV.size, AV.sizeL, AV.layable, j163, j164, j170, j171, j172, j174, j175, reduceCtorEq, ↓reduceIte, Nat.reduceAdd, Nat.reduceEqDiff, j182, j185, j193, j194, j195, j197, j212, j240, j241, j300, j301, j303, j304, j312, j313, j370, j390, hq, hce, hk1, c3, y1, y2, y3]
    refine CallTo.pure (args := [u.av]) rfl fok17 (by simp -dsimp -implicitDefEqProofs only [↓j25, ↓j29, j173, j174, ↓reduceIte]) aud hks ?_
    simp -dsimp -implicitDefEqProofs only [↓j5, j17, j18, j20, j24, ↓j25, ↓j53, ↓j145, ↓j148, ↓j151, j163, j164, j170, j171, j172, j174, j175, ↓reduceIte, Nat.reduceEqDiff]
    refine CallTo.pure (args := [u.av]) rfl fok21 (by simp -dsimp -implicitDefEqProofs only [↓j25, ↓j29, j173, j174, ↓reduceIte]) aud hms ?_
    simp -dsimp -implicitDefEqProofs only [↓j4, ↓j5, j17, j18, j20, j24, ↓j25, ↓j27, ↓j29, ↓j30, j32, ↓j38, ↓j40, ↓j43, ↓j48, ↓j53, ↓j76, j83, ↓j90, j129, ↓j145, ↓j146, ↓j148, ↓j151, ↓j153, AV.proj, AV.offOf, AV.size, AV.sizeL, j163, j164, j170, j171, j172, j174, j175, reduceCtorEq, ↓reduceIte, Nat.reduceAdd, Nat.reduceEqDiff, j182, j195, j197, j212, j312, j313, j390, c3]
    refine CallTo.pure (args := [u.av]) rfl fok17 (by simp -dsimp -implicitDefEqProofs only [↓j25, ↓j29, j173, j174, ↓reduceIte]) aud hks ?_
    simp -dsimp -implicitDefEqProofs only [↓j5, j17, j18, j20, j24, ↓j25, ↓j53, ↓j145, ↓j148, ↓j151, j163, j164, j170, j171, j172, j174, j175, ↓reduceIte, Nat.reduceEqDiff]
    refine CallTo.pure (args := [u.av]) rfl fok22 (by simp -dsimp -implicitDefEqProofs only [↓j25, ↓j29, j173, j174, ↓reduceIte]) aud hss ?_
    simp -dsimp -implicitDefEqProofs only [↓j5, j17, j18, j20, j24, ↓j25, ↓j27, ↓j29, ↓j43, ↓j53, ↓j76, j129, ↓j145, ↓j146, ↓j148, ↓j151, ↓j153, AV.proj, AV.offOf, AV.size, AV.sizeL, j163, j164, j170, j171, j172, j174, j175, reduceCtorEq, ↓reduceIte, Nat.reduceAdd, Nat.reduceEqDiff, j182, j197, j312, j313]
    refine CallTo.pure (args := [u.av]) rfl fok23 (by simp -dsimp -implicitDefEqProofs only [↓j25, ↓j29, j173, j174, ↓reduceIte]) aud hrs ?_
    simp -dsimp -implicitDefEqProofs only [↓j3, ↓j4, ↓j5, j17, j18, j20, j24, ↓j25, ↓j29, ↓j30, j32, ↓j40, ↓j48, j83, ↓j89, ↓j145, ↓j146, ↓j148, ↓j151, j158, j163, j164, j170, j171, j172, j174, j175, ↓reduceIte, Nat.reduceEqDiff, j185, j195, c4]
    refine ⟨by kernel_rfl, ?_⟩
    simp -dsimp -implicitDefEqProofs only [↓j1, ↓j7, ↓j9, ↓j12, ↓j13, ↓j15, j17, j18, j20, ↓j25, ↓j27, ↓j29, ↓j43, ↓j53, ↓j76, j129, ↓j145, ↓j146, ↓j148, ↓j149, ↓j153, AV.proj, AV.offOf, AV.size, AV.sizeL, j171, ↓reduceIte, Nat.reduceAdd, Nat.reduceEqDiff, j182, j197, j312, j313]
    refine CallTo.pure (args := [x.av, x.av]) rfl fok24 (by simp -dsimp -implicitDefEqProofs only [↓j25, ↓j29, j173, j174, ↓reduceIte, Nat.reduceEqDiff]) (fun y hy => (args_uu y hy).2) hsu ?_
    cases b
    all_goals
      simp -dsimp -implicitDefEqProofs only [↓j1, ↓j2, j17, j18, j20, ↓j25, ↓j29, ↓j30, j32, j33, ↓j38, ↓j40, ↓j48, ↓j53, j81, j83, ↓j89, ↓j90, ↓j145, ↓j146, ↓j147, ↓j148, ↓j150, ↓j151, j157, j163, j164, j171, j175, ↓reduceIte, Nat.reduceEqDiff, j185, j195, j211, j390, c7, y3, y5, y6]
      refine CallTo.pure (args := []) rfl fok15 rfl nil0 awake_spec ?_
      simp -dsimp -implicitDefEqProofs only [↓j0, ↓j1, ↓j10, j17, j18, j20, ↓j25, ↓j29, ↓j30, j32, ↓j39, ↓j40, j83, ↓j145, j171, ↓reduceIte, Nat.reduceEqDiff]
      exact ret _ _ _ rfl
end Go.Proofs.Ytbellkdglifahaa
