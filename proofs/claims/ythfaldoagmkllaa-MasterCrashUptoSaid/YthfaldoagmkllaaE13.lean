/- The law MasterNone. -/
import Derived.Test.YthfaldoagmkllaaE10
import Derived.Test.YthfaldoagmkllaaD13
set_option linter.unusedVariables false
set_option linter.unusedSimpArgs false
namespace Go.Proofs.Ythfaldoagmkllaa
open Go Go.RowKit

theorem load_nil : ACall Try.prog 16 [.nilptr] [] (.tuple [Ms.zero.av, .int .i64 0, .int .i64 4]) [] := by
  refine ACall.run (Z := Z) (N := 50) mixed hZ Try.func16 rfl rfl (by kernel_rfl) (by simp) (nil_args no_args) 0 ?_
  have hz := zb_len 256
  have l02 : decide ((0 : Int) < 2) = true := rfl
  have y4 : ((4 : Int) != 0) = true := rfl
  simp -dsimp -implicitDefEqProofs only [↓j0, ↓j1, ↓j7, ↓j12, ↓j14, ↓j15, ↓j16, j17, j18, j20, ↓j30, j33, ↓j38, ↓j39, ↓j41, ↓j145, argEnv, j170, j171, j172, Nat.reduceAdd, j196, Int.reduceNeg, j412]
  refine AWp.unrollR (Z := Z) 3 mixed hZ (by kernel_rfl) rfl ?_
  simp -dsimp -implicitDefEqProofs only [↓j0, ↓j1, ↓j7, ↓j9, ↓j12, ↓j13, ↓j14, ↓j15, j17, j18, j20, ↓j25, ↓j29, ↓j30, j33, ↓j38, ↓j39, ↓j48, ↓j53, ↓j89, ↓j145, ↓j146, ↓j147, ↓j149, j159, j171, reduceCtorEq, ↓reduceIte, Nat.reduceEqDiff, Int.reduceLT, j185, j191, Int.reduceNeg, UnrR]
  refine CallTo.pure (args := [.nilptr, .int .i64 0]) rfl fok35 (by simp -dsimp -implicitDefEqProofs only [↓j25, ↓j29, j173, j174, ↓reduceIte, Nat.reduceEqDiff, Int.reduceNeg]) (fun y hy => (nil_args args_i y hy).2) (read_nil 0) ?_
  simp -dsimp -implicitDefEqProofs only [↓j0, ↓j1, ↓j7, ↓j10, ↓j12, ↓j13, ↓j15, j17, j18, j19, j20, j21, j22, j23, ↓j25, ↓j27, ↓j29, ↓j30, j33, ↓j38, ↓j39, ↓j41, ↓j44, ↓j48, ↓j54, ↓j57, ↓j78, j85, ↓j89, ↓j124, j125, j127, ↓j145, ↓j146, ↓j147, ↓j149, ↓j153, j158, partsAV, AV.proj, AV.offOf, AV.upd, AV.size, AV.sizeL, AV.layable, j163, j164, j170, j171, reduceCtorEq, ↓reduceIte, Nat.reduceAdd, Nat.reduceEqDiff, j182, j185, j197, Int.reduceNeg, j214, j218, j219, j240, j282, j309, j414, j432, hz, y4]
  exact Final.many (.inr rfl) (rs := [.cell 2 27, .tmp 3, .tmp 4]) (us := [Ms.zero.av, .int .i64 0, .int .i64 4]) rfl ⟨⟨0, 0, [], _, rfl, rfl, rfl, rfl, by simp -dsimp -implicitDefEqProofs only [j129, AV.size, AV.sizeL, Nat.reduceAdd, j182, j197, j282, j283]⟩, ⟨rfl, fun vs h => by cases h⟩, ⟨rfl, fun vs h => by cases h⟩, trivial⟩ (by simp) ⟨.same _ (on_ms _ _), .same _ trivial, .same _ trivial, trivial⟩
theorem store_nil (m : Ms) (hm : m.Ok) (hy : mayM m = true) : ACall Try.prog 18 [.nilptr, .int .i64 0, m.av] [] (.int .i64 4) [] := by
  refine ACall.run (Z := Z) (N := 34) mixed hZ Try.func18 rfl rfl (by kernel_rfl) (by simp) (nil_args args_sm) 0 ?_
  have hz := zb_len 256
  have hps := pack_spec m hm
  rw [hy] at hps
  have hps : ACall Try.prog 8 [m.av] [] (.tuple [arrAV (packM m), .int .i64 0]) [] := hps
  have hql := packM_len m
  have y0 : ((0 : Int) != 0) = false := rfl
  have y4 : ((4 : Int) != 0) = true := rfl
  have y1 : decide ((0 : Int) < 0) = false := rfl
  have y2 : decide ((1 : Int) < 0) = false := rfl
  simp -dsimp -implicitDefEqProofs only [↓j0, ↓j1, ↓j7, ↓j12, ↓j15, j17, j18, j20, ↓j25, ↓j27, ↓j29, ↓j30, j33, ↓j39, ↓j42, ↓j43, ↓j53, ↓j76, j129, ↓j145, ↓j146, ↓j153, AV.proj, AV.offOf, AV.size, AV.sizeL, AV.layable, argEnv, j171, j172, reduceCtorEq, ↓reduceIte, Nat.reduceAdd, Nat.reduceEqDiff, j182, j196, j197, j282, j283]
  refine CallTo.pure (args := [m.av]) rfl fok8 (by simp -dsimp -implicitDefEqProofs only [↓j25, ↓j29, j173, j174, ↓reduceIte]) (fun x hx => (args_ms x hx).2) hps ?_
  simp -dsimp -implicitDefEqProofs only [↓j0, ↓j1, ↓j2, ↓j7, ↓j9, ↓j12, ↓j13, ↓j15, j17, j18, j19, j20, j21, j22, j23, ↓j25, ↓j27, ↓j29, ↓j30, j32, j33, ↓j38, ↓j39, ↓j40, ↓j41, ↓j43, ↓j44, ↓j48, ↓j53, ↓j57, ↓j76, ↓j78, j83, j85, ↓j89, j129, ↓j145, ↓j146, ↓j148, ↓j149, ↓j151, ↓j153, j158, j159, j161, AV.proj, AV.offOf, AV.upd, AV.size, AV.layable, j163, j164, j170, j171, j175, reduceCtorEq, ↓reduceIte, Nat.reduceAdd, Nat.reduceEqDiff, Int.reduceLT, j182, j185, j192, j195, j240, j309, j310, j414, hz, hql, y0]
  refine CallTo.pure (args := [.nilptr, .int .i64 0, arrAV (packM m)]) rfl fok20 (by simp -dsimp -implicitDefEqProofs only [↓j25, ↓j29, j173, j174, ↓reduceIte, Nat.reduceEqDiff]) (fun y hy => (nil_args args_pbx y hy).2) (write_nil 0 _ hql) ?_
  simp -dsimp -implicitDefEqProofs only [↓j0, ↓j1, ↓j7, ↓j10, ↓j12, ↓j13, ↓j15, j17, j18, j20, ↓j25, ↓j29, ↓j30, j33, ↓j38, ↓j39, ↓j48, ↓j89, ↓j145, ↓j146, ↓j147, ↓j149, j158, j171, ↓reduceIte, Nat.reduceEqDiff, j185, y4]
  exact Final.one (.inr rfl) (r := .tmp 6) rfl ⟨rfl, fun vs h => by cases h⟩ (fun vs h => by cases h) (fun vs h => by cases h) (.same _ trivial)
theorem args_ms3 {m : Ms} {s : Int} : ∀ x, x ∈ [m.av, .int .i64 s] → AV.on (fun _ => False) x ∧ ∀ vs, x ≠ .tuple vs := fun x hx => by
  simp only [List.mem_cons, List.not_mem_nil, or_false] at hx
  rcases hx with rfl | rfl
  · exact ⟨on_ms _ _, fun vs h => by cases h⟩
  · exact ⟨trivial, fun vs h => by cases h⟩
theorem masterNone_spec (m : Ms) (hm : m.Ok) (slot : Int) : ACall Try.prog 5 [m.av, .int .i64 slot] [] (.bool true) [] := by
  refine ACall.run (Z := Z) (N := 68) mixed hZ Try.func5 rfl rfl (by kernel_rfl) (by simp) args_ms3 98 ?_
  have hk := new_ok (n := 3) (by omega) (by omega)
  have hc := calm_new 3
  have hst := store_at (six 105 (by omega)) (DS.new 3) hk (by decide) (by decide) slot m hm
  have hsp : ((mayM m = true ∧ (slot = 0 ∨ slot = 1)) ∧ ((DS.new 3).storeP slot m).1 = 0 ∧ ((DS.new 3).storeP slot m).2.pend = [] ∧ ((DS.new 3).storeP slot m).2.fails = none) ∨ (¬ (mayM m = true ∧ (slot = 0 ∨ slot = 1)) ∧ ((DS.new 3).storeP slot m).1 = 1 ∧ ((DS.new 3).storeP slot m).2.pend = [] ∧ ((DS.new 3).storeP slot m).2.fails = none) := by
    by_cases h : mayM m = true ∧ (slot = 0 ∨ slot = 1)
    · left
      refine ⟨h, ?_⟩
      obtain ⟨h1, h2⟩ := h
      rcases h2 with rfl | rfl
      · have := calm_store hc (by decide) (b := 0) (by omega) h1
        have this : (DS.new 3).storeP 0 m = (0, (DS.new 3).stored 0 m) := this
        rw [this]; exact ⟨rfl, rfl, rfl⟩
      · have := calm_store hc (by decide) (b := 1) (by omega) h1
        have this : (DS.new 3).storeP 1 m = (0, (DS.new 3).stored 1 m) := this
        rw [this]; exact ⟨rfl, rfl, rfl⟩
    · right
      have : (DS.new 3).storeP slot m = (1, DS.new 3) := by
        unfold DS.storeP
        rw [if_neg fun h2 => h ⟨h2.1, by omega⟩]
      rw [this]; exact ⟨h, rfl, rfl, rfl⟩
  obtain ⟨⟨c, e⟩, hr⟩ : ∃ r, (DS.new 3).storeP slot m = r := ⟨_, rfl⟩
  rw [hr] at hst hsp
  have hsp : ((mayM m = true ∧ (slot = 0 ∨ slot = 1)) ∧ c = 0 ∧ e.pend = [] ∧ e.fails = none) ∨ (¬ (mayM m = true ∧ (slot = 0 ∨ slot = 1)) ∧ c = 1 ∧ e.pend = [] ∧ e.fails = none) := hsp
  have hep : e.pend = [] ∧ e.fails = none := by rcases hsp with h | h <;> exact h.2.2
  rw [if_pos (show e.pend = (DS.new 3).pend from hep.1)] at hst
  have hst : ACall Try.prog 18 [.ptr 100 0 [], .int .i64 slot, m.av] (diskG (DS.new 3) 100 101 102 103 104) (.int .i64 (c : Nat)) (diskG e 100 101 102 103 104) := hst
  have hrm := rmay_spec m
  have hps := plain_spec 1
  have hsn := store_nil (plainM 1) (plain_ok (by omega)) (plain_may 1)
  have hcm := cellsEq_ms .zero .zero
  rw [Ms.eqb_iff.2 rfl] at hcm
  have hcm : cellsEq [AV.int .u64 (Ms.zero.seq : Nat), .int .u32 (Ms.zero.epoch : Nat), .int .u32 (Ms.zero.tail : Nat), .int .u64 (Ms.zero.lsn : Nat), .int .u32 (Ms.zero.last : Nat), .int .i64 Ms.zero.pages, .int .i64 Ms.zero.undo, .int .i64 Ms.zero.log, .int .u32 (Ms.zero.maxTs : Nat)] [AV.int .u64 0, .int .u32 0, .int .u32 0, .int .u64 0, .int .u32 0, .int .i64 0, .int .i64 0, .int .i64 0, .int .u32 0] = some true := hcm
  have i1 : ∀ x, x ∈ [AV.int .u64 ((1 : Nat) : Int)] → ∀ vs, x ≠ .tuple vs := fun x hx => by
    simp only [List.mem_singleton] at hx; subst hx; exact fun vs h => by cases h
  have y3 : ((0 : Int) == 0) = true := rfl
  have y4 : ((1 : Int) == 0) = false := rfl
  have y5 : ((1 : Int) == 1) = true := rfl
  have y6 : ((4 : Int) == 4) = true := rfl
  have y7 : ((0 : Int) == 1) = false := rfl
  have y8 : (false == false) = true := rfl
  have y9 : (true == true) = true := rfl
  have x0 : (((0 : Nat) : Int) == 0) = true := rfl
  have x1 : (((1 : Nat) : Int) == 0) = false := rfl
  have x2 : (((1 : Nat) : Int) == 1) = true := rfl
  have five : ∃ (A B D : Bool), mayM m = A ∧ (slot == 0) = B ∧ (slot == 1) = D ∧ ((A = true ∧ B = true ∧ D = false ∧ c = 0) ∨ (A = true ∧ B = false ∧ D = true ∧ c = 0) ∨ (A = true ∧ B = false ∧ D = false ∧ c = 1) ∨ (A = false ∧ c = 1)) := by
    refine ⟨_, _, _, rfl, rfl, rfl, ?_⟩
    rcases hsp with ⟨⟨h1, h2⟩, h3, _⟩ | ⟨h1, h3, _⟩
    · rcases h2 with rfl | rfl
      · exact .inl ⟨h1, rfl, rfl, h3⟩
      · exact .inr (.inl ⟨h1, rfl, rfl, h3⟩)
    · cases hA : mayM m
      · exact .inr (.inr (.inr ⟨rfl, h3⟩))
      · refine .inr (.inr (.inl ⟨rfl, ?_, ?_, h3⟩))
        · rw [beq_eq_false_iff_ne]; exact fun h => h1 ⟨hA, .inl h⟩
        · rw [beq_eq_false_iff_ne]; exact fun h => h1 ⟨hA, .inr h⟩
  obtain ⟨A, B, D, hA, hB, hD, hF⟩ := five
  rw [hA] at hrm
  simp -dsimp -implicitDefEqProofs only [↓j0, ↓j1, ↓j7, ↓j12, ↓j15, j17, j18, j20, ↓j25, ↓j29, ↓j30, j32, j35, ↓j38, ↓j39, ↓j42, ↓j53, ↓j145, ↓j146, AV.layable, argEnv, j171, j172, ↓reduceIte, Nat.reduceAdd, j196]
  refine CallTo.pure (args := [.nilptr]) rfl fok16 (by simp -dsimp -implicitDefEqProofs only [↓j25, ↓j29, j173, j174, ↓reduceIte]) (fun y hy => (nil_args no_args y hy).2) load_nil ?_
  simp -dsimp -implicitDefEqProofs only [↓j0, ↓j1, ↓j7, ↓j12, ↓j15, j17, j18, j19, j20, j21, j22, j23, ↓j25, ↓j27, ↓j29, ↓j38, ↓j39, ↓j41, ↓j44, ↓j53, ↓j57, ↓j78, j85, ↓j145, ↓j146, ↓j153, AV.proj, AV.offOf, AV.upd, AV.size, AV.sizeL, AV.layable, j163, j164, j170, j171, ↓reduceIte, Nat.reduceAdd, Nat.reduceEqDiff, j182, j197, j282, j412]
  refine CallTo.gen (args := [.int .i64 ((3 : Nat) : Int)]) [] (diskG (DS.new 3) 100 101 102 103 104) 105 rfl fok17 (by simp -dsimp -implicitDefEqProofs only [↓j30, j33, j173, j174]; rfl) (fun x hx => (args_i x hx).2) (new_at 3 (by omega) (by omega)) (fun n b h => by simp [Heap.get] at h) ⟨by show 100 ≤ 105; omega, new_put⟩ ?_
  simp -dsimp -implicitDefEqProofs only [↓j0, ↓j1, ↓j7, ↓j9, ↓j12, ↓j13, ↓j15, j17, j18, j20, ↓j25, ↓j27, ↓j29, ↓j30, j35, ↓j38, ↓j39, ↓j43, ↓j48, ↓j53, ↓j76, j129, ↓j145, ↓j146, ↓j148, ↓j149, ↓j153, AV.proj, AV.offOf, AV.size, AV.sizeL, j171, j174, reduceCtorEq, ↓reduceIte, Nat.reduceAdd, Nat.reduceEqDiff, j182, j188, j189, j197, j211, ↓j235, j282, j283, j319, get_dg]
  refine CallTo.disk1 (args := [.int .i64 slot, m.av]) rfl fok18 (by simp -dsimp -implicitDefEqProofs only [↓j25, ↓j29, j173, j174, ↓reduceIte, Nat.reduceEqDiff]) (fun y hy => (args_sm y hy).2) hst subX (by rw [hep.2]; exact fun h => absurd rfl h) (by rw [hep.1]; exact fun h => absurd rfl h) ?_
  simp -dsimp -implicitDefEqProofs only [↓j0, ↓j1, ↓j7, ↓j12, ↓j15, j17, j18, j20, ↓j25, ↓j27, ↓j29, ↓j39, ↓j43, ↓j53, ↓j76, j129, ↓j145, ↓j146, ↓j153, AV.proj, AV.offOf, AV.size, AV.sizeL, j171, ↓reduceIte, Nat.reduceAdd, Nat.reduceEqDiff, j182, j188, j189, j197, j282, j283, dels_cons_dg, dels_dgX, dels_empty, get_dg]
  refine CallTo.pure (args := [m.av]) rfl fok12 (by simp -dsimp -implicitDefEqProofs only [↓j25, ↓j29, j173, j174, ↓reduceIte]) (fun x hx => (args_ms x hx).2) hrm ?_
  rcases hF with ⟨rfl, rfl, rfl, rfl⟩ | ⟨rfl, rfl, rfl, rfl⟩ | ⟨rfl, rfl, rfl, rfl⟩ | ⟨rfl, rfl⟩
  all_goals
    simp -dsimp -implicitDefEqProofs only [↓j0, ↓j1, ↓j2, ↓j7, ↓j12, ↓j15, j17, j18, j20, ↓j25, ↓j27, ↓j29, ↓j30, j32, j33, ↓j38, ↓j39, ↓j40, ↓j43, ↓j48, ↓j53, ↓j54, ↓j76, j81, j82, j83, ↓j89, ↓j90, ↓j91, ↓j124, j125, j127, j129, ↓j145, ↓j146, ↓j147, ↓j148, ↓j150, ↓j151, ↓j152, ↓j153, j157, partsAV, AV.proj, AV.offOf, AV.size, AV.sizeL, AV.layable, AV.flat, AV.flatL, j163, j164, j170, j171, j172, j173, j174, j175, reduceCtorEq, ↓reduceIte, Nat.reduceAdd, Nat.reduceEqDiff, j182, j185, j188, j189, j195, j197, j211, kindOf, j214, j218, j219, j282, j283, j302, j303, j432, j458, hB, hD, hcm, x0, x1, x2, y3, y6, y8, y9, get_dg]
    refine CallTo.pure (args := [.int .u64 ((1 : Nat) : Int)]) rfl fok19 (by simp -dsimp -implicitDefEqProofs only [↓j30, j33, j173, j174]; rfl) i1 hps ?_
    simp -dsimp -implicitDefEqProofs only [↓j2, j17, j18, j20, ↓j25, ↓j53, ↓j145, ↓j147, ↓j150, j163, j164, j171, j175, ↓reduceIte, Nat.reduceEqDiff]
    refine CallTo.pure (args := [.nilptr, .int .i64 0, (plainM 1).av]) rfl fok18 (by simp -dsimp -implicitDefEqProofs only [↓j25, ↓j29, ↓j30, j33, j173, j174, ↓reduceIte, Nat.reduceEqDiff]) (fun y hy => (nil_args args_sm y hy).2) hsn ?_
    simp -dsimp -implicitDefEqProofs only [↓j1, ↓j2, j17, j18, j20, ↓j25, ↓j29, ↓j30, j32, j33, ↓j38, ↓j40, ↓j48, ↓j53, j83, ↓j89, ↓j145, ↓j146, ↓j147, ↓j150, j157, j163, j164, j171, j175, ↓reduceIte, Nat.reduceEqDiff, j185, y6]
    refine CallTo.pure (args := []) rfl fok15 rfl nil0 awake_spec ?_
    simp -dsimp -implicitDefEqProofs only [↓j0, ↓j1, ↓j10, j17, j18, j20, ↓j25, ↓j29, ↓j30, j32, ↓j39, ↓j40, j83, ↓j145, j171, ↓reduceIte, Nat.reduceEqDiff]
    exact Final.one (.inr rfl) (r := .tmp 4) rfl ⟨rfl, fun vs h => by cases h⟩ (fun vs h => by cases h) (fun vs h => by cases h) (.same _ trivial)
end Go.Proofs.Ythfaldoagmkllaa
