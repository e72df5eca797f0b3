/- The laws MasterPacks, MasterBack. -/
import Derived.Test.YthfaldoagmkllaaE9
set_option linter.unusedVariables false
set_option linter.unusedSimpArgs false
namespace Go.Proofs.Ythfaldoagmkllaa
open Go Go.RowKit

theorem args_mb {m : Ms} {b : List UInt8} : ∀ x, x ∈ [m.av, arrAV b] → AV.on (fun _ => False) x ∧ ∀ vs, x ≠ .tuple vs := fun x hx => by
  simp only [List.mem_cons, List.not_mem_nil, or_false] at hx
  rcases hx with rfl | rfl
  · exact ⟨on_ms _ _, fun vs h => by cases h⟩
  · exact ⟨on_bytes _ _, fun vs h => by cases h⟩
theorem args_mm {a b : Ms} : ∀ x, x ∈ [a.av, b.av] → AV.on (fun _ => False) x ∧ ∀ vs, x ≠ .tuple vs := fun x hx => by
  simp only [List.mem_cons, List.not_mem_nil, or_false] at hx
  rcases hx with rfl | rfl <;> exact ⟨on_ms _ _, fun vs h => by cases h⟩
theorem nil0 : ∀ x : AV, x ∈ ([] : List AV) → ∀ vs, x ≠ .tuple vs := fun x hx => by simp at hx
set_option maxHeartbeats 1600000 in
theorem masterPacks_spec (m : Ms) (hm : m.Ok) (b : List UInt8) (hb : b.length = 256) : ACall Try.prog 3 [m.av, arrAV b] [] (.bool true) [] := by
  refine ACall.run (Z := Z) (N := 92) mixed hZ Try.func3 rfl rfl (by kernel_rfl) (by simp) args_mb 0 ?_
  have hz := zb_len 256
  have hps := pack_spec m hm
  have hrs := rpack_spec m hm
  have hql := packM_len m
  have hus : ACall Try.prog 10 [arrAV b] [] (.tuple [((unpackM b).getD .zero).av, .bool (unpackM b).isSome]) [] := unpack_spec b hb
  have hru : ACall Try.prog 11 [arrAV b] [] (.tuple [((unpackM b).getD .zero).av, .bool (unpackM b).isSome]) [] := runpack_spec b hb
  have hms := may_spec m
  have hss := msize_spec m
  have hm0 : ACall Try.prog 12 [Ms.av ⟨0, 0, 0, 0, 0, m.pages, m.undo, m.log, m.maxTs⟩] [] (.bool (mayM ⟨0, 0, 0, 0, 0, m.pages, m.undo, m.log, m.maxTs⟩)) [] := rmay_spec _
  have e0 : mayM ⟨0, 0, 0, 0, 0, m.pages, m.undo, m.log, m.maxTs⟩ = mayM { m with last := 0 } := rfl
  rw [e0] at hm0
  have hszd : sizeM m = if mayM { m with last := 0 } then 2 + m.pages + m.undo + m.log else 0 := rfl
  obtain ⟨q, hq⟩ : ∃ q, packM m = q := ⟨_, rfl⟩
  obtain ⟨y, hy⟩ : ∃ y, mayM m = y := ⟨_, rfl⟩
  obtain ⟨U, hU⟩ : ∃ u, (unpackM b).getD .zero = u := ⟨_, rfl⟩
  obtain ⟨V, hV⟩ : ∃ v, (unpackM b).isSome = v := ⟨_, rfl⟩
  rw [hq, hy] at hps hrs
  rw [hq] at hql
  rw [hy] at hms
  rw [hU, hV] at hus hru
  have hce := cellsEq_bytes (l := q) (k := q) rfl
  rw [beq_self_eq_true] at hce
  have hk1 := kinds_bytes hql
  have hcu := cellsEq_ms U U
  rw [Ms.eqb_iff.2 rfl] at hcu
  have y3 : ((0 : Int) == 0) = true := rfl
  have y4 : ((1 : Int) == 0) = false := rfl
  have y5 : ((1 : Int) == 1) = true := rfl
  have y8 : (false == false) = true := rfl
  have y9 : (true == true) = true := rfl
  have v9 : (V == V) = true := by cases V <;> rfl
  have amb : ∀ x, x ∈ [m.av] → ∀ vs, x ≠ .tuple vs := fun x hx => (args_ms x hx).2
  have aab : ∀ x, x ∈ [arrAV b] → ∀ vs, x ≠ .tuple vs := fun x hx => (on_arr1 x hx).2
  simp -dsimp -implicitDefEqProofs only [↓j0, ↓j1, ↓j7, ↓j12, ↓j15, j17, j18, j20, ↓j25, ↓j27, ↓j29, ↓j30, j32, ↓j39, ↓j42, ↓j43, ↓j53, ↓j76, j129, ↓j145, ↓j146, ↓j153, AV.proj, AV.offOf, AV.size, AV.sizeL, AV.layable, argEnv, j170, j171, j172, reduceCtorEq, ↓reduceIte, Nat.reduceAdd, Nat.reduceEqDiff, j182, j196, j197, j282, j283]
  refine CallTo.pure (args := [m.av]) rfl fok8 (by simp -dsimp -implicitDefEqProofs only [↓j25, ↓j29, j173, j174, ↓reduceIte]) amb hps ?_
  simp -dsimp -implicitDefEqProofs only [↓j0, ↓j1, ↓j7, ↓j12, ↓j15, j17, j18, j19, j20, j21, j22, j23, ↓j25, ↓j27, ↓j29, ↓j38, ↓j39, ↓j41, ↓j43, ↓j44, ↓j53, ↓j57, ↓j76, ↓j78, j85, j129, ↓j145, ↓j146, ↓j153, AV.proj, AV.offOf, AV.upd, AV.size, AV.sizeL, AV.layable, j163, j164, j170, j171, reduceCtorEq, ↓reduceIte, Nat.reduceAdd, Nat.reduceEqDiff, j182, j197, j240, j282, j283, j309, j414, hz, hql]
  refine CallTo.pure (args := [m.av]) rfl fok9 (by simp -dsimp -implicitDefEqProofs only [↓j25, ↓j29, j173, j174, ↓reduceIte]) amb hrs ?_
  simp -dsimp -implicitDefEqProofs only [↓j0, ↓j1, ↓j7, ↓j12, ↓j15, j17, j18, j19, j20, j21, j22, j23, ↓j25, ↓j27, ↓j29, ↓j38, ↓j39, ↓j41, ↓j43, ↓j44, ↓j53, ↓j57, ↓j76, ↓j78, j85, j129, ↓j145, ↓j146, ↓j153, AV.proj, AV.offOf, AV.upd, AV.size, AV.layable, j163, j164, j170, j171, reduceCtorEq, ↓reduceIte, Nat.reduceAdd, Nat.reduceEqDiff, j182, j240, j309, j310, j414, hb, hz, hql]
  refine CallTo.pure (args := [arrAV b]) rfl fok10 (by simp -dsimp -implicitDefEqProofs only [↓j25, ↓j29, j173, j174, ↓reduceIte]) aab hus ?_
  simp -dsimp -implicitDefEqProofs only [↓j0, ↓j1, ↓j7, ↓j12, ↓j15, j17, j18, j19, j20, j21, j22, j23, ↓j25, ↓j27, ↓j29, ↓j38, ↓j39, ↓j41, ↓j43, ↓j44, ↓j53, ↓j57, ↓j76, ↓j78, j85, j129, ↓j145, ↓j146, ↓j153, AV.proj, AV.offOf, AV.upd, AV.size, AV.sizeL, AV.layable, j163, j164, j170, j171, reduceCtorEq, ↓reduceIte, Nat.reduceAdd, Nat.reduceEqDiff, j182, j197, j240, j282, j309, j310, j412, hb]
  refine CallTo.pure (args := [arrAV b]) rfl fok11 (by simp -dsimp -implicitDefEqProofs only [↓j25, ↓j29, j173, j174, ↓reduceIte]) aab hru ?_
  simp -dsimp -implicitDefEqProofs only [↓j0, ↓j1, ↓j7, ↓j12, ↓j15, j17, j18, j19, j20, j21, j22, j23, ↓j25, ↓j27, ↓j29, ↓j30, j33, ↓j38, ↓j39, ↓j41, ↓j43, ↓j44, ↓j45, ↓j53, ↓j54, ↓j57, ↓j76, ↓j78, ↓j79, j85, ↓j124, j125, j126, j127, j128, j129, ↓j145, ↓j146, ↓j153, partsAV, AV.proj, AV.offOf, AV.upd, AV.size, AV.sizeL, AV.layable, j163, j164, j166, j167, j168, j169, j170, j171, j179, j180, reduceCtorEq, ↓reduceIte, Nat.reduceAdd, Nat.reduceEqDiff, j182, j183, j196, j197, j213, j214, j215, j217, j266, j267, j282, j300, j301, j412, j432]
  refine CallTo.pure (args := [Ms.av ⟨0, 0, 0, 0, 0, m.pages, m.undo, m.log, m.maxTs⟩]) rfl fok12 (by simp -dsimp -implicitDefEqProofs only [↓j25, ↓j29, j173, j174, ↓reduceIte]; rfl) (fun x hx => (args_ms x hx).2) hm0 ?_
  have two : (mayM { m with last := 0 } = false ∧ sizeM m = 0 ∧ IntKind.i64.wrap (m.pages + m.undo) = IntKind.i64.wrap (m.pages + m.undo) ∧ IntKind.i64.wrap 0 = 0 ∧ IntKind.i64.wrap 0 = 0 ∧ ((0 : Int) == 0) = true) ∨ (mayM { m with last := 0 } = true ∧ sizeM m = 2 + m.pages + m.undo + m.log ∧ IntKind.i64.wrap (m.pages + m.undo) = m.pages + m.undo ∧ IntKind.i64.wrap (m.pages + m.undo + m.log) = m.pages + m.undo + m.log ∧ IntKind.i64.wrap (m.pages + m.undo + m.log + 2) = m.pages + m.undo + m.log + 2 ∧ ((2 + m.pages + m.undo + m.log : Int) == m.pages + m.undo + m.log + 2) = true) := by
    cases h0 : mayM { m with last := 0 }
    · left; rw [h0] at hszd; exact ⟨rfl, hszd, rfl, rfl, rfl, rfl⟩
    · right
      obtain ⟨g1, g2, g3, g4, g5, g6, g7⟩ := may_nums h0
      have g1 : 1 ≤ m.pages := g1
      have g2 : m.pages ≤ 16 := g2
      have g3 : 1 ≤ m.undo := g3
      have g4 : m.undo ≤ 32 := g4
      have g5 : 64 ≤ m.log := g5
      have g6 : m.log ≤ 512 := g6
      rw [h0] at hszd
      refine ⟨rfl, hszd, wrap_i64 (by omega) (by omega), wrap_i64 (by omega) (by omega), wrap_i64 (by omega) (by omega), ?_⟩
      rw [beq_iff_eq]; omega
  rcases two with ⟨h0, hsz, _, _, _, w4⟩ | ⟨h0, hsz, w1, w2, w3, w4⟩
  · rw [hsz] at hss
    cases y
    all_goals
      simp -dsimp -implicitDefEqProofs only [↓j0, ↓j1, ↓j2, ↓j7, ↓j9, ↓j12, ↓j13, ↓j15, j17, j18, j20, ↓j25, ↓j27, ↓j29, ↓j30, j32, j33, ↓j38, ↓j40, ↓j43, ↓j48, ↓j53, ↓j76, j81, j83, ↓j89, ↓j90, ↓j91, j129, ↓j145, ↓j146, ↓j147, ↓j148, ↓j149, ↓j150, ↓j151, ↓j153, j157, AV.proj, AV.offOf, AV.size, AV.sizeL, j163, j164, j171, j175, reduceCtorEq, ↓reduceIte, Nat.reduceAdd, Nat.reduceEqDiff, j182, j185, j195, j197, j211, j240, j241, j282, j283, j309, j310, j312, j313, j458, h0, hql, hce, hk1, y3, y4, y5, y8, y9]
      refine CallTo.pure (args := [m.av]) rfl fok13 (by simp -dsimp -implicitDefEqProofs only [↓j25, ↓j29, j173, j174, ↓reduceIte]) amb hms ?_
      simp -dsimp -implicitDefEqProofs only [↓j1, ↓j2, j17, j18, j20, ↓j25, ↓j27, ↓j29, ↓j30, j32, ↓j38, ↓j40, ↓j43, ↓j45, ↓j48, ↓j53, ↓j76, ↓j79, j83, ↓j90, ↓j91, j129, ↓j145, ↓j146, ↓j147, ↓j150, ↓j153, AV.proj, AV.offOf, AV.size, AV.sizeL, AV.flat, AV.flatL, j163, j164, j166, j167, j170, j171, j172, j173, j174, j175, reduceCtorEq, ↓reduceIte, Nat.reduceAdd, Nat.reduceEqDiff, j182, j195, j196, j197, j211, kindOf, j266, j267, j282, j283, j300, j302, j303, j458, y8, y9, hcu, v9]
      refine CallTo.pure (args := [m.cfg]) rfl fok14 (by simp -dsimp -implicitDefEqProofs only [↓j25, ↓j29, j173, j174, ↓reduceIte]) (fun x hx => (args_cfg x hx).2) hss ?_
      simp -dsimp -implicitDefEqProofs only [↓j1, ↓j2, j17, j18, j20, ↓j25, ↓j29, ↓j30, j32, ↓j38, ↓j40, ↓j48, ↓j53, j83, ↓j89, ↓j145, ↓j146, ↓j147, ↓j150, j157, j163, j164, j171, j175, ↓reduceIte, Nat.reduceEqDiff, j185, y3]
      refine CallTo.pure (args := []) rfl fok15 rfl nil0 awake_spec ?_
      simp -dsimp -implicitDefEqProofs only [↓j0, ↓j1, ↓j10, j17, j18, j20, ↓j25, ↓j29, ↓j30, j32, ↓j39, ↓j40, j83, ↓j145, j171, ↓reduceIte, Nat.reduceEqDiff]
      exact Final.one (.inr rfl) (r := .tmp 4) rfl ⟨rfl, fun vs h => by cases h⟩ (fun vs h => by cases h) (fun vs h => by cases h) (.same _ trivial)
  · rw [hsz] at hss
    cases y
    all_goals
      simp -dsimp -implicitDefEqProofs only [↓j0, ↓j1, ↓j2, ↓j7, ↓j12, ↓j13, ↓j15, j17, j18, j20, ↓j25, ↓j27, ↓j29, ↓j30, j32, j33, ↓j38, ↓j39, ↓j40, ↓j43, ↓j45, ↓j48, ↓j53, ↓j76, ↓j79, j81, j83, ↓j89, ↓j90, ↓j91, j129, j130, ↓j145, ↓j146, ↓j147, ↓j148, ↓j149, ↓j150, ↓j151, ↓j153, j154, j157, AV.proj, AV.offOf, AV.size, AV.sizeL, j163, j164, j166, j167, j170, j171, j175, reduceCtorEq, ↓reduceIte, Nat.reduceAdd, Nat.reduceEqDiff, j182, j185, j195, j196, j197, j211, j240, j241, j250, j269, j272, j275, j282, j283, j300, j309, j310, j312, j313, j458, h0, hql, hce, hk1, y3, y4, y5, y8, y9, w1, w2, w3]
      refine CallTo.pure (args := [m.av]) rfl fok13 (by simp -dsimp -implicitDefEqProofs only [↓j25, ↓j29, j173, j174, ↓reduceIte]) amb hms ?_
      simp -dsimp -implicitDefEqProofs only [↓j1, ↓j2, j17, j18, j20, ↓j25, ↓j27, ↓j29, ↓j30, j32, ↓j38, ↓j40, ↓j43, ↓j45, ↓j48, ↓j53, ↓j76, ↓j79, j83, ↓j90, ↓j91, j129, ↓j145, ↓j146, ↓j147, ↓j150, ↓j153, AV.proj, AV.offOf, AV.size, AV.sizeL, AV.flat, AV.flatL, j163, j164, j166, j167, j170, j171, j172, j173, j174, j175, reduceCtorEq, ↓reduceIte, Nat.reduceAdd, Nat.reduceEqDiff, j182, j195, j196, j197, j211, kindOf, j266, j267, j282, j283, j300, j302, j303, j458, y8, y9, hcu, v9]
      refine CallTo.pure (args := [m.cfg]) rfl fok14 (by simp -dsimp -implicitDefEqProofs only [↓j25, ↓j29, j173, j174, ↓reduceIte]) (fun x hx => (args_cfg x hx).2) hss ?_
      simp -dsimp -implicitDefEqProofs only [↓j1, ↓j2, j17, j18, j20, ↓j25, ↓j29, ↓j30, j32, ↓j38, ↓j40, ↓j48, ↓j53, j83, ↓j89, ↓j145, ↓j146, ↓j147, ↓j150, j157, j163, j164, j171, j175, ↓reduceIte, Nat.reduceEqDiff, j185, w4]
      refine CallTo.pure (args := []) rfl fok15 rfl nil0 awake_spec ?_
      simp -dsimp -implicitDefEqProofs only [↓j0, ↓j1, ↓j10, j17, j18, j20, ↓j25, ↓j29, ↓j30, j32, ↓j39, ↓j40, j83, ↓j145, j171, ↓reduceIte, Nat.reduceEqDiff]
      exact Final.one (.inr rfl) (r := .tmp 4) rfl ⟨rfl, fun vs h => by cases h⟩ (fun vs h => by cases h) (fun vs h => by cases h) (.same _ trivial)
set_option maxHeartbeats 1600000 in
theorem masterBack_spec (a b : Ms) (ha : a.Ok) (hb : b.Ok) : ACall Try.prog 4 [a.av, b.av] [] (.bool true) [] := by
  refine ACall.run (Z := Z) (N := 51) mixed hZ Try.func4 rfl rfl (by kernel_rfl) (by simp) args_mm 0 ?_
  have hz := zb_len 256
  have hpa := pack_spec a ha
  have hpb := pack_spec b hb
  have hla := packM_len a
  have hlb := packM_len b
  have hua : ACall Try.prog 10 [arrAV (packM a)] [] (.tuple [((unpackM (packM a)).getD .zero).av, .bool (unpackM (packM a)).isSome]) [] := unpack_spec _ hla
  have hinj := fun h1 h2 => pack_inj ha hb (by exact h1) (by exact h2)
  have hupk := fun h1 => unpack_pack ha h1
  obtain ⟨p, hp⟩ : ∃ p, packM a = p := ⟨_, rfl⟩
  obtain ⟨q, hq⟩ : ∃ q, packM b = q := ⟨_, rfl⟩
  rw [hp] at hpa hla hua hinj hupk
  rw [hq] at hpb hlb hinj
  have y1 : ((1 : Int) != 0) = true := rfl
  have y0 : ((0 : Int) != 0) = false := rfl
  have ama : ∀ (m : Ms), ∀ x, x ∈ [m.av] → ∀ vs, x ≠ .tuple vs := fun m x hx => (args_ms x hx).2
  have aab : ∀ (b : List UInt8), ∀ x, x ∈ [arrAV b] → ∀ vs, x ≠ .tuple vs := fun b x hx => (on_arr1 x hx).2
  have ret : ∀ (t : Env) (H : Heap) (k : Nat), look t 4 = some (.bool true) → Final Try.prog Try.f4 (.bool true) [] .ret ⟨51, t, H, k⟩ := fun t H k h =>
    Final.one (.inr rfl) (r := .tmp 4) rfl ⟨h, fun vs h => by cases h⟩ (fun vs h => by cases h) (fun vs h => by cases h) (.same _ trivial)
  simp -dsimp -implicitDefEqProofs only [↓j0, ↓j1, ↓j7, ↓j12, ↓j15, j17, j18, j20, ↓j25, ↓j27, ↓j29, ↓j30, j32, ↓j39, ↓j42, ↓j43, ↓j53, ↓j76, j129, ↓j145, ↓j146, ↓j153, AV.proj, AV.offOf, AV.size, AV.sizeL, AV.layable, argEnv, j170, j171, j172, reduceCtorEq, ↓reduceIte, Nat.reduceAdd, Nat.reduceEqDiff, j182, j196, j197, j282, j283]
  refine CallTo.pure (args := [a.av]) rfl fok8 (by simp -dsimp -implicitDefEqProofs only [↓j25, ↓j29, j173, j174, ↓reduceIte]) (ama a) hpa ?_
  simp -dsimp -implicitDefEqProofs only [↓j0, ↓j1, ↓j7, ↓j12, ↓j15, j17, j18, j19, j20, j21, j22, j23, ↓j25, ↓j27, ↓j29, ↓j38, ↓j39, ↓j41, ↓j43, ↓j44, ↓j53, ↓j57, ↓j76, ↓j78, j85, j129, ↓j145, ↓j146, ↓j153, AV.proj, AV.offOf, AV.upd, AV.size, AV.sizeL, AV.layable, j163, j164, j170, j171, reduceCtorEq, ↓reduceIte, Nat.reduceAdd, Nat.reduceEqDiff, j182, j197, j240, j282, j283, j309, j414, hz, hla]
  refine CallTo.pure (args := [b.av]) rfl fok8 (by simp -dsimp -implicitDefEqProofs only [↓j25, ↓j29, j173, j174, ↓reduceIte]) (ama b) hpb ?_
  cases hya : mayM a
  · simp -dsimp -implicitDefEqProofs only [↓j0, ↓j1, ↓j2, ↓j7, ↓j12, ↓j13, ↓j15, j17, j18, j19, j20, j21, j22, j23, ↓j25, ↓j27, ↓j29, ↓j30, j32, j33, ↓j38, ↓j39, ↓j40, ↓j41, ↓j44, ↓j48, ↓j53, ↓j57, ↓j78, j81, j85, ↓j89, ↓j145, ↓j146, ↓j147, ↓j149, ↓j151, ↓j153, j158, AV.proj, AV.offOf, AV.upd, AV.size, AV.layable, j163, j164, j170, j171, j175, reduceCtorEq, ↓reduceIte, Nat.reduceAdd, Nat.reduceEqDiff, j182, j185, j195, j240, j309, j414, hz, hlb, y1]
    refine CallTo.pure (args := []) rfl fok15 rfl nil0 awake_spec ?_
    simp -dsimp -implicitDefEqProofs only [↓j0, ↓j1, ↓j10, j17, j18, j20, ↓j25, ↓j29, ↓j39, ↓j145, j171, ↓reduceIte]
    exact ret _ _ _ rfl
  cases hyb : mayM b
  · simp -dsimp -implicitDefEqProofs only [↓j0, ↓j1, ↓j2, ↓j7, ↓j12, ↓j13, ↓j15, j17, j18, j19, j20, j21, j22, j23, ↓j25, ↓j27, ↓j29, ↓j30, j32, j33, ↓j38, ↓j39, ↓j40, ↓j41, ↓j44, ↓j48, ↓j53, ↓j57, ↓j78, j83, j85, ↓j89, ↓j145, ↓j146, ↓j147, ↓j148, ↓j149, ↓j151, ↓j153, j158, AV.proj, AV.offOf, AV.upd, AV.size, AV.layable, j163, j164, j170, j171, j175, reduceCtorEq, ↓reduceIte, Nat.reduceAdd, Nat.reduceEqDiff, j182, j185, j195, j240, j309, j414, hz, hlb, y0, y1]
    refine CallTo.pure (args := []) rfl fok15 rfl nil0 awake_spec ?_
    simp -dsimp -implicitDefEqProofs only [↓j0, ↓j1, ↓j10, j17, j18, j20, ↓j25, ↓j29, ↓j39, ↓j145, j171, ↓reduceIte]
    exact ret _ _ _ rfl
  rw [hupk hya] at hua
  have hua : ACall Try.prog 10 [arrAV p] [] (.tuple [a.av, .bool true]) [] := hua
  have hce := cellsEq_bytes (l := p) (k := q) (by omega)
  have hcm := cellsEq_ms a b
  rw [hinj hya hyb] at hce
  have hk1 := kinds_bytes hla
  have hk2 := kinds_bytes hlb
  have hcu := cellsEq_ms a a
  rw [Ms.eqb_iff.2 rfl] at hcu
  obtain ⟨E, hE⟩ : ∃ e, a.eqb b = e := ⟨_, rfl⟩
  rw [hE] at hce hcm
  have v9 : (E == E) = true := by cases E <;> rfl
  simp -dsimp -implicitDefEqProofs only [↓j0, ↓j1, ↓j2, ↓j7, ↓j9, ↓j12, ↓j13, ↓j15, j17, j18, j19, j20, j21, j22, j23, ↓j25, ↓j27, ↓j29, ↓j30, j32, j33, ↓j38, ↓j39, ↓j40, ↓j41, ↓j43, ↓j44, ↓j48, ↓j53, ↓j57, ↓j76, ↓j78, j83, j85, ↓j89, j129, ↓j145, ↓j146, ↓j148, ↓j149, ↓j151, ↓j153, j158, AV.proj, AV.offOf, AV.upd, AV.size, AV.layable, j163, j164, j170, j171, j175, reduceCtorEq, ↓reduceIte, Nat.reduceAdd, Nat.reduceEqDiff, j182, j185, j195, j240, j309, j310, j414, hz, hla, hlb, y0]
  refine CallTo.pure (args := [arrAV p]) rfl fok10 (by simp -dsimp -implicitDefEqProofs only [↓j25, ↓j29, j173, j174, ↓reduceIte]) (aab p) hua ?_
  simp -dsimp -implicitDefEqProofs only [↓j0, ↓j1, ↓j4, ↓j5, ↓j8, ↓j12, ↓j15, j17, j18, j19, j20, j21, j22, j23, j24, ↓j25, ↓j27, ↓j29, ↓j30, j32, ↓j38, ↓j39, ↓j40, ↓j41, ↓j43, ↓j44, ↓j48, ↓j53, ↓j57, ↓j76, ↓j78, j83, j85, ↓j90, ↓j91, j129, ↓j145, ↓j146, ↓j147, ↓j150, ↓j153, AV.proj, AV.offOf, AV.upd, AV.size, AV.sizeL, AV.layable, AV.flat, AV.flatL, j163, j164, j170, j171, j172, j173, j174, j175, reduceCtorEq, ↓reduceIte, Nat.reduceAdd, Nat.reduceEqDiff, j182, j195, j197, j211, kindOf, j240, j241, j282, j283, j302, j303, j309, j310, j312, j313, j412, j458, hla, hlb, hcu, hce, hcm, hk1, v9]
  refine CallTo.pure (args := []) rfl fok15 rfl nil0 awake_spec ?_
  simp -dsimp -implicitDefEqProofs only [↓j3, ↓j4, j17, j18, j20, j24, ↓j25, ↓j29, ↓j30, j32, ↓j39, ↓j40, j83, ↓j145, j170, j171, j172, j174, ↓reduceIte, Nat.reduceEqDiff]
  refine ⟨by kernel_rfl, ?_⟩
  simp -dsimp -implicitDefEqProofs only [↓j10]
  exact ret _ _ _ rfl
end Go.Proofs.Ythfaldoagmkllaa
