/- A master's block, read by the document; how many blocks. -/
import Derived.Test.YthfaldoagmkllaaE4
set_option linter.unusedVariables false
set_option linter.unusedSimpArgs false
namespace Go.Proofs.Ythfaldoagmkllaa
open Go Go.RowKit

theorem args_sii2 {s : ByteArray} {a b : Int} : ∀ x, x ∈ [AV.str s, .int .i64 a, .int .i64 b] → AV.on (fun _ => False) x ∧ ∀ vs, x ≠ .tuple vs := fun x hx => by
  simp only [List.mem_cons, List.not_mem_nil, or_false] at hx
  rcases hx with rfl | rfl | rfl <;> exact ⟨trivial, fun vs h => by cases h⟩
theorem at_spec (p : List UInt8) (o n : Nat) (hn : n ≤ 8) (h : o + n ≤ p.length) (hl : p.length ≤ 9223372036854775807) : ACall Try.prog 34 [.str ⟨p.toArray⟩, .int .i64 o, .int .i64 n] [] (.int .u64 (numAt p o n : Nat)) [] := by
  refine ACall.run (Z := Z) (N := 17) mixed hZ Try.func34 rfl rfl (by kernel_rfl) (by simp) args_sii2 0 ?_
  have hg : ACall Try.prog 42 [.str ⟨p.toArray⟩, .int .i64 o, .int .i64 n] [] (.tuple [.int .u64 (numAt p o n : Nat), .bool true]) [] := rget_spec p o n hn h hl
  simp -dsimp -implicitDefEqProofs only [↓j0, ↓j1, ↓j7, ↓j12, ↓j15, j17, j18, j20, ↓j25, ↓j29, ↓j30, j33, ↓j38, ↓j39, ↓j53, ↓j145, argEnv, j172, reduceCtorEq, ↓reduceIte, Nat.reduceAdd, Nat.reduceEqDiff, j196]
  refine CallTo.pure (args := [.str ⟨p.toArray⟩, .int .i64 (o : Int), .int .i64 (n : Int)]) rfl fok42 (by simp -dsimp -implicitDefEqProofs only [↓j25, ↓j29, j173, j174, ↓reduceIte, Nat.reduceEqDiff]) (fun x hx => (args_sii2 x hx).2) hg ?_
  simp -dsimp -implicitDefEqProofs only [↓j0, ↓j1, ↓j7, ↓j10, ↓j12, ↓j15, j17, j18, j20, ↓j25, ↓j29, ↓j38, ↓j39, ↓j57, j85, ↓j145, j163, j164, j172, ↓reduceIte, Nat.reduceEqDiff]
  exact Final.one (.inr rfl) (r := .tmp 6) rfl ⟨rfl, fun vs h => by cases h⟩ (fun vs h => by cases h) (fun vs h => by cases h) (.same _ trivial)
set_option maxHeartbeats 1600000 in
theorem runpack_spec (b : List UInt8) (hb : b.length = 256) : ACall Try.prog 11 [arrAV b] [] (muAV (unpackM b)) [] := by
  refine ACall.run (Z := Z) (N := 64) mixed hZ Try.func11 rfl rfl (by kernel_rfl) (by simp) on_arr1 0 ?_
  have hz := zb_len 256
  have hz2 := zb_len 224
  have hos := ropen_spec b hb
  have err : ∀ (t : Env) (H : Heap) (nx : Nat), unpackM b = none → look t 2 = some (.ptr 1 0 []) → look t 3 = some (.bool false) → Heap.get H 1 = some (.cells Ms.zero.av) → Final Try.prog Try.f11 (muAV (unpackM b)) [] .ret ⟨64, t, H, nx⟩ := fun t H nx hn h4 h5 hH => by
    rw [hn]
    exact Final.many (.inr rfl) (rs := [.cell 2 27, .tmp 3]) (us := [Ms.zero.av, .bool false]) rfl ⟨⟨1, 0, [], _, h4, hH, rfl, rfl, by simp -dsimp -implicitDefEqProofs only [j129, AV.size, AV.sizeL, Nat.reduceAdd, j182, j197, j282, j283]⟩, ⟨h5, fun vs h => by cases h⟩, trivial⟩ (by simp) ⟨.same _ (on_ms _ _), .same _ trivial, trivial⟩
  cases ho : openOk b
  · have hop : openP b = (0, zb 224, false) := by unfold openP; rw [ho]; rfl
    rw [hop] at hos
    have hos : ACall Try.prog 33 [arrAV b] [] (.tuple [.int .u64 0, arrAV (zb 224), .bool false]) [] := hos
    simp -dsimp -implicitDefEqProofs only [↓j0, ↓j1, ↓j7, ↓j12, ↓j15, j17, j18, j20, ↓j25, ↓j27, ↓j29, ↓j30, j32, ↓j39, ↓j41, ↓j42, ↓j43, ↓j53, ↓j76, j129, ↓j145, ↓j146, ↓j153, AV.proj, AV.offOf, AV.layable, argEnv, j170, j171, j172, reduceCtorEq, ↓reduceIte, Nat.reduceAdd, Nat.reduceEqDiff, j182, j196, j240, j309, j310, j412, hb]
    refine CallTo.pure (args := [arrAV b]) rfl fok33 (by simp -dsimp -implicitDefEqProofs only [↓j25, ↓j29, j173, j174, ↓reduceIte]) (fun x hx => (on_arr1 x hx).2) hos ?_
    simp -dsimp -implicitDefEqProofs only [↓j0, ↓j1, ↓j7, ↓j10, ↓j12, ↓j13, ↓j15, j17, j18, j19, j20, j21, j22, j23, ↓j25, ↓j27, ↓j29, ↓j30, j32, ↓j38, ↓j39, ↓j41, ↓j44, ↓j54, ↓j55, ↓j57, ↓j78, j84, j85, ↓j124, j125, j127, ↓j145, ↓j146, ↓j147, ↓j149, ↓j153, partsAV, AV.proj, AV.offOf, AV.upd, AV.size, AV.sizeL, AV.layable, j163, j164, j170, j171, reduceCtorEq, ↓reduceIte, Nat.reduceAdd, Nat.reduceEqDiff, j182, j194, j197, j214, j218, j219, j240, j282, j328, j419, j432, hz2]
    exact err _ _ _ (by unfold unpackM; rw [ho]; rfl) rfl rfl rfl
  have hop : openP b = (stampAt b 0, partsL b 4, true) := by unfold openP; rw [ho]; rfl
  rw [hop] at hos
  have hpl : (partsL b 4).length = 224 := by rw [partsL_len hb 4 (by omega)]
  have hU : unpackM b = if mayM (msOf (partsL b 4)) && (packM (msOf (partsL b 4)) == b) then some (msOf (partsL b 4)) else none := by unfold unpackM; rw [ho, if_pos rfl]
  have hps := rpack_spec (msOf (partsL b 4)) (msOf_ok _)
  obtain ⟨p, hp⟩ : ∃ p, partsL b 4 = p := ⟨_, rfl⟩
  rw [hp] at hos hpl hU hps
  have hos : ACall Try.prog 33 [arrAV b] [] (.tuple [.int .u64 (stampAt b 0 : Nat), arrAV p, .bool true]) [] := hos
  have up := unif_bytes p
  have hbo := bytesOf_bytes p
  have hT : List.take 224 (p.map byteAV) = p.map byteAV := List.take_of_length_le (by simp; omega)
  have i1 : (!true) = false := rfl
  have f1 := at_spec p 6 8 (by omega) (by omega) (by omega)
  have b1 : numAt p 6 8 < 2 ^ (8 * 8) := numAt_lt
  obtain ⟨N1, hN1⟩ : ∃ x, numAt p 6 8 = x := ⟨_, rfl⟩
  rw [hN1] at f1 b1
  have f2 := at_spec p 14 4 (by omega) (by omega) (by omega)
  have b2 : numAt p 14 4 < 2 ^ (8 * 4) := numAt_lt
  obtain ⟨N2, hN2⟩ : ∃ x, numAt p 14 4 = x := ⟨_, rfl⟩
  rw [hN2] at f2 b2
  have x2 : IntKind.u32.wrap (N2 : Int) = (N2 : Int) := by rw [wrap_u32, Nat.mod_eq_of_lt (by omega)]
  have f3 := at_spec p 18 4 (by omega) (by omega) (by omega)
  have b3 : numAt p 18 4 < 2 ^ (8 * 4) := numAt_lt
  obtain ⟨N3, hN3⟩ : ∃ x, numAt p 18 4 = x := ⟨_, rfl⟩
  rw [hN3] at f3 b3
  have x3 : IntKind.u32.wrap (N3 : Int) = (N3 : Int) := by rw [wrap_u32, Nat.mod_eq_of_lt (by omega)]
  have f4 := at_spec p 22 8 (by omega) (by omega) (by omega)
  have b4 : numAt p 22 8 < 2 ^ (8 * 8) := numAt_lt
  obtain ⟨N4, hN4⟩ : ∃ x, numAt p 22 8 = x := ⟨_, rfl⟩
  rw [hN4] at f4 b4
  have f5 := at_spec p 30 4 (by omega) (by omega) (by omega)
  have b5 : numAt p 30 4 < 2 ^ (8 * 4) := numAt_lt
  obtain ⟨N5, hN5⟩ : ∃ x, numAt p 30 4 = x := ⟨_, rfl⟩
  rw [hN5] at f5 b5
  have x5 : IntKind.u32.wrap (N5 : Int) = (N5 : Int) := by rw [wrap_u32, Nat.mod_eq_of_lt (by omega)]
  have f6 := at_spec p 34 2 (by omega) (by omega) (by omega)
  have b6 : numAt p 34 2 < 2 ^ (8 * 2) := numAt_lt
  obtain ⟨N6, hN6⟩ : ∃ x, numAt p 34 2 = x := ⟨_, rfl⟩
  rw [hN6] at f6 b6
  have x6 : IntKind.i64.wrap (N6 : Int) = (N6 : Int) := by rw [wrap_i64 (by omega) (by omega)]
  have f7 := at_spec p 36 2 (by omega) (by omega) (by omega)
  have b7 : numAt p 36 2 < 2 ^ (8 * 2) := numAt_lt
  obtain ⟨N7, hN7⟩ : ∃ x, numAt p 36 2 = x := ⟨_, rfl⟩
  rw [hN7] at f7 b7
  have x7 : IntKind.i64.wrap (N7 : Int) = (N7 : Int) := by rw [wrap_i64 (by omega) (by omega)]
  have f8 := at_spec p 38 2 (by omega) (by omega) (by omega)
  have b8 : numAt p 38 2 < 2 ^ (8 * 2) := numAt_lt
  obtain ⟨N8, hN8⟩ : ∃ x, numAt p 38 2 = x := ⟨_, rfl⟩
  rw [hN8] at f8 b8
  have x8 : IntKind.i64.wrap (N8 : Int) = (N8 : Int) := by rw [wrap_i64 (by omega) (by omega)]
  have f9 := at_spec p 40 4 (by omega) (by omega) (by omega)
  have b9 : numAt p 40 4 < 2 ^ (8 * 4) := numAt_lt
  obtain ⟨N9, hN9⟩ : ∃ x, numAt p 40 4 = x := ⟨_, rfl⟩
  rw [hN9] at f9 b9
  have x9 : IntKind.u32.wrap (N9 : Int) = (N9 : Int) := by rw [wrap_u32, Nat.mod_eq_of_lt (by omega)]
  simp -dsimp -implicitDefEqProofs only [↓j0, ↓j1, ↓j7, ↓j12, ↓j15, j17, j18, j20, ↓j25, ↓j27, ↓j29, ↓j30, j32, ↓j39, ↓j41, ↓j42, ↓j43, ↓j53, ↓j76, j129, ↓j145, ↓j146, ↓j153, AV.proj, AV.offOf, AV.layable, argEnv, j170, j171, j172, reduceCtorEq, ↓reduceIte, Nat.reduceAdd, Nat.reduceEqDiff, j182, j196, j240, j309, j310, j412, hb]
  refine CallTo.pure (args := [arrAV b]) rfl fok33 (by simp -dsimp -implicitDefEqProofs only [↓j25, ↓j29, j173, j174, ↓reduceIte]) (fun x hx => (on_arr1 x hx).2) hos ?_
  simp -dsimp -implicitDefEqProofs only [↓j0, ↓j1, ↓j7, ↓j9, ↓j12, ↓j13, ↓j15, j17, j18, j19, j20, j21, j22, j23, ↓j25, ↓j27, ↓j29, ↓j38, ↓j39, ↓j41, ↓j44, ↓j49, ↓j50, ↓j53, ↓j55, ↓j57, ↓j78, j84, j85, ↓j106, j107, ↓j121, ↓j145, ↓j146, ↓j148, ↓j149, ↓j153, AV.proj, AV.offOf, AV.upd, AV.size, AV.layable, j163, j164, j170, j171, reduceCtorEq, ↓reduceIte, Nat.reduceAdd, Nat.reduceMul, Nat.reduceEqDiff, Int.reduceToNat, j182, j196, j197, j207, j208, j222, j223, j227, bndAV, j232, j233, j234, ↓j238, j240, j259, j328, j330, j342, j419, hz2, hpl, i1, up, hbo, hT]
  refine CallTo.pure (args := [.str ⟨p.toArray⟩, .int .i64 ((6 : Nat) : Int), .int .i64 ((8 : Nat) : Int)]) rfl fok34 (by simp -dsimp -implicitDefEqProofs only [↓j25, ↓j29, ↓j30, j33, j173, j174, ↓reduceIte]; rfl) (fun x hx => (args_sii2 x hx).2) f1 ?_
  simp -dsimp -implicitDefEqProofs only [↓j1, j17, j18, j20, ↓j25, ↓j29, ↓j38, ↓j53, ↓j145, j171, ↓reduceIte, Nat.reduceEqDiff]
  refine CallTo.pure (args := [.str ⟨p.toArray⟩, .int .i64 ((14 : Nat) : Int), .int .i64 ((4 : Nat) : Int)]) rfl fok34 (by simp -dsimp -implicitDefEqProofs only [↓j25, ↓j29, ↓j30, j33, j173, j174, ↓reduceIte]; rfl) (fun x hx => (args_sii2 x hx).2) f2 ?_
  simp -dsimp -implicitDefEqProofs only [↓j1, j17, j18, j20, ↓j25, ↓j29, ↓j38, ↓j50, ↓j53, ↓j145, j171, ↓reduceIte, Nat.reduceEqDiff, ↓j225, j265, j461, x2]
  refine CallTo.pure (args := [.str ⟨p.toArray⟩, .int .i64 ((18 : Nat) : Int), .int .i64 ((4 : Nat) : Int)]) rfl fok34 (by simp -dsimp -implicitDefEqProofs only [↓j25, ↓j29, ↓j30, j33, j173, j174, ↓reduceIte]; rfl) (fun x hx => (args_sii2 x hx).2) f3 ?_
  simp -dsimp -implicitDefEqProofs only [↓j1, j17, j18, j20, ↓j25, ↓j29, ↓j38, ↓j50, ↓j53, ↓j145, j171, ↓reduceIte, Nat.reduceEqDiff, ↓j225, j265, j461, x3]
  refine CallTo.pure (args := [.str ⟨p.toArray⟩, .int .i64 ((22 : Nat) : Int), .int .i64 ((8 : Nat) : Int)]) rfl fok34 (by simp -dsimp -implicitDefEqProofs only [↓j25, ↓j29, ↓j30, j33, j173, j174, ↓reduceIte]; rfl) (fun x hx => (args_sii2 x hx).2) f4 ?_
  simp -dsimp -implicitDefEqProofs only [↓j1, j17, j18, j20, ↓j25, ↓j29, ↓j38, ↓j53, ↓j145, j171, ↓reduceIte, Nat.reduceEqDiff]
  refine CallTo.pure (args := [.str ⟨p.toArray⟩, .int .i64 ((30 : Nat) : Int), .int .i64 ((4 : Nat) : Int)]) rfl fok34 (by simp -dsimp -implicitDefEqProofs only [↓j25, ↓j29, ↓j30, j33, j173, j174, ↓reduceIte]; rfl) (fun x hx => (args_sii2 x hx).2) f5 ?_
  simp -dsimp -implicitDefEqProofs only [↓j0, ↓j1, ↓j7, ↓j12, ↓j15, j17, j18, j19, j20, j21, j22, j23, ↓j25, ↓j27, ↓j29, ↓j38, ↓j41, ↓j44, ↓j50, ↓j53, ↓j54, ↓j78, ↓j124, j125, j126, j127, j128, ↓j145, ↓j146, ↓j153, partsAV, AV.proj, AV.offOf, AV.upd, AV.size, AV.sizeL, AV.layable, j163, j164, j166, j167, j168, j169, j170, j171, j179, j180, reduceCtorEq, ↓reduceIte, Nat.reduceAdd, Nat.reduceEqDiff, j182, j183, j197, j213, j214, j215, j216, j217, ↓j225, j265, j282, j286, j289, j292, j295, j298, j412, j432, j461, x5]
  refine CallTo.pure (args := [.str ⟨p.toArray⟩, .int .i64 ((34 : Nat) : Int), .int .i64 ((2 : Nat) : Int)]) rfl fok34 (by simp -dsimp -implicitDefEqProofs only [↓j25, ↓j29, ↓j30, j33, j173, j174, ↓reduceIte]; rfl) (fun x hx => (args_sii2 x hx).2) f6 ?_
  simp -dsimp -implicitDefEqProofs only [↓j1, j17, j18, j20, ↓j25, ↓j29, ↓j38, ↓j50, ↓j53, ↓j145, j171, ↓reduceIte, Nat.reduceEqDiff, ↓j225, j251, j461, x6]
  refine CallTo.pure (args := [.str ⟨p.toArray⟩, .int .i64 ((36 : Nat) : Int), .int .i64 ((2 : Nat) : Int)]) rfl fok34 (by simp -dsimp -implicitDefEqProofs only [↓j25, ↓j29, ↓j30, j33, j173, j174, ↓reduceIte]; rfl) (fun x hx => (args_sii2 x hx).2) f7 ?_
  simp -dsimp -implicitDefEqProofs only [↓j1, j17, j18, j20, ↓j25, ↓j29, ↓j38, ↓j50, ↓j53, ↓j145, j171, ↓reduceIte, Nat.reduceEqDiff, ↓j225, j251, j461, x7]
  refine CallTo.pure (args := [.str ⟨p.toArray⟩, .int .i64 ((38 : Nat) : Int), .int .i64 ((2 : Nat) : Int)]) rfl fok34 (by simp -dsimp -implicitDefEqProofs only [↓j25, ↓j29, ↓j30, j33, j173, j174, ↓reduceIte]; rfl) (fun x hx => (args_sii2 x hx).2) f8 ?_
  simp -dsimp -implicitDefEqProofs only [↓j1, j17, j18, j20, ↓j25, ↓j29, ↓j38, ↓j50, ↓j53, ↓j145, j171, ↓reduceIte, Nat.reduceEqDiff, ↓j225, j251, j461, x8]
  refine CallTo.pure (args := [.str ⟨p.toArray⟩, .int .i64 ((40 : Nat) : Int), .int .i64 ((4 : Nat) : Int)]) rfl fok34 (by simp -dsimp -implicitDefEqProofs only [↓j25, ↓j29, ↓j30, j33, j173, j174, ↓reduceIte]; rfl) (fun x hx => (args_sii2 x hx).2) f9 ?_
  simp -dsimp -implicitDefEqProofs only [↓j0, ↓j1, ↓j7, ↓j12, ↓j15, j17, j18, j19, j20, j21, j22, j23, ↓j25, ↓j27, ↓j29, ↓j43, ↓j44, ↓j45, ↓j50, ↓j53, ↓j54, ↓j76, ↓j78, ↓j79, ↓j124, j125, j126, j127, j128, j129, ↓j145, ↓j146, ↓j153, partsAV, AV.proj, AV.offOf, AV.upd, AV.size, AV.sizeL, AV.layable, j163, j164, j166, j167, j168, j169, j170, j171, j179, j180, reduceCtorEq, ↓reduceIte, Nat.reduceAdd, Nat.reduceEqDiff, j182, j183, j196, j197, j213, j214, j215, j216, j217, ↓j225, j265, j266, j270, j273, j276, j279, j282, j283, j300, j431, j461, x9]
  have hmo : msOf p = ⟨N1, N2, N3, N4, N5, N6, N7, N8, N9⟩ := by unfold msOf; rw [hN1, hN2, hN3, hN4, hN5, hN6, hN7, hN8, hN9]
  rw [hmo] at hps hU
  have hql := packM_len ⟨N1, N2, N3, N4, N5, N6, N7, N8, N9⟩
  obtain ⟨q, hq⟩ : ∃ q, packM ⟨N1, N2, N3, N4, N5, N6, N7, N8, N9⟩ = q := ⟨_, rfl⟩
  obtain ⟨y, hy⟩ : ∃ y, mayM ⟨N1, N2, N3, N4, N5, N6, N7, N8, N9⟩ = y := ⟨_, rfl⟩
  rw [hq, hy] at hps hU
  rw [hq] at hql
  have hce := cellsEq_bytes (l := q) (k := b) (by omega)
  have hk1 := kinds_bytes hql
  have hk2 := kinds_bytes hb
  refine CallTo.pure (args := [Ms.av ⟨N1, N2, N3, N4, N5, N6, N7, N8, N9⟩]) rfl fok9 (by simp -dsimp -implicitDefEqProofs only [↓j25, ↓j29, j173, j174, ↓reduceIte]) (fun x hx => (args_ms x hx).2) hps ?_
  cases y
  · simp -dsimp -implicitDefEqProofs only [↓j0, ↓j1, ↓j2, ↓j7, ↓j10, ↓j12, ↓j13, ↓j15, j17, j18, j19, j20, j21, j22, j23, ↓j25, ↓j27, ↓j29, ↓j30, j32, ↓j38, ↓j39, ↓j40, ↓j41, ↓j44, ↓j54, ↓j55, ↓j57, ↓j78, j81, j84, j85, ↓j124, j125, j127, ↓j145, ↓j146, ↓j147, ↓j149, ↓j151, ↓j153, partsAV, AV.proj, AV.offOf, AV.upd, AV.size, AV.sizeL, AV.layable, j163, j164, j170, j171, j175, reduceCtorEq, ↓reduceIte, Nat.reduceAdd, Nat.reduceEqDiff, j182, j194, j197, j214, j218, j219, j240, j282, j309, j414, j432, hz, hql]
    exact err _ _ _ (by rw [hU]; rfl) rfl rfl rfl
  cases hqb : (q == b)
  · rw [hqb] at hce
    simp -dsimp -implicitDefEqProofs only [↓j0, ↓j1, ↓j2, ↓j7, ↓j10, ↓j12, ↓j13, ↓j15, j17, j18, j19, j20, j21, j22, j23, ↓j25, ↓j27, ↓j29, ↓j30, j32, ↓j38, ↓j39, ↓j40, ↓j41, ↓j43, ↓j44, ↓j48, ↓j54, ↓j55, ↓j57, ↓j76, ↓j78, j83, j84, j85, ↓j91, ↓j124, j125, j127, j129, ↓j145, ↓j146, ↓j147, ↓j148, ↓j149, ↓j151, ↓j153, partsAV, AV.proj, AV.offOf, AV.upd, AV.size, AV.sizeL, AV.layable, j163, j164, j170, j171, j175, reduceCtorEq, ↓reduceIte, Nat.reduceAdd, Nat.reduceEqDiff, j182, j194, j195, j197, j212, j214, j218, j219, j240, j241, j282, j309, j310, j312, j313, j414, j432, hz, hql, hb, hce, hk1, i1]
    exact err _ _ _ (by rw [hU, hqb]; rfl) rfl rfl rfl
  · rw [hqb] at hce
    simp -dsimp -implicitDefEqProofs only [↓j0, ↓j1, ↓j2, ↓j7, ↓j9, ↓j10, ↓j12, ↓j13, ↓j15, j17, j18, j19, j20, j21, j22, j23, ↓j25, ↓j27, ↓j29, ↓j30, j32, ↓j38, ↓j39, ↓j40, ↓j41, ↓j43, ↓j44, ↓j48, ↓j55, ↓j57, ↓j76, ↓j78, j83, j84, j85, ↓j91, j129, ↓j145, ↓j146, ↓j148, ↓j149, ↓j151, ↓j153, AV.proj, AV.offOf, AV.upd, AV.size, AV.sizeL, AV.layable, j163, j164, j170, j171, j175, reduceCtorEq, ↓reduceIte, Nat.reduceAdd, Nat.reduceEqDiff, j182, j195, j197, j212, j240, j241, j282, j283, j309, j310, j312, j313, j414, hz, hql, hb, hce, hk1, i1]
    rw [hU, hqb]
    exact Final.many (.inr rfl) (rs := [.cell 2 27, .tmp 3]) (us := [Ms.av ⟨N1, N2, N3, N4, N5, N6, N7, N8, N9⟩, .bool true]) rfl ⟨⟨1, 0, [], _, rfl, rfl, rfl, rfl, by simp -dsimp -implicitDefEqProofs only [j129, AV.size, AV.sizeL, Nat.reduceAdd, j182, j197, j282, j283]⟩, ⟨rfl, fun vs h => by cases h⟩, trivial⟩ (by simp) ⟨.same _ (on_ms _ _), .same _ trivial, trivial⟩
theorem msize_spec (m : Ms) : ACall Try.prog 14 [m.cfg] [] (.int .i64 (sizeM m)) [] := by
  refine ACall.run (Z := Z) (N := 16) mixed hZ Try.func14 rfl rfl (by kernel_rfl) (by simp) args_cfg 0 ?_
  have hms : ACall Try.prog 13 [Ms.av ⟨0, 0, 0, 0, 0, m.pages, m.undo, m.log, m.maxTs⟩] [] (.bool (mayM ⟨0, 0, 0, 0, 0, m.pages, m.undo, m.log, m.maxTs⟩)) [] := may_spec _
  have e : mayM ⟨0, 0, 0, 0, 0, m.pages, m.undo, m.log, m.maxTs⟩ = mayM { m with last := 0 } := rfl
  rw [e] at hms
  simp -dsimp -implicitDefEqProofs only [↓j0, ↓j1, ↓j7, ↓j12, ↓j15, j17, j18, j20, ↓j25, ↓j27, ↓j29, ↓j30, j33, ↓j39, ↓j42, ↓j43, ↓j53, ↓j54, ↓j76, ↓j124, j125, j126, j127, j128, j129, ↓j145, ↓j146, ↓j153, partsAV, AV.proj, AV.offOf, AV.size, AV.sizeL, AV.layable, argEnv, j163, j164, j166, j167, j168, j169, j171, j172, j179, j180, ↓reduceIte, Nat.reduceAdd, Nat.reduceEqDiff, j182, j183, j196, j197, j213, j214, j215, j217, j266, j267, j301, j432]
  refine CallTo.pure (args := [Ms.av ⟨0, 0, 0, 0, 0, m.pages, m.undo, m.log, m.maxTs⟩]) rfl fok13 (by simp -dsimp -implicitDefEqProofs only [↓j25, ↓j29, j173, j174, ↓reduceIte]; rfl) (fun x hx => (args_ms x hx).2) hms ?_
  cases hy : mayM { m with last := 0 }
  · simp -dsimp -implicitDefEqProofs only [↓j0, ↓j1, ↓j7, ↓j10, ↓j12, ↓j13, ↓j15, j17, j18, j20, ↓j25, ↓j29, ↓j30, j33, ↓j39, ↓j55, j84, ↓j145, ↓j147, ↓j149, j171, ↓reduceIte, j194]
    exact Final.one (.inr rfl) (r := .tmp 2) rfl ⟨(by unfold sizeM; rw [hy]; rfl), fun vs h => by cases h⟩ (fun vs h => by cases h) (fun vs h => by cases h) (.same _ trivial)
  · obtain ⟨g1, g2, g3, g4, g5, g6, g7⟩ := may_nums hy
    have g1 : 1 ≤ m.pages := g1
    have g2 : m.pages ≤ 16 := g2
    have g3 : 1 ≤ m.undo := g3
    have g4 : m.undo ≤ 32 := g4
    have g5 : 64 ≤ m.log := g5
    have g6 : m.log ≤ 512 := g6
    have w1 : IntKind.i64.wrap (2 + m.pages) = 2 + m.pages := wrap_i64 (by omega) (by omega)
    have w2 : IntKind.i64.wrap (2 + m.pages + m.undo) = 2 + m.pages + m.undo := wrap_i64 (by omega) (by omega)
    have w3 : IntKind.i64.wrap (2 + m.pages + m.undo + m.log) = 2 + m.pages + m.undo + m.log := wrap_i64 (by omega) (by omega)
    simp -dsimp -implicitDefEqProofs only [↓j0, ↓j1, ↓j7, ↓j9, ↓j10, ↓j12, ↓j13, ↓j15, j17, j18, j20, ↓j25, ↓j27, ↓j29, ↓j30, j33, ↓j39, ↓j43, ↓j45, ↓j48, ↓j55, ↓j76, ↓j79, j84, ↓j89, j130, ↓j145, ↓j146, ↓j148, ↓j149, ↓j153, j154, AV.proj, AV.offOf, AV.size, AV.sizeL, j163, j164, j166, j167, j171, ↓reduceIte, Nat.reduceAdd, Nat.reduceEqDiff, j182, j185, j193, j196, j197, j250, j269, j272, j275, w1, w2, w3]
    exact Final.one (.inr rfl) (r := .tmp 2) rfl ⟨(by unfold sizeM; rw [hy]; rfl), fun vs h => by cases h⟩ (fun vs h => by cases h) (fun vs h => by cases h) (.same _ trivial)
def plainM (s : Nat) : Ms := ⟨s, 3, 0, 9, 0, 2, 3, 64, 100⟩
theorem plain_spec (s : Nat) : ACall Try.prog 19 [.int .u64 (s : Nat)] [] (plainM s).av [] := by
  refine ACall.run (Z := Z) (N := 6) mixed hZ Try.func19 rfl rfl (by kernel_rfl) (by simp) (fun x hx => by
    simp only [List.mem_singleton] at hx; subst hx; exact ⟨trivial, fun vs h => by cases h⟩) 0 ?_
  simp -dsimp -implicitDefEqProofs only [↓j0, ↓j1, ↓j7, ↓j10, ↓j12, ↓j15, j17, j18, j19, j20, j21, j22, j23, ↓j25, ↓j27, ↓j29, ↓j30, j33, ↓j38, ↓j41, ↓j44, ↓j54, ↓j78, ↓j124, j125, j126, j127, j128, ↓j145, ↓j146, ↓j153, partsAV, AV.proj, AV.offOf, AV.upd, AV.size, AV.sizeL, AV.layable, argEnv, j163, j164, j166, j167, j168, j169, j171, j172, j179, j180, reduceCtorEq, ↓reduceIte, Nat.reduceAdd, Nat.reduceEqDiff, j182, j183, j196, j197, j213, j214, j215, j216, j217, j270, j273, j276, j279, j282, j286, j289, j295, j301, j412, j431, j432]
  exact Final.one (.inr rfl) (r := .cell 2 27) rfl ⟨0, 0, [], _, rfl, rfl, rfl, rfl, by simp -dsimp -implicitDefEqProofs only [j129, AV.size, AV.sizeL, Nat.reduceAdd, j182, j197, j282, j283]⟩ (fun vs h => by cases h) (fun vs h => by cases h) (.same _ (on_ms _ (plainM s)))
end Go.Proofs.Ythfaldoagmkllaa
